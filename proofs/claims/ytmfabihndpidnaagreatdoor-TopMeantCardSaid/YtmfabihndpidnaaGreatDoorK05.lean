/-
  Expressions in memory: which values stand for them, and that they stay. The parser's post: an atom and the signs behind it. The parser's expr: a level of signs between two.
-/
import Derived.Test.YtmfabihndpidnaaGreatDoorK04
import Derived.Test.YtmfabihndpidnaaGreatDoorK03
namespace Go.Proofs.YtmfabihndpidnaaGreatDoor
open Go.RowKit
set_option maxRecDepth 100000
set_option linter.unusedVariables false
set_option linter.unusedSimpArgs false
def ExRow (w : World) (b : Nat) (vs : List Value) : Prop := ∃ cs fr, w.heap[b]? = some (.cells cs 55 fr) ∧ ∀ i, i < vs.length → cs[i]? = vs[i]?
def ExV (w : World) (ok : Nat → Prop) : Ex → Value → Prop
 | .name p s, v => v = .iface 107 (.agg #[.int .i64 p, .string (mkS s)])
 | .text p s, v => v = .iface 108 (.agg #[.int .i64 p, .string (mkS s)])
 | .rx p s, v => v = .iface 109 (.agg #[.int .i64 p, .string (mkS s)])
 | .call1 p wd a, v => ∃ b c va, (ok b ∧ ExRow w b [va]) ∧ ExV w ok a va ∧ 1 ≤ c ∧ v = .iface 114 (.agg #[.int .i64 p, .string (mkS wd), .slice (some ⟨b, 0, none⟩) 1 c])
 | .call2 p wd a1 a2, v => ∃ b c va vb, (ok b ∧ ExRow w b [va, vb]) ∧ ExV w ok a1 va ∧ ExV w ok a2 vb ∧ 2 ≤ c ∧ v = .iface 114 (.agg #[.int .i64 p, .string (mkS wd), .slice (some ⟨b, 0, none⟩) 2 c])
 | .call3 p wd a1 a2 a3, v => ∃ b c va vb vc, (ok b ∧ ExRow w b [va, vb, vc]) ∧ ExV w ok a1 va ∧ ExV w ok a2 vb ∧ ExV w ok a3 vc ∧ 3 ≤ c ∧ v = .iface 114 (.agg #[.int .i64 p, .string (mkS wd), .slice (some ⟨b, 0, none⟩) 3 c])
 | .keyed p a, v => ∃ va, ExV w ok a va ∧ v = .iface 111 (.agg #[.int .i64 p, va])
 | .unary p op a, v => ∃ va, ExV w ok a va ∧ v = .iface 105 (.agg #[.int .i64 p, .string (mkS op), va])
 | .binary p op a1 a2, v => ∃ va vb, ExV w ok a1 va ∧ ExV w ok a2 vb ∧ v = .iface 103 (.agg #[.int .i64 p, .string (mkS op), va, vb])
def NotRow (t : TypeId) (a : Option Nat) (w : World) : Prop := ∀ b cs fr, w.heap[b]? = some (.cells cs t fr) → some b ≠ a
theorem NotRow.none (t : TypeId) (w : World) : NotRow t none w := fun _ _ _ _ => by simp
theorem NotRow.blk {t u : TypeId} {w : World} {g : Nat} {cs : List Value} (h : Blk w g cs u) (hne : u ≠ t) : NotRow t (some g) w := fun b cs' fr hb e => by
 simp at e; subst e; rw [show w.heap[b]? = _ from h] at hb; simp at hb; exact hne hb.2.1
theorem ExRow.keep {w w' : World} {b : Nat} {vs : List Value} {a : Option Nat} (h : ExRow w b vs) (k : Keep a w w') (ha : NotRow 55 a w) : ExRow w' b vs := by
 obtain ⟨cs, fr, h1, h2⟩ := h; exact ⟨cs, fr, (k.block b (lt_of_block h1) (ha _ _ _ h1)).trans h1, h2⟩
theorem ExV.far {w w' : World} {ok : Nat → Prop} (k : ∀ b cs fr, ok b → w.heap[b]? = some (.cells cs 55 fr) → w'.heap[b]? = w.heap[b]?) : ∀ {x : Ex} {v : Value}, ExV w ok x v → ExV w' ok x v := by
 have hr : ∀ {b vs}, ok b ∧ ExRow w b vs → ok b ∧ ExRow w' b vs := fun ⟨h0, cs, fr, h1, h2⟩ => ⟨h0, cs, fr, (k _ _ _ h0 h1).trans h1, h2⟩
 intro x; induction x with
 | name p s => exact fun h => h
 | text p s => exact fun h => h
 | rx p s => exact fun h => h
 | call1 p wd a1 ih => exact fun ⟨b, c, va, h1, h2, h3⟩ => ⟨b, c, va, hr h1, ih h2, h3⟩
 | call2 p wd a1 a2 ih1 ih2 => exact fun ⟨b, c, va, vb, h1, h2, h3, h4⟩ => ⟨b, c, va, vb, hr h1, ih1 h2, ih2 h3, h4⟩
 | call3 p wd a1 a2 a3 ih1 ih2 ih3 => exact fun ⟨b, c, va, vb, vc, h1, h2, h3, h4, h5⟩ => ⟨b, c, va, vb, vc, hr h1, ih1 h2, ih2 h3, ih3 h4, h5⟩
 | keyed p a1 ih => exact fun ⟨va, h1, h2⟩ => ⟨va, ih h1, h2⟩
 | unary p op a1 ih => exact fun ⟨va, h1, h2⟩ => ⟨va, ih h1, h2⟩
 | binary p op a1 a2 ih1 ih2 => exact fun ⟨va, vb, h1, h2, h3⟩ => ⟨va, vb, ih1 h1, ih2 h2, h3⟩
theorem ExV.keep {w w' : World} {ok : Nat → Prop} {a : Option Nat} (k : Keep a w w') (ha : NotRow 55 a w) {x : Ex} {v : Value} (h : ExV w ok x v) : ExV w' ok x v :=
 ExV.far (fun b cs fr _ hb => k.block b (lt_of_block hb) (ha _ _ _ hb)) h
theorem ExV.mono {w : World} {ok ok' : Nat → Prop} (k : ∀ b, b < w.heap.size → ok b → ok' b) : ∀ {x : Ex} {v : Value}, ExV w ok x v → ExV w ok' x v := by
 have hr : ∀ {b vs}, ok b ∧ ExRow w b vs → ok' b ∧ ExRow w b vs := fun ⟨h0, h1⟩ => ⟨k _ (by obtain ⟨cs, fr, h2, _⟩ := h1; exact lt_of_block h2) h0, h1⟩
 intro x; induction x with
 | name p s => exact fun h => h
 | text p s => exact fun h => h
 | rx p s => exact fun h => h
 | call1 p wd a1 ih => exact fun ⟨b, c, va, h1, h2, h3⟩ => ⟨b, c, va, hr h1, ih h2, h3⟩
 | call2 p wd a1 a2 ih1 ih2 => exact fun ⟨b, c, va, vb, h1, h2, h3, h4⟩ => ⟨b, c, va, vb, hr h1, ih1 h2, ih2 h3, h4⟩
 | call3 p wd a1 a2 a3 ih1 ih2 ih3 => exact fun ⟨b, c, va, vb, vc, h1, h2, h3, h4, h5⟩ => ⟨b, c, va, vb, vc, hr h1, ih1 h2, ih2 h3, ih3 h4, h5⟩
 | keyed p a1 ih => exact fun ⟨va, h1, h2⟩ => ⟨va, ih h1, h2⟩
 | unary p op a1 ih => exact fun ⟨va, h1, h2⟩ => ⟨va, ih h1, h2⟩
 | binary p op a1 a2 ih1 ih2 => exact fun ⟨va, vb, h1, h2, h3⟩ => ⟨va, vb, ih1 h1, ih2 h2, h3⟩
theorem ExV.since {w u v : World} {x : Ex} {y : Value} (h : ExV w (fun b => v.heap.size ≤ b) x y) (k : u.heap.size ≤ v.heap.size) : ExV w (fun b => u.heap.size ≤ b) x y :=
 h.mono (fun _ _ hb => Nat.le_trans k hb)
theorem ParIs.notRow {w : World} {g tb : Nat} {ts : List Tok} {op : Nat} (h : ParIs w g tb ts op) : NotRow 55 (some g) w := by
 obtain ⟨k, c, h1, _⟩ := h; exact NotRow.blk h1 (by decide)
def tokLen (w : World) (g : Nat) : Nat := match w.cell? ⟨g, 0, none⟩ with | some (.slice _ n _) => n | _ => 0
theorem ParIs.len {w : World} {g tb : Nat} {ts : List Tok} {op : Nat} (h : ParIs w g tb ts op) : tokLen w g = ts.length := by
 obtain ⟨k, c, h1, _⟩ := h; simp [tokLen, h1.cell]
def Ranks (w : World) : Prop := ∀ o, w.cell? ⟨0, o, none⟩ = ranksV[o]?
theorem Ranks.keep {w w' : World} {g tb : Nat} {ts : List Tok} {op : Nat} (h : Ranks w) (hp : ParIs w g tb ts op) (k : Keep (some g) w w') : Ranks w' := fun o => by
 have hlt : 0 < w.heap.size := World.block_lt_of_cell? w ⟨0, 0, none⟩ (h 0); have hne : g ≠ 0 := by
  intro e; obtain ⟨kk, c, h1, _⟩ := hp; have := h 0; subst e; rw [h1.cell] at this; simp at this
 have := k.block 0 hlt (by simpa using fun e => hne e.symm); rw [← h o]; simp only [World.cell?, this]
theorem Ranks.keep0 {w w' : World} (h : Ranks w) (k : Keep none w w') : Ranks w' := fun o => by
 have hlt : 0 < w.heap.size := World.block_lt_of_cell? w ⟨0, 0, none⟩ (h 0); have := k.block 0 hlt (by simp); rw [← h o]; simp only [World.cell?, this]
def EOut (g tb : Nat) (w : World) (r : Except Flt (Ex × PS)) (e : Ending) (w' : World) : Prop :=
 match r with
 | .ok x => ∃ v, e = .returned v ∧ ExV w' (fun b => w.heap.size ≤ b) x.1 v ∧ ParIs w' g tb x.2.1 x.2.2 ∧ Keep (some g) w w'
 | .error f => e = .panicked (flt f.code f.pl) ∧ Keep (some g) w w'
end Go.Proofs.YtmfabihndpidnaaGreatDoor
namespace Go.Proofs.YtmfabihndpidnaaGreatDoor
set_option maxHeartbeats 1000000
open Go.RowKit
set_option maxRecDepth 100000
set_option linter.unusedVariables false
set_option linter.unusedSimpArgs false
attribute [local go_sem ↓] run_field96_0 run_field96_1 run_field96_2
structure Reads (g tb : Nat) (n : Nat) : Prop where
 expr : ∀ (lv : Nat) (l : Int) (st : PS) r (w : World), l = lv → lv ≤ 5 → pExpr n lv st = some r → Fit st → ParIs w g tb st.1 st.2 → Ranks w →
  Calls Tryz.prog 36 #[.pointer (some ⟨g, 0, none⟩), .int .i64 l] w (EOut g tb w r)
 post : ∀ (st : PS) r (w : World), pPost n st = some r → Fit st → ParIs w g tb st.1 st.2 → Ranks w →
  Calls Tryz.prog 56 #[.pointer (some ⟨g, 0, none⟩)] w (EOut g tb w r)
 atom : ∀ (st : PS) r (w : World), pAtom n st = some r → Fit st → ParIs w g tb st.1 st.2 → Ranks w →
  Calls Tryz.prog 75 #[.pointer (some ⟨g, 0, none⟩)] w (EOut g tb w r)
 call : ∀ (t : Tok) (ts : List Tok) (o : Nat) r (w : World), pCall n (t :: ts, o) = some r → t.kind = 1 → 0 < arity t.text → Fit (t :: ts, o) → ParIs w g tb (t :: ts) o → Ranks w →
  Calls Tryz.prog 90 #[.pointer (some ⟨g, 0, none⟩)] w (EOut g tb w r)
theorem bind_cases {α β : Type} {x : M α} {f : α → M β} {r : Except Flt β} (h : M.bind x f = some r) : (∃ e, x = some (.error e) ∧ r = .error e) ∨ (∃ a, x = some (.ok a) ∧ f a = some r) := by
 cases x with
 | none => cases h
 | some y =>
  cases y with
  | error e => left; exact ⟨e, rfl, by cases h; rfl⟩
  | ok a => right; exact ⟨a, rfl, h⟩
theorem ExV.iface {w : World} {ok : Nat → Prop} {x : Ex} {v : Value} (h : ExV w ok x v) : ∃ t y, v = .iface t y := by
 cases x with
 | name p s => exact ⟨_, _, h⟩
 | text p s => exact ⟨_, _, h⟩
 | rx p s => exact ⟨_, _, h⟩
 | call1 p wd a => obtain ⟨b, c, va, h1, h2, h3, h4⟩ := h; exact ⟨_, _, h4⟩
 | call2 p wd a b => obtain ⟨_, _, _, _, _, _, _, _, h4⟩ := h; exact ⟨_, _, h4⟩
 | call3 p wd a b c => obtain ⟨_, _, _, _, _, _, _, _, _, _, h4⟩ := h; exact ⟨_, _, h4⟩
 | keyed p a => obtain ⟨va, h1, h2⟩ := h; exact ⟨_, _, h2⟩
 | unary p op a => obtain ⟨va, h1, h2⟩ := h; exact ⟨_, _, h2⟩
 | binary p op a b => obtain ⟨va, vb, h1, h2, h3⟩ := h; exact ⟨_, _, h3⟩
theorem is_tk (g tb : Nat) (t : Tok) (ts : List Tok) (op : Nat) (m : Bs) (b : Bool) (w : World) (h : ParIs w g tb (t :: ts) op) (hb : tkIs t m = b) :
 Calls Tryz.prog 55 #[.pointer (some ⟨g, 0, none⟩), .string (mkS m)] w fun e w' => e = .returned (.bool b) ∧ Keep none w w' := by
 have hg : g < w.heap.size := by obtain ⟨k, c, h1, _⟩ := h; exact h1.lt
 rw [← hb]; exact is_any g tb t ts op m w h hg
theorem post_walk (g tb n : Nat) (hA : ∀ m, m ≤ n → Reads g tb m) (st : PS) (r : Except Flt (Ex × PS)) (w : World) (h : pPost (n + 1) st = some r) (hf : Fit st) (hp : ParIs w g tb st.1 st.2) (hr : Ranks w) :
 Calls Tryz.prog 56 #[.pointer (some ⟨g, 0, none⟩)] w (EOut g tb w r) := by
 rw [pPost] at h; rcases bind_cases h with ⟨e, h1, rfl⟩ | ⟨⟨a, s1⟩, h1, h2⟩
 · have HC := (hA n (Nat.le_refl n)).atom st _ w h1 hf hp hr; clear hA h h1; go_enter Tryz.func56, Tryz.ntmps56; go_wp2_with fail; refine HC.mono ?_; rintro e' w1 ⟨rfl, hk⟩; exact ⟨rfl, rfl, hk⟩
 · have HC := (hA n (Nat.le_refl n)).atom st _ w h1 hf hp hr; have HF := yh ((((advAll n).atom _ _ _ h1).1).fit hf); have H2 := yh h2; clear hA h h1 h2 hf; go_enter Tryz.func56, Tryz.ntmps56; go_wp2_with fail; refine HC.mono ?_; rintro e' w1 ⟨v, rfl, hv, hp1, hk⟩; clear HC; have HV := yh hv; have HP := yh hp1; have HK := yh hk; clear hv hp1 hk; go_wp2_with fail; go_loopw [3] (fun u wr => ∃ m x s, m ≤ n ∧ pPLoop m x s = some r ∧ Fit s ∧ ExV wr (fun b => w.heap.size ≤ b) x u ∧ ParIs wr g tb s.1 s.2 ∧ Keep (some g) w wr) (fun _ wr => tokLen wr g)
   case atStart => exact ⟨n, a, s1, Nat.le_refl n, H2.out, HF.out, HV.out, HP.out, HK.out⟩
   case round =>
    obtain ⟨m, x, ⟨ts, o⟩, hm, hl, hfs, hx, hps, hks⟩ := hrel; cases ts with
    | nil => exact hfs.ends.elim
    | cons t ts =>
    cases m with
    | zero => cases hl
    | succ m =>
    have hps : ParIs wr g tb (t :: ts) o := hps; obtain ⟨ty, y, rfl⟩ := hx.iface; have hnr := hps.notRow; rw [pPLoop] at hl; have HX := yh hx; have HK := yh hks; have HP := yh hps; have HNR := yh hnr; clear hx hks hps hnr; cases hb1 : tkIs t [42] with
    | true =>
     have hne := (hfs.ends.tail (tkIs_kind hb1)).ne; have HF2 := yh ((Adv.one (o := o) (tkIs_kind hb1)).fit hfs); have HL := yh (show pPLoop m (.unary t.pl t.text x) (ts, o) = some r from by rw [if_pos (by simp [hb1])] at hl; exact hl); have HB1 := yh hb1; clear hl hfs hb1; go_wp2_with fail; refine (is_tk g tb t ts o [42] true _ HP.out HB1.out).mono ?_; rintro e w2 ⟨rfl, hk2⟩; go_wp2_with fail; refine (take_any g tb t ts o _ (HP.out.keep hk2 (by simp) (by simp)) hne).mono ?_; rintro e w3 ⟨rfl, hp3, hk3⟩; unfold tokV; go_wp2_with fail; go_roundw; case rel =>
      have k4 : Keep (some g) wr (w3.alloc (.cells #[.int .i64 t.kind, .int .i64 t.pl, .string (mkS t.text)] 96)) := (hk2.of_none.trans hk3).alloc _; exact ⟨m, .unary t.pl t.text x, (ts, o), by omega, HL.out, HF2.out, ⟨_, HX.out.keep k4 HNR.out, rfl⟩, hp3.keep ((Keep.refl none _).alloc _) (by simp) (by simp), HK.out.trans k4⟩
     case measure =>
      rw [HP.out.len, (hp3.keep ((Keep.refl none _).alloc (.cells #[.int .i64 t.kind, .int .i64 t.pl, .string (mkS t.text)] 96)) (by simp) (by simp)).len]; simp
    | false =>
    cases hb2 : tkIs t [43] with
    | true =>
     have hne := (hfs.ends.tail (tkIs_kind hb2)).ne; have HF2 := yh ((Adv.one (o := o) (tkIs_kind hb2)).fit hfs); have HL := yh (show pPLoop m (.unary t.pl t.text x) (ts, o) = some r from by rw [if_pos (by simp [hb1, hb2])] at hl; exact hl); have HB1 := yh hb1; have HB2 := yh hb2; clear hl hfs hb1 hb2; go_wp2_with fail; refine (is_tk g tb t ts o [42] false _ HP.out HB1.out).mono ?_; rintro e w2 ⟨rfl, hk2⟩; go_wp2_with fail; refine (is_tk g tb t ts o [43] true _ (HP.out.keep hk2 (by simp) (by simp)) HB2.out).mono ?_; rintro e w2b ⟨rfl, hk2b⟩; replace hk2 := hk2.trans hk2b; clear hk2b
     go_wp2_with fail; refine (take_any g tb t ts o _ (HP.out.keep hk2 (by simp) (by simp)) hne).mono ?_; rintro e w3 ⟨rfl, hp3, hk3⟩; unfold tokV; go_wp2_with fail; go_roundw; case rel =>
      have k4 : Keep (some g) wr (w3.alloc (.cells #[.int .i64 t.kind, .int .i64 t.pl, .string (mkS t.text)] 96)) := (hk2.of_none.trans hk3).alloc _; exact ⟨m, .unary t.pl t.text x, (ts, o), by omega, HL.out, HF2.out, ⟨_, HX.out.keep k4 HNR.out, rfl⟩, hp3.keep ((Keep.refl none _).alloc _) (by simp) (by simp), HK.out.trans k4⟩
     case measure =>
      rw [HP.out.len, (hp3.keep ((Keep.refl none _).alloc (.cells #[.int .i64 t.kind, .int .i64 t.pl, .string (mkS t.text)] 96)) (by simp) (by simp)).len]; simp
    | false =>
    cases hb3 : tkIs t [63] with
    | true =>
     have hne := (hfs.ends.tail (tkIs_kind hb3)).ne; have HF2 := yh ((Adv.one (o := o) (tkIs_kind hb3)).fit hfs); have HL := yh (show pPLoop m (.unary t.pl t.text x) (ts, o) = some r from by rw [if_pos (by simp [hb1, hb2, hb3])] at hl; exact hl); have HB1 := yh hb1; have HB2 := yh hb2; have HB3 := yh hb3; clear hl hfs hb1 hb2 hb3; go_wp2_with fail; refine (is_tk g tb t ts o [42] false _ HP.out HB1.out).mono ?_; rintro e w2 ⟨rfl, hk2⟩; go_wp2_with fail; refine (is_tk g tb t ts o [43] false _ (HP.out.keep hk2 (by simp) (by simp)) HB2.out).mono ?_; rintro e w2b ⟨rfl, hk2b⟩
     replace hk2 := hk2.trans hk2b; clear hk2b; go_wp2_with fail; refine (is_tk g tb t ts o [63] true _ (HP.out.keep hk2 (by simp) (by simp)) HB3.out).mono ?_; rintro e w2c ⟨rfl, hk2c⟩; replace hk2 := hk2.trans hk2c; clear hk2c; go_wp2_with fail; refine (take_any g tb t ts o _ (HP.out.keep hk2 (by simp) (by simp)) hne).mono ?_; rintro e w3 ⟨rfl, hp3, hk3⟩; unfold tokV; go_wp2_with fail; go_roundw; case rel =>
      have k4 : Keep (some g) wr (w3.alloc (.cells #[.int .i64 t.kind, .int .i64 t.pl, .string (mkS t.text)] 96)) := (hk2.of_none.trans hk3).alloc _; exact ⟨m, .unary t.pl t.text x, (ts, o), by omega, HL.out, HF2.out, ⟨_, HX.out.keep k4 HNR.out, rfl⟩, hp3.keep ((Keep.refl none _).alloc _) (by simp) (by simp), HK.out.trans k4⟩
     case measure =>
      rw [HP.out.len, (hp3.keep ((Keep.refl none _).alloc (.cells #[.int .i64 t.kind, .int .i64 t.pl, .string (mkS t.text)] 96)) (by simp) (by simp)).len]; simp
    | false =>
     rw [if_neg (by simp [hb1, hb2, hb3])] at hl; cases hl; have HB1 := yh hb1; have HB2 := yh hb2; have HB3 := yh hb3; clear hfs hb1 hb2 hb3; go_wp2_with fail; refine (is_tk g tb t ts o [42] false _ HP.out HB1.out).mono ?_; rintro e w2 ⟨rfl, hk2⟩; go_wp2_with fail; refine (is_tk g tb t ts o [43] false _ (HP.out.keep hk2 (by simp) (by simp)) HB2.out).mono ?_; rintro e w2b ⟨rfl, hk2b⟩; replace hk2 := hk2.trans hk2b; clear hk2b; go_wp2_with fail; refine (is_tk g tb t ts o [63] false _ (HP.out.keep hk2 (by simp) (by simp)) HB3.out).mono ?_; rintro e w2c ⟨rfl, hk2c⟩; replace hk2 := hk2.trans hk2c
     clear hk2c; go_wp2_with fail; go_ret; exact ⟨_, rfl, HX.out.keep hk2 (NotRow.none _ _), HP.out.keep hk2 (by simp) (by simp), HK.out.trans hk2.of_none⟩
end Go.Proofs.YtmfabihndpidnaaGreatDoor
namespace Go.Proofs.YtmfabihndpidnaaGreatDoor
set_option maxHeartbeats 2000000
open Go.RowKit
set_option maxRecDepth 100000
set_option linter.unusedVariables false
set_option linter.unusedSimpArgs false
attribute [local go_sem ↓] run_field96_0 run_field96_1 run_field96_2
theorem expr_walk (g tb n : Nat) (hA : ∀ m, m ≤ n → Reads g tb m) (lv : Nat) (st : PS) (r : Except Flt (Ex × PS)) (w : World) (hlv : lv ≤ 5) (h : pExpr (n + 1) lv st = some r) (hf : Fit st) (hp : ParIs w g tb st.1 st.2) (hr : Ranks w) :
 Calls Tryz.prog 36 #[.pointer (some ⟨g, 0, none⟩), .int .i64 (lv : Int)] w (EOut g tb w r) := by
 rw [pExpr] at h; by_cases h5 : lv = 5
 · rw [if_pos h5] at h; have HC := (hA n (Nat.le_refl n)).post st _ w h hf hp hr; have hb : ((lv : Int) == 5) = true := by simp [h5]
   clear hA h h5 hlv; cases r with
   | error e =>
    go_enter Tryz.func36, Tryz.ntmps36; go_wp2_with fail; refine HC.mono ?_; rintro e' w1 ⟨rfl, hk⟩; exact ⟨rfl, rfl, hk⟩
   | ok x =>
    go_enter Tryz.func36, Tryz.ntmps36; go_wp2_with fail; refine HC.mono ?_; rintro e' w1 ⟨v, rfl, hv, hp1, hk⟩; go_wp2_with fail; go_ret; exact ⟨v, rfl, hv, hp1, hk⟩
 · rw [if_neg h5] at h; have hb : ((lv : Int) == 5) = false := by simp; omega
   have hlt : (lv : Int) < 5 := by omega
   have hge : (0 : Int) ≤ (lv : Int) := by omega
   have hwr : IntKind.i64.wrap ((lv : Int) + 1) = (lv : Int) + 1 := IntWalk.i64_in _ (by omega); rcases bind_cases h with ⟨e, h1, rfl⟩ | ⟨⟨a, s1⟩, h1, h2⟩
   · have HC := (hA n (Nat.le_refl n)).expr (lv + 1) ((lv : Int) + 1) st _ w (by simp) (by omega) h1 hf hp hr; clear hA h h1 h5 hlv; go_enter Tryz.func36, Tryz.ntmps36; go_wp2_with fail; refine HC.mono ?_; rintro e' w1 ⟨rfl, hk⟩; exact ⟨rfl, rfl, hk⟩
   · have HC := (hA n (Nat.le_refl n)).expr (lv + 1) ((lv : Int) + 1) st _ w (by simp) (by omega) h1 hf hp hr; have HF := yh ((((advAll n).expr _ _ _ _ h1).1).fit hf); have H2 := yh h2; have HA := yh hA; have HLV := yh hlv; have H5 := yh h5; clear hA h h1 h2 hf h5 hlv; go_enter Tryz.func36, Tryz.ntmps36; go_wp2_with fail; refine HC.mono ?_; rintro e' w1 ⟨v, rfl, hv, hp1, hk⟩; clear HC; have HV := yh hv; have HP := yh hp1; have HK := yh hk; clear hv hp1 hk; go_wp2_with fail; go_loopw [5] (fun u wr => ∃ m x s, m ≤ n ∧ pLoop m lv x s = some r ∧ Fit s ∧ ExV wr (fun b => w.heap.size ≤ b) x u ∧ ParIs wr g tb s.1 s.2 ∧ Keep (some g) w wr) (fun _ wr => tokLen wr g)
     case atStart => exact ⟨n, a, s1, Nat.le_refl n, H2.out, HF.out, HV.out, HP.out, HK.out⟩
     case round =>
      obtain ⟨m, x, ⟨ts, o⟩, hm, hl, hfs, hx, hps, hks⟩ := hrel; cases ts with
      | nil => exact hfs.ends.elim
      | cons t ts =>
      cases m with
      | zero => cases hl
      | succ m =>
      have hps : ParIs wr g tb (t :: ts) o := hps; obtain ⟨ty, y, rfl⟩ := hx.iface; have hnr := hps.notRow; have hrk := hr.keep hp hks; rw [pLoop] at hl; by_cases hk4 : t.kind = 4
      · have hb4 : ((t.kind : Int) == 4) = true := by simp [hk4]
        have hmk := hfs.marks t (by simp) hk4; by_cases hrl : rank t.text = lv
        · rw [if_pos ⟨hk4, hrl⟩] at hl; have hbr : (rank t.text == (lv : Int)) = true := by simp [hrl]
          have hk0 : t.kind ≠ 0 := by omega
          have hne := (hfs.ends.tail hk0).ne; have HF2 := yh ((Adv.one (o := o) hk0).fit hfs); have HX := yh hx; have HK := yh hks; have HP := yh hps; have HNR := yh hnr; have HR := yh hrk; have HM := yh hmk; have HL := yh hl; clear hl hx hks hps hnr hrk hfs hk4 hmk hrl hk0; go_wp2_with fail; refine (peek_any g tb t ts o _ HP.out).mono ?_; rintro e w2 ⟨rfl, hk2⟩; unfold tokV; go_wp2_with fail; refine (peek_any g tb t ts o _ (HP.out.keep hk2 (by simp) (by simp))).mono ?_; rintro e w2b ⟨rfl, hk2b⟩; unfold tokV; replace hk2 := hk2.trans hk2b; clear hk2b; go_wp2_with fail
          refine (rank_any _ HM.out _ (HR.out.keep0 hk2)).mono ?_; rintro e w2c ⟨rfl, rfl⟩; go_wp2_with fail; refine (take_any g tb t ts o _ (HP.out.keep hk2 (by simp) (by simp)) hne).mono ?_; rintro e w3 ⟨rfl, hp3, hk3⟩; unfold tokV; have k3 : Keep (some g) wr w3 := hk2.of_none.trans hk3; have hr3 : Ranks w3 := HR.out.keep HP.out k3; clear hk2 hk3; have K3 := yh k3; have HR3 := yh hr3; have HP3 := yh hp3; clear k3 hr3 hp3; rcases bind_cases HL.out with ⟨f, h1, rfl⟩ | ⟨⟨b, s4⟩, h1, h2⟩
          · have HC0 := fun w' h1' h2' => (HA.out m (by omega)).expr (lv + 1) ((lv : Int) + 1) (ts, o) _ w' (by simp) (by have := HLV.out; have := H5.out; omega) h1 HF2.out h1' h2'
            have HC := yh HC0; clear h1 hm HC0; go_wp2_with fail; have KA : Keep none w3 (w3.alloc (.cells #[.int .i64 t.kind, .int .i64 t.pl, .string (mkS t.text)] 96)) := (Keep.refl none _).alloc _; have HPA := yh (HP3.out.keep KA (by simp) (by simp)); have HRA := yh (HR3.out.keep0 KA); have KA := yh KA; refine wp_region_pend (fun w' => w'.cell? ⟨w3.heap.size, 1, none⟩ = some (.int .i64 t.pl) ∧ w'.cell? ⟨w3.heap.size, 2, none⟩ = some (.string (mkS t.text))) 99 (by kernel_rfl) (by kernel_rfl) (fun c a d v w h => by cases d <;> exact h) (by simp) ?_; simp only [num, List.length_cons, List.length_nil]
            repeat
             (refine pend_stable (by kernel_rfl) (fun K hK => ?_)
              rw [if_pos (by rfl)]; apply Exists.intro; refine ⟨fun w' hS' => ?_, hK _ ?_⟩
              · (try dsimp only at hS')
                go_simp; try with_reducible rfl
              clear hK K; simp only [Act.put, List.setIfInBounds_toArray, List.set])
            refine pend_active (by kernel_rfl) (fun K hK => ?_); rw [if_pos (by rfl)]; go_wp2_with fail; refine (HC.out _ (HPA.out.keep ((Keep.refl none _).drew) (by simp) (by simp)) (HRA.out.keep0 ((Keep.refl none _).drew))).mono ?_; rintro e w4 ⟨rfl, hk4⟩; exact ⟨rfl, rfl, HK.out.trans (K3.out.trans (KA.out.of_none.trans ((Keep.refl _ _).drew.trans hk4)))⟩
          · have HC0 := fun w' h1' h2' => (HA.out m (by omega)).expr (lv + 1) ((lv : Int) + 1) (ts, o) _ w' (by simp) (by have := HLV.out; have := H5.out; omega) h1 HF2.out h1' h2'
            have HC := yh HC0; have HF4 := yh (((((advAll m).expr _ _ _ _ h1).1).fit HF2.out)); have HLen := yh ((advAll m).expr _ _ _ _ h1).2; have HM2 := yh (show m ≤ n by omega); have HL2 := yh h2; clear h1 h2 hm HC0; go_wp2_with fail; have KA : Keep none w3 (w3.alloc (.cells #[.int .i64 t.kind, .int .i64 t.pl, .string (mkS t.text)] 96)) := (Keep.refl none _).alloc _; have HBA := yh (show Blk (w3.alloc (.cells #[.int .i64 t.kind, .int .i64 t.pl, .string (mkS t.text)] 96)) w3.heap.size [.int .i64 t.kind, .int .i64 t.pl, .string (mkS t.text)] 96 from Blk.new _ _ _)
            have HPA := yh (HP3.out.keep KA (by simp) (by simp)); have HRA := yh (HR3.out.keep0 KA); have HGN := yh (show w3.heap.size ≠ g from by have := HP3.out; obtain ⟨k, c, hB, _⟩ := this; have := hB.lt; omega); have HKA := yh KA; clear KA; refine wp_region_pend (fun w' => w'.cell? ⟨w3.heap.size, 1, none⟩ = some (.int .i64 t.pl) ∧ w'.cell? ⟨w3.heap.size, 2, none⟩ = some (.string (mkS t.text))) 99 (by kernel_rfl) (by kernel_rfl) (fun c a d v w h => by cases d <;> exact h) (by simp) ?_; simp only [num, List.length_cons, List.length_nil]; repeat
             (refine pend_stable (by kernel_rfl) (fun K hK => ?_)
              rw [if_pos (by rfl)]; apply Exists.intro; refine ⟨fun w' hS' => ?_, hK _ ?_⟩
              · (try dsimp only at hS')
                go_simp; try with_reducible rfl
              clear hK K; simp only [Act.put, List.setIfInBounds_toArray, List.set])
            refine pend_active (by kernel_rfl) (fun K hK => ?_); rw [if_pos (by rfl)]; go_wp2_with fail; refine (HC.out _ (HPA.out.keep ((Keep.refl none _).drew) (by simp) (by simp)) (HRA.out.keep0 ((Keep.refl none _).drew))).mono ?_; rintro e w4 ⟨v4, rfl, hv4, hp4, hk4⟩; obtain ⟨ty4, y4, rfl⟩ := hv4.iface; have HB4 := yh (HBA.out.drew.keep hk4 (by simpa using HGN.out)); refine hK.out _ _ ⟨HB4.out.cell 1, HB4.out.cell 2⟩ ?_; clear hK K; have HV4 := yh hv4; have HP4 := yh hp4; have HK4 := yh hk4; clear hv4 hp4 hk4; repeat
             (refine pend_stable (by kernel_rfl) (fun K hK => ?_)
              rw [if_pos (by rfl)]; apply Exists.intro; refine ⟨fun w' hS' => ?_, hK _ ?_⟩
              · (try dsimp only at hS')
                go_simp; try with_reducible rfl
              clear hK K; simp only [Act.put, List.setIfInBounds_toArray, List.set])
            refine pend_done (by kernel_rfl) ?_; go_wp2_with fail; go_roundw; case rel =>
             have k4 : Keep (some g) wr w4 := K3.out.trans (HKA.out.of_none.trans ((Keep.refl _ _).drew.trans HK4.out)); exact ⟨m, .binary t.pl t.text x b, s4, HM2.out, HL2.out, HF4.out, ⟨_, _, HX.out.keep k4 HNR.out, HV4.out.since ((HK.out.trans (K3.out.trans (HKA.out.of_none.trans (Keep.refl _ _).drew))).size), rfl⟩, HP4.out, HK.out.trans k4⟩
            case measure =>
             rw [HP.out.len, HP4.out.len]; have := HLen.out; simp at this ⊢; omega
        · have hbr : (rank t.text == (lv : Int)) = false := by simpa using hrl
          rw [if_neg (fun e => hrl e.2)] at hl; cases hl; have HX := yh hx; have HK := yh hks; have HP := yh hps; have HR := yh hrk; have HM := yh hmk; clear hx hks hps hnr hrk hfs hk4 hmk hrl; go_wp2_with fail; refine (peek_any g tb t ts o _ HP.out).mono ?_; rintro e w2 ⟨rfl, hk2⟩; unfold tokV; go_wp2_with fail; refine (peek_any g tb t ts o _ (HP.out.keep hk2 (by simp) (by simp))).mono ?_; rintro e w2b ⟨rfl, hk2b⟩; unfold tokV; replace hk2 := hk2.trans hk2b; clear hk2b; go_wp2_with fail; refine (rank_any _ HM.out _ (HR.out.keep0 hk2)).mono ?_; rintro e w2c ⟨rfl, rfl⟩; go_wp2_with fail
          go_ret; exact ⟨_, rfl, HX.out.keep hk2 (NotRow.none _ _), HP.out.keep hk2 (by simp) (by simp), HK.out.trans hk2.of_none⟩
      · rw [if_neg (fun e => hk4 e.1)] at hl; cases hl; have hb4 : ((t.kind : Int) == 4) = false := by simp; omega
        have HX := yh hx; have HK := yh hks; have HP := yh hps; clear hx hks hps hnr hrk hfs hk4; go_wp2_with fail; refine (peek_any g tb t ts o _ HP.out).mono ?_; rintro e w2 ⟨rfl, hk2⟩; unfold tokV; go_wp2_with fail; go_ret; exact ⟨_, rfl, HX.out.keep hk2 (NotRow.none _ _), HP.out.keep hk2 (by simp) (by simp), HK.out.trans hk2.of_none⟩
end Go.Proofs.YtmfabihndpidnaaGreatDoor
