/-
  Plain Lean: what the parser gives: programs that may be printed and read again, within bounds. Plain Lean: programs that are the same but for places stand for terms that are the same but for places. Plain Lean: terms as texts, and these without places. Plain Lean: how long a printed program is.
-/
import Derived.Test.YtmfabihndpidnaaGreatDoorK02
import Derived.Test.YtmfabihndpidnaaGreatDoorK39
import Derived.Test.YtmfabihndpidnaaGreatDoorK44
import Derived.Lib.ItoaLen
namespace Go.Proofs.YtmfabihndpidnaaGreatDoor
set_option linter.unusedVariables false
set_option linter.unusedSimpArgs false
theorem quoted_len (p : Nat) : ∀ (n q : Nat) (l acc : Bs) (x : Bs) (r : Nat), quoted p n q l acc = .ok (x, r) → x.length ≤ acc.length + l.length
 | 0, q, l, acc, x, r, h => by rw [quoted] at h; cases h
 | n + 1, q, [], acc, x, r, h => by rw [quoted] at h; cases h
 | n + 1, q, c :: t, acc, x, r, h => by
  rw [quoted] at h; split at h
  · cases h; simp
  split at h
  · cases h
  split at h
  · have := quoted_len p n _ _ _ _ _ h; simp at this ⊢; omega
  · split at h
    · cases h
    · cases h
    · rename_i b q' he; have := quoted_len p n _ _ _ _ _ h; simp at this ⊢; omega
theorem one_len {p : Nat} {l : Bs} {t : Tok} {q : Nat} (h : one p l = .ok (t, q)) : t.text.length ≤ l.length := by
 cases l with
 | nil => rw [one] at h; cases h
 | cons c r =>
  rw [one] at h; split at h
  · split at h
    · cases h
    · cases h; exact takeWhile_le _
  split at h
  · split at h
    · cases h
    · rename_i he; cases h; have := quoted_len _ _ _ _ _ _ _ he; simp at this ⊢; omega
  split at h
  · split at h
    · cases h
    · cases h; simp; omega
  split at h
  · cases h; simp
  split at h
  · rename_i hp; cases h; have := List.IsPrefix.length_le (List.isPrefixOf_iff_prefix.1 hp); simpa using this
  · cases h
theorem one_pl {p : Nat} {l : Bs} {t : Tok} {q : Nat} (h : one p l = .ok (t, q)) : t.pl = p := by
 cases l with
 | nil => rw [one] at h; cases h
 | cons c r =>
  rw [one] at h; repeat' split at h
  all_goals first | (cases h; rfl; done) | cases h
theorem scanAll_len (l : Bs) : ∀ (n : Nat) (r : Bs) (acc ts : List Tok), scanAll l n r acc = .ok ts → r.length ≤ l.length → (∀ u ∈ acc, u.text.length ≤ l.length ∧ u.pl ≤ l.length) → ∀ u ∈ ts, u.text.length ≤ l.length ∧ u.pl ≤ l.length
 | 0, r, acc, ts, h, _, ha => by
  rw [scanAll] at h; cases h; exact ha
 | n + 1, r, acc, ts, h, hr, ha => by
  rw [scanAll] at h; split at h
  · cases h; intro u hu; rcases List.mem_append.1 hu with hu | hu
    · exact ha u hu
    · simp at hu; subst hu; simp
  · rename_i c t hsk; split at h
    · cases h
    · rename_i tk q ho; have h1 := one_len ho; have h3 := one_pl ho; have h2 := skip_len r false; rw [hsk] at h2; exact scanAll_len l n _ _ ts h (by simp) (fun u hu => by
       rcases List.mem_append.1 hu with hu | hu
       · exact ha u hu
       · simp at hu; subst hu; omega)
def TG (t : Tok) : Prop := TokOk t ∧ t.text.length ≤ 4096 ∧ t.pl ≤ 4096
theorem scan_tg {l : Bs} {ts : List Tok} (h : scan l = .ok ts) : ∀ u ∈ ts, TG u := by
 have h1 := (scan_ok h).2.1; unfold scan at h; split at h
 · cases h
 · intro u hu; have := scanAll_len l _ _ _ _ h (Nat.le_refl _) (by simp) u hu; exact ⟨h1 u hu, by omega, by omega⟩
def Ex.low : Ex → Prop
 | .name p _ => p ≤ 4096
 | .text p _ => p ≤ 4096
 | .rx p _ => p ≤ 4096
 | .call1 p _ a => p ≤ 4096 ∧ a.low
 | .call2 p _ a b => p ≤ 4096 ∧ a.low ∧ b.low
 | .call3 p _ a b c => p ≤ 4096 ∧ a.low ∧ b.low ∧ c.low
 | .keyed p a => p ≤ 4096 ∧ a.low
 | .unary p _ a => p ≤ 4096 ∧ a.low
 | .binary p _ a b => p ≤ 4096 ∧ a.low ∧ b.low
def XG (e : Ex) : Prop := Wf e ∧ e.trim ∧ e.low
theorem dep_mono {e : Ex} (h : Wf e) {a b : Int} (hab : a ≤ b) : dep e a ≤ dep e b := by
 rw [dep_need h a, dep_need h b]; unfold up; by_cases h1 : e.rk < a
 · rw [if_pos (by simpa using h1), if_pos (by simp; omega)]; exact Nat.le_refl _
 · rw [if_neg (by simpa using h1)]; split <;> omega
theorem dep_succ {e : Ex} (h : Wf e) (a : Int) : dep e a ≤ dep e 0 + 1 := by
 rw [dep_need h a]; unfold up; split <;> omega
structure GoodAll (n : Nat) : Prop where
 expr : ∀ (lv : Nat) st x st', (∀ t ∈ st.1, TG t) → st.2 ≤ 64 → lv ≤ 5 → pExpr n lv st = some (.ok (x, st')) → XG x ∧ dep x lv + st.2 ≤ 64
 loop : ∀ (lv : Nat) a st x st', (∀ t ∈ st.1, TG t) → st.2 ≤ 64 → lv ≤ 4 → XG a ∧ dep a lv + st.2 ≤ 64 → pLoop n lv a st = some (.ok (x, st')) → XG x ∧ dep x lv + st.2 ≤ 64
 post : ∀ st x st', (∀ t ∈ st.1, TG t) → st.2 ≤ 64 → pPost n st = some (.ok (x, st')) → XG x ∧ dep x 5 + st.2 ≤ 64
 ploop : ∀ a st x st', (∀ t ∈ st.1, TG t) → st.2 ≤ 64 → XG a ∧ dep a 5 + st.2 ≤ 64 → pPLoop n a st = some (.ok (x, st')) → XG x ∧ dep x 5 + st.2 ≤ 64
 atom : ∀ st x st', (∀ t ∈ st.1, TG t) → st.2 ≤ 64 → pAtom n st = some (.ok (x, st')) → XG x ∧ dep x 6 + st.2 ≤ 64
 call : ∀ st x st', (∀ t ∈ st.1, TG t) → st.2 ≤ 64 → (∀ t ts, st.1 = t :: ts → t.kind = 1 ∧ 0 < arity t.text) → pCall n st = some (.ok (x, st')) → XG x ∧ dep x 6 + st.2 ≤ 64
 args : ∀ m acc st xs st', (∀ t ∈ st.1, TG t) → st.2 ≤ 64 → (∀ a ∈ acc, XG a ∧ dep a 0 + st.2 ≤ 64) → pArgs n m acc st = some (.ok (xs, st')) → (∀ a ∈ xs, XG a ∧ dep a 0 + st.2 ≤ 64) ∧ xs.length = acc.length + m
theorem TG.mark {t : Tok} (h : TG t) (hk : t.kind = 4) : isMark t.text := by
 rcases h.1 with ⟨h1, _⟩ | ⟨h1, _⟩ | h1 | ⟨h1, _⟩ | ⟨_, h1⟩
 · omega
 · omega
 · omega
 · omega
 · exact h1
theorem TG.name {t : Tok} (h : TG t) (hk : t.kind = 1) : NameOk t.text := by
 rcases h.1 with ⟨h1, _⟩ | ⟨_, h1⟩ | h1 | ⟨h1, _⟩ | ⟨h1, _⟩
 · omega
 · exact h1
 · omega
 · omega
 · omega
theorem TG.rx {t : Tok} (h : TG t) (hk : t.kind = 3) : RxOk t.text := by
 rcases h.1 with ⟨h1, _⟩ | ⟨h1, _⟩ | h1 | ⟨_, h1⟩ | ⟨h1, _⟩
 · omega
 · omega
 · omega
 · exact h1
 · omega
theorem arity_le (s : Bs) : arity s ≤ 3 := by
 unfold arity; repeat' split
 all_goals omega
theorem enter_op {m : Bs} {t : Tok} {ts : List Tok} {o : Nat} {s : PS} (h : enter m (t :: ts, o) = .ok s) : s.2 = o + 1 ∧ o < 64 ∧ ∀ u ∈ s.1, u ∈ t :: ts := by
 obtain ⟨_, h1, rfl⟩ := enter_ok h; exact ⟨rfl, h1, fun u hu => List.mem_cons_of_mem _ hu⟩
theorem goodAll (n : Nat) : GoodAll n := by
 induction n with
 | zero =>
  refine ⟨?_, ?_, ?_, ?_, ?_, ?_, ?_⟩ <;> intros <;> simp_all [pExpr, pLoop, pPost, pPLoop, pAtom, pCall, pArgs]
 | succ n ih =>
  refine ⟨?_, ?_, ?_, ?_, ?_, ?_, ?_⟩
  · intro lv st x st' ht ho hl h; rw [pExpr] at h; by_cases h5 : lv = 5
    · subst h5; rw [if_pos rfl] at h; exact ih.post _ _ _ ht ho h
    · rw [if_neg h5] at h; obtain ⟨⟨a, s1⟩, h1, h2⟩ := bind_ok h; have hA := ((advAll n).expr _ _ _ _ h1).1; have hG := ih.expr _ _ _ _ ht ho (by omega) h1; have hop := hA.op; have := dep_mono hG.1.1 (show (lv : Int) ≤ ((lv + 1 : Nat) : Int) by omega); have hL := ih.loop lv a s1 x st' (fun t hx => ht t (hA.mem t hx)) (by omega) (by omega) ⟨hG.1, by omega⟩ h2; rw [hop] at hL; exact hL
  · intro lv a st x st' ht ho hl ha h; obtain ⟨ts, o⟩ := st; cases ts with
    | nil => rw [pLoop] at h; cases h
    | cons t ts =>
     rw [pLoop] at h; by_cases hc : t.kind = 4 ∧ rank t.text = lv
     · rw [if_pos hc] at h; obtain ⟨⟨b, s1⟩, h1, h2⟩ := bind_ok h; have hA := ((advAll n).expr _ _ _ _ h1).1; have hop := hA.op; have ht2 : ∀ u ∈ ts, TG u := fun u hu => ht u (List.mem_cons_of_mem _ hu)
       have hG := ih.expr (lv + 1) (ts, o) _ _ ht2 ho (by omega) h1; simp only at hop ho ha hG; have hm := (ht t (by simp)).mark hc.1; have hL := ih.loop lv (.binary t.pl t.text a b) s1 x st' (fun u hu => ht2 u (hA.mem u hu)) (by omega) hl ⟨⟨⟨hm, by rw [hc.2]; omega, ha.1.1, hG.1.1⟩, ⟨ha.1.2.1, hG.1.2.1⟩, (ht t (by simp)).2.2, ha.1.2.2, hG.1.2.2⟩, by
        rw [dep, hc.2, up0 (by simp), hop]; have h3 := ha.2; have h4 := hG.2; rw [show ((lv + 1 : Nat) : Int) = (lv : Int) + 1 from rfl] at h4; omega⟩ h2
       rw [hop] at hL; exact hL
     · rw [if_neg hc] at h; cases h; exact ha
  · intro st x st' ht ho h; rw [pPost] at h; obtain ⟨⟨a, s1⟩, h1, h2⟩ := bind_ok h; have hA := ((advAll n).atom _ _ _ h1).1; have hG := ih.atom _ _ _ ht ho h1; have hop := hA.op; have := dep_mono hG.1.1 (show (5 : Int) ≤ 6 by omega); have hL := ih.ploop a s1 x st' (fun t hx => ht t (hA.mem t hx)) (by omega) ⟨hG.1, by omega⟩ h2; rw [hop] at hL; exact hL
  · intro a st x st' ht ho ha h; obtain ⟨ts, o⟩ := st; cases ts with
    | nil => rw [pPLoop] at h; cases h
    | cons t ts =>
     rw [pPLoop] at h; by_cases hc : (tkIs t [42] || tkIs t [43] || tkIs t [63]) = true
     · rw [if_pos hc] at h; have hu : t.text = [42] ∨ t.text = [43] ∨ t.text = [63] := by
        simp [tkIs] at hc; rcases hc with (hc | hc) | hc
        · exact .inl hc.2
        · exact .inr (.inl hc.2)
        · exact .inr (.inr hc.2)
       exact ih.ploop (.unary t.pl t.text a) (ts, o) x st' (fun u hx => ht u (List.mem_cons_of_mem _ hx)) ho ⟨⟨⟨hu, ha.1.1⟩, ha.1.2.1, (ht t (by simp)).2.2, ha.1.2.2⟩, by rw [dep, up0 (by decide)]; exact ha.2⟩ h
     · rw [if_neg hc] at h; cases h; exact ha
  · intro st x st' ht ho h; obtain ⟨ts, o⟩ := st; cases ts with
    | nil => rw [pAtom] at h; cases h
    | cons t ts =>
     have hT := ht t (by simp); simp only at ho; rw [pAtom] at h; by_cases h2 : t.kind = 2
     · rw [if_pos h2] at h; cases h
       exact ⟨⟨by have := hT.2; simp only [Wf]; omega, by have := hT.2; simp only [Ex.trim]; omega, hT.2.2⟩, by rw [dep, up0 (by decide)]; simpa using ho⟩
     rw [if_neg h2] at h; by_cases h3 : t.kind = 3
     · rw [if_pos h3] at h; cases h
       exact ⟨⟨hT.rx h3, by have := hT.2; simp only [Ex.trim]; omega, hT.2.2⟩, by rw [dep, up0 (by decide)]; simpa using ho⟩
     rw [if_neg h3] at h; by_cases h4 : t.kind = 1 ∧ 0 < arity t.text
     · rw [if_pos h4] at h; exact ih.call _ _ _ ht ho (fun t' ts' e => by simp at e; obtain ⟨rfl, rfl⟩ := e; exact h4) h
     rw [if_neg h4] at h; by_cases h5 : t.kind = 1 ∧ arity t.text = 0
     · rw [if_pos h5] at h; cases h
       exact ⟨⟨⟨hT.name h5.1, h5.2⟩, by have := hT.2; simp only [Ex.trim]; omega, hT.2.2⟩, by rw [dep, up0 (by decide)]; simpa using ho⟩
     rw [if_neg h5] at h; by_cases h6 : tkIs t [123] = true
     · rw [if_pos h6] at h; obtain ⟨s1, e1, h⟩ := bind_ok h; obtain ⟨⟨y, s2⟩, e2, h⟩ := bind_ok h; obtain ⟨s3, e3, h⟩ := bind_ok h; cases h; obtain ⟨o1, o2, o3⟩ := enter_op (of_ok e1); have hG := ih.expr _ _ _ _ (fun u hu => ht u (o3 u hu)) (by omega) (by omega) e2; refine ⟨⟨hG.1.1, hG.1.2.1, hT.2.2, hG.1.2.2⟩, ?_⟩; rw [dep, up0 (by decide)]; have := hG.2; show dep y 0 + 1 + o ≤ 64
       have h7 : dep y ((0 : Nat) : Int) = dep y 0 := rfl; omega
     rw [if_neg h6] at h; by_cases h7 : tkIs t [40] = true
     · rw [if_pos h7] at h; obtain ⟨s1, e1, h⟩ := bind_ok h; obtain ⟨⟨y, s2⟩, e2, h⟩ := bind_ok h; obtain ⟨s3, e3, h⟩ := bind_ok h; cases h; obtain ⟨o1, o2, o3⟩ := enter_op (of_ok e1); have hG := ih.expr _ _ _ _ (fun u hu => ht u (o3 u hu)) (by omega) (by omega) e2; refine ⟨hG.1, ?_⟩; have h8 := dep_succ hG.1.1 6; have := hG.2; have h7 : dep y ((0 : Nat) : Int) = dep y 0 := rfl; simp only; omega
     rw [if_neg h7] at h; cases h
  · intro st x st' ht ho hk h; obtain ⟨ts, o⟩ := st; cases ts with
    | nil => rw [pCall] at h; cases h
    | cons t ts =>
     have hT := ht t (by simp); obtain ⟨k1, k2⟩ := hk t ts rfl; have k3 := arity_le t.text; rw [pCall] at h; obtain ⟨s1, e1, h⟩ := bind_ok h; obtain ⟨⟨ys, s2⟩, e2, h⟩ := bind_ok h; obtain ⟨s3, e3, h⟩ := bind_ok h; cases h; cases ts with
     | nil => have := of_ok e1; simp [enter] at this
     | cons c ts =>
      obtain ⟨o1, o2, o3⟩ := enter_op (of_ok e1); obtain ⟨hG, hlen⟩ := ih.args _ _ _ _ _ (fun u hu => ht u (List.mem_cons_of_mem _ (o3 u hu))) (by omega) (by simp) e2; simp only [List.length_nil, Nat.zero_add] at hlen; rw [o1] at hG
      match ys, hlen, hG with
      | [], hlen, hG => simp at hlen; omega
      | [a], hlen, hG =>
       have ga := hG a (by simp); refine ⟨⟨⟨by simp at hlen; omega, ga.1.1⟩, ga.1.2.1, hT.2.2, ga.1.2.2⟩, ?_⟩; simp only [mkCall]; rw [dep, up0 (by decide)]; omega
      | [a, b], hlen, hG =>
       have ga := hG a (by simp); have gb := hG b (by simp); refine ⟨⟨⟨by simp at hlen; omega, ga.1.1, gb.1.1⟩, ⟨ga.1.2.1, gb.1.2.1⟩, hT.2.2, ga.1.2.2, gb.1.2.2⟩, ?_⟩; simp only [mkCall]; rw [dep, up0 (by decide)]; omega
      | [a, b, c], hlen, hG =>
       have ga := hG a (by simp); have gb := hG b (by simp); have gc := hG c (by simp); refine ⟨⟨⟨by simp at hlen; omega, ga.1.1, gb.1.1, gc.1.1⟩, ⟨ga.1.2.1, gb.1.2.1, gc.1.2.1⟩, hT.2.2, ga.1.2.2, gb.1.2.2, gc.1.2.2⟩, ?_⟩; simp only [mkCall]; rw [dep, up0 (by decide)]; omega
      | a :: b :: c :: d :: r, hlen, hG => simp at hlen; omega
  · intro m acc st xs st' ht ho ha h; cases m with
    | zero => rw [pArgs] at h; cases h; exact ⟨ha, rfl⟩
    | succ m =>
     rw [pArgs] at h; obtain ⟨s1, e1, h⟩ := bind_ok h; obtain ⟨⟨y, s2⟩, e2, h⟩ := bind_ok h; have hA : Adv st s1 := by
      by_cases ha : acc = []
      · rw [if_pos ha] at e1; cases e1; exact Adv.refl _
      · rw [if_neg ha] at e1; exact (want_adv (of_ok e1)).1
     have hB := ((advAll n).expr _ _ _ _ e2).1; have hop := hA.op; have hop2 := hB.op; have hG := ih.expr _ _ _ _ (fun u hu => ht u (hA.mem u hu)) (by omega) (by omega) e2; have hs2 : s2.2 = st.2 := by omega
     obtain ⟨hG2, hl⟩ := ih.args _ _ _ _ _ (fun u hu => ht u (hA.mem u (hB.mem u hu))) (by omega) (fun a hx => by
      rcases List.mem_append.1 hx with hx | hx
      · have := ha a hx; exact ⟨this.1, by omega⟩
      · simp at hx; subst hx; refine ⟨hG.1, ?_⟩; have h1 := hG.2; have h2 : dep a ((0 : Nat) : Int) = dep a 0 := rfl; omega) h
     rw [hs2] at hG2; exact ⟨hG2, by simp at hl; omega⟩
def DG (d : Def) : Prop := d.ok ∧ dep d.body 0 ≤ 64 ∧ d.body.trim ∧ d.body.low
theorem pDefs_good : ∀ (n : Nat) (acc : List Def) (st : PS) (xs : List Def) (st' : PS), (∀ t ∈ st.1, TG t) → st.2 ≤ 64 → (∀ d ∈ acc, DG d) → pDefs n acc st = some (.ok (xs, st')) → (∀ d ∈ xs, DG d) ∧ xs.length + st'.1.length ≤ acc.length + st.1.length
 | 0, _, _, _, _, _, _, _, h => by cases h
 | n + 1, acc, ([], o), _, _, _, _, ha, h => by simp [pDefs] at h; obtain ⟨rfl, rfl⟩ := h; exact ⟨ha, Nat.le_refl _⟩
 | n + 1, acc, ([t], o), _, _, _, _, ha, h => by simp [pDefs] at h; obtain ⟨rfl, rfl⟩ := h; exact ⟨ha, Nat.le_refl _⟩
 | n + 1, acc, (t :: t2 :: ts, o), x, st', ht, ho, ha, h => by
  rw [pDefs] at h; split at h
  · rename_i hc; split at h
    · cases h
    · rename_i hd; have hk : t2.kind = 1 ∧ arity t2.text = 0 := by
       constructor
       · by_cases e : t2.kind = 1
         · exact e
         · exact absurd (.inl e) hd
       · by_cases e : arity t2.text = 0
         · exact e
         · exact absurd (.inr e) hd
      have hT2 := ht t2 (by simp); obtain ⟨s1, e1, h⟩ := bind_ok h; obtain ⟨⟨y, s2⟩, e2, h⟩ := bind_ok h; obtain ⟨s3, e3, h⟩ := bind_ok h; have hA := want_adv (of_ok e1); have hB := (advAll n).expr _ _ _ _ e2; have hC := want_adv (of_ok e3); have ho1 := hA.1.op; have ho2 := hB.1.op; have ho3 := hC.1.op; have ht1 : ∀ u ∈ s1.1, TG u := fun u hu => ht u (by have := hA.1.mem u hu; simp at this ⊢; exact .inr (.inr this))
      have ht3 : ∀ u ∈ s3.1, TG u := fun u hu => ht1 u (hB.1.mem u (hC.1.mem u hu))
      simp only at ho ho1 ho2 ho3; have hG := (goodAll n).expr _ _ _ _ ht1 (by omega) (by omega) e2; have h0 : dep y ((0 : Nat) : Int) = dep y 0 := rfl; obtain ⟨r1, r2⟩ := pDefs_good n _ _ _ _ ht3 (by omega) (fun d hx => by
       rcases List.mem_append.1 hx with hx | hx
       · exact ha d hx
       · simp at hx; subst hx; exact ⟨⟨hT2.name hk.1, hk.2, hG.1.1⟩, by have := hG.2; simp only; omega, hG.1.2⟩) h
      have l1 := hA.2; have l2 := hB.2; have l3 := hC.2; refine ⟨r1, ?_⟩; simp only [List.length_append, List.length_cons, List.length_nil] at r2 l1 l2 l3 ⊢; omega
  · cases h; exact ⟨ha, Nat.le_refl _⟩
theorem parse_good {l : Bs} {p : Prog} (h : parse l = .ok p) : (∀ d ∈ p.defs, DG d) ∧ (Wf p.main ∧ (p.main.trim ∧ p.main.low) ∧ dep p.main 0 ≤ 64) ∧ p.defs.length ≤ 5000 := by
 unfold parse at h; split at h
 · cases h
 · rename_i ts hs; have hok := scan_ok hs; have ht := scan_tg hs; have hp := parseToks_eq hok.1; rw [h] at hp; unfold program at hp; obtain ⟨⟨ds, s1⟩, e1, hp⟩ := bind_ok hp; obtain ⟨⟨x, s2⟩, e2, hp⟩ := bind_ok hp; obtain ⟨g1, g2⟩ := pDefs_good _ _ _ _ _ ht (by simp) (by simp) e1; have hA := pDefs_adv _ _ _ _ _ e1; have hop := hA.op; simp only at hop; have hG := (goodAll _).expr _ _ _ _ (fun u hu => ht u (hA.mem u hu)) (by omega) (by omega) e2; have h0 : dep x ((0 : Nat) : Int) = dep x 0 := rfl; have hpe : p = ⟨ds, x⟩ := by
    simp only at hp; split at hp
    · cases hp
    · split at hp
      · cases hp
      · cases hp; rfl
   subst hpe; have hl := hok.2.2; simp only [List.length_nil, Nat.zero_add] at g2; exact ⟨g1, ⟨hG.1.1, hG.1.2, by have := hG.2; simp only; omega⟩, by simp only; omega⟩
theorem parse_neat {l : Bs} {p : Prog} (h : parse l = .ok p) : p.neat := by
 obtain ⟨h1, h2, _⟩ := parse_good h; exact ⟨fun d hd => ⟨(h1 d hd).1, (h1 d hd).2.1⟩, h2.1, h2.2.2⟩
theorem parse_err {l : Bs} {f : Flt} (h : parse l = .error f) : f.code ≠ 0 := by
 unfold parse at h; split at h
 · rename_i g hg; cases h; exact scan_err hg
 · rename_i ts hs; have hp := parseToks_eq (scan_ok hs).1; rw [h] at hp; exact program_noZ _ _ _ hp
end Go.Proofs.YtmfabihndpidnaaGreatDoor
namespace Go.Proofs.YtmfabihndpidnaaGreatDoor
set_option linter.unusedVariables false
set_option linter.unusedSimpArgs false
def Cn.bare : Cn → Cn
 | .leaf f _ n => .leaf f 0 n
 | .norm _ n fw bw => .norm 0 n fw bw
 | .star _ a => .star 0 a.bare
 | .two c _ a b => .two c 0 a.bare b.bare
def Ln.bare : Ln → Ln
 | .copy k _ n => .copy k 0 n
 | .del _ n t => .del 0 n t
 | .ins _ t => .ins 0 t
 | .keyed _ a => .keyed 0 a.bare
 | .star _ a => .star 0 a.bare
 | .left _ q a => .left 0 q.bare a.bare
 | .right _ a q => .right 0 a.bare q.bare
 | .deflt _ a t => .deflt 0 a.bare t
 | .two o _ a b => .two o 0 a.bare b.bare
def Tm.bare : Tm → Tm
 | .text _ s => .text 0 s
 | .rx _ n => .rx 0 n
 | .canon c => .canon c.bare
 | .lens l => .lens l.bare
theorem Cn.bare_size (c : Cn) : c.bare.size = c.size := by
 induction c <;> simp_all [Cn.bare, Cn.size]
theorem Ln.bare_size (c : Ln) : c.bare.size = c.size := by
 induction c <;> simp_all [Ln.bare, Ln.size, Cn.bare_size]
theorem Tm.bare_size (t : Tm) : t.bare.size = t.size := by
 cases t <;> simp [Tm.bare, Tm.size, Cn.bare_size, Ln.bare_size]
def onT (x : Except Nat Tm) : Except Nat Tm := match x with | .error e => .error e | .ok t => .ok t.bare
theorem node_bare (t : Tm) : t.bare.node? = t.node? := by cases t <;> rfl
theorem needNode_bare (t : Tm) : needNode t.bare = needNode t := by unfold needNode; rw [node_bare]
theorem needText_bare (t : Tm) : needText t.bare = needText t := by cases t <;> rfl
theorem needCanon_bare (t : Tm) : needCanon t.bare = (match needCanon t with | .error e => .error e | .ok c => .ok c.bare) := by cases t <;> rfl
theorem needLens_bare (t : Tm) : needLens t.bare = (match needLens t with | .error e => .error e | .ok c => .ok c.bare) := by cases t <;> rfl
theorem chk_bare (t : Tm) : chk t.bare = onT (chk t) := by
 unfold chk; rw [Tm.bare_size]; split <;> rfl
theorem andThen_on {x : Except Nat Tm} {f g : Tm → Except Nat Tm} (h : ∀ t, g t.bare = onT (f t)) : andThen (onT x) g = onT (andThen x f) := by
 cases x with
 | error e => rfl
 | ok t => exact h t
theorem andThen_id {α : Type} {x : Except Nat α} {f g : α → Except Nat Tm} (h : ∀ t, g t = onT (f t)) : andThen x g = onT (andThen x f) := by
 cases x with
 | error e => rfl
 | ok t => exact h t
theorem andThen_canon {t : Tm} {f g : Cn → Except Nat Tm} (h : ∀ c, g c.bare = onT (f c)) : andThen (needCanon t.bare) g = onT (andThen (needCanon t) f) := by
 rw [needCanon_bare]; cases needCanon t with
 | error e => rfl
 | ok t => exact h t
theorem andThen_lens {t : Tm} {f g : Ln → Except Nat Tm} (h : ∀ c, g c.bare = onT (f c)) : andThen (needLens t.bare) g = onT (andThen (needLens t) f) := by
 rw [needLens_bare]; cases needLens t with
 | error e => rfl
 | ok t => exact h t
theorem mkUnary_bare (p : Nat) (op : Bs) (t : Tm) : mkUnary 0 op t.bare = onT (mkUnary p op t) := by
 unfold mkUnary; rw [node_bare]; cases t with
 | text q s => rfl
 | rx q n => rfl
 | canon c =>
  simp only [Tm.node?, Tm.bare]; split <;> rfl
 | lens l =>
  simp only [Tm.node?, Tm.bare, onT]; split
  · rfl
  · split <;> rfl
theorem mkBinary_bare (p : Nat) (op : Bs) (a b : Tm) : mkBinary 0 op a.bare b.bare = onT (mkBinary p op a b) := by
 unfold mkBinary; rw [node_bare, node_bare]; cases a <;> cases b <;> simp only [Tm.node?, Tm.bare] <;> (repeat' split) <;> rfl
theorem mkCall1_bare (p : Nat) (wd : Bs) (a : Tm) : mkCall1 0 wd a.bare = onT (mkCall1 p wd a) := by
 unfold mkCall1; rw [needNode_bare, needText_bare]; repeat' split
 all_goals exact andThen_id fun _ => rfl
theorem mkCall2_bare (p : Nat) (wd : Bs) (a b : Tm) : mkCall2 0 wd a.bare b.bare = onT (mkCall2 p wd a b) := by
 unfold mkCall2; rw [needNode_bare, needText_bare]; split
 · exact andThen_id fun _ => andThen_id fun _ => rfl
 · split
   · exact andThen_canon fun _ => andThen_lens fun _ => rfl
   · split
     · exact andThen_lens fun _ => andThen_canon fun _ => rfl
     · exact andThen_lens fun _ => andThen_id fun _ => rfl
theorem mkCall3_bare (p : Nat) (a b c : Tm) : mkCall3 0 a.bare b.bare c.bare = onT (mkCall3 p a b c) := by
 unfold mkCall3; rw [needNode_bare, needText_bare, needText_bare]; exact andThen_id fun _ => andThen_id fun _ => andThen_id fun _ => rfl
def Env.bare (env : Env) : Env := env.map fun x => (x.1, x.2.bare)
theorem get_bare : ∀ (env : Env) (s : Bs), Env.get env.bare s = (Env.get env s).map Tm.bare
 | [], s => rfl
 | (k, t) :: r, s => by
  have ih := get_bare r s; unfold Env.bare at ih ⊢; simp only [List.map_cons, Env.get]; split
  · rfl
  · exact ih
theorem mk_bare (env : Env) (e : Ex) : mk env.bare e.bare = onT (mk env e) := by
 induction e with
 | name p s =>
  simp only [Ex.bare, mk, get_bare]; cases env.get s <;> rfl
 | text p s => rfl
 | rx p s => exact andThen_id fun _ => rfl
 | keyed p a iha =>
  simp only [Ex.bare, mk, iha]; exact andThen_on fun t => andThen_lens fun l => chk_bare (.lens (.keyed p l))
 | unary p op a iha =>
  simp only [Ex.bare, mk, iha]; refine andThen_on fun t => ?_
  rw [mkUnary_bare p]; exact andThen_on chk_bare
 | binary p op a b iha ihb =>
  simp only [Ex.bare, mk, iha, ihb]; refine andThen_on fun t => andThen_on fun u => ?_
  rw [mkBinary_bare p]; exact andThen_on chk_bare
 | call1 p wd a iha =>
  simp only [Ex.bare, mk, iha]; refine andThen_on fun t => ?_
  rw [mkCall1_bare p]; exact andThen_on chk_bare
 | call2 p wd a b iha ihb =>
  simp only [Ex.bare, mk, iha, ihb]; refine andThen_on fun t => andThen_on fun u => ?_
  rw [mkCall2_bare p]; exact andThen_on chk_bare
 | call3 p wd a b c iha ihb ihc =>
  simp only [Ex.bare, mk, iha, ihb, ihc]; refine andThen_on fun t => andThen_on fun u => andThen_on fun v => ?_
  rw [mkCall3_bare p]; exact andThen_on chk_bare
theorem mkDefs_bare : ∀ (ds : List Def) (env : Env), mkDefs env.bare (ds.map Def.bare) = (match mkDefs env ds with | .error e => .error e | .ok v => .ok v.bare)
 | [], env => rfl
 | d :: ds, env => by
  have hn : d.bare.name = d.name := rfl; have hb : d.bare.body = d.body.bare := rfl; rw [List.map_cons, mkDefs, mkDefs, hn, hb, get_bare, mk_bare]; cases env.get d.name with
  | some t => rfl
  | none =>
   cases mk env d.body with
   | error e => rfl
   | ok t => exact mkDefs_bare ds ((d.name, t) :: env)
theorem elab_bare (p : Prog) : elabT p.bare = onT (elabT p) := by
 unfold elabT; have h := mkDefs_bare p.defs []; change mkDefs [] (p.defs.map Def.bare) = _ at h; simp only [Prog.bare, h]; cases mkDefs [] p.defs with
 | error e => rfl
 | ok env => exact mk_bare env p.main
theorem read_print {l : Bs} {p : Prog} (h : parse l = .ok p) (hl : (print p).length ≤ 4096) : onT (readT (print p)) = onT (readT l) := by
 obtain ⟨q, hq, hb⟩ := parse_print (parse_neat h) hl; unfold readT; rw [h, hq]; simp only; rw [← elab_bare, ← elab_bare, hb]
theorem onT_err {x y : Except Nat Tm} (h : onT x = onT y) {e : Nat} (hx : x = .error e) : y = .error e := by
 subst hx; cases y with
 | error f => exact h.symm
 | ok t => cases h
theorem onT_ok {x y : Except Nat Tm} (h : onT x = onT y) {t : Tm} (hx : x = .ok t) : ∃ u, y = .ok u ∧ t.bare = u.bare := by
 subst hx; cases y with
 | error f => cases h
 | ok u => exact ⟨u, rfl, by simpa [onT] using h⟩
def Cn.low : Cn → Prop
 | .leaf _ p _ => p ≤ 4096
 | .norm p _ _ _ => p ≤ 4096
 | .star p a => p ≤ 4096 ∧ a.low
 | .two _ p a b => p ≤ 4096 ∧ a.low ∧ b.low
def Ln.low : Ln → Prop
 | .copy _ p _ => p ≤ 4096
 | .del p _ _ => p ≤ 4096
 | .ins p _ => p ≤ 4096
 | .keyed p a => p ≤ 4096 ∧ a.low
 | .star p a => p ≤ 4096 ∧ a.low
 | .left p q a => p ≤ 4096 ∧ q.low ∧ a.low
 | .right p a q => p ≤ 4096 ∧ a.low ∧ q.low
 | .deflt p a _ => p ≤ 4096 ∧ a.low
 | .two _ p a b => p ≤ 4096 ∧ a.low ∧ b.low
def Tm.low : Tm → Prop
 | .text p _ => p ≤ 4096
 | .rx p _ => p ≤ 4096
 | .canon c => c.low
 | .lens l => l.low
theorem chk_low {t u : Tm} (h : t.low) (hc : chk t = .ok u) : u.low := by
 unfold chk at hc; split at hc
 · cases hc
 · cases hc; exact h
theorem mkUnary_low {p : Nat} {op : Bs} {t u : Tm} (hp : p ≤ 4096) (g : t.low) (h : mkUnary p op t = .ok u) : u.low := by
 unfold mkUnary at h; split at h
 · cases h; exact hp
 · split at h
   · split at h
     · cases h; exact ⟨hp, g⟩
     · cases h
   · cases h; simp only [Tm.low]; split
     · exact ⟨hp, g⟩
     · split
       · exact ⟨hp, g, hp, g⟩
       · exact ⟨hp, g, hp⟩
   · cases h
theorem mkBinary_low {p : Nat} {op : Bs} {a b u : Tm} (hp : p ≤ 4096) (ga : a.low) (gb : b.low) (h : mkBinary p op a b = .ok u) : u.low := by
 unfold mkBinary at h; split at h
 · split at h
   · cases h; exact hp
   · cases h
 · split at h
   · split at h
     · cases h; exact ⟨hp, ga, gb⟩
     · cases h
   · split at h
     · cases h; exact ⟨hp, ga, gb⟩
     · split at h
       · cases h; exact ⟨hp, ga, gb⟩
       · cases h
   · cases h
theorem mkCall1_low {p : Nat} {wd : Bs} {a u : Tm} (hp : p ≤ 4096) (h : mkCall1 p wd a = .ok u) : u.low := by
 unfold mkCall1 at h; repeat' split at h
 all_goals (obtain ⟨n, h1, h2⟩ := andThen_ok h; cases h2; exact hp)
theorem mkCall2_low {p : Nat} {wd : Bs} {a b u : Tm} (hp : p ≤ 4096) (ga : a.low) (gb : b.low) (h : mkCall2 p wd a b = .ok u) : u.low := by
 unfold mkCall2 at h; repeat' split at h
 all_goals (obtain ⟨n, h1, h⟩ := andThen_ok h; obtain ⟨t, h2, h⟩ := andThen_ok h; cases h)
 · exact hp
 · obtain rfl := needCanon_ok h1; obtain rfl := needLens_ok h2; exact ⟨hp, ga, gb⟩
 · obtain rfl := needLens_ok h1; obtain rfl := needCanon_ok h2; exact ⟨hp, ga, gb⟩
 · obtain rfl := needLens_ok h1; exact ⟨hp, ga⟩
theorem mkCall3_low {p : Nat} {a b c u : Tm} (hp : p ≤ 4096) (h : mkCall3 p a b c = .ok u) : u.low := by
 unfold mkCall3 at h; obtain ⟨n, h1, h⟩ := andThen_ok h; obtain ⟨t, h2, h⟩ := andThen_ok h; obtain ⟨v, h3, h⟩ := andThen_ok h; cases h; exact hp
def Env.low (env : Env) : Prop := ∀ s t, env.get s = some t → t.low
theorem mk_low {env : Env} (he : env.low) : ∀ {x : Ex} (hx : x.low) {t : Tm}, mk env x = .ok t → t.low := by
 intro x; induction x with
 | name p s =>
  intro hx t h; simp only [mk] at h; split at h
  · cases h; exact he s _ (by assumption)
  · cases h
 | text p s => intro hx t h; cases h; exact hx
 | rx p s =>
  intro hx t h; obtain ⟨n, h1, h2⟩ := andThen_ok h; cases h2; exact hx
 | call1 p wd a iha =>
  intro hx t h; obtain ⟨y, h1, h⟩ := andThen_ok h; obtain ⟨z, h2, h⟩ := andThen_ok h; exact chk_low (mkCall1_low hx.1 h2) h
 | call2 p wd a b iha ihb =>
  intro hx t h; obtain ⟨y, h1, h⟩ := andThen_ok h; obtain ⟨y2, h3, h⟩ := andThen_ok h; obtain ⟨z, h2, h⟩ := andThen_ok h; exact chk_low (mkCall2_low hx.1 (iha hx.2.1 h1) (ihb hx.2.2 h3) h2) h
 | call3 p wd a b c iha ihb ihc =>
  intro hx t h; obtain ⟨y, h1, h⟩ := andThen_ok h; obtain ⟨y2, h3, h⟩ := andThen_ok h; obtain ⟨y3, h4, h⟩ := andThen_ok h; obtain ⟨z, h2, h⟩ := andThen_ok h; exact chk_low (mkCall3_low hx.1 h2) h
 | keyed p a iha =>
  intro hx t h; obtain ⟨y, h1, h⟩ := andThen_ok h; obtain ⟨z, h2, h⟩ := andThen_ok h; obtain rfl := needLens_ok h2; exact chk_low (t := .lens (.keyed p z)) ⟨hx.1, iha hx.2 h1⟩ h
 | unary p op a iha =>
  intro hx t h; obtain ⟨y, h1, h⟩ := andThen_ok h; obtain ⟨z, h2, h⟩ := andThen_ok h; exact chk_low (mkUnary_low hx.1 (iha hx.2 h1) h2) h
 | binary p op a b iha ihb =>
  intro hx t h; obtain ⟨y, h1, h⟩ := andThen_ok h; obtain ⟨y2, h3, h⟩ := andThen_ok h; obtain ⟨z, h2, h⟩ := andThen_ok h; exact chk_low (mkBinary_low hx.1 (iha hx.2.1 h1) (ihb hx.2.2 h3) h2) h
theorem mkDefs_inv : ∀ (ds : List Def) (env v : Env), (∀ d ∈ ds, d.body.trim ∧ d.body.low) → env.good ∧ env.low → mkDefs env ds = .ok v → v.good ∧ v.low
 | [], env, v, _, he, h => by cases h; exact he
 | d :: ds, env, v, hd, he, h => by
  rw [mkDefs] at h; split at h
  · cases h
  · obtain ⟨t, h1, h2⟩ := andThen_ok h; obtain ⟨ht, hl⟩ := hd d (by simp); have g1 := mk_good he.1 ht h1; have g2 := mk_low he.2 hl h1; refine mkDefs_inv ds _ v (fun e hx => hd e (by simp [hx])) ⟨?_, ?_⟩ h2
    · intro s u hu; simp only [Env.get] at hu; split at hu
      · cases hu; exact g1
      · exact he.1 s u hu
    · intro s u hu; simp only [Env.get] at hu; split at hu
      · cases hu; exact g2
      · exact he.2 s u hu
theorem readT_good {l : Bs} {t : Tm} (h : readT l = .ok t) : t.good ∧ t.low := by
 unfold readT at h; split at h
 · cases h
 · rename_i p hp; obtain ⟨h1, h2, _⟩ := parse_good hp; unfold elabT at h; obtain ⟨env, he, h⟩ := andThen_ok h; have h0 : Env.good [] ∧ Env.low [] := ⟨fun s t h => (by cases h), fun s t h => (by cases h)⟩; have hE := mkDefs_inv p.defs [] env (fun d hd => (h1 d hd).2.2) h0 he; exact ⟨mk_good hE.1 h2.2.1.1 h, mk_low hE.2 h2.2.1.2 h⟩
end Go.Proofs.YtmfabihndpidnaaGreatDoor
namespace Go.Proofs.YtmfabihndpidnaaGreatDoor
set_option linter.unusedVariables false
set_option linter.unusedSimpArgs false
noncomputable def nodeT (n : Nd) : Bs := 47 :: n.show 0 ++ [47]
noncomputable def Cn.shown : Cn → Bs
 | .leaf f p n => headT (leafName f) p [nodeT n]
 | .norm p n fw bw => headT [110, 111, 114, 109] p [nodeT n, quote fw, quote bw]
 | .star p a => headT [115, 116, 97, 114] p [a.shown]
 | .two c p a b => headT (twoName c) p [a.shown, b.shown]
noncomputable def Ln.shown : Ln → Bs
 | .copy k p n => headT (copyName k) p [nodeT n]
 | .del p n t => headT [100, 101, 108] p [nodeT n, quote t]
 | .ins p t => headT [105, 110, 115] p [quote t]
 | .keyed p a => headT [107, 101, 121, 101, 100] p [a.shown]
 | .star p a => headT [115, 116, 97, 114] p [a.shown]
 | .left p q a => headT [108, 101, 102, 116] p [q.shown, a.shown]
 | .right p a q => headT [114, 105, 103, 104, 116] p [a.shown, q.shown]
 | .deflt p a t => headT [100, 101, 102, 97, 117, 108, 116] p [a.shown, quote t]
 | .two o p a b => headT o.name p [a.shown, b.shown]
noncomputable def Tm.shown : Tm → Bs
 | .text p s => headT [116, 101, 120, 116] p [quote s]
 | .rx p n => headT [114, 101, 103, 101, 120] p [nodeT n]
 | .canon c => c.shown
 | .lens l => l.shown
inductive Md where
 | out
 | dig
 | inq (q : UInt8)
def sgo : Md → Bs → Bs
 | _, [] => []
 | .out, c :: t => if c == 34 || c == 47 then c :: sgo (.inq c) t else if c == 64 then sgo .dig t else c :: sgo .out t
 | .dig, c :: t => if digit c then sgo .dig t else if c == 34 || c == 47 then c :: sgo (.inq c) t else if c == 64 then sgo .dig t else c :: sgo .out t
 | .inq q, [d] => if d == q then [q] else [d]
 | .inq q, d :: e :: t => if d == q then q :: sgo .out (e :: t) else if d == 92 then d :: e :: sgo (.inq q) t else d :: sgo (.inq q) (e :: t)
def Inq (q : UInt8) (s : Bs) : Prop := ∀ rest, sgo (.inq q) (s ++ q :: rest) = s ++ q :: sgo .out rest
theorem inq_end (q : UInt8) (rest : Bs) : sgo (.inq q) (q :: rest) = q :: sgo .out rest := by
 cases rest with
 | nil => simp [sgo]
 | cons e t =>
  have h : ∀ d, sgo (.inq q) (d :: e :: t) = if d == q then q :: sgo .out (e :: t) else if d == 92 then d :: e :: sgo (.inq q) t else d :: sgo (.inq q) (e :: t) := fun d => by conv => lhs; rw [sgo]
  rw [h, if_pos (by simp)]
def Pc (q : UInt8) (s : Bs) : Prop := ∀ rest, rest ≠ [] → sgo (.inq q) (s ++ rest) = s ++ sgo (.inq q) rest
theorem Pc.inq {q : UInt8} {s : Bs} (h : Pc q s) : Inq q s := fun rest => by rw [h _ (by simp), inq_end]
theorem Pc.nil {q : UInt8} : Pc q [] := fun rest _ => rfl
theorem Pc.app {q : UInt8} {s t : Bs} (h1 : Pc q s) (h2 : Pc q t) : Pc q (s ++ t) := fun rest hr => by
 rw [List.append_assoc, h1 _ (by simp [hr]), h2 _ hr, List.append_assoc]
theorem Pc.one {q c : UInt8} (h1 : c ≠ q) (h2 : c ≠ 92) : Pc q [c] := fun rest hr => by
 cases rest with
 | nil => exact absurd rfl hr
 | cons e t => rw [List.singleton_append, sgo, if_neg (by simpa using h1), if_neg (by simpa using h2)]; rfl
theorem Pc.esc {q : UInt8} (c : UInt8) (hq : q ≠ 92) : Pc q [92, c] := fun rest hr => by
 rw [List.cons_append, List.singleton_append, sgo, if_neg (by simpa using Ne.symm hq), if_pos (by simp)]; rfl
theorem hexd_plain : ∀ m : Fin 16, hexd m.val ≠ 92 ∧ hexd m.val ≠ 34 ∧ hexd m.val ≠ 47 := by decide
theorem Pc.hex {q : UInt8} (hq : q = 34 ∨ q = 47) (c : UInt8) : Pc q [92, 120, hexd (c.toNat / 16), hexd (c.toNat % 16)] := by
 have := c.toNat_lt; have h1 := hexd_plain ⟨c.toNat / 16, by omega⟩; have h2 := hexd_plain ⟨c.toNat % 16, by omega⟩; simp only at h1 h2; have e : Pc q [92, 120] := Pc.esc 120 (by rcases hq with rfl | rfl <;> decide); rcases hq with rfl | rfl
 · exact e.app ((Pc.one h1.2.1 h1.1).app (Pc.one h2.2.1 h2.1))
 · exact e.app ((Pc.one h1.2.2 h1.1).app (Pc.one h2.2.2 h2.1))
theorem quote1_pc (c : UInt8) : Pc 34 (quote1 c) := by
 unfold quote1; split
 · exact Pc.esc c (by decide)
 · rename_i h; simp only [Bool.or_eq_true, beq_iff_eq, not_or] at h; split
   · exact Pc.one h.1 h.2
   · repeat' split
     · exact Pc.esc _ (by decide)
     · exact Pc.esc _ (by decide)
     · exact Pc.esc _ (by decide)
     · exact Pc.hex (.inl rfl) c
theorem flat_pc (s : Bs) : Pc 34 (s.flatMap quote1) := by
 induction s with
 | nil => exact Pc.nil
 | cons c s ih => rw [List.flatMap_cons]; exact (quote1_pc c).app ih
theorem single_pc (c : UInt8) (b : Bs) (h1 : b.contains 47 = true) (h2 : b.contains 92 = true) : Pc 47 (single c b) := by
 unfold single; repeat' split
 · exact Pc.esc _ (by decide)
 · exact Pc.esc _ (by decide)
 · exact Pc.esc _ (by decide)
 · exact Pc.hex (.inr rfl) c
 · exact Pc.esc _ (by decide)
 · rename_i h; refine Pc.one ?_ ?_
   · rintro rfl; exact h h1
   · rintro rfl; exact h h2
theorem runText_pc (b e : Nat) : Pc 47 (runText b e) := by
 unfold runText; refine (single_pc _ _ (by decide) (by decide)).app (Pc.app ?_ ?_)
 · split
   · exact Pc.one (by decide) (by decide)
   · exact Pc.nil
 · split
   · exact single_pc _ _ (by decide) (by decide)
   · exact Pc.nil
theorem body_pc (s : Set4) : ∀ (k b : Nat) (out : Bs), Pc 47 out → Pc 47 (s.body k b out) := by
 intro k; induction k using Nat.strongRecOn with
 | ind k ih =>
  intro b out h; cases k with
  | zero => rw [Set4.body]; exact h
  | succ k =>
   rw [Set4.body]; split
   · exact ih _ (by omega) _ _ (h.app (runText_pc _ _))
   · exact ih _ (by omega) _ _ h
theorem set_pc (s : Set4) : Pc 47 s.show := by
 unfold Set4.show; split
 · exact single_pc _ _ (by decide) (by decide)
 · refine Pc.app ?_ (Pc.one (by decide) (by decide)); split
   · exact body_pc _ _ _ _ (Pc.app (s := [91]) (t := [94]) (Pc.one (by decide) (by decide)) (Pc.one (by decide) (by decide)))
   · exact body_pc _ _ _ _ (Pc.one (by decide) (by decide))
theorem parenR_pc {b : Bool} {s : Bs} (h : Pc 47 s) : Pc 47 (parenR b s) := by
 unfold parenR; split
 · exact Pc.app (s := [40]) (Pc.one (by decide) (by decide)) (h.app (Pc.one (by decide) (by decide)))
 · exact h
theorem Pc.cons {q c : UInt8} {s : Bs} (h1 : c ≠ q) (h2 : c ≠ 92) (h : Pc q s) : Pc q (c :: s) := (Pc.one h1 h2).app h
theorem show_pc (n : Nd) : ∀ need, Pc 47 (n.show need) := by
 induction n with
 | eps => exact fun need => parenR_pc (Pc.cons (by decide) (by decide) (Pc.one (by decide) (by decide)))
 | cls s => exact fun need => parenR_pc (set_pc s)
 | cat a b iha ihb => exact fun need => parenR_pc ((iha 2).app (ihb 3))
 | alt a b iha ihb => exact fun need => parenR_pc ((iha 0).app (Pc.cons (by decide) (by decide) (ihb 1)))
 | and a b iha ihb => exact fun need => parenR_pc ((iha 1).app (Pc.cons (by decide) (by decide) (ihb 2)))
 | minus a b iha ihb => exact fun need => parenR_pc ((iha 1).app (Pc.cons (by decide) (by decide) (ihb 2)))
 | star a iha => exact fun need => parenR_pc ((iha 3).app (Pc.one (by decide) (by decide)))
def Two (a b : Bs) : Prop := ∃ c, ∀ rest, sgo .out (a ++ rest) = c ++ sgo .out rest ∧ sgo .out (b ++ rest) = c ++ sgo .out rest
theorem Two.app {a b c d : Bs} (h1 : Two a b) (h2 : Two c d) : Two (a ++ c) (b ++ d) := by
 obtain ⟨x, hx⟩ := h1; obtain ⟨y, hy⟩ := h2; refine ⟨x ++ y, fun rest => ?_⟩; constructor
 · rw [List.append_assoc, (hx _).1, (hy _).1, List.append_assoc]
 · rw [List.append_assoc, (hx _).2, (hy _).2, List.append_assoc]
theorem Two.nil : Two [] [] := ⟨[], fun rest => ⟨rfl, rfl⟩⟩
theorem Two.one {c : UInt8} (h : c ≠ 34 ∧ c ≠ 47 ∧ c ≠ 64) : Two [c] [c] := by
 refine ⟨[c], fun rest => ?_⟩; have : sgo .out ([c] ++ rest) = [c] ++ sgo .out rest := by
  rw [List.singleton_append, sgo, if_neg (by simp [h.1, h.2.1]), if_neg (by simp [h.2.2])]; rfl
 exact ⟨this, this⟩
theorem Two.word : ∀ {s : Bs}, (∀ c ∈ s, c ≠ 34 ∧ c ≠ 47 ∧ c ≠ 64) → Two s s
 | [], _ => Two.nil
 | c :: s, h => Two.app (a := [c]) (b := [c]) (Two.one (h c (by simp))) (Two.word (s := s) fun d hd => h d (by simp [hd]))
theorem Two.quoted {q : UInt8} {s : Bs} (hq : q = 34 ∨ q = 47) (h : Pc q s) : Two (q :: (s ++ [q])) (q :: (s ++ [q])) := by
 refine ⟨q :: (s ++ [q]), fun rest => ?_⟩; have : sgo .out (q :: (s ++ [q]) ++ rest) = q :: (s ++ [q]) ++ sgo .out rest := by
  rw [List.cons_append, sgo, if_pos (by rcases hq with rfl | rfl <;> rfl), List.append_assoc, List.singleton_append, h.inq]; simp
 exact ⟨this, this⟩
theorem digits_go : ∀ (s rest : Bs), s.all digit = true → sgo .dig (s ++ rest) = sgo .dig rest
 | [], rest, _ => rfl
 | c :: s, rest, h => by
  simp only [List.all_cons, Bool.and_eq_true] at h; rw [List.cons_append, sgo, if_pos h.1, digits_go s rest h.2]
theorem itoa_digits (p : Nat) : (Lib.itoa (p : Int)).all digit = true := by
 rw [Lib.itoa_nonneg, Lib.decDigits_eq, List.all_eq_true]; intro c hc; obtain ⟨t, _, rfl⟩ := List.mem_map.1 hc; have key : ∀ m : Fin 10, digit (UInt8.ofNat (48 + m.val)) = true := by decide
 unfold Lib.dg; exact key ⟨_, Nat.mod_lt _ (by decide)⟩
theorem Two.place (p q : Nat) : Two (64 :: (Lib.itoa (p : Int) ++ [40])) (64 :: (Lib.itoa (q : Int) ++ [40])) := by
 have h : ∀ (p : Nat) rest, sgo .out (64 :: (Lib.itoa (p : Int) ++ [40]) ++ rest) = [40] ++ sgo .out rest := by
  intro p rest; rw [List.cons_append, sgo, if_neg (by decide), if_pos (by decide), List.append_assoc, digits_go _ _ (itoa_digits p), List.singleton_append, sgo, if_neg (by decide), if_neg (by decide), if_neg (by decide)]; rfl
 exact ⟨[40], fun rest => ⟨h p rest, h q rest⟩⟩
theorem Two.quote (s : Bs) : Two (quote s) (quote s) := Two.quoted (.inl rfl) (flat_pc s)
theorem Two.node (n : Nd) : Two (nodeT n) (nodeT n) := Two.quoted (.inr rfl) (show_pc n 0)
theorem Two.head {wd : Bs} {p q : Nat} {xs ys : List Bs} (hw : ∀ c ∈ wd, c ≠ 34 ∧ c ≠ 47 ∧ c ≠ 64) (h : Two (Lib.join xs [44]) (Lib.join ys [44])) : Two (headT wd p xs) (headT wd q ys) := by
 have := ((Two.word hw).app (Two.place p q)).app (h.app (Two.one (c := 41) (by decide))); simpa [headT] using this
theorem join2 (a b : Bs) : Lib.join [a, b] [44] = a ++ ([44] ++ b) := by simp [Lib.join_cons, Lib.joinTail]
theorem join3 (a b c : Bs) : Lib.join [a, b, c] [44] = a ++ ([44] ++ (b ++ ([44] ++ c))) := by simp [Lib.join_cons, Lib.joinTail]
theorem Two.h1 {wd : Bs} {p q : Nat} {a b : Bs} (hw : ∀ c ∈ wd, c ≠ 34 ∧ c ≠ 47 ∧ c ≠ 64) (h : Two a b) : Two (headT wd p [a]) (headT wd q [b]) := Two.head hw (by rw [Lib.join_one, Lib.join_one]; exact h)
theorem Two.h2 {wd : Bs} {p q : Nat} {a b c d : Bs} (hw : ∀ c ∈ wd, c ≠ 34 ∧ c ≠ 47 ∧ c ≠ 64) (h : Two a b) (k : Two c d) : Two (headT wd p [a, c]) (headT wd q [b, d]) := Two.head hw (by rw [join2, join2]; exact h.app ((Two.one (by decide)).app k))
theorem Two.h3 {wd : Bs} {p q : Nat} {a b c d e f : Bs} (hw : ∀ c ∈ wd, c ≠ 34 ∧ c ≠ 47 ∧ c ≠ 64) (h : Two a b) (k : Two c d) (m : Two e f) : Two (headT wd p [a, c, e]) (headT wd q [b, d, f]) := Two.head hw (by rw [join3, join3]; exact h.app ((Two.one (by decide)).app (k.app ((Two.one (by decide)).app m))))
theorem Cn.two_bare (c : Cn) : Two c.shown c.bare.shown := by
 induction c with
 | leaf f p n => exact Two.h1 (by cases f <;> decide) (Two.node n)
 | norm p n fw bw => exact Two.h3 (by decide) (Two.node n) (Two.quote _) (Two.quote _)
 | star p a iha => exact Two.h1 (by decide) iha
 | two c p a b iha ihb => exact Two.h2 (by cases c <;> decide) iha ihb
theorem Ln.two_bare (c : Ln) : Two c.shown c.bare.shown := by
 induction c with
 | copy f p n => exact Two.h1 (by cases f <;> decide) (Two.node n)
 | del p n t => exact Two.h2 (by decide) (Two.node n) (Two.quote _)
 | ins p t => exact Two.h1 (by decide) (Two.quote _)
 | keyed p a iha => exact Two.h1 (by decide) iha
 | star p a iha => exact Two.h1 (by decide) iha
 | left p q a iha => exact Two.h2 (by decide) (Cn.two_bare q) iha
 | right p a q iha => exact Two.h2 (by decide) iha (Cn.two_bare q)
 | deflt p a t iha => exact Two.h2 (by decide) iha (Two.quote _)
 | two o p a b iha ihb => exact Two.h2 (by cases o <;> decide) iha ihb
theorem Tm.two_bare (t : Tm) : Two t.shown t.bare.shown := by
 cases t with
 | text p s => exact Two.h1 (by decide) (Two.quote _)
 | rx p n => exact Two.h1 (by decide) (Two.node n)
 | canon c => exact c.two_bare
 | lens l => exact l.two_bare
theorem shown_agree {t u : Tm} (h : t.bare = u.bare) : sgo .out t.shown = sgo .out u.shown := by
 obtain ⟨x, hx⟩ := t.two_bare; obtain ⟨y, hy⟩ := u.two_bare; have h1 := hx []; have h2 := hy []; simp only [List.append_nil] at h1 h2; rw [h1.1, h2.1, ← h1.2, ← h2.2, h]
theorem runText_le (b e : Nat) : (runText b e).length ≤ 9 := runText_len b e
theorem body_le (s : Set4) : ∀ (k b : Nat) (out : Bs), (s.body k b out).length ≤ out.length + 9 * k := by
 intro k; induction k using Nat.strongRecOn with
 | ind k ih =>
  intro b out; cases k with
  | zero => rw [Set4.body]; omega
  | succ k =>
   rw [Set4.body]; split
   · have h1 := ih (k - (s.endOf 255 b - b)) (by omega) (s.endOf 255 b + 1) (out ++ runText b (s.endOf 255 b)); have h2 := runText_le b (s.endOf 255 b); simp only [List.length_append] at h1; omega
   · have := ih k (by omega) (b + 1) out; omega
theorem set_le (s : Set4) : s.show.length ≤ 2400 := by
 unfold Set4.show; split
 · have := single_len (UInt8.ofNat (s.next 256 0).1) specials; omega
 · rw [List.length_append]; split
   · have := body_le s.not 256 0 [91, 94]; simp at this ⊢; omega
   · have := body_le s 256 0 [91]; simp at this ⊢; omega
theorem parenR_le (b : Bool) (s : Bs) : (parenR b s).length ≤ s.length + 2 := by
 unfold parenR; split <;> simp
theorem show_le (n : Nd) : ∀ need, (n.show need).length ≤ 2500 * n.size := by
 induction n with
 | eps => intro need; rw [Nd.show]; refine Nat.le_trans (parenR_le _ _) ?_; simp [Nd.size]
 | cls s => intro need; rw [Nd.show]; refine Nat.le_trans (parenR_le _ _) ?_; have := set_le s; simp only [Nd.size]; omega
 | cat a b iha ihb => intro need; rw [Nd.show]; refine Nat.le_trans (parenR_le _ _) ?_; have h1 := iha 2; have h2 := ihb 3; simp only [Nd.size, List.length_append]; omega
 | alt a b iha ihb => intro need; rw [Nd.show]; refine Nat.le_trans (parenR_le _ _) ?_; have h1 := iha 0; have h2 := ihb 1; simp only [Nd.size, List.length_append, List.length_cons]; omega
 | and a b iha ihb => intro need; rw [Nd.show]; refine Nat.le_trans (parenR_le _ _) ?_; have h1 := iha 1; have h2 := ihb 2; simp only [Nd.size, List.length_append, List.length_cons]; omega
 | minus a b iha ihb => intro need; rw [Nd.show]; refine Nat.le_trans (parenR_le _ _) ?_; have h1 := iha 1; have h2 := ihb 2; simp only [Nd.size, List.length_append, List.length_cons]; omega
 | star a iha => intro need; rw [Nd.show]; refine Nat.le_trans (parenR_le _ _) ?_; have h1 := iha 3; simp only [Nd.size, List.length_append, List.length_cons, List.length_nil]; omega
theorem nodeT_le (n : Nd) : (nodeT n).length ≤ 2500 * n.size + 2 := by
 have := show_le n 0; simp only [nodeT, List.length_append, List.length_cons, List.length_nil]; omega
theorem quote1_le (c : UInt8) : (quote1 c).length ≤ 4 := by
 unfold quote1; repeat' split
 all_goals simp
theorem quote_le (s : Bs) : (quote s).length ≤ 4 * s.length + 2 := by
 have : (s.flatMap quote1).length ≤ 4 * s.length := by
  induction s with
  | nil => simp
  | cons c s ih => have := quote1_le c; simp only [List.flatMap_cons, List.length_append, List.length_cons]; omega
 simp only [quote, List.length_append, List.length_cons, List.length_nil]; omega
theorem head_le (wd : Bs) (p : Nat) (xs : List Bs) (hw : wd.length ≤ 7) (hp : p ≤ 4096) : (headT wd p xs).length ≤ 40 + (Lib.join xs [44]).length := by
 have := Lib.itoa_length_le (p : Int) (by omega) (by omega); simp only [headT, List.length_append, List.length_cons, List.length_nil]; omega
theorem head_le1 (wd : Bs) (p : Nat) (a : Bs) (hw : wd.length ≤ 7) (hp : p ≤ 4096) : (headT wd p [a]).length ≤ 40 + a.length := by
 have := head_le wd p [a] hw hp
 rwa [Lib.join_one] at this
theorem head_le2 (wd : Bs) (p : Nat) (a b : Bs) (hw : wd.length ≤ 7) (hp : p ≤ 4096) : (headT wd p [a, b]).length ≤ 41 + a.length + b.length := by
 have := head_le wd p [a, b] hw hp; rw [join2] at this; simp only [List.length_append, List.length_cons, List.length_nil] at this; omega
theorem head_le3 (wd : Bs) (p : Nat) (a b c : Bs) (hw : wd.length ≤ 7) (hp : p ≤ 4096) : (headT wd p [a, b, c]).length ≤ 42 + a.length + b.length + c.length := by
 have := head_le wd p [a, b, c] hw hp; rw [join3] at this; simp only [List.length_append, List.length_cons, List.length_nil] at this; omega
theorem Cn.shown_le (c : Cn) : c.low → c.txt → c.shown.length ≤ 1000000 * c.size := by
 induction c with
 | leaf f p n =>
  intro h1 h2; have := head_le1 (leafName f) p (nodeT n) (by cases f <;> decide) h1; have := nodeT_le n; simp only [Cn.shown, Cn.size]; omega
 | norm p n fw bw =>
  intro h1 h2; have := head_le3 [110, 111, 114, 109] p (nodeT n) (quote fw) (quote bw) (by decide) h1; have := nodeT_le n; have := quote_le fw; have := quote_le bw; have h3 : fw.length ≤ 100000 := h2.1; have h4 : bw.length ≤ 100000 := h2.2; simp only [Cn.shown, Cn.size]; omega
 | star p a iha =>
  intro h1 h2; have := head_le1 [115, 116, 97, 114] p a.shown (by decide) h1.1; have := iha h1.2 h2; simp only [Cn.shown, Cn.size]; omega
 | two c p a b iha ihb =>
  intro h1 h2; have := head_le2 (twoName c) p a.shown b.shown (by cases c <;> decide) h1.1; have := iha h1.2.1 h2.1; have := ihb h1.2.2 h2.2; simp only [Cn.shown, Cn.size]; omega
theorem Ln.shown_le (c : Ln) : c.low → c.txt → c.shown.length ≤ 1000000 * c.size := by
 induction c with
 | copy f p n =>
  intro h1 h2; have := head_le1 (copyName f) p (nodeT n) (by cases f <;> decide) h1; have := nodeT_le n; simp only [Ln.shown, Ln.size]; omega
 | del p n t =>
  intro h1 h2; have := head_le2 [100, 101, 108] p (nodeT n) (quote t) (by decide) h1; have := nodeT_le n; have := quote_le t; have h3 : t.length ≤ 100000 := h2; simp only [Ln.shown, Ln.size]; omega
 | ins p t =>
  intro h1 h2; have := head_le1 [105, 110, 115] p (quote t) (by decide) h1; have := quote_le t; have h3 : t.length ≤ 100000 := h2; simp only [Ln.shown, Ln.size]; omega
 | keyed p a iha =>
  intro h1 h2; have := head_le1 [107, 101, 121, 101, 100] p a.shown (by decide) h1.1; have := iha h1.2 h2; simp only [Ln.shown, Ln.size]; omega
 | star p a iha =>
  intro h1 h2; have := head_le1 [115, 116, 97, 114] p a.shown (by decide) h1.1; have := iha h1.2 h2; simp only [Ln.shown, Ln.size]; omega
 | left p q a iha =>
  intro h1 h2; have := head_le2 [108, 101, 102, 116] p q.shown a.shown (by decide) h1.1; have := q.shown_le h1.2.1 h2.1; have := iha h1.2.2 h2.2; simp only [Ln.shown, Ln.size]; omega
 | right p a q iha =>
  intro h1 h2; have := head_le2 [114, 105, 103, 104, 116] p a.shown q.shown (by decide) h1.1; have := q.shown_le h1.2.2 h2.1; have := iha h1.2.1 h2.2; simp only [Ln.shown, Ln.size]; omega
 | deflt p a t iha =>
  intro h1 h2; have := head_le2 [100, 101, 102, 97, 117, 108, 116] p a.shown (quote t) (by decide) h1.1; have := quote_le t; have h3 : t.length ≤ 100000 := h2.2; have := iha h1.2 h2.1; simp only [Ln.shown, Ln.size]; omega
 | two o p a b iha ihb =>
  intro h1 h2; have := head_le2 o.name p a.shown b.shown (by cases o <;> decide) h1.1; have := iha h1.2.1 h2.1; have := ihb h1.2.2 h2.2; simp only [Ln.shown, Ln.size]; omega
end Go.Proofs.YtmfabihndpidnaaGreatDoor
namespace Go.Proofs.YtmfabihndpidnaaGreatDoor
set_option linter.unusedVariables false
set_option linter.unusedSimpArgs false
def Ex.nodes : Ex → Nat
 | .name _ _ => 1
 | .text _ _ => 1
 | .rx _ _ => 1
 | .call1 _ _ a => 1 + a.nodes
 | .call2 _ _ a b => 1 + a.nodes + b.nodes
 | .call3 _ _ a b c => 1 + a.nodes + b.nodes + c.nodes
 | .keyed _ a => 1 + a.nodes
 | .unary _ _ a => 1 + a.nodes
 | .binary _ _ a b => 1 + a.nodes + b.nodes
def nsum (l : List Ex) : Nat := (l.map Ex.nodes).sum
structure NodesAll (n : Nat) : Prop where
 expr : ∀ lv st x st', pExpr n lv st = some (.ok (x, st')) → x.nodes + st'.1.length ≤ st.1.length
 loop : ∀ lv a st x st', pLoop n lv a st = some (.ok (x, st')) → x.nodes + st'.1.length ≤ a.nodes + st.1.length
 post : ∀ st x st', pPost n st = some (.ok (x, st')) → x.nodes + st'.1.length ≤ st.1.length
 ploop : ∀ a st x st', pPLoop n a st = some (.ok (x, st')) → x.nodes + st'.1.length ≤ a.nodes + st.1.length
 atom : ∀ st x st', pAtom n st = some (.ok (x, st')) → x.nodes + st'.1.length ≤ st.1.length
 call : ∀ st x st', pCall n st = some (.ok (x, st')) → x.nodes + st'.1.length ≤ st.1.length
 args : ∀ m acc st xs st', pArgs n m acc st = some (.ok (xs, st')) → nsum xs + st'.1.length ≤ nsum acc + st.1.length
theorem enter_len {m : Bs} {st s : PS} (h : enter m st = .ok s) : s.1.length + 1 = st.1.length := by
 obtain ⟨ts, o⟩ := st; cases ts with
 | nil => simp [enter] at h
 | cons t ts => obtain ⟨_, _, rfl⟩ := enter_ok h; rfl
theorem leave_len {m : Bs} {st s : PS} (h : leave m st = .ok s) : s.1.length < st.1.length := by
 obtain ⟨u, h1, rfl⟩ := leave_ok h; exact (want_adv h1).2
theorem mkCall_nodes (p : Nat) (wd : Bs) (l : List Ex) : (mkCall p wd l).nodes ≤ 1 + nsum l := by
 match l with
 | [] => simp [mkCall, Ex.nodes, nsum]
 | [a] => simp [mkCall, Ex.nodes, nsum]
 | [a, b] => simp [mkCall, Ex.nodes, nsum]; omega
 | [a, b, c] => simp [mkCall, Ex.nodes, nsum]; omega
 | a :: b :: c :: d :: r => simp [mkCall, Ex.nodes, nsum]
theorem nodesAll (n : Nat) : NodesAll n := by
 induction n with
 | zero =>
  refine ⟨?_, ?_, ?_, ?_, ?_, ?_, ?_⟩ <;> intros <;> simp_all [pExpr, pLoop, pPost, pPLoop, pAtom, pCall, pArgs]
 | succ n ih =>
  refine ⟨?_, ?_, ?_, ?_, ?_, ?_, ?_⟩
  · intro lv st x st' h; rw [pExpr] at h; by_cases hl : lv = 5
    · rw [if_pos hl] at h; exact ih.post _ _ _ h
    · rw [if_neg hl] at h; obtain ⟨⟨a, s1⟩, h1, h2⟩ := bind_ok h; have k1 := ih.expr _ _ _ _ h1; have k2 := ih.loop _ _ _ _ _ h2; simp only at k1 k2; omega
  · intro lv a st x st' h; obtain ⟨ts, o⟩ := st; cases ts with
    | nil => rw [pLoop] at h; cases h
    | cons t ts =>
     rw [pLoop] at h; by_cases hc : t.kind = 4 ∧ rank t.text = lv
     · rw [if_pos hc] at h; obtain ⟨⟨b, s1⟩, h1, h2⟩ := bind_ok h; have k1 := ih.expr _ _ _ _ h1; have k2 := ih.loop _ _ _ _ _ h2; simp only [Ex.nodes, List.length_cons] at k1 k2 ⊢; omega
     · rw [if_neg hc] at h; cases h; exact Nat.le_refl _
  · intro st x st' h; rw [pPost] at h; obtain ⟨⟨a, s1⟩, h1, h2⟩ := bind_ok h; have k1 := ih.atom _ _ _ h1; have k2 := ih.ploop _ _ _ _ h2; simp only at k1 k2; omega
  · intro a st x st' h; obtain ⟨ts, o⟩ := st; cases ts with
    | nil => rw [pPLoop] at h; cases h
    | cons t ts =>
     rw [pPLoop] at h; by_cases hc : (tkIs t [42] || tkIs t [43] || tkIs t [63]) = true
     · rw [if_pos hc] at h; have k2 := ih.ploop _ _ _ _ h; simp only [Ex.nodes, List.length_cons] at k2 ⊢; omega
     · rw [if_neg hc] at h; cases h; exact Nat.le_refl _
  · intro st x st' h; obtain ⟨ts, o⟩ := st; cases ts with
    | nil => rw [pAtom] at h; cases h
    | cons t ts =>
     rw [pAtom] at h; by_cases h2 : t.kind = 2
     · rw [if_pos h2] at h; cases h; simp only [Ex.nodes, List.length_cons]; omega
     rw [if_neg h2] at h; by_cases h3 : t.kind = 3
     · rw [if_pos h3] at h; cases h; simp only [Ex.nodes, List.length_cons]; omega
     rw [if_neg h3] at h; by_cases h4 : t.kind = 1 ∧ 0 < arity t.text
     · rw [if_pos h4] at h; exact ih.call _ _ _ h
     rw [if_neg h4] at h; by_cases h5 : t.kind = 1 ∧ arity t.text = 0
     · rw [if_pos h5] at h; cases h; simp only [Ex.nodes, List.length_cons]; omega
     rw [if_neg h5] at h; by_cases h6 : tkIs t [123] = true
     · rw [if_pos h6] at h; obtain ⟨s1, e1, h⟩ := bind_ok h; obtain ⟨⟨y, s2⟩, e2, h⟩ := bind_ok h; obtain ⟨s3, e3, h⟩ := bind_ok h; cases h; have k1 := enter_len (of_ok e1); have k2 := ih.expr _ _ _ _ e2; have k3 := leave_len (of_ok e3); simp only [Ex.nodes, List.length_cons] at k1 k2 k3 ⊢; omega
     rw [if_neg h6] at h; by_cases h7 : tkIs t [40] = true
     · rw [if_pos h7] at h; obtain ⟨s1, e1, h⟩ := bind_ok h; obtain ⟨⟨y, s2⟩, e2, h⟩ := bind_ok h; obtain ⟨s3, e3, h⟩ := bind_ok h; cases h; have k1 := enter_len (of_ok e1); have k2 := ih.expr _ _ _ _ e2; have k3 := leave_len (of_ok e3); simp only [List.length_cons] at k1 k2 k3 ⊢; omega
     rw [if_neg h7] at h; cases h
  · intro st x st' h; obtain ⟨ts, o⟩ := st; cases ts with
    | nil => rw [pCall] at h; cases h
    | cons t ts =>
     rw [pCall] at h; obtain ⟨s1, e1, h⟩ := bind_ok h; obtain ⟨⟨ys, s2⟩, e2, h⟩ := bind_ok h; obtain ⟨s3, e3, h⟩ := bind_ok h; cases h; have k1 := enter_len (of_ok e1); have k2 := ih.args _ _ _ _ _ e2; have k3 := leave_len (of_ok e3); have k4 := mkCall_nodes t.pl t.text ys; simp only [nsum, List.map_nil, List.sum_nil, List.length_cons] at k1 k2 k3 k4 ⊢; omega
  · intro m acc st xs st' h; cases m with
    | zero => rw [pArgs] at h; cases h; exact Nat.le_refl _
    | succ m =>
     rw [pArgs] at h; obtain ⟨s1, e1, h⟩ := bind_ok h; obtain ⟨⟨y, s2⟩, e2, h⟩ := bind_ok h; have hA : s1.1.length ≤ st.1.length := by
      by_cases ha : acc = []
      · rw [if_pos ha] at e1; cases e1; exact Nat.le_refl _
      · rw [if_neg ha] at e1; have := (want_adv (of_ok e1)).2; omega
     have k2 := ih.expr _ _ _ _ e2; have k3 := ih.args _ _ _ _ _ h; simp only [nsum, List.map_append, List.sum_append, List.map_cons, List.map_nil, List.sum_cons, List.sum_nil] at k3 ⊢; omega
theorem nameOk_len {wd : Bs} (h : 0 < arity wd) : wd.length ≤ 32 := (nameOk_arity (.inl h)).len
theorem isMark_len {m : Bs} (h : isMark m) : m.length ≤ 2 := by
 rcases h with rfl | ⟨c, _, rfl⟩ <;> simp
theorem paren_len (b : Bool) (s : Bs) : (paren b s).length ≤ s.length + 2 := by
 unfold paren; split <;> simp
theorem part_le {e : Ex} : Wf e → e.trim → ∀ need, (part e need).length ≤ 500000 * e.nodes := by
 induction e with
 | name p s =>
  intro h ht need; rw [part]; refine Nat.le_trans (paren_len _ _) ?_; have ht : s.length ≤ 100000 := ht; simp only [Ex.nodes]; omega
 | text p s =>
  intro h ht need; rw [part]; refine Nat.le_trans (paren_len _ _) ?_; have ht : s.length ≤ 100000 := ht; have := quote_le s; simp only [Ex.nodes]; omega
 | rx p s =>
  intro h ht need; rw [part]; refine Nat.le_trans (paren_len _ _) ?_; have ht : s.length ≤ 100000 := ht; simp only [Ex.nodes, List.length_cons, List.length_append, List.length_nil]; omega
 | keyed p a iha =>
  intro h ht need; rw [part]; refine Nat.le_trans (paren_len _ _) ?_; have := iha h ht 0; simp only [Ex.nodes, List.length_cons, List.length_append, List.length_nil]; omega
 | unary p op a iha =>
  intro h ht need; rw [part]; refine Nat.le_trans (paren_len _ _) ?_; have := iha h.2 ht 5; have := isMark_len (isMark_unary h.1); simp only [Ex.nodes, List.length_cons, List.length_append, List.length_nil]; omega
 | binary p op a b iha ihb =>
  intro h ht need; rw [part]; refine Nat.le_trans (paren_len _ _) ?_; have := iha h.2.2.1 ht.1 (rank op); have := ihb h.2.2.2 ht.2 (rank op + 1); have := isMark_len h.1; simp only [Ex.nodes, List.length_cons, List.length_append, List.length_nil]; omega
 | call1 p wd a iha =>
  intro h ht need; rw [part]; refine Nat.le_trans (paren_len _ _) ?_; have := iha h.2 ht 0; have := nameOk_len (wd := wd) (by rw [h.1]; omega); simp only [Ex.nodes, List.length_cons, List.length_append, List.length_nil]; omega
 | call2 p wd a b iha ihb =>
  intro h ht need; rw [part]; refine Nat.le_trans (paren_len _ _) ?_; have := iha h.2.1 ht.1 0; have := ihb h.2.2 ht.2 0; have := nameOk_len (wd := wd) (by rw [h.1]; omega); simp only [Ex.nodes, List.length_cons, List.length_append, List.length_nil]; omega
 | call3 p wd a b c iha ihb ihc =>
  intro h ht need; rw [part]; refine Nat.le_trans (paren_len _ _) ?_; have := iha h.2.1 ht.1 0; have := ihb h.2.2.1 ht.2.1 0; have := ihc h.2.2.2 ht.2.2 0; have := nameOk_len (wd := wd) (by rw [h.1]; omega); simp only [Ex.nodes, List.length_cons, List.length_append, List.length_nil]; omega
def dsum (l : List Def) : Nat := (l.map fun d => d.body.nodes).sum
theorem pDefs_nodes : ∀ (n : Nat) (acc : List Def) (st : PS) (xs : List Def) (st' : PS), pDefs n acc st = some (.ok (xs, st')) → dsum xs + st'.1.length ≤ dsum acc + st.1.length
 | 0, _, _, _, _, h => by cases h
 | n + 1, acc, ([], o), _, _, h => by simp [pDefs] at h; obtain ⟨rfl, rfl⟩ := h; exact Nat.le_refl _
 | n + 1, acc, ([t], o), _, _, h => by simp [pDefs] at h; obtain ⟨rfl, rfl⟩ := h; exact Nat.le_refl _
 | n + 1, acc, (t :: t2 :: ts, o), x, st', h => by
  rw [pDefs] at h; split at h
  · split at h
    · cases h
    · obtain ⟨s1, e1, h⟩ := bind_ok h; obtain ⟨⟨y, s2⟩, e2, h⟩ := bind_ok h; obtain ⟨s3, e3, h⟩ := bind_ok h; have k1 := (want_adv (of_ok e1)).2; have k2 := (nodesAll n).expr _ _ _ _ e2; have k3 := (want_adv (of_ok e3)).2; have k4 := pDefs_nodes n _ _ _ _ h; simp only [dsum, List.map_append, List.sum_append, List.map_cons, List.map_nil, List.sum_cons, List.sum_nil, List.length_cons] at k1 k2 k3 k4 ⊢; omega
  · cases h; exact Nat.le_refl _
theorem defs_le : ∀ (ds : List Def), (∀ d ∈ ds, DG d) → (ds.flatMap printDef).length ≤ 500000 * dsum ds + 100 * ds.length
 | [], _ => by simp [dsum]
 | d :: ds, h => by
  have hd := h d (by simp); have := defs_le ds (fun e he => h e (by simp [he])); have := part_le hd.1.2.2 hd.2.2.1 0; have := hd.1.1.len; simp only [dsum, List.flatMap_cons, List.length_append, List.map_cons, List.sum_cons, List.length_cons, printDef, List.length_nil] at *; omega
theorem print_le {l : Bs} {p : Prog} (h : parse l = .ok p) : (print p).length ≤ 10000000000 := by
 obtain ⟨g1, g2, g3⟩ := parse_good h; unfold parse at h; split at h
 · cases h
 · rename_i ts hs; have hok := scan_ok hs; have hp := parseToks_eq hok.1; rw [h] at hp; unfold program at hp; obtain ⟨⟨ds, s1⟩, e1, hp⟩ := bind_ok hp; obtain ⟨⟨x, s2⟩, e2, hp⟩ := bind_ok hp; have hpe : p = ⟨ds, x⟩ := by
    simp only at hp; split at hp
    · cases hp
    · split at hp
      · cases hp
      · cases hp; rfl
   subst hpe; have k1 := pDefs_nodes _ _ _ _ _ e1; have k2 := (nodesAll _).expr _ _ _ _ e2; have k3 := hok.2.2; have k4 := defs_le ds g1; have k5 := part_le g2.1 g2.2.1.1 0; simp only [dsum, List.map_nil, List.sum_nil] at k1 k4; simp only at g3 k2 k5; simp only [print, List.length_append, List.length_cons, List.length_nil]; have : (List.map (fun d => d.body.nodes) ds).sum ≤ 4097 := by omega
   have : x.nodes ≤ 4097 := by omega
   omega
end Go.Proofs.YtmfabihndpidnaaGreatDoor
