/-
  The parser of lens texts, whole: the tokens are read, and a fault comes back as a result.
-/
import Derived.Test.YtmfabihndpidnaaGreatDoorK11
import Derived.Test.YtmfabihndpidnaaGreatDoorK08
import Derived.Test.YtmfabihndpidnaaGreatDoorK02
import Derived.Laws.Pointers
namespace Go.Proofs.YtmfabihndpidnaaGreatDoor
set_option maxHeartbeats 8000000
open Go.RowKit
set_option maxRecDepth 100000
set_option linter.unusedVariables false
set_option linter.unusedSimpArgs false
theorem scan_ok {l : Bs} {ts : List Tok} (h : scan l = .ok ts) : Ends ts ∧ (∀ u ∈ ts, TokOk u) ∧ ts.length ≤ 4097 := by
 unfold scan at h; split at h
 · cases h
 · rename_i hl; have := scanAll_ok l (l.length + 1) l [] ts h (by omega) (fun r' c t q tk hr hsk ho => by
    have h1 := (one_adv ho).1; have h2 : (c :: t).length ≤ r'.length := by rw [← hsk]; exact skip_le _ _
    rw [List.length_drop]; simp at h1 h2 ⊢; omega) (by simp)
   exact ⟨this.1, this.2.1, by have := this.2.2; simp at this; omega⟩
theorem scan_fit {l : Bs} {ts : List Tok} (h : scan l = .ok ts) : Fit (ts, 0) :=
 ⟨(scan_ok h).1, fun t ht hk => by
  rcases (scan_ok h).2.1 t ht with ⟨h1, _⟩ | ⟨h1, _⟩ | h1 | ⟨h1, _⟩ | ⟨_, h1⟩
  · omega
  · omega
  · omega
  · omega
  · exact h1, by simp⟩
theorem Toks.of_own {w : World} {base g cap n : Nat} {ts : List Tok} (h : w.ownsRow base 96 3 (.slice (some ⟨g, 0, none⟩) n cap) n (tokCells ts)) : Toks w g 0 ts ∧ n ≤ cap ∧ cap ≤ maxLen := by
 rcases h.2 with ⟨h, _⟩ | ⟨g', cap', cur, hv, hb, hg, h1, h2, h3, h4⟩
 · cases h
 · cases hv; refine ⟨⟨cur, (0, 0), hg, fun i t ht => ?_⟩, h1, h2⟩; obtain ⟨a, b, c⟩ := tokCells_get ts i t ht; have key : ∀ (j : Nat) (v : Value), (tokCells ts)[j]? = some v → cur[j]? = some v := by
    intro j v hj; have hj2 := hj; rw [← h4, List.getElem?_take] at hj2; split at hj2
    · simpa using hj2
    · cases hj2
   rw [Nat.zero_add]; exact ⟨key _ _ a, key _ _ b, key _ _ c⟩
theorem run_assert26 (v : Value) (w : World) : (Instr.typeAssert (.iface 26 v) 20 26 false).run Tryz.prog w = .ok v w := by kernel_rfl
attribute [local go_sem ↓] run_assert26
def recovered (c p : Int) : FrameMode := .panicking [{ v := .iface 26 (faultV c p), recovered := true }]
theorem parse_catch (bo bf : Nat) (x a b d : Value) (c p : Int) (w : World) (ho : Blk w bo [x] 30) (hf : Blk w bf [a, b, d] 26) (hne : bo ≠ bf) :
 CallsD Tryz.prog 13 #[.pointer (some ⟨bo, 0, none⟩), .pointer (some ⟨bf, 0, none⟩)] (.panicking (flt c p)) w fun e u' w' =>
  e = .returned (.tuple #[]) ∧ u' = recovered c p ∧ Blk w' bo [.pointer none] 30 ∧ Blk w' bf [.int .i64 c, .int .i64 p, .string ⟨#[]⟩] 26 ∧ Below (min bo bf) w w' := by
 have h1 := ho.cell; have h2 := ho.frozen; have h3 := hf.cell; have h4 := hf.frozen; refine callsD_of_wpS Tryz.func13 rfl fun c₀ cs hu => ?_
 apply wpS_seq; apply wpS_region; simp [wpOpsS, go_sem, recoverD, hu, flt, Tryz.ntmps13, Exit.thenS]; refine wpS_of_wp ?_; change Code.wp _ _ _ { tmps := #[.pointer (some ⟨bo, 0, none⟩), .pointer (some ⟨bf, 0, none⟩), .iface 26 (faultV c p), .iface 26 (faultV c p), undef, undef, undef, undef], defers := [] } _; unfold faultV; go_wp2_with fail; go_region
 all_goals
  refine ⟨rfl, _, rfl, .tuple #[], by simp [results, Tryz.results13, go_sem], rfl, rfl, ?_, ?_, ?_⟩
 · exact ((((((ho.set 0 (.pointer none)).far _ _ hne).far _ _ hne).far _ _ hne)).drew)
 · exact (((((hf.far ⟨bo, 0, none⟩ (.pointer none) hne.symm).set 0 (.int .i64 c)).set 1 (.int .i64 p)).set 2 (.string ⟨#[]⟩)).drew)
 · have k1 := (Below.refl (min bo bf) w).setCell (p := ⟨bo, 0, none⟩) (Nat.min_le_left _ _) (.pointer none); have k2 := k1.setCell (p := ⟨bf, 0, none⟩) (Nat.min_le_right _ _) (.int .i64 c); have k3 := k2.setCell (p := ⟨bf, 1, none⟩) (Nat.min_le_right _ _) (.int .i64 p); exact (k3.setCell (p := ⟨bf, 2, none⟩) (Nat.min_le_right _ _) (.string ⟨#[]⟩)).drew
theorem parse_idle (p q : Addr) (w : World) :
 CallsD Tryz.prog 13 #[.pointer (some p), .pointer (some q)] .returning w fun e u' w' => e = .returned (.tuple #[]) ∧ u' = .returning ∧ w' = w := by
 refine callsD_of_wpS Tryz.func13 rfl fun c₀ cs hu => ?_
 apply wpS_seq; apply wpS_region; simp [wpOpsS, go_sem, recoverD, hu, Tryz.ntmps13, Exit.thenS]; refine wpS_of_wp ?_; change Code.wp _ _ _ { tmps := #[.pointer (some p), .pointer (some q), .nilIface, .nilIface, undef, undef, undef, undef], defers := [] } _; go_wp2_with fail; cases c₀; simp_all [bodyPostS, results, Tryz.results13, go_sem]
theorem run_load30 (g : Nat) (v : Value) (w : World) (h : Blk w g [v] 30) : (loadVar 30 ⟨g, 0, none⟩).run Tryz.prog w = .ok v w := by
 have hc := h.cell 0; simp only [List.getElem?_cons_zero] at hc; simp [go_sem, hc]
theorem results_pf {fn : Func} {p q : Tmp} (h : fn.results = #[.cell p 30, .cell q 26]) (tmps : Array Value) (w : World) (g k : Nat) (v a b c : Value)
 (hp : tmps.getD p undef = .pointer (some ⟨g, 0, none⟩)) (hq : tmps.getD q undef = .pointer (some ⟨k, 0, none⟩)) (hg : Blk w g [v] 30) (hk : Blk w k [a, b, c] 26) :
 (results fn tmps).run Tryz.prog w = .ok (.tuple #[v, .agg #[a, b, c]]) w := by
 have hp' : tmps[p]?.getD undef = .pointer (some ⟨g, 0, none⟩) := by simpa using hp
 have hq' : tmps[q]?.getD undef = .pointer (some ⟨k, 0, none⟩) := by simpa using hq
 simp [results, h, hp', hq', asAddr, run_load30 g v w hg, run_loadVar_row w k 26 26 #[a, b, c] (0, 0) _ hk Tryz.underlying26 rfl (by kernel_rfl)]
theorem Blk.three {w : World} {g : Nat} {a b c : Value} {t : TypeId} (h : Blk w g [a, b, c] t) (x y z : Value) :
 Blk (((w.setCell ⟨g, 0, none⟩ x).setCell ⟨g, 1, none⟩ y).setCell ⟨g, 2, none⟩ z) g [x, y, z] t := ((h.set 0 x).set 1 y).set 2 z
theorem Blk.far3 {w : World} {g k : Nat} {cs : List Value} {t : TypeId} (h : Blk w k cs t) (x y z : Value) (hne : k ≠ g) :
 Blk (((w.setCell ⟨g, 0, none⟩ x).setCell ⟨g, 1, none⟩ y).setCell ⟨g, 2, none⟩ z) k cs t := ((h.far _ _ hne).far _ _ hne).far _ _ hne
theorem Keep.three {r : Option Nat} {u w : World} {g : Nat} (h : Keep r u w) (x y z : Value) (hg : u.heap.size ≤ g) :
 Keep r u (((w.setCell ⟨g, 0, none⟩ x).setCell ⟨g, 1, none⟩ y).setCell ⟨g, 2, none⟩ z) := ((h.set ⟨g, 0, none⟩ x (.inr hg)).set ⟨g, 1, none⟩ y (.inr hg)).set ⟨g, 2, none⟩ z (.inr hg)
theorem Keep.three' {u w : World} {g : Nat} (h : Keep (some g) u w) (x y z : Value) :
 Keep (some g) u (((w.setCell ⟨g, 0, none⟩ x).setCell ⟨g, 1, none⟩ y).setCell ⟨g, 2, none⟩ z) := ((h.set ⟨g, 0, none⟩ x (.inl rfl)).set ⟨g, 1, none⟩ y (.inl rfl)).set ⟨g, 2, none⟩ z (.inl rfl)
theorem ProgV.up {w w' : World} {base b : Nat} {p : Prog} (h : ProgV w base b p) (hb : base ≤ b) (k : ∀ i, base ≤ i → w'.heap[i]? = w.heap[i]?) : ProgV w' base b p := by
 obtain ⟨sv, mv, vs, h1, h2, h3, h4⟩ := h; refine ⟨sv, mv, vs, (k b hb).trans h1, ⟨h2.1, ?_⟩, h3.far (fun i _ _ hi _ => k i hi), h4.far (fun i _ _ hi _ => k i hi)⟩; rcases h2.2 with h | ⟨g, cap, cur, hv, hbg, hg, hr⟩
 · exact .inl h
 · exact .inr ⟨g, cap, cur, hv, hbg, (k g hbg).trans hg, hr⟩
def ParseOut (w : World) (r : Except Flt Prog) (e : Ending) (w' : World) : Prop :=
 match r with
 | .error f => e = .returned (.tuple #[.pointer none, faultV f.code f.pl]) ∧ Keep none w w'
 | .ok p => ∃ b base, e = .returned (.tuple #[.pointer (some ⟨b, 0, none⟩), faultV 0 0]) ∧ w.heap.size ≤ base ∧ base ≤ b ∧ ProgV w' base b p ∧ Keep none w w'
theorem parse_walk (s : ByteArray) (w : World) (hr : Ranks w) (R : Except Flt Prog) (hR : parse s.data.toList = R) : Calls Tryz.prog 6 #[.string s] w (ParseOut w R) := by
 have hmf : ∀ (fn : Fn) (first cap : Array Value) (w : World), (Instr.makeFunc fn first cap).run Tryz.prog w = .ok (.func fn first cap) w := fun _ _ _ _ => rfl
 have HRK := yh hr; clear hr; unfold parse at hR; cases hx : scan s.data.toList with
 | error f =>
  rw [hx] at hR; subst hR; go_enter_defers Tryz.func6, Tryz.ntmps6; go_wp2_with fail; generalize hW : (w.alloc _).alloc _ = W; have BO : Blk W w.heap.size [.pointer none] 30 := by rw [← hW]; exact (Blk.new w _ 30).alloc _
  have BF : Blk W (w.heap.size + 1) [.int .i64 0, .int .i64 0, .string ⟨#[]⟩] 26 := by
   rw [← hW]; have := Blk.new (w.alloc (.cells #[.pointer none] 30)) [.int .i64 0, .int .i64 0, .string ⟨#[]⟩] 26; simpa using this
  have KW : Keep none w W := by rw [← hW]; exact ((Keep.refl _ _).alloc _).alloc _
  clear hW; refine (scan_walk s _ _ hx).mono ?_; rintro e w1 ⟨rfl, hk1⟩; have B1 := yh (BO.keep hk1 (by simp)); have F1 := yh (BF.keep hk1 (by simp)); have K1 := yh (KW.trans hk1); clear BO BF KW hk1; have hf1 := F1.out.frozen; have hc1 := F1.out.cell; have hcode := scan_err hx; have ho1 := B1.out.frozen; have hco1 := B1.out.cell; unfold faultV; go_wp2_with fail; go_region
  go_wp2_with fail; have hne : w.heap.size ≠ w.heap.size + 1 := by omega
  refine ⟨_, results_pf (by rfl) _ _ w.heap.size (w.heap.size + 1) _ _ _ _ rfl rfl ?_ ?_, rfl, ?_⟩
  · exact (((B1.out.far3 _ _ _ hne).set 0 (.pointer none)).far3 _ _ _ hne).drew
  · exact (((F1.out.three _ _ _).far _ _ hne.symm).three _ _ _).drew
  · exact (((K1.out.three _ _ _ (by omega)).set _ _ (.inr (Nat.le_refl _))).three _ _ _ (by omega)).drew
 | ok ts =>
  rw [hx] at hR; have hR : parseToks ts = R := hR; have hok := scan_ok hx; have hfit := scan_fit hx; have hprog := parseToks_eq hok.1; rw [hR] at hprog; go_enter_defers Tryz.func6, Tryz.ntmps6; go_wp2_with fail; generalize hW : (w.alloc _).alloc _ = W; have BO : Blk W w.heap.size [.pointer none] 30 := by rw [← hW]; exact (Blk.new w _ 30).alloc _
  have BF : Blk W (w.heap.size + 1) [.int .i64 0, .int .i64 0, .string ⟨#[]⟩] 26 := by
   rw [← hW]; have := Blk.new (w.alloc (.cells #[.pointer none] 30)) [.int .i64 0, .int .i64 0, .string ⟨#[]⟩] 26; simpa using this
  have KW : Keep none w W := by rw [← hW]; exact ((Keep.refl _ _).alloc _).alloc _
  clear hW; refine (scan_walk s _ _ hx).mono ?_; rintro e w1 ⟨sv, rfl, ⟨base, hbase, hown⟩, hk1⟩; obtain ⟨gt, cap, rfl, hgt, hgt2⟩ := hown.form (List.length_pos_iff.2 hok.1.ne); have hcap := (Toks.of_own hown).2; have hne : w.heap.size ≠ w.heap.size + 1 := by omega
  have hW2 : w.heap.size + 1 < W.heap.size := BF.lt; have hng : w.heap.size + 1 ≠ gt := by omega
  have T1 := yh (show Toks (((w1.setCell ⟨w.heap.size + 1, 0, none⟩ (.int .i64 0)).setCell ⟨w.heap.size + 1, 1, none⟩ (.int .i64 0)).setCell ⟨w.heap.size + 1, 2, none⟩ (.string ⟨#[]⟩)) gt 0 ts from (Toks.of_own hown).1.keep ((Keep.refl (some (w.heap.size + 1)) w1).three' _ _ _) (by simp; omega)); have B1 := yh ((BO.keep hk1 (by simp)).far3 (.int .i64 0) (.int .i64 0) (.string ⟨#[]⟩) hne); have F0 := BF.keep hk1 (by simp); have F1 := yh (F0.three (.int .i64 0) (.int .i64 0) (.string ⟨#[]⟩)); have K1 := yh ((KW.trans hk1).three (.int .i64 0) (.int .i64 0) (.string ⟨#[]⟩) (show w.heap.size ≤ w.heap.size + 1 by omega))
  have HOK := yh hok; have HFIT := yh hfit; have HPROG := yh hprog; have HCAP := yh hcap; clear BO BF KW hk1 hown hok hfit hprog hR hcap; have hf1 := F0.frozen; have hc1 := F0.cell; unfold faultV; go_wp2_with fail; clear hf1 hc1 F0; generalize hW1 : ((w1.setCell _ _).setCell _ _).setCell _ _ = W1 at *; have hsz : w1.heap.size = W1.heap.size := by rw [← hW1]; simp
  have htg : gt ≠ W1.heap.size := by omega
  have hw1 : w.heap.size + 1 < W1.heap.size := F1.out.lt; rw [hsz]; generalize hg : W1.heap.size = g at *; have hg0 : g = W1.heap.size := hg.symm; have KA : Keep none W1 (W1.alloc (.cells #[.slice (some ⟨gt, 0, none⟩) ts.length cap, .int .i64 0] 44)) := (Keep.refl _ _).alloc _; have PA : ParIs (W1.alloc (.cells #[.slice (some ⟨gt, 0, none⟩) ts.length cap, .int .i64 0] 44)) g gt ts 0 := by
   refine ⟨0, cap, ?_, T1.out.keep KA (by simp), htg, HCAP.out.1, HCAP.out.2⟩; rw [hg0]; exact Blk.new W1 _ 44
  have B2 := yh (B1.out.keep KA (by simp)); have F2 := yh (F1.out.keep KA (by simp)); have K2 := yh (K1.out.trans KA); have RK := HRK.out.keep0 K2.out; have hwp := program_walk g gt _ (ts, 0) R _ HPROG.out HFIT.out (by have := HOK.out.2.2; simp only; omega) PA RK; have hsz2 : (W1.alloc (.cells #[.slice (some ⟨gt, 0, none⟩) ts.length cap, .int .i64 0] 44)).heap.size = g + 1 := by rw [hg0]; simp
  generalize W1.alloc (.cells #[.slice (some ⟨gt, 0, none⟩) ts.length cap, .int .i64 0] 44) = W2 at *; clear PA RK KA T1 hW1; refine hwp.mono ?_; clear hwp; cases R with
  | error f =>
   rintro e w3 ⟨rfl, hk3⟩; have B3 := B2.out.keep hk3 (by simp; omega); have F3 := F2.out.keep hk3 (by simp; omega); have K3 := Keep.trans_new K2.out hk3 (by omega); dsimp only; refine leaves_cons (f := 13) (args := #[.pointer (some ⟨w.heap.size, 0, none⟩), .pointer (some ⟨w.heap.size + 1, 0, none⟩)]) (by simp) (by simp [go_sem]) ?_; refine (parse_catch w.heap.size (w.heap.size + 1) _ _ _ _ f.code f.pl _ B3 F3 hne).mono ?_; rintro e u' w4 ⟨rfl, rfl, ho4, hf4, hbl⟩; refine ⟨_, results_pf (by rfl) _ _ w.heap.size (w.heap.size + 1) _ _ _ _ rfl rfl ho4 hf4, rfl, ?_⟩; exact K3.below_trans hbl (by omega)
  | ok p =>
   rintro e w3 ⟨b, rfl, hp3, hb3, hk3⟩; have B3 := B2.out.keep hk3 (by simp; omega); have F3 := F2.out.keep hk3 (by simp; omega); have K3 := Keep.trans_new K2.out hk3 (by omega); have hf3 := F3.frozen; have hc3 := F3.cell; have ho3 := B3.frozen; have hco3 := B3.cell; dsimp only; go_wp2_with fail; refine leaves_cons (f := 13) (args := #[.pointer (some ⟨w.heap.size, 0, none⟩), .pointer (some ⟨w.heap.size + 1, 0, none⟩)]) (by simp) (by simp [go_sem]) ?_; refine (parse_idle _ _ _).mono ?_; rintro e u' w4 ⟨rfl, rfl, rfl⟩; refine ⟨_, results_pf (by rfl) _ _ w.heap.size (w.heap.size + 1) _ _ _ _ rfl rfl ((B3.set 0 (.pointer (some ⟨b, 0, none⟩))).far3 _ _ _ hne) ((F3.far _ _ hne.symm).three _ _ _), ?_⟩
   refine ⟨b, W2.heap.size, rfl, K2.out.size, hb3, hp3.up hb3 ?_, (K3.set _ _ (.inr (Nat.le_refl _))).three _ _ _ (by omega)⟩; intro i hi; have e1 : i ≠ w.heap.size := by omega
   have e2 : i ≠ w.heap.size + 1 := by omega
   rw [Below.heap_setCell _ _ _ _ e2, Below.heap_setCell _ _ _ _ e2, Below.heap_setCell _ _ _ _ e2, Below.heap_setCell _ _ _ _ e1]
end Go.Proofs.YtmfabihndpidnaaGreatDoor
