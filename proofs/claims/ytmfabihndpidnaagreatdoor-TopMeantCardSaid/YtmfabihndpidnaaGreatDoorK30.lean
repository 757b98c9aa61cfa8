/-
  Expressions over bytes: how many nodes they have.
-/
import Derived.Test.YtmfabihndpidnaaGreatDoorK29
import Derived.Test.YtmfabihndpidnaaGreatDoorK03
namespace Go.Proofs.YtmfabihndpidnaaGreatDoor
open Go.RowKit
set_option maxRecDepth 100000
set_option linter.unusedVariables false
set_option linter.unusedSimpArgs false
theorem getOp {l : List Oper} {i : Nat} {o : Oper} {r : List Oper} (h : l.drop i = o :: r) : l.toArray[i]? = some o := by
 rw [List.getElem?_toArray, ← List.head?_drop, h]; rfl
theorem sure_iface (ty : TypeId) (y : Value) (w : World) : Calls Tryz.prog 174 #[.iface ty y] w fun e w' => e = .returned (.iface ty y) ∧ w' = w := by
 go_enter Tryz.func174, Tryz.ntmps174; go_wp2_with fail; go_ret; exact ⟨rfl, rfl⟩
def SizeAt (n : Nd) : Prop := ∃ (ty : TypeId) (y : Value) (K : Nat), ndV n = .iface ty y ∧ (∀ w, (method 329 ty y "Size").run Tryz.prog w = .ok (K, y) w) ∧ (∀ args w, (callFunc K args).run Tryz.prog w = .ok (.enter K args) w) ∧
 ∀ w, Calls Tryz.prog K #[y] w fun e w' => e = .returned (.int .i64 (n.size : Int)) ∧ Keep none w w'
theorem size_eps : SizeAt .eps := by
 refine ⟨148, .agg #[], 178, rfl, fun _ => by kernel_rfl, Tryz.call178, fun w => ?_⟩; go_enter Tryz.func178, Tryz.ntmps178; go_wp2_with fail; go_ret; exact ⟨rfl, (Keep.refl _ _).alloc _⟩
theorem size_cls (s : Set4) : SizeAt (.cls s) := by
 refine ⟨180, s.val, 186, rfl, fun _ => by kernel_rfl, Tryz.call186, fun w => ?_⟩; unfold Set4.val; go_enter Tryz.func186, Tryz.ntmps186; go_wp2_with fail; go_ret; exact ⟨rfl, (Keep.refl _ _).alloc _⟩
theorem size_star (a : Nd) (ha : SizeAt a) (hb : a.size ≤ 1000000000) : SizeAt (.star a) := by
 obtain ⟨ty, y, K, hn, hm, hc, hk⟩ := ha; refine ⟨144, .agg #[.iface ty y], 173, by rw [ndV, hn], fun _ => by kernel_rfl, Tryz.call173, fun w => ?_⟩; have HK := yh hk; have HS := yh (show (Nd.star a).size = 1 + a.size from rfl); have h1 : IntKind.i64.wrap (1 + (a.size : Int)) = 1 + (a.size : Int) := IntWalk.i64_in _ (by omega); clear hk hn; go_enter Tryz.func173, Tryz.ntmps173; go_wp2_with (go_at_call 174; refine (sure_iface _ _ _).mono ?_; rintro e w' ⟨rfl, rfl⟩); refine (HK.out _).mono ?_; rintro e w1 ⟨rfl, k1⟩; go_wp2_with fail; go_ret; refine ⟨?_, ((Keep.refl _ _).alloc _).trans k1⟩
 rw [HS.out, show (((1 + a.size : Nat)) : Int) = 1 + (a.size : Int) by omega]; rfl
theorem size_cat (a b : Nd) (ha : SizeAt a) (hb : SizeAt b) (h1 : a.size ≤ 1000000000) (h2 : b.size ≤ 1000000000) : SizeAt (.cat a b) := by
 obtain ⟨ta, ya, Ka, hna, hma, hca, hka⟩ := ha; obtain ⟨tb, yb, Kb, hnb, hmb, hcb, hkb⟩ := hb; refine ⟨146, .agg #[.iface ta ya, .iface tb yb], 176, by rw [ndV, hna, hnb], fun _ => by kernel_rfl, Tryz.call176, fun w => ?_⟩; have HKA := yh hka; have HKB := yh hkb; have HS := yh (show (Nd.cat a b).size = 1 + a.size + b.size from rfl); have u1 : IntKind.i64.wrap (1 + (a.size : Int)) = 1 + (a.size : Int) := IntWalk.i64_in _ (by omega); have u2 : IntKind.i64.wrap (1 + (a.size : Int) + (b.size : Int)) = 1 + (a.size : Int) + (b.size : Int) := IntWalk.i64_in _ (by omega); clear hka hna hkb hnb
 go_enter Tryz.func176, Tryz.ntmps176; go_wp2_with fail; have HB := yh (Blk.new w [.iface ta ya, .iface tb yb] 146); have HKP := yh ((Keep.refl none w).alloc (.cells #[.iface ta ya, .iface tb yb] 146)); generalize w.alloc (.cells #[.iface ta ya, .iface tb yb] 146) = V at HB HKP ⊢; refine wp_region_pen (fun w' => ∀ q, w'.cell? ⟨w.heap.size, q, none⟩ = [Value.iface ta ya, .iface tb yb][q]?) 99 (by kernel_rfl) (by kernel_rfl) (fun c a d v w h => by cases d <;> exact h) (by exact HB.out.drew.cell) ?_; simp only [List.length_cons, List.length_nil]; replace HB := yh HB.out.drew; replace HKP := yh HKP.out.drew
 generalize V.drew = V0 at HB HKP ⊢; refine pen_list [0, 1, 5, 6] ?_; repeat
  (refine penl_stable (getOp rfl) (by decide +kernel) (fun K hK => ?_)
   rw [if_pos (by rfl)]; apply Exists.intro; refine ⟨fun w' hS' => ?_, hK _ ?_⟩
   · (try dsimp only at hS')
     go_simp; try with_reducible rfl
   clear hK K; simp only [Act.put, List.setIfInBounds_toArray, List.set])
 refine penl_end ?_; refine pen_active 2 (getOp rfl) (by decide +kernel) (fun K hK => ?_); rw [if_pos (by rfl)]; go_wp2_with fail; refine (sure_iface ta ya _).mono ?_; rintro e x ⟨rfl, rfl⟩; refine hK.out _ _ (HB.out.cell) ?_; clear hK K; try simp only [Act.put, List.setIfInBounds_toArray, List.set]
 refine pen_active 3 (getOp rfl) (by decide +kernel) (fun K hK => ?_); rw [if_pos (by rfl)]; go_wp2_with fail; refine (HKA.out _).mono ?_; rintro e x3 ⟨rfl, kx⟩; replace HB := yh (HB.out.keep kx (by simp)); replace HKP := yh (HKP.out.trans kx); clear kx; refine hK.out _ _ (HB.out.cell) ?_; clear hK K; try simp only [Act.put, List.setIfInBounds_toArray, List.set]
 refine pen_stable 4 (getOp rfl) (by decide +kernel) (fun K hK => ?_); rw [if_pos (by rfl)]; apply Exists.intro; refine ⟨fun w' hS' => ?_, hK _ ?_⟩
 · (try dsimp only at hS')
   go_simp; try with_reducible rfl
 clear hK K; simp only [Act.put, List.setIfInBounds_toArray, List.set]; refine pen_active 7 (getOp rfl) (by decide +kernel) (fun K hK => ?_); rw [if_pos (by rfl)]; go_wp2_with fail; refine (sure_iface tb yb _).mono ?_; rintro e x ⟨rfl, rfl⟩; refine hK.out _ _ (HB.out.cell) ?_; clear hK K; try simp only [Act.put, List.setIfInBounds_toArray, List.set]
 refine pen_active 8 (getOp rfl) (by decide +kernel) (fun K hK => ?_); rw [if_pos (by rfl)]; go_wp2_with fail; refine (HKB.out _).mono ?_; rintro e x8 ⟨rfl, kx⟩; replace HB := yh (HB.out.keep kx (by simp)); replace HKP := yh (HKP.out.trans kx); clear kx; refine hK.out _ _ (HB.out.cell) ?_; clear hK K; try simp only [Act.put, List.setIfInBounds_toArray, List.set]
 refine pen_list [9, 10] ?_; repeat
  (refine penl_stable (getOp rfl) (by decide +kernel) (fun K hK => ?_)
   rw [if_pos (by rfl)]; apply Exists.intro; refine ⟨fun w' hS' => ?_, hK _ ?_⟩
   · (try dsimp only at hS')
     go_simp; try with_reducible rfl
   clear hK K; simp only [Act.put, List.setIfInBounds_toArray, List.set])
 refine penl_end ?_; refine pen_done (by decide +kernel) ?_; go_wp2_with fail; go_ret; refine ⟨?_, HKP.out⟩; rw [HS.out, show (((1 + a.size + b.size : Nat)) : Int) = 1 + (a.size : Int) + (b.size : Int) by omega]; rfl
theorem size_alt (a b : Nd) (ha : SizeAt a) (hb : SizeAt b) (h1 : a.size ≤ 1000000000) (h2 : b.size ≤ 1000000000) : SizeAt (.alt a b) := by
 obtain ⟨ta, ya, Ka, hna, hma, hca, hka⟩ := ha; obtain ⟨tb, yb, Kb, hnb, hmb, hcb, hkb⟩ := hb; refine ⟨149, .agg #[.iface ta ya, .iface tb yb], 180, by rw [ndV, hna, hnb], fun _ => by kernel_rfl, Tryz.call180, fun w => ?_⟩; have HKA := yh hka; have HKB := yh hkb; have HS := yh (show (Nd.alt a b).size = 1 + a.size + b.size from rfl); have u1 : IntKind.i64.wrap (1 + (a.size : Int)) = 1 + (a.size : Int) := IntWalk.i64_in _ (by omega); have u2 : IntKind.i64.wrap (1 + (a.size : Int) + (b.size : Int)) = 1 + (a.size : Int) + (b.size : Int) := IntWalk.i64_in _ (by omega); clear hka hna hkb hnb
 go_enter Tryz.func180, Tryz.ntmps180; go_wp2_with fail; have HB := yh (Blk.new w [.iface ta ya, .iface tb yb] 149); have HKP := yh ((Keep.refl none w).alloc (.cells #[.iface ta ya, .iface tb yb] 149)); generalize w.alloc (.cells #[.iface ta ya, .iface tb yb] 149) = V at HB HKP ⊢; refine wp_region_pen (fun w' => ∀ q, w'.cell? ⟨w.heap.size, q, none⟩ = [Value.iface ta ya, .iface tb yb][q]?) 99 (by kernel_rfl) (by kernel_rfl) (fun c a d v w h => by cases d <;> exact h) (by exact HB.out.drew.cell) ?_; simp only [List.length_cons, List.length_nil]; replace HB := yh HB.out.drew; replace HKP := yh HKP.out.drew
 generalize V.drew = V0 at HB HKP ⊢; refine pen_list [0, 1, 5, 6] ?_; repeat
  (refine penl_stable (getOp rfl) (by decide +kernel) (fun K hK => ?_)
   rw [if_pos (by rfl)]; apply Exists.intro; refine ⟨fun w' hS' => ?_, hK _ ?_⟩
   · (try dsimp only at hS')
     go_simp; try with_reducible rfl
   clear hK K; simp only [Act.put, List.setIfInBounds_toArray, List.set])
 refine penl_end ?_; refine pen_active 2 (getOp rfl) (by decide +kernel) (fun K hK => ?_); rw [if_pos (by rfl)]; go_wp2_with fail; refine (sure_iface ta ya _).mono ?_; rintro e x ⟨rfl, rfl⟩; refine hK.out _ _ (HB.out.cell) ?_; clear hK K; try simp only [Act.put, List.setIfInBounds_toArray, List.set]
 refine pen_active 3 (getOp rfl) (by decide +kernel) (fun K hK => ?_); rw [if_pos (by rfl)]; go_wp2_with fail; refine (HKA.out _).mono ?_; rintro e x3 ⟨rfl, kx⟩; replace HB := yh (HB.out.keep kx (by simp)); replace HKP := yh (HKP.out.trans kx); clear kx; refine hK.out _ _ (HB.out.cell) ?_; clear hK K; try simp only [Act.put, List.setIfInBounds_toArray, List.set]
 refine pen_stable 4 (getOp rfl) (by decide +kernel) (fun K hK => ?_); rw [if_pos (by rfl)]; apply Exists.intro; refine ⟨fun w' hS' => ?_, hK _ ?_⟩
 · (try dsimp only at hS')
   go_simp; try with_reducible rfl
 clear hK K; simp only [Act.put, List.setIfInBounds_toArray, List.set]; refine pen_active 7 (getOp rfl) (by decide +kernel) (fun K hK => ?_); rw [if_pos (by rfl)]; go_wp2_with fail; refine (sure_iface tb yb _).mono ?_; rintro e x ⟨rfl, rfl⟩; refine hK.out _ _ (HB.out.cell) ?_; clear hK K; try simp only [Act.put, List.setIfInBounds_toArray, List.set]
 refine pen_active 8 (getOp rfl) (by decide +kernel) (fun K hK => ?_); rw [if_pos (by rfl)]; go_wp2_with fail; refine (HKB.out _).mono ?_; rintro e x8 ⟨rfl, kx⟩; replace HB := yh (HB.out.keep kx (by simp)); replace HKP := yh (HKP.out.trans kx); clear kx; refine hK.out _ _ (HB.out.cell) ?_; clear hK K; try simp only [Act.put, List.setIfInBounds_toArray, List.set]
 refine pen_list [9, 10] ?_; repeat
  (refine penl_stable (getOp rfl) (by decide +kernel) (fun K hK => ?_)
   rw [if_pos (by rfl)]; apply Exists.intro; refine ⟨fun w' hS' => ?_, hK _ ?_⟩
   · (try dsimp only at hS')
     go_simp; try with_reducible rfl
   clear hK K; simp only [Act.put, List.setIfInBounds_toArray, List.set])
 refine penl_end ?_; refine pen_done (by decide +kernel) ?_; go_wp2_with fail; go_ret; refine ⟨?_, HKP.out⟩; rw [HS.out, show (((1 + a.size + b.size : Nat)) : Int) = 1 + (a.size : Int) + (b.size : Int) by omega]; rfl
theorem size_and (a b : Nd) (ha : SizeAt a) (hb : SizeAt b) (h1 : a.size ≤ 1000000000) (h2 : b.size ≤ 1000000000) : SizeAt (.and a b) := by
 obtain ⟨ta, ya, Ka, hna, hma, hca, hka⟩ := ha; obtain ⟨tb, yb, Kb, hnb, hmb, hcb, hkb⟩ := hb; refine ⟨150, .agg #[.iface ta ya, .iface tb yb], 182, by rw [ndV, hna, hnb], fun _ => by kernel_rfl, Tryz.call182, fun w => ?_⟩; have HKA := yh hka; have HKB := yh hkb; have HS := yh (show (Nd.and a b).size = 1 + a.size + b.size from rfl); have u1 : IntKind.i64.wrap (1 + (a.size : Int)) = 1 + (a.size : Int) := IntWalk.i64_in _ (by omega); have u2 : IntKind.i64.wrap (1 + (a.size : Int) + (b.size : Int)) = 1 + (a.size : Int) + (b.size : Int) := IntWalk.i64_in _ (by omega); clear hka hna hkb hnb
 go_enter Tryz.func182, Tryz.ntmps182; go_wp2_with fail; have HB := yh (Blk.new w [.iface ta ya, .iface tb yb] 150); have HKP := yh ((Keep.refl none w).alloc (.cells #[.iface ta ya, .iface tb yb] 150)); generalize w.alloc (.cells #[.iface ta ya, .iface tb yb] 150) = V at HB HKP ⊢; refine wp_region_pen (fun w' => ∀ q, w'.cell? ⟨w.heap.size, q, none⟩ = [Value.iface ta ya, .iface tb yb][q]?) 99 (by kernel_rfl) (by kernel_rfl) (fun c a d v w h => by cases d <;> exact h) (by exact HB.out.drew.cell) ?_; simp only [List.length_cons, List.length_nil]; replace HB := yh HB.out.drew; replace HKP := yh HKP.out.drew
 generalize V.drew = V0 at HB HKP ⊢; refine pen_list [0, 1, 5, 6] ?_; repeat
  (refine penl_stable (getOp rfl) (by decide +kernel) (fun K hK => ?_)
   rw [if_pos (by rfl)]; apply Exists.intro; refine ⟨fun w' hS' => ?_, hK _ ?_⟩
   · (try dsimp only at hS')
     go_simp; try with_reducible rfl
   clear hK K; simp only [Act.put, List.setIfInBounds_toArray, List.set])
 refine penl_end ?_; refine pen_active 2 (getOp rfl) (by decide +kernel) (fun K hK => ?_); rw [if_pos (by rfl)]; go_wp2_with fail; refine (sure_iface ta ya _).mono ?_; rintro e x ⟨rfl, rfl⟩; refine hK.out _ _ (HB.out.cell) ?_; clear hK K; try simp only [Act.put, List.setIfInBounds_toArray, List.set]
 refine pen_active 3 (getOp rfl) (by decide +kernel) (fun K hK => ?_); rw [if_pos (by rfl)]; go_wp2_with fail; refine (HKA.out _).mono ?_; rintro e x3 ⟨rfl, kx⟩; replace HB := yh (HB.out.keep kx (by simp)); replace HKP := yh (HKP.out.trans kx); clear kx; refine hK.out _ _ (HB.out.cell) ?_; clear hK K; try simp only [Act.put, List.setIfInBounds_toArray, List.set]
 refine pen_stable 4 (getOp rfl) (by decide +kernel) (fun K hK => ?_); rw [if_pos (by rfl)]; apply Exists.intro; refine ⟨fun w' hS' => ?_, hK _ ?_⟩
 · (try dsimp only at hS')
   go_simp; try with_reducible rfl
 clear hK K; simp only [Act.put, List.setIfInBounds_toArray, List.set]; refine pen_active 7 (getOp rfl) (by decide +kernel) (fun K hK => ?_); rw [if_pos (by rfl)]; go_wp2_with fail; refine (sure_iface tb yb _).mono ?_; rintro e x ⟨rfl, rfl⟩; refine hK.out _ _ (HB.out.cell) ?_; clear hK K; try simp only [Act.put, List.setIfInBounds_toArray, List.set]
 refine pen_active 8 (getOp rfl) (by decide +kernel) (fun K hK => ?_); rw [if_pos (by rfl)]; go_wp2_with fail; refine (HKB.out _).mono ?_; rintro e x8 ⟨rfl, kx⟩; replace HB := yh (HB.out.keep kx (by simp)); replace HKP := yh (HKP.out.trans kx); clear kx; refine hK.out _ _ (HB.out.cell) ?_; clear hK K; try simp only [Act.put, List.setIfInBounds_toArray, List.set]
 refine pen_list [9, 10] ?_; repeat
  (refine penl_stable (getOp rfl) (by decide +kernel) (fun K hK => ?_)
   rw [if_pos (by rfl)]; apply Exists.intro; refine ⟨fun w' hS' => ?_, hK _ ?_⟩
   · (try dsimp only at hS')
     go_simp; try with_reducible rfl
   clear hK K; simp only [Act.put, List.setIfInBounds_toArray, List.set])
 refine penl_end ?_; refine pen_done (by decide +kernel) ?_; go_wp2_with fail; go_ret; refine ⟨?_, HKP.out⟩; rw [HS.out, show (((1 + a.size + b.size : Nat)) : Int) = 1 + (a.size : Int) + (b.size : Int) by omega]; rfl
theorem size_minus (a b : Nd) (ha : SizeAt a) (hb : SizeAt b) (h1 : a.size ≤ 1000000000) (h2 : b.size ≤ 1000000000) : SizeAt (.minus a b) := by
 obtain ⟨ta, ya, Ka, hna, hma, hca, hka⟩ := ha; obtain ⟨tb, yb, Kb, hnb, hmb, hcb, hkb⟩ := hb; refine ⟨151, .agg #[.iface ta ya, .iface tb yb], 184, by rw [ndV, hna, hnb], fun _ => by kernel_rfl, Tryz.call184, fun w => ?_⟩; have HKA := yh hka; have HKB := yh hkb; have HS := yh (show (Nd.minus a b).size = 1 + a.size + b.size from rfl); have u1 : IntKind.i64.wrap (1 + (a.size : Int)) = 1 + (a.size : Int) := IntWalk.i64_in _ (by omega); have u2 : IntKind.i64.wrap (1 + (a.size : Int) + (b.size : Int)) = 1 + (a.size : Int) + (b.size : Int) := IntWalk.i64_in _ (by omega); clear hka hna hkb hnb
 go_enter Tryz.func184, Tryz.ntmps184; go_wp2_with fail; have HB := yh (Blk.new w [.iface ta ya, .iface tb yb] 151); have HKP := yh ((Keep.refl none w).alloc (.cells #[.iface ta ya, .iface tb yb] 151)); generalize w.alloc (.cells #[.iface ta ya, .iface tb yb] 151) = V at HB HKP ⊢; refine wp_region_pen (fun w' => ∀ q, w'.cell? ⟨w.heap.size, q, none⟩ = [Value.iface ta ya, .iface tb yb][q]?) 99 (by kernel_rfl) (by kernel_rfl) (fun c a d v w h => by cases d <;> exact h) (by exact HB.out.drew.cell) ?_; simp only [List.length_cons, List.length_nil]; replace HB := yh HB.out.drew; replace HKP := yh HKP.out.drew
 generalize V.drew = V0 at HB HKP ⊢; refine pen_list [0, 1, 5, 6] ?_; repeat
  (refine penl_stable (getOp rfl) (by decide +kernel) (fun K hK => ?_)
   rw [if_pos (by rfl)]; apply Exists.intro; refine ⟨fun w' hS' => ?_, hK _ ?_⟩
   · (try dsimp only at hS')
     go_simp; try with_reducible rfl
   clear hK K; simp only [Act.put, List.setIfInBounds_toArray, List.set])
 refine penl_end ?_; refine pen_active 2 (getOp rfl) (by decide +kernel) (fun K hK => ?_); rw [if_pos (by rfl)]; go_wp2_with fail; refine (sure_iface ta ya _).mono ?_; rintro e x ⟨rfl, rfl⟩; refine hK.out _ _ (HB.out.cell) ?_; clear hK K; try simp only [Act.put, List.setIfInBounds_toArray, List.set]
 refine pen_active 3 (getOp rfl) (by decide +kernel) (fun K hK => ?_); rw [if_pos (by rfl)]; go_wp2_with fail; refine (HKA.out _).mono ?_; rintro e x3 ⟨rfl, kx⟩; replace HB := yh (HB.out.keep kx (by simp)); replace HKP := yh (HKP.out.trans kx); clear kx; refine hK.out _ _ (HB.out.cell) ?_; clear hK K; try simp only [Act.put, List.setIfInBounds_toArray, List.set]
 refine pen_stable 4 (getOp rfl) (by decide +kernel) (fun K hK => ?_); rw [if_pos (by rfl)]; apply Exists.intro; refine ⟨fun w' hS' => ?_, hK _ ?_⟩
 · (try dsimp only at hS')
   go_simp; try with_reducible rfl
 clear hK K; simp only [Act.put, List.setIfInBounds_toArray, List.set]; refine pen_active 7 (getOp rfl) (by decide +kernel) (fun K hK => ?_); rw [if_pos (by rfl)]; go_wp2_with fail; refine (sure_iface tb yb _).mono ?_; rintro e x ⟨rfl, rfl⟩; refine hK.out _ _ (HB.out.cell) ?_; clear hK K; try simp only [Act.put, List.setIfInBounds_toArray, List.set]
 refine pen_active 8 (getOp rfl) (by decide +kernel) (fun K hK => ?_); rw [if_pos (by rfl)]; go_wp2_with fail; refine (HKB.out _).mono ?_; rintro e x8 ⟨rfl, kx⟩; replace HB := yh (HB.out.keep kx (by simp)); replace HKP := yh (HKP.out.trans kx); clear kx; refine hK.out _ _ (HB.out.cell) ?_; clear hK K; try simp only [Act.put, List.setIfInBounds_toArray, List.set]
 refine pen_list [9, 10] ?_; repeat
  (refine penl_stable (getOp rfl) (by decide +kernel) (fun K hK => ?_)
   rw [if_pos (by rfl)]; apply Exists.intro; refine ⟨fun w' hS' => ?_, hK _ ?_⟩
   · (try dsimp only at hS')
     go_simp; try with_reducible rfl
   clear hK K; simp only [Act.put, List.setIfInBounds_toArray, List.set])
 refine penl_end ?_; refine pen_done (by decide +kernel) ?_; go_wp2_with fail; go_ret; refine ⟨?_, HKP.out⟩; rw [HS.out, show (((1 + a.size + b.size : Nat)) : Int) = 1 + (a.size : Int) + (b.size : Int) by omega]; rfl
theorem size_at : ∀ n : Nd, n.size ≤ 1000000000 → SizeAt n
 | .eps, _ => size_eps
 | .cls s, _ => size_cls s
 | .cat a b, h => size_cat a b (size_at a (by simp [Nd.size] at h; omega)) (size_at b (by simp [Nd.size] at h; omega)) (by simp [Nd.size] at h; omega) (by simp [Nd.size] at h; omega)
 | .alt a b, h => size_alt a b (size_at a (by simp [Nd.size] at h; omega)) (size_at b (by simp [Nd.size] at h; omega)) (by simp [Nd.size] at h; omega) (by simp [Nd.size] at h; omega)
 | .star a, h => size_star a (size_at a (by simp [Nd.size] at h; omega)) (by simp [Nd.size] at h; omega)
 | .and a b, h => size_and a b (size_at a (by simp [Nd.size] at h; omega)) (size_at b (by simp [Nd.size] at h; omega)) (by simp [Nd.size] at h; omega) (by simp [Nd.size] at h; omega)
 | .minus a b, h => size_minus a b (size_at a (by simp [Nd.size] at h; omega)) (size_at b (by simp [Nd.size] at h; omega)) (by simp [Nd.size] at h; omega) (by simp [Nd.size] at h; omega)
theorem nodeSize_some (n : Nd) (hn : n.size ≤ 1000000000) (w : World) : Calls Tryz.prog 40 #[ndV n] w fun e w' => e = .returned (.int .i64 (n.size : Int)) ∧ Keep none w w' := by
 obtain ⟨ty, y, K, hn, hm, hc, hk⟩ := size_at n hn; have HK := yh hk; rw [hn]; clear hk hn; go_enter Tryz.func40, Tryz.ntmps40; go_wp2_with fail; refine (HK.out _).mono ?_; rintro e w1 ⟨rfl, k1⟩; go_wp2_with fail; go_ret; exact ⟨rfl, k1⟩
theorem nodeSize_nil (w : World) : Calls Tryz.prog 40 #[.nilIface] w fun e w' => e = .returned (.int .i64 0) ∧ w' = w := by
 go_enter Tryz.func40, Tryz.ntmps40; go_wp2_with fail; go_ret; exact ⟨rfl, rfl⟩
def textSize (s : Bs) : Nat := max 1 (2 * s.length - 1)
theorem textSize_any (s : ByteArray) (hs : s.size ≤ 1000000000) (w : World) : Calls Tryz.prog 39 #[.string s] w fun e w' => e = .returned (.int .i64 ((textSize s.data.toList : Nat) : Int)) ∧ w' = w := by
 have h1 : IntKind.i64.wrap (2 * (s.size : Int)) = 2 * (s.size : Int) := IntWalk.i64_in _ (by omega); have h2 : IntKind.i64.wrap (2 * (s.size : Int) - 1) = 2 * (s.size : Int) - 1 := IntWalk.i64_in _ (by omega); have HL := yh (show s.data.toList.length = s.size by show s.data.toList.length = s.data.size; simp); go_enter Tryz.func39, Tryz.ntmps39; go_wp2_with fail; go_ret; refine ⟨?_, rfl⟩; unfold textSize; rw [HL.out]; simp [go_sem]; omega
end Go.Proofs.YtmfabihndpidnaaGreatDoor
