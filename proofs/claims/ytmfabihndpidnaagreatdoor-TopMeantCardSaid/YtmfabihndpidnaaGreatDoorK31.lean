/-
  Expressions over bytes: the printed text.
-/
import Derived.Test.YtmfabihndpidnaaGreatDoorK30
import Derived.Test.YtmfabihndpidnaaGreatDoorK03
namespace Go.Proofs.YtmfabihndpidnaaGreatDoor
set_option maxHeartbeats 4000000
open Go.RowKit
set_option maxRecDepth 100000
set_option linter.unusedVariables false
set_option linter.unusedSimpArgs false
theorem run_nd_148_148 (v : Value) : AsT 148 80 148 v (.tuple #[v, .bool true]) := fun w => by kernel_rfl
theorem run_nd_180_148 (v : Value) : AsT 180 80 148 v (.tuple #[(.agg #[]), .bool false]) := fun w => by kernel_rfl
theorem run_nd_180_180 (v : Value) : AsT 180 80 180 v (.tuple #[v, .bool true]) := fun w => by kernel_rfl
theorem run_nd_149_148 (v : Value) : AsT 149 80 148 v (.tuple #[(.agg #[]), .bool false]) := fun w => by kernel_rfl
theorem run_nd_149_180 (v : Value) : AsT 149 80 180 v (.tuple #[(.agg #[.int .u64 0, .int .u64 0, .int .u64 0, .int .u64 0]), .bool false]) := fun w => by kernel_rfl
theorem run_nd_149_149 (v : Value) : AsT 149 80 149 v (.tuple #[v, .bool true]) := fun w => by kernel_rfl
theorem run_nd_150_148 (v : Value) : AsT 150 80 148 v (.tuple #[(.agg #[]), .bool false]) := fun w => by kernel_rfl
theorem run_nd_150_180 (v : Value) : AsT 150 80 180 v (.tuple #[(.agg #[.int .u64 0, .int .u64 0, .int .u64 0, .int .u64 0]), .bool false]) := fun w => by kernel_rfl
theorem run_nd_150_149 (v : Value) : AsT 150 80 149 v (.tuple #[(.agg #[.nilIface, .nilIface]), .bool false]) := fun w => by kernel_rfl
theorem run_nd_150_150 (v : Value) : AsT 150 80 150 v (.tuple #[v, .bool true]) := fun w => by kernel_rfl
theorem run_nd_151_148 (v : Value) : AsT 151 80 148 v (.tuple #[(.agg #[]), .bool false]) := fun w => by kernel_rfl
theorem run_nd_151_180 (v : Value) : AsT 151 80 180 v (.tuple #[(.agg #[.int .u64 0, .int .u64 0, .int .u64 0, .int .u64 0]), .bool false]) := fun w => by kernel_rfl
theorem run_nd_151_149 (v : Value) : AsT 151 80 149 v (.tuple #[(.agg #[.nilIface, .nilIface]), .bool false]) := fun w => by kernel_rfl
theorem run_nd_151_150 (v : Value) : AsT 151 80 150 v (.tuple #[(.agg #[.nilIface, .nilIface]), .bool false]) := fun w => by kernel_rfl
theorem run_nd_151_151 (v : Value) : AsT 151 80 151 v (.tuple #[v, .bool true]) := fun w => by kernel_rfl
theorem run_nd_146_148 (v : Value) : AsT 146 80 148 v (.tuple #[(.agg #[]), .bool false]) := fun w => by kernel_rfl
theorem run_nd_146_180 (v : Value) : AsT 146 80 180 v (.tuple #[(.agg #[.int .u64 0, .int .u64 0, .int .u64 0, .int .u64 0]), .bool false]) := fun w => by kernel_rfl
theorem run_nd_146_149 (v : Value) : AsT 146 80 149 v (.tuple #[(.agg #[.nilIface, .nilIface]), .bool false]) := fun w => by kernel_rfl
theorem run_nd_146_150 (v : Value) : AsT 146 80 150 v (.tuple #[(.agg #[.nilIface, .nilIface]), .bool false]) := fun w => by kernel_rfl
theorem run_nd_146_151 (v : Value) : AsT 146 80 151 v (.tuple #[(.agg #[.nilIface, .nilIface]), .bool false]) := fun w => by kernel_rfl
theorem run_nd_146_146 (v : Value) : AsT 146 80 146 v (.tuple #[v, .bool true]) := fun w => by kernel_rfl
theorem run_nd_144_148 (v : Value) : AsT 144 80 148 v (.tuple #[(.agg #[]), .bool false]) := fun w => by kernel_rfl
theorem run_nd_144_180 (v : Value) : AsT 144 80 180 v (.tuple #[(.agg #[.int .u64 0, .int .u64 0, .int .u64 0, .int .u64 0]), .bool false]) := fun w => by kernel_rfl
theorem run_nd_144_149 (v : Value) : AsT 144 80 149 v (.tuple #[(.agg #[.nilIface, .nilIface]), .bool false]) := fun w => by kernel_rfl
theorem run_nd_144_150 (v : Value) : AsT 144 80 150 v (.tuple #[(.agg #[.nilIface, .nilIface]), .bool false]) := fun w => by kernel_rfl
theorem run_nd_144_151 (v : Value) : AsT 144 80 151 v (.tuple #[(.agg #[.nilIface, .nilIface]), .bool false]) := fun w => by kernel_rfl
theorem run_nd_144_146 (v : Value) : AsT 144 80 146 v (.tuple #[(.agg #[.nilIface, .nilIface]), .bool false]) := fun w => by kernel_rfl
theorem run_nd_144_144 (v : Value) : AsT 144 80 144 v (.tuple #[v, .bool true]) := fun w => by kernel_rfl
theorem parenR_len (b : Bool) (l : Bs) : l.length ≤ (parenR b l).length := by
 unfold parenR; split
 · simp; omega
 · exact Nat.le_refl _
attribute [local go_sem ↓] run_nd_148_148 run_nd_180_148 run_nd_180_180 run_nd_149_148 run_nd_149_180 run_nd_149_149 run_nd_150_148 run_nd_150_180 run_nd_150_149 run_nd_150_150 run_nd_151_148 run_nd_151_180 run_nd_151_149 run_nd_151_150 run_nd_151_151 run_nd_146_148 run_nd_146_180 run_nd_146_149 run_nd_146_150 run_nd_146_151 run_nd_146_146 run_nd_144_148 run_nd_144_180 run_nd_144_149 run_nd_144_150 run_nd_144_151 run_nd_144_146 run_nd_144_144
theorem show_eps  (need : Nat) (hlt : need ≤ 1000) (w : World) (hE : Escs w) (SH : Bs) (hS : (Nd.eps).show need = SH) (hl : SH.length ≤ 1099511627776) : Calls Tryz.prog 70 #[ndV (Nd.eps), .int .i64 (need : Int)] w fun e w' => e = .returned (.string (mkS SH)) ∧ Keep none w w' := by
 rw [ndV]; rw [Nd.show, parenR] at hS; clear hE hl; by_cases hneed : 4 < need
 · have d0 : ((4 : Int) < (need : Int)) := by omega
   rw [if_pos (by simpa using hneed)] at hS; subst hS; have c2 : (ByteArray.mk #[40]) ++ (ByteArray.mk #[40, 41]) = mkS [40, 40, 41] := cat_l [40] [40, 41]; have c4 : mkS [40, 40, 41] ++ (ByteArray.mk #[41]) = mkS [40, 40, 41, 41] := cat_l [40, 40, 41] [41]; go_enter Tryz.func70, Tryz.ntmps70; go_wp2_with fail; go_ret; exact ⟨rfl, (Keep.refl _ _).alloc _⟩
 · have d0 : ¬ ((4 : Int) < (need : Int)) := by omega
   rw [if_neg (by simpa using hneed)] at hS; subst hS; go_enter Tryz.func70, Tryz.ntmps70; go_wp2_with fail; go_ret; exact ⟨rfl, (Keep.refl _ _).alloc _⟩
theorem show_cls (s : Set4) (need : Nat) (hlt : need ≤ 1000) (w : World) (hE : Escs w) (SH : Bs) (hS : (Nd.cls s).show need = SH) (hl : SH.length ≤ 1099511627776) : Calls Tryz.prog 70 #[ndV (Nd.cls s), .int .i64 (need : Int)] w fun e w' => e = .returned (.string (mkS SH)) ∧ Keep none w w' := by
 obtain ⟨T, hT⟩ : ∃ T : Bs, s.show = T := ⟨_, rfl⟩; have HS := yh (show SH = parenR (decide (4 < need)) T from by rw [← hS, Nd.show, hT]); have hTl : T.length ≤ 1099511627776 := by
  have := parenR_len (decide (4 < need)) T; rw [← HS.out] at this; omega
 have HT := yh (fun V (h : Escs V) => show_any s V h); rw [hT] at HT; rw [ndV]; have HE := yh hE; clear hS hl hT hE; unfold Set4.val at HT ⊢; go_enter Tryz.func70, Tryz.ntmps70; go_wp2_with fail; refine (HT.out _ (HE.out.keep ((Keep.refl _ _).alloc _))).mono ?_; rintro e x1 ⟨rfl, k1⟩; have KP := yh (((Keep.refl none w).alloc _).trans k1); clear k1 HT; by_cases hneed : 4 < need
 · have d0 : ((4 : Int) < (need : Int)) := by omega
   have c1 : ¬ 9223372036854775807 < 1 + T.length := by omega
   have c2 : (ByteArray.mk #[40]) ++ mkS T = mkS (40 :: T) := cat_l [40] T; have c3 : ¬ 9223372036854775807 < T.length + 1 + 1 := by omega
   have c4 : mkS (40 :: T) ++ (ByteArray.mk #[41]) = mkS (40 :: (T ++ [41])) := cat_l (40 :: T) [41]; have hsh : SH = 40 :: (T ++ [41]) := by rw [HS.out, parenR, if_pos (by simpa using hneed)]
   subst hsh; go_wp2_with fail; clear c1 c2 c3 c4; go_ret; exact ⟨rfl, KP.out⟩
 · have d0 : ¬ ((4 : Int) < (need : Int)) := by omega
   have hsh : SH = T := by rw [HS.out, parenR, if_neg (by simpa using hneed)]
   subst hsh; go_wp2_with fail; go_ret; exact ⟨rfl, KP.out⟩
theorem show_alt (a b : Nd) (need : Nat) (hlt : need ≤ 1000) (iha : ∀ need : Nat, need ≤ 1000 → ∀ (w : World), Escs w → ∀ SH, a.show need = SH → SH.length ≤ 1099511627776 → Calls Tryz.prog 70 #[ndV a, .int .i64 (need : Int)] w fun e w' => e = .returned (.string (mkS SH)) ∧ Keep none w w') (ihb : ∀ need : Nat, need ≤ 1000 → ∀ (w : World), Escs w → ∀ SH, b.show need = SH → SH.length ≤ 1099511627776 → Calls Tryz.prog 70 #[ndV b, .int .i64 (need : Int)] w fun e w' => e = .returned (.string (mkS SH)) ∧ Keep none w w') (w : World) (hE : Escs w) (SH : Bs) (hS : (Nd.alt a b).show need = SH) (hl : SH.length ≤ 1099511627776) : Calls Tryz.prog 70 #[ndV (Nd.alt a b), .int .i64 (need : Int)] w fun e w' => e = .returned (.string (mkS SH)) ∧ Keep none w w' := by
 obtain ⟨A, hA⟩ : ∃ A : Bs, a.show 0 = A := ⟨_, rfl⟩; obtain ⟨B, hB⟩ : ∃ B : Bs, b.show 1 = B := ⟨_, rfl⟩; obtain ⟨T, hT⟩ : ∃ T : Bs, A ++ 124 :: B = T := ⟨_, rfl⟩; have HS := yh (show SH = parenR (decide (0 < need)) T from by rw [← hS, Nd.show, hA, hB, hT]); have hTl : T.length ≤ 1099511627776 := by
  have := parenR_len (decide (0 < need)) T; rw [← HS.out] at this; omega
 have hlen : T.length = A.length + B.length + 1 := by rw [← hT]; simp; omega
 have HA := yh (fun V (h : Escs V) => iha 0 (by omega) V h A hA (by omega)); have HB := yh (fun V (h : Escs V) => ihb 1 (by omega) V h B hB (by omega)); have HE := yh hE; have HT := yh hT; rw [ndV]; obtain ⟨ta, ya, hna⟩ := ndV_iface a; obtain ⟨tb, yb, hnb⟩ := ndV_iface b; rw [hna] at HA ⊢; rw [hnb] at HB ⊢; clear hS hl hT hE hA hB iha ihb hna hnb; go_enter Tryz.func70, Tryz.ntmps70; go_wp2_with fail; have BK := yh (Blk.new w [.iface ta ya, .iface tb yb] 149); have KP := yh ((Keep.refl none w).alloc (.cells #[.iface ta ya, .iface tb yb] 149)); generalize w.alloc (.cells #[.iface ta ya, .iface tb yb] 149) = V at BK KP ⊢
 refine wp_region_pen (fun w' => ∀ q, w'.cell? ⟨w.heap.size, q, none⟩ = [Value.iface ta ya, .iface tb yb][q]?) 99 (by kernel_rfl) (by kernel_rfl) (fun c a d v w h => by cases d <;> exact h) (by exact BK.out.drew.cell) ?_; simp only [List.length_cons, List.length_nil]; replace BK := yh BK.out.drew; replace KP := yh KP.out.drew; generalize V.drew = V0 at BK KP ⊢; refine pen_list [0, 1, 4, 5] ?_; repeat
  (refine penl_stable (getOp rfl) (by decide +kernel) (fun K hK => ?_)
   rw [if_pos (by rfl)]; apply Exists.intro; refine ⟨fun w' hS' => ?_, hK _ ?_⟩
   · (try dsimp only at hS')
     go_simp; try with_reducible rfl
   clear hK K; simp only [Act.put, List.setIfInBounds_toArray, List.set])
 refine penl_end ?_; refine pen_active 2 (getOp rfl) (by decide +kernel) (fun K hK => ?_); rw [if_pos (by rfl)]; go_wp2_with fail; refine (HA.out _ (HE.out.keep KP.out)).mono ?_; rintro e x2 ⟨rfl, kx⟩; replace BK := yh (BK.out.keep kx (by simp)); replace KP := yh (KP.out.trans kx); clear kx; refine hK.out _ _ (BK.out.cell) ?_; clear hK K; try simp only [Act.put, List.setIfInBounds_toArray, List.set]
 have c1 : ¬ 9223372036854775807 < A.length + 1 := by omega
 have c2 : mkS A ++ (ByteArray.mk #[124]) = mkS (A ++ [124]) := cat_l A [124]; refine pen_stable 3 (getOp rfl) (by decide +kernel) (fun K hK => ?_); rw [if_pos (by rfl)]; apply Exists.intro; refine ⟨fun w' hS' => ?_, hK _ ?_⟩
 · (try dsimp only at hS')
   go_simp; try with_reducible rfl
 clear hK K; simp only [Act.put, List.setIfInBounds_toArray, List.set]; clear c1 c2; refine pen_active 6 (getOp rfl) (by decide +kernel) (fun K hK => ?_); rw [if_pos (by rfl)]; go_wp2_with fail; refine (HB.out _ (HE.out.keep KP.out)).mono ?_; rintro e x6 ⟨rfl, kx⟩; replace BK := yh (BK.out.keep kx (by simp)); replace KP := yh (KP.out.trans kx); clear kx; refine hK.out _ _ (BK.out.cell) ?_; clear hK K; try simp only [Act.put, List.setIfInBounds_toArray, List.set]
 have c1 : ¬ 9223372036854775807 < A.length + 1 + B.length := by omega
 have c2 : mkS (A ++ [124]) ++ mkS B = mkS T := by rw [← HT.out, cat_l]; simp
 refine pen_list [7, 8, 9] ?_; repeat
  (refine penl_stable (getOp rfl) (by decide +kernel) (fun K hK => ?_)
   rw [if_pos (by rfl)]; apply Exists.intro; refine ⟨fun w' hS' => ?_, hK _ ?_⟩
   · (try dsimp only at hS')
     go_simp; try with_reducible rfl
   clear hK K; simp only [Act.put, List.setIfInBounds_toArray, List.set])
 refine penl_end ?_; clear c1 c2; refine pen_done (by decide +kernel) ?_; by_cases hneed : 0 < need
 · have d0 : ((0 : Int) < (need : Int)) := by omega
   have c1 : ¬ 9223372036854775807 < 1 + T.length := by omega
   have c2 : (ByteArray.mk #[40]) ++ mkS T = mkS (40 :: T) := cat_l [40] T; have c3 : ¬ 9223372036854775807 < T.length + 1 + 1 := by omega
   have c4 : mkS (40 :: T) ++ (ByteArray.mk #[41]) = mkS (40 :: (T ++ [41])) := cat_l (40 :: T) [41]; have hsh : SH = 40 :: (T ++ [41]) := by rw [HS.out, parenR, if_pos (by simpa using hneed)]
   subst hsh; go_wp2_with fail; clear c1 c2 c3 c4; go_ret; exact ⟨rfl, KP.out⟩
 · have d0 : ¬ ((0 : Int) < (need : Int)) := by omega
   have hsh : SH = T := by rw [HS.out, parenR, if_neg (by simpa using hneed)]
   subst hsh; go_wp2_with fail; go_ret; exact ⟨rfl, KP.out⟩
theorem show_and (a b : Nd) (need : Nat) (hlt : need ≤ 1000) (iha : ∀ need : Nat, need ≤ 1000 → ∀ (w : World), Escs w → ∀ SH, a.show need = SH → SH.length ≤ 1099511627776 → Calls Tryz.prog 70 #[ndV a, .int .i64 (need : Int)] w fun e w' => e = .returned (.string (mkS SH)) ∧ Keep none w w') (ihb : ∀ need : Nat, need ≤ 1000 → ∀ (w : World), Escs w → ∀ SH, b.show need = SH → SH.length ≤ 1099511627776 → Calls Tryz.prog 70 #[ndV b, .int .i64 (need : Int)] w fun e w' => e = .returned (.string (mkS SH)) ∧ Keep none w w') (w : World) (hE : Escs w) (SH : Bs) (hS : (Nd.and a b).show need = SH) (hl : SH.length ≤ 1099511627776) : Calls Tryz.prog 70 #[ndV (Nd.and a b), .int .i64 (need : Int)] w fun e w' => e = .returned (.string (mkS SH)) ∧ Keep none w w' := by
 obtain ⟨A, hA⟩ : ∃ A : Bs, a.show 1 = A := ⟨_, rfl⟩; obtain ⟨B, hB⟩ : ∃ B : Bs, b.show 2 = B := ⟨_, rfl⟩; obtain ⟨T, hT⟩ : ∃ T : Bs, A ++ 38 :: B = T := ⟨_, rfl⟩; have HS := yh (show SH = parenR (decide (1 < need)) T from by rw [← hS, Nd.show, hA, hB, hT]); have hTl : T.length ≤ 1099511627776 := by
  have := parenR_len (decide (1 < need)) T; rw [← HS.out] at this; omega
 have hlen : T.length = A.length + B.length + 1 := by rw [← hT]; simp; omega
 have HA := yh (fun V (h : Escs V) => iha 1 (by omega) V h A hA (by omega)); have HB := yh (fun V (h : Escs V) => ihb 2 (by omega) V h B hB (by omega)); have HE := yh hE; have HT := yh hT; rw [ndV]; obtain ⟨ta, ya, hna⟩ := ndV_iface a; obtain ⟨tb, yb, hnb⟩ := ndV_iface b; rw [hna] at HA ⊢; rw [hnb] at HB ⊢; clear hS hl hT hE hA hB iha ihb hna hnb; go_enter Tryz.func70, Tryz.ntmps70; go_wp2_with fail; have BK := yh (Blk.new w [.iface ta ya, .iface tb yb] 150); have KP := yh ((Keep.refl none w).alloc (.cells #[.iface ta ya, .iface tb yb] 150)); generalize w.alloc (.cells #[.iface ta ya, .iface tb yb] 150) = V at BK KP ⊢
 refine wp_region_pen (fun w' => ∀ q, w'.cell? ⟨w.heap.size, q, none⟩ = [Value.iface ta ya, .iface tb yb][q]?) 99 (by kernel_rfl) (by kernel_rfl) (fun c a d v w h => by cases d <;> exact h) (by exact BK.out.drew.cell) ?_; simp only [List.length_cons, List.length_nil]; replace BK := yh BK.out.drew; replace KP := yh KP.out.drew; generalize V.drew = V0 at BK KP ⊢; refine pen_list [0, 1, 4, 5] ?_; repeat
  (refine penl_stable (getOp rfl) (by decide +kernel) (fun K hK => ?_)
   rw [if_pos (by rfl)]; apply Exists.intro; refine ⟨fun w' hS' => ?_, hK _ ?_⟩
   · (try dsimp only at hS')
     go_simp; try with_reducible rfl
   clear hK K; simp only [Act.put, List.setIfInBounds_toArray, List.set])
 refine penl_end ?_; refine pen_active 2 (getOp rfl) (by decide +kernel) (fun K hK => ?_); rw [if_pos (by rfl)]; go_wp2_with fail; refine (HA.out _ (HE.out.keep KP.out)).mono ?_; rintro e x2 ⟨rfl, kx⟩; replace BK := yh (BK.out.keep kx (by simp)); replace KP := yh (KP.out.trans kx); clear kx; refine hK.out _ _ (BK.out.cell) ?_; clear hK K; try simp only [Act.put, List.setIfInBounds_toArray, List.set]
 have c1 : ¬ 9223372036854775807 < A.length + 1 := by omega
 have c2 : mkS A ++ (ByteArray.mk #[38]) = mkS (A ++ [38]) := cat_l A [38]; refine pen_stable 3 (getOp rfl) (by decide +kernel) (fun K hK => ?_); rw [if_pos (by rfl)]; apply Exists.intro; refine ⟨fun w' hS' => ?_, hK _ ?_⟩
 · (try dsimp only at hS')
   go_simp; try with_reducible rfl
 clear hK K; simp only [Act.put, List.setIfInBounds_toArray, List.set]; clear c1 c2; refine pen_active 6 (getOp rfl) (by decide +kernel) (fun K hK => ?_); rw [if_pos (by rfl)]; go_wp2_with fail; refine (HB.out _ (HE.out.keep KP.out)).mono ?_; rintro e x6 ⟨rfl, kx⟩; replace BK := yh (BK.out.keep kx (by simp)); replace KP := yh (KP.out.trans kx); clear kx; refine hK.out _ _ (BK.out.cell) ?_; clear hK K; try simp only [Act.put, List.setIfInBounds_toArray, List.set]
 have c1 : ¬ 9223372036854775807 < A.length + 1 + B.length := by omega
 have c2 : mkS (A ++ [38]) ++ mkS B = mkS T := by rw [← HT.out, cat_l]; simp
 refine pen_list [7, 8, 9] ?_; repeat
  (refine penl_stable (getOp rfl) (by decide +kernel) (fun K hK => ?_)
   rw [if_pos (by rfl)]; apply Exists.intro; refine ⟨fun w' hS' => ?_, hK _ ?_⟩
   · (try dsimp only at hS')
     go_simp; try with_reducible rfl
   clear hK K; simp only [Act.put, List.setIfInBounds_toArray, List.set])
 refine penl_end ?_; clear c1 c2; refine pen_done (by decide +kernel) ?_; by_cases hneed : 1 < need
 · have d0 : ((1 : Int) < (need : Int)) := by omega
   have c1 : ¬ 9223372036854775807 < 1 + T.length := by omega
   have c2 : (ByteArray.mk #[40]) ++ mkS T = mkS (40 :: T) := cat_l [40] T; have c3 : ¬ 9223372036854775807 < T.length + 1 + 1 := by omega
   have c4 : mkS (40 :: T) ++ (ByteArray.mk #[41]) = mkS (40 :: (T ++ [41])) := cat_l (40 :: T) [41]; have hsh : SH = 40 :: (T ++ [41]) := by rw [HS.out, parenR, if_pos (by simpa using hneed)]
   subst hsh; go_wp2_with fail; clear c1 c2 c3 c4; go_ret; exact ⟨rfl, KP.out⟩
 · have d0 : ¬ ((1 : Int) < (need : Int)) := by omega
   have hsh : SH = T := by rw [HS.out, parenR, if_neg (by simpa using hneed)]
   subst hsh; go_wp2_with fail; go_ret; exact ⟨rfl, KP.out⟩
theorem show_minus (a b : Nd) (need : Nat) (hlt : need ≤ 1000) (iha : ∀ need : Nat, need ≤ 1000 → ∀ (w : World), Escs w → ∀ SH, a.show need = SH → SH.length ≤ 1099511627776 → Calls Tryz.prog 70 #[ndV a, .int .i64 (need : Int)] w fun e w' => e = .returned (.string (mkS SH)) ∧ Keep none w w') (ihb : ∀ need : Nat, need ≤ 1000 → ∀ (w : World), Escs w → ∀ SH, b.show need = SH → SH.length ≤ 1099511627776 → Calls Tryz.prog 70 #[ndV b, .int .i64 (need : Int)] w fun e w' => e = .returned (.string (mkS SH)) ∧ Keep none w w') (w : World) (hE : Escs w) (SH : Bs) (hS : (Nd.minus a b).show need = SH) (hl : SH.length ≤ 1099511627776) : Calls Tryz.prog 70 #[ndV (Nd.minus a b), .int .i64 (need : Int)] w fun e w' => e = .returned (.string (mkS SH)) ∧ Keep none w w' := by
 obtain ⟨A, hA⟩ : ∃ A : Bs, a.show 1 = A := ⟨_, rfl⟩; obtain ⟨B, hB⟩ : ∃ B : Bs, b.show 2 = B := ⟨_, rfl⟩; obtain ⟨T, hT⟩ : ∃ T : Bs, A ++ 45 :: B = T := ⟨_, rfl⟩; have HS := yh (show SH = parenR (decide (1 < need)) T from by rw [← hS, Nd.show, hA, hB, hT]); have hTl : T.length ≤ 1099511627776 := by
  have := parenR_len (decide (1 < need)) T; rw [← HS.out] at this; omega
 have hlen : T.length = A.length + B.length + 1 := by rw [← hT]; simp; omega
 have HA := yh (fun V (h : Escs V) => iha 1 (by omega) V h A hA (by omega)); have HB := yh (fun V (h : Escs V) => ihb 2 (by omega) V h B hB (by omega)); have HE := yh hE; have HT := yh hT; rw [ndV]; obtain ⟨ta, ya, hna⟩ := ndV_iface a; obtain ⟨tb, yb, hnb⟩ := ndV_iface b; rw [hna] at HA ⊢; rw [hnb] at HB ⊢; clear hS hl hT hE hA hB iha ihb hna hnb; go_enter Tryz.func70, Tryz.ntmps70; go_wp2_with fail; have BK := yh (Blk.new w [.iface ta ya, .iface tb yb] 151); have KP := yh ((Keep.refl none w).alloc (.cells #[.iface ta ya, .iface tb yb] 151)); generalize w.alloc (.cells #[.iface ta ya, .iface tb yb] 151) = V at BK KP ⊢
 refine wp_region_pen (fun w' => ∀ q, w'.cell? ⟨w.heap.size, q, none⟩ = [Value.iface ta ya, .iface tb yb][q]?) 99 (by kernel_rfl) (by kernel_rfl) (fun c a d v w h => by cases d <;> exact h) (by exact BK.out.drew.cell) ?_; simp only [List.length_cons, List.length_nil]; replace BK := yh BK.out.drew; replace KP := yh KP.out.drew; generalize V.drew = V0 at BK KP ⊢; refine pen_list [0, 1, 4, 5] ?_; repeat
  (refine penl_stable (getOp rfl) (by decide +kernel) (fun K hK => ?_)
   rw [if_pos (by rfl)]; apply Exists.intro; refine ⟨fun w' hS' => ?_, hK _ ?_⟩
   · (try dsimp only at hS')
     go_simp; try with_reducible rfl
   clear hK K; simp only [Act.put, List.setIfInBounds_toArray, List.set])
 refine penl_end ?_; refine pen_active 2 (getOp rfl) (by decide +kernel) (fun K hK => ?_); rw [if_pos (by rfl)]; go_wp2_with fail; refine (HA.out _ (HE.out.keep KP.out)).mono ?_; rintro e x2 ⟨rfl, kx⟩; replace BK := yh (BK.out.keep kx (by simp)); replace KP := yh (KP.out.trans kx); clear kx; refine hK.out _ _ (BK.out.cell) ?_; clear hK K; try simp only [Act.put, List.setIfInBounds_toArray, List.set]
 have c1 : ¬ 9223372036854775807 < A.length + 1 := by omega
 have c2 : mkS A ++ (ByteArray.mk #[45]) = mkS (A ++ [45]) := cat_l A [45]; refine pen_stable 3 (getOp rfl) (by decide +kernel) (fun K hK => ?_); rw [if_pos (by rfl)]; apply Exists.intro; refine ⟨fun w' hS' => ?_, hK _ ?_⟩
 · (try dsimp only at hS')
   go_simp; try with_reducible rfl
 clear hK K; simp only [Act.put, List.setIfInBounds_toArray, List.set]; clear c1 c2; refine pen_active 6 (getOp rfl) (by decide +kernel) (fun K hK => ?_); rw [if_pos (by rfl)]; go_wp2_with fail; refine (HB.out _ (HE.out.keep KP.out)).mono ?_; rintro e x6 ⟨rfl, kx⟩; replace BK := yh (BK.out.keep kx (by simp)); replace KP := yh (KP.out.trans kx); clear kx; refine hK.out _ _ (BK.out.cell) ?_; clear hK K; try simp only [Act.put, List.setIfInBounds_toArray, List.set]
 have c1 : ¬ 9223372036854775807 < A.length + 1 + B.length := by omega
 have c2 : mkS (A ++ [45]) ++ mkS B = mkS T := by rw [← HT.out, cat_l]; simp
 refine pen_list [7, 8, 9] ?_; repeat
  (refine penl_stable (getOp rfl) (by decide +kernel) (fun K hK => ?_)
   rw [if_pos (by rfl)]; apply Exists.intro; refine ⟨fun w' hS' => ?_, hK _ ?_⟩
   · (try dsimp only at hS')
     go_simp; try with_reducible rfl
   clear hK K; simp only [Act.put, List.setIfInBounds_toArray, List.set])
 refine penl_end ?_; clear c1 c2; refine pen_done (by decide +kernel) ?_; by_cases hneed : 1 < need
 · have d0 : ((1 : Int) < (need : Int)) := by omega
   have c1 : ¬ 9223372036854775807 < 1 + T.length := by omega
   have c2 : (ByteArray.mk #[40]) ++ mkS T = mkS (40 :: T) := cat_l [40] T; have c3 : ¬ 9223372036854775807 < T.length + 1 + 1 := by omega
   have c4 : mkS (40 :: T) ++ (ByteArray.mk #[41]) = mkS (40 :: (T ++ [41])) := cat_l (40 :: T) [41]; have hsh : SH = 40 :: (T ++ [41]) := by rw [HS.out, parenR, if_pos (by simpa using hneed)]
   subst hsh; go_wp2_with fail; clear c1 c2 c3 c4; go_ret; exact ⟨rfl, KP.out⟩
 · have d0 : ¬ ((1 : Int) < (need : Int)) := by omega
   have hsh : SH = T := by rw [HS.out, parenR, if_neg (by simpa using hneed)]
   subst hsh; go_wp2_with fail; go_ret; exact ⟨rfl, KP.out⟩
theorem show_cat (a b : Nd) (need : Nat) (hlt : need ≤ 1000) (iha : ∀ need : Nat, need ≤ 1000 → ∀ (w : World), Escs w → ∀ SH, a.show need = SH → SH.length ≤ 1099511627776 → Calls Tryz.prog 70 #[ndV a, .int .i64 (need : Int)] w fun e w' => e = .returned (.string (mkS SH)) ∧ Keep none w w') (ihb : ∀ need : Nat, need ≤ 1000 → ∀ (w : World), Escs w → ∀ SH, b.show need = SH → SH.length ≤ 1099511627776 → Calls Tryz.prog 70 #[ndV b, .int .i64 (need : Int)] w fun e w' => e = .returned (.string (mkS SH)) ∧ Keep none w w') (w : World) (hE : Escs w) (SH : Bs) (hS : (Nd.cat a b).show need = SH) (hl : SH.length ≤ 1099511627776) : Calls Tryz.prog 70 #[ndV (Nd.cat a b), .int .i64 (need : Int)] w fun e w' => e = .returned (.string (mkS SH)) ∧ Keep none w w' := by
 obtain ⟨A, hA⟩ : ∃ A : Bs, a.show 2 = A := ⟨_, rfl⟩; obtain ⟨B, hB⟩ : ∃ B : Bs, b.show 3 = B := ⟨_, rfl⟩; obtain ⟨T, hT⟩ : ∃ T : Bs, A ++ B = T := ⟨_, rfl⟩; have HS := yh (show SH = parenR (decide (2 < need)) T from by rw [← hS, Nd.show, hA, hB, hT]); have hTl : T.length ≤ 1099511627776 := by
  have := parenR_len (decide (2 < need)) T; rw [← HS.out] at this; omega
 have hlen : T.length = A.length + B.length := by rw [← hT]; simp
 have HA := yh (fun V (h : Escs V) => iha 2 (by omega) V h A hA (by omega)); have HB := yh (fun V (h : Escs V) => ihb 3 (by omega) V h B hB (by omega)); have HE := yh hE; have HT := yh hT; rw [ndV]; obtain ⟨ta, ya, hna⟩ := ndV_iface a; obtain ⟨tb, yb, hnb⟩ := ndV_iface b; rw [hna] at HA ⊢; rw [hnb] at HB ⊢; clear hS hl hT hE hA hB iha ihb hna hnb; go_enter Tryz.func70, Tryz.ntmps70; go_wp2_with fail; have BK := yh (Blk.new w [.iface ta ya, .iface tb yb] 146); have KP := yh ((Keep.refl none w).alloc (.cells #[.iface ta ya, .iface tb yb] 146)); generalize w.alloc (.cells #[.iface ta ya, .iface tb yb] 146) = V at BK KP ⊢
 refine wp_region_pen (fun w' => ∀ q, w'.cell? ⟨w.heap.size, q, none⟩ = [Value.iface ta ya, .iface tb yb][q]?) 99 (by kernel_rfl) (by kernel_rfl) (fun c a d v w h => by cases d <;> exact h) (by exact BK.out.drew.cell) ?_; simp only [List.length_cons, List.length_nil]; replace BK := yh BK.out.drew; replace KP := yh KP.out.drew; generalize V.drew = V0 at BK KP ⊢; refine pen_list [0, 1, 3, 4] ?_; repeat
  (refine penl_stable (getOp rfl) (by decide +kernel) (fun K hK => ?_)
   rw [if_pos (by rfl)]; apply Exists.intro; refine ⟨fun w' hS' => ?_, hK _ ?_⟩
   · (try dsimp only at hS')
     go_simp; try with_reducible rfl
   clear hK K; simp only [Act.put, List.setIfInBounds_toArray, List.set])
 refine penl_end ?_; refine pen_active 2 (getOp rfl) (by decide +kernel) (fun K hK => ?_); rw [if_pos (by rfl)]; go_wp2_with fail; refine (HA.out _ (HE.out.keep KP.out)).mono ?_; rintro e x2 ⟨rfl, kx⟩; replace BK := yh (BK.out.keep kx (by simp)); replace KP := yh (KP.out.trans kx); clear kx; refine hK.out _ _ (BK.out.cell) ?_; clear hK K; try simp only [Act.put, List.setIfInBounds_toArray, List.set]
 refine pen_active 5 (getOp rfl) (by decide +kernel) (fun K hK => ?_); rw [if_pos (by rfl)]; go_wp2_with fail; refine (HB.out _ (HE.out.keep KP.out)).mono ?_; rintro e x5 ⟨rfl, kx⟩; replace BK := yh (BK.out.keep kx (by simp)); replace KP := yh (KP.out.trans kx); clear kx; refine hK.out _ _ (BK.out.cell) ?_; clear hK K; try simp only [Act.put, List.setIfInBounds_toArray, List.set]
 have c1 : ¬ 9223372036854775807 < A.length + B.length := by omega
 have c2 : mkS A ++ mkS B = mkS T := by rw [← HT.out, cat_l]
 refine pen_list [6, 7, 8] ?_; repeat
  (refine penl_stable (getOp rfl) (by decide +kernel) (fun K hK => ?_)
   rw [if_pos (by rfl)]; apply Exists.intro; refine ⟨fun w' hS' => ?_, hK _ ?_⟩
   · (try dsimp only at hS')
     go_simp; try with_reducible rfl
   clear hK K; simp only [Act.put, List.setIfInBounds_toArray, List.set])
 refine penl_end ?_; clear c1 c2; refine pen_done (by decide +kernel) ?_; by_cases hneed : 2 < need
 · have d0 : ((2 : Int) < (need : Int)) := by omega
   have c1 : ¬ 9223372036854775807 < 1 + T.length := by omega
   have c2 : (ByteArray.mk #[40]) ++ mkS T = mkS (40 :: T) := cat_l [40] T; have c3 : ¬ 9223372036854775807 < T.length + 1 + 1 := by omega
   have c4 : mkS (40 :: T) ++ (ByteArray.mk #[41]) = mkS (40 :: (T ++ [41])) := cat_l (40 :: T) [41]; have hsh : SH = 40 :: (T ++ [41]) := by rw [HS.out, parenR, if_pos (by simpa using hneed)]
   subst hsh; go_wp2_with fail; clear c1 c2 c3 c4; go_ret; exact ⟨rfl, KP.out⟩
 · have d0 : ¬ ((2 : Int) < (need : Int)) := by omega
   have hsh : SH = T := by rw [HS.out, parenR, if_neg (by simpa using hneed)]
   subst hsh; go_wp2_with fail; go_ret; exact ⟨rfl, KP.out⟩
theorem show_star (a : Nd) (need : Nat) (hlt : need ≤ 1000) (iha : ∀ need : Nat, need ≤ 1000 → ∀ (w : World), Escs w → ∀ SH, a.show need = SH → SH.length ≤ 1099511627776 → Calls Tryz.prog 70 #[ndV a, .int .i64 (need : Int)] w fun e w' => e = .returned (.string (mkS SH)) ∧ Keep none w w') (w : World) (hE : Escs w) (SH : Bs) (hS : (Nd.star a).show need = SH) (hl : SH.length ≤ 1099511627776) : Calls Tryz.prog 70 #[ndV (Nd.star a), .int .i64 (need : Int)] w fun e w' => e = .returned (.string (mkS SH)) ∧ Keep none w w' := by
 obtain ⟨A, hA⟩ : ∃ A : Bs, a.show 3 = A := ⟨_, rfl⟩; obtain ⟨T, hT⟩ : ∃ T : Bs, A ++ [42] = T := ⟨_, rfl⟩; have HS := yh (show SH = parenR (decide (3 < need)) T from by rw [← hS, Nd.show, hA, hT]); have hTl : T.length ≤ 1099511627776 := by
  have := parenR_len (decide (3 < need)) T; rw [← HS.out] at this; omega
 have hlen : T.length = A.length + 1 := by rw [← hT]; simp
 have HA := yh (fun V (h : Escs V) => iha 3 (by omega) V h A hA (by omega)); have HE := yh hE; have HT := yh hT; rw [ndV]; obtain ⟨ta, ya, hna⟩ := ndV_iface a; rw [hna] at HA ⊢; clear hS hl hT hE hA iha hna; go_enter Tryz.func70, Tryz.ntmps70; go_wp2_with fail; refine (HA.out _ (HE.out.keep ((Keep.refl _ _).alloc _))).mono ?_; rintro e x1 ⟨rfl, k1⟩; have KP := yh (((Keep.refl none w).alloc _).trans k1); have c5 : ¬ 9223372036854775807 < A.length + 1 := by omega
 have c6 : mkS A ++ (ByteArray.mk #[42]) = mkS T := by rw [← HT.out]; exact cat_l A [42]
 clear k1; by_cases hneed : 3 < need
 · have d0 : ((3 : Int) < (need : Int)) := by omega
   have c1 : ¬ 9223372036854775807 < 1 + T.length := by omega
   have c2 : (ByteArray.mk #[40]) ++ mkS T = mkS (40 :: T) := cat_l [40] T; have c3 : ¬ 9223372036854775807 < T.length + 1 + 1 := by omega
   have c4 : mkS (40 :: T) ++ (ByteArray.mk #[41]) = mkS (40 :: (T ++ [41])) := cat_l (40 :: T) [41]; have hsh : SH = 40 :: (T ++ [41]) := by rw [HS.out, parenR, if_pos (by simpa using hneed)]
   subst hsh; go_wp2_with fail; clear c5 c6; clear c1 c2 c3 c4; go_ret; exact ⟨rfl, KP.out⟩
 · have d0 : ¬ ((3 : Int) < (need : Int)) := by omega
   have hsh : SH = T := by rw [HS.out, parenR, if_neg (by simpa using hneed)]
   subst hsh; go_wp2_with fail; clear c5 c6; go_ret; exact ⟨rfl, KP.out⟩
theorem show_walk : ∀ (n : Nd) (need : Nat), need ≤ 1000 → ∀ (w : World), Escs w → ∀ SH, n.show need = SH → SH.length ≤ 1099511627776 → Calls Tryz.prog 70 #[ndV n, .int .i64 (need : Int)] w fun e w' => e = .returned (.string (mkS SH)) ∧ Keep none w w'
 | .eps, need, h, w, hE, SH, hS, hl => show_eps need h w hE SH hS hl
 | .cls s, need, h, w, hE, SH, hS, hl => show_cls s need h w hE SH hS hl
 | .cat a b, need, h, w, hE, SH, hS, hl => show_cat a b need h (show_walk a) (show_walk b) w hE SH hS hl
 | .alt a b, need, h, w, hE, SH, hS, hl => show_alt a b need h (show_walk a) (show_walk b) w hE SH hS hl
 | .star a, need, h, w, hE, SH, hS, hl => show_star a need h (show_walk a) w hE SH hS hl
 | .and a b, need, h, w, hE, SH, hS, hl => show_and a b need h (show_walk a) (show_walk b) w hE SH hS hl
 | .minus a b, need, h, w, hE, SH, hS, hl => show_minus a b need h (show_walk a) (show_walk b) w hE SH hS hl
theorem rx_print (n : Nd) (w : World) (hE : Escs w) (hl : (n.show 0).length ≤ 1099511627776) : Calls Tryz.prog 47 #[ndV n] w fun e w' => e = .returned (.string (mkS (n.show 0))) ∧ Keep none w w' := by
 have hc := show_walk n 0 (by omega) w hE _ rfl hl; obtain ⟨ty, y, hn⟩ := ndV_iface n; rw [hn] at hc ⊢; have HC := yh hc; clear hc hn hE; go_enter Tryz.func47, Tryz.ntmps47; go_wp2_with fail; refine HC.out.mono ?_; rintro e x1 ⟨rfl, k1⟩; go_wp2_with fail; go_ret; exact ⟨rfl, k1⟩
end Go.Proofs.YtmfabihndpidnaaGreatDoor
