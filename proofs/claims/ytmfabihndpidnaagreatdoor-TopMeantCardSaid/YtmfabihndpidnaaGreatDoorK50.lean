/-
  The one text that the law opens with: copy(/a/) and its term's text.
-/
import Derived.Test.YtmfabihndpidnaaGreatDoorK48
namespace Go.Proofs.YtmfabihndpidnaaGreatDoor
open Go.RowKit
set_option maxRecDepth 100000
set_option linter.unusedVariables false
set_option linter.unusedSimpArgs false
theorem runN_one {P : Program} : ∀ (n k : Nat) (m a b : Machine) (x y : Outcome) (wa wb : World), runN P n m = .next a → runN P k m = .next b → step P a = .ended x wa → step P b = .ended y wb → x = y
 | 0, 0, m, a, b, x, y, wa, wb, h1, h2, h3, h4 => by
  cases h1; cases h2; rw [h3] at h4; cases h4; rfl
 | 0, k + 1, m, a, b, x, y, wa, wb, h1, h2, h3, h4 => by
  cases h1; simp [runN, h3] at h2
 | n + 1, 0, m, a, b, x, y, wa, wb, h1, h2, h3, h4 => by
  cases h2; simp [runN, h4] at h1
 | n + 1, k + 1, m, a, b, x, y, wa, wb, h1, h2, h3, h4 => by
  cases hs : step P m with
  | ended z wz => simp [runN, hs] at h1
  | next m1 =>
   simp only [runN, hs] at h1 h2; exact runN_one n k m1 a b x y wa wb h1 h2 h3 h4
theorem calls_one {f : FuncId} (hi : Tryz.prog.inits.idxOf? f = none) {args : Array Value} {w : World} {v1 v2 : Value} {Q1 Q2 : World → Prop} (h1 : Calls Tryz.prog f args w fun e w' => e = .returned v1 ∧ Q1 w') (h2 : Calls Tryz.prog f args w fun e w' => e = .returned v2 ∧ Q2 w') : v1 = v2 := by
 obtain ⟨e1, w1, f1, ⟨rfl, _⟩, ⟨n, hn⟩, e1, l1⟩ := h1 []; obtain ⟨e2, w2, f2, ⟨rfl, _⟩, ⟨k, hk⟩, e2, l2⟩ := h2 []; have s1 := step_leave_done l1 (by rw [e1]; exact hi); have s2 := step_leave_done l2 (by rw [e2]; exact hi); have := runN_one n k _ _ _ _ _ _ _ hn hk s1 s2; cases this; rfl
theorem ones_zero (w : World) : ones 0 = 0 := by
 have h : Calls Tryz.prog 119 #[.int .u64 0] w fun e w' => e = .returned (.int .i64 0) ∧ w = w' := by
  go_enter Tryz.func119, Tryz.ntmps119; go_wp2_with fail; go_ret; exact ⟨by kernel_rfl, rfl⟩
 exact (Value.int.inj (calls_one (by kernel_rfl) (ones_any 0 w) h)).2
theorem ones_one (w : World) : ones 8589934592 = 1 := by
 have h : Calls Tryz.prog 119 #[.int .u64 8589934592] w fun e w' => e = .returned (.int .i64 1) ∧ w = w' := by
  go_enter Tryz.func119, Tryz.ntmps119; go_wp2_with fail; go_ret; exact ⟨by kernel_rfl, rfl⟩
 exact (Value.int.inj (calls_one (by kernel_rfl) (ones_any 8589934592 w) h)).2
attribute [local go_sem ↓] run_ix178_0 run_ix178_1 run_ix178_2 run_ix178_3
def setA : Set4 := ⟨0, 8589934592, 0, 0⟩
theorem count_one (w : World) : setA.count = 1 := by
 have z := ones_zero w; have o := ones_one w; have h : Calls Tryz.prog 105 #[setA.val] w fun e w' => e = .returned (.int .i64 1) ∧ Keep none w w' := by
  unfold setA Set4.val; go_enter Tryz.func105, Tryz.ntmps105; go_wp2_with fail; refine wp_loop_rounds 5 ?_; rw [rounds_succ]; go_wp2_with fail; refine (ones_any _ _).mono ?_; rintro e w' ⟨rfl, rfl⟩; rw [z]; go_wp2_with fail; rw [rounds_succ]; go_wp2_with fail; refine (ones_any _ _).mono ?_; rintro e w' ⟨rfl, rfl⟩; rw [o]; go_wp2_with fail; rw [rounds_succ]; go_wp2_with fail; refine (ones_any _ _).mono ?_; rintro e w' ⟨rfl, rfl⟩; rw [z]; go_wp2_with fail; rw [rounds_succ]; go_wp2_with fail; refine (ones_any _ _).mono ?_; rintro e w' ⟨rfl, rfl⟩; rw [z]; go_wp2_with fail; rw [rounds_succ]; go_wp2_with fail
  go_ret; exact ⟨rfl, (Keep.refl _ _).alloc _⟩
 exact (Value.int.inj (calls_one (by kernel_rfl) (count_any setA w) h)).2
def firstT : Bs := [99, 111, 112, 121, 40, 47, 97, 47, 41]
def firstTm : Tm := .lens (.copy false 0 (.cls setA))
theorem first_read : readT firstT = .ok firstTm := by kernel_rfl
theorem first_show (w : World) : firstTm.shown = [99, 111, 112, 121, 64, 48, 40, 47, 97, 47, 41] := by
 have h1 : setA.show = [97] := by
  unfold Set4.show; rw [if_pos (count_one w)]; decide +kernel
 have h2 : Lib.itoa ((0 : Nat) : Int) = [48] := by rw [Lib.itoa_nonneg, Lib.decDigits_one (by decide)]; rfl
 simp only [firstTm, Tm.shown, Ln.shown, headT, h2, Lib.join_one, nodeT, Nd.show, h1]; rfl
end Go.Proofs.YtmfabihndpidnaaGreatDoor
