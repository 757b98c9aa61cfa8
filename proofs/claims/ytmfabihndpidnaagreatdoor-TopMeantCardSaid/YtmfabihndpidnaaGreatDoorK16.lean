/-
  Sets of bytes as four words: a member's test, the union, the complement, one byte's word. Sets of bytes: how many there are, the least one, one byte's text. Sets of bytes: the least one, one byte's text.
-/
import Derived.Test.YtmfabihndpidnaaGreatDoorK13
import Derived.Test.YtmfabihndpidnaaGreatDoorK14
import Derived.Lib.IndexAny
namespace Go.Proofs.YtmfabihndpidnaaGreatDoor
set_option maxHeartbeats 4000000
open Go.RowKit
set_option maxRecDepth 100000
set_option linter.unusedVariables false
set_option linter.unusedSimpArgs false
structure Set4 where
 a : Int
 b : Int
 c : Int
 d : Int
def Set4.val (s : Set4) : Value := .agg #[.int .u64 s.a, .int .u64 s.b, .int .u64 s.c, .int .u64 s.d]
def Set4.at (s : Set4) (m : Nat) : Int := if m = 0 then s.a else if m = 1 then s.b else if m = 2 then s.c else s.d
def Set4.put (s : Set4) (m : Nat) (x : Int) : Set4 := if m = 0 then { s with a := x } else if m = 1 then { s with b := x } else if m = 2 then { s with c := x } else { s with d := x }
def Set4.has (s : Set4) (n : Nat) : Bool := bits BinOp.and IntKind.u64 (s.at (n / 64) / 2 ^ (n % 64)) 1 == 1
def Set4.union (s t : Set4) : Set4 := ⟨bits BinOp.or .u64 s.a t.a, bits BinOp.or .u64 s.b t.b, bits BinOp.or .u64 s.c t.c, bits BinOp.or .u64 s.d t.d⟩
theorem and63_0 : ∀ n : Fin 256, bits BinOp.and IntKind.u8 (n.val : Int) 63 = ((n.val % 64 : Nat) : Int) := by decide +kernel
theorem has_any (s : Set4) (n : Nat) (hn : n < 256) (w : World) : Calls Tryz.prog 109 #[s.val, .int .u8 (n : Int)] w fun e w' => e = .returned (.bool (s.has n)) ∧ Keep none w w' := by
 have e1 := and63_0 ⟨n, hn⟩; dsimp only at e1; obtain ⟨m, hm⟩ : ∃ m : Nat, n / 64 = m := ⟨_, rfl⟩; have hm4 : m < 4 := by omega
 have e2 : (n : Int) / 64 = (m : Int) := by omega
 have e3 : min (n % 64) 64 = n % 64 := by omega
 unfold Set4.has Set4.at Set4.val; rw [hm]; have hcase : m = 0 ∨ m = 1 ∨ m = 2 ∨ m = 3 := by omega
 rcases hcase with rfl | rfl | rfl | rfl
 all_goals
  go_enter Tryz.func109, Tryz.ntmps109; go_wp2_with fail; go_ret; exact ⟨rfl, (Keep.refl _ _).alloc _⟩
theorem results_set {fn : Func} {p : Tmp} (h : fn.results = #[.cell p 178]) (tmps : Array Value) (w : World) (g : Nat) (a b c d : Value)
 (hp : tmps.getD p undef = .pointer (some ⟨g, 0, none⟩)) (hg : Blk w g [a, b, c, d] 178) : (results fn tmps).run Tryz.prog w = .ok (.agg #[a, b, c, d]) w :=
 results_cell_row h tmps w g 178 #[a, b, c, d] (0, 0) _ hp hg Tryz.underlying178 rfl (by kernel_rfl)
theorem union_any (s t : Set4) (w : World) : Calls Tryz.prog 136 #[s.val, t.val] w fun e w' => e = .returned (s.union t).val ∧ Keep none w w' := by
 unfold Set4.union Set4.val; go_enter Tryz.func136, Tryz.ntmps136; go_wp2_with fail; generalize hW : (w.alloc _).alloc _ = W; have KW : Keep none w W := by rw [← hW]; exact ((Keep.refl _ _).alloc _).alloc _
 have hsz : W.heap.size = w.heap.size + 1 + 1 := by rw [← hW]; simp
 clear hW; refine bodyPost_ret (results_set rfl _ _ W.heap.size _ _ _ _ (by simp [hsz]) (Blk.new W _ 178)) rfl ⟨rfl, KW.alloc _⟩
def Set4.not (s : Set4) : Set4 := ⟨bits BinOp.xor .u64 IntKind.u64.max s.a, bits BinOp.xor .u64 IntKind.u64.max s.b, bits BinOp.xor .u64 IntKind.u64.max s.c, bits BinOp.xor .u64 IntKind.u64.max s.d⟩
theorem not_any (s : Set4) (w : World) : Calls Tryz.prog 108 #[s.val] w fun e w' => e = .returned s.not.val ∧ Keep none w w' := by
 have hs : ¬ IntKind.u64.signed = true := by decide
 unfold Set4.not Set4.val; go_enter Tryz.func108, Tryz.ntmps108; go_wp2_with fail; generalize hW : w.alloc _ = W; have KW : Keep none w W := by rw [← hW]; exact (Keep.refl _ _).alloc _
 have hsz : W.heap.size = w.heap.size + 1 := by rw [← hW]; simp
 clear hW; refine bodyPost_ret (results_set rfl _ _ W.heap.size _ _ _ _ (by simp [hsz]) (Blk.new W _ 178)) rfl ⟨rfl, KW.alloc _⟩
def Set4.zero : Set4 := ⟨0, 0, 0, 0⟩
def Set4.add (s : Set4) (n : Nat) : Set4 := s.put (n / 64) (bits BinOp.or IntKind.u64 (s.at (n / 64)) (IntKind.u64.wrap (2 ^ (n % 64))))
def Set4.spanL (s : Set4) (lo : Nat) : Nat → Set4
 | 0 => s
 | k + 1 => (s.add lo).spanL (lo + 1) k
def Set4.span (lo hi : Nat) : Set4 := Set4.zero.spanL lo (hi + 1 - lo)
theorem and63_i0 : ∀ n : Fin 256, bits BinOp.and IntKind.i64 (n.val : Int) 63 = ((n.val % 64 : Nat) : Int) := by decide +kernel
def Set4.cells (s : Set4) : List Value := [.int .u64 s.a, .int .u64 s.b, .int .u64 s.c, .int .u64 s.d]
theorem Set4.cells_put (s : Set4) (m : Nat) (hm : m < 4) (x : Int) : s.cells.set m (.int .u64 x) = (s.put m x).cells := by
 have hcase : m = 0 ∨ m = 1 ∨ m = 2 ∨ m = 3 := by omega
 rcases hcase with rfl | rfl | rfl | rfl <;> rfl
theorem span_any (lo hi : Nat) (hlo : lo < 256) (hhi : hi < 256) (w : World) : Calls Tryz.prog 133 #[.int .u8 (lo : Int), .int .u8 (hi : Int)] w fun e w' => e = .returned (Set4.span lo hi).val ∧ Keep none w w' := by
 have wlo : IntKind.i64.wrap (lo : Int) = (lo : Int) := IntWalk.i64_in _ (by omega); have whi : IntKind.i64.wrap (hi : Int) = (hi : Int) := IntWalk.i64_in _ (by omega); go_enter Tryz.func133, Tryz.ntmps133; go_wp2_with fail; generalize hW : (w.alloc _).alloc _ = W; have HA := yh (show Blk W (w.heap.size + 1) Set4.zero.cells 178 from by
  rw [← hW]; have := Blk.new (w.alloc (.cells Set4.zero.cells.toArray 178)) Set4.zero.cells 178; rw [show (w.alloc (.cells Set4.zero.cells.toArray 178)).heap.size = w.heap.size + 1 by simp] at this; exact this)
 have HR := yh (show Blk W w.heap.size Set4.zero.cells 178 from by
  rw [← hW]; exact (Blk.new w _ 178).alloc _)
 have HK := yh (show Keep none w W from by rw [← hW]; exact ((Keep.refl _ _).alloc _).alloc _); clear hW; go_loopw [6] (fun kv wr => ∃ (k : Nat) (S : Set4), kv = .int .i64 (k : Int) ∧ k ≤ 256 ∧ S.spanL k (hi + 1 - k) = Set4.span lo hi ∧ Blk wr (w.heap.size + 1) S.cells 178 ∧ Blk wr w.heap.size Set4.zero.cells 178 ∧ Keep none w wr) (fun kv _ => 256 - (intOf kv).toNat)
 case atStart => exact ⟨lo, .zero, rfl, by omega, rfl, HA.out, HR.out, HK.out⟩
 case round =>
  obtain ⟨k, S, rfl, hk, hS, hA, hR, hK⟩ := hrel; have HA := yh hA; have HR := yh hR; have HK := yh hK; have HS := yh hS; clear hA hR hK hS; by_cases hle : k ≤ hi
  · have b0 : ((k : Int) ≤ (hi : Int)) := by omega
    have hwk : IntKind.i64.wrap ((k : Int) + 1) = (k : Int) + 1 := IntWalk.i64_in _ (by omega); have e1 := and63_i0 ⟨k, by omega⟩; dsimp only at e1; obtain ⟨m, hm⟩ : ∃ m : Nat, k / 64 = m := ⟨_, rfl⟩; have hm4 : m < 4 := by omega
    have e2 : (k : Int) / 64 = (m : Int) := by omega
    have e3 : min (k % 64) 64 = k % 64 := by omega
    have e4 : ((k : Int) % 64).toNat = k % 64 := by omega
    have m0 : (0 : Int) ≤ (m : Int) := by omega
    have m1 : (m : Int) < 4 := by omega
    have HN := yh (show S.cells[m]? = some (.int .u64 (S.at m)) from by
     have hcase : m = 0 ∨ m = 1 ∨ m = 2 ∨ m = 3 := by omega
     rcases hcase with rfl | rfl | rfl | rfl <;> rfl)
    go_wp2_with fail; refine wp_region_pend (fun w' => w'.cell? ⟨w.heap.size + 1, m, none⟩ = some (.int .u64 (S.at m))) 9 (by kernel_rfl) (by kernel_rfl) (fun c a d v w h => by cases d <;> exact h) (by exact (HA.out.drew.cell m).trans HN.out) ?_; simp only [num, List.length_cons, List.length_nil]; repeat
     (refine pend_stable (by decide +kernel) (fun K hK => ?_)
      rw [if_pos (by rfl)]; apply Exists.intro; refine ⟨fun w' hS' => ?_, hK _ ?_⟩
      · (try dsimp only at hS')
        go_simp; try with_reducible rfl
      clear hK K; simp only [Act.put, List.setIfInBounds_toArray, List.set])
    have hf := HA.out.drew.frozen; have hcm := (HA.out.drew.cell m).trans HN.out; refine pend_last (by decide +kernel) (by decide +kernel) (by decide +kernel) (fun K hK => ?_); rw [if_pos (by rfl)]; go_simp; refine hK.out _ _ ?_; go_wp2_with fail; go_roundw; case rel =>
     refine ⟨k + 1, S.add k, rfl, by omega, ?_, ?_, HR.out.drew.far _ _ (by simp), HK.out.drew.set _ _ (.inr (by simp))⟩
     · rw [← HS.out, show hi + 1 - k = (hi + 1 - (k + 1)) + 1 by omega]; rfl
     · have := HA.out.drew.set m (.int .u64 (bits BinOp.or IntKind.u64 (S.at m) (IntKind.u64.wrap (2 ^ (k % 64))))); rw [Set4.cells_put S m hm4, show S.put m (bits BinOp.or IntKind.u64 (S.at m) (IntKind.u64.wrap (2 ^ (k % 64)))) = S.add k by unfold Set4.add; rw [hm]] at this; exact this
    case measure =>
     simp only [intOf, Int.toNat_natCast]; omega
  · have b0 : ¬ ((k : Int) ≤ (hi : Int)) := by omega
    have hc := HA.out.cell; have hf := HR.out.frozen; have hcr := HR.out.cell; unfold Set4.cells at hc hcr; go_wp2_with fail; have hSe : S = Set4.span lo hi := by
     have := HS.out; rw [show hi + 1 - k = 0 by omega] at this; exact this
    subst hSe; refine bodyPost_ret (results_set rfl _ _ w.heap.size _ _ _ _ rfl ((((HR.out.set 0 _).set 1 _).set 2 _).set 3 _)) rfl ⟨rfl, ?_⟩; have q0 := HK.out.set ⟨w.heap.size, 0, none⟩ (.int .u64 (Set4.span lo hi).a) (.inr (Nat.le_refl _)); have q1 := q0.set ⟨w.heap.size, 1, none⟩ (.int .u64 (Set4.span lo hi).b) (.inr (Nat.le_refl _)); have q2 := q1.set ⟨w.heap.size, 2, none⟩ (.int .u64 (Set4.span lo hi).c) (.inr (Nat.le_refl _)); exact q2.set ⟨w.heap.size, 3, none⟩ (.int .u64 (Set4.span lo hi).d) (.inr (Nat.le_refl _))
def Set4.ofL (s : Set4) : Bs → Set4
 | [] => s
 | c :: l => (s.add c.toNat).ofL l
def Set4.of (l : Bs) : Set4 := Set4.zero.ofL l
theorem of_any (s : ByteArray) (hs : s.size ≤ 100000) (w : World) : Calls Tryz.prog 99 #[.string s] w fun e w' => e = .returned (Set4.of s.data.toList).val ∧ Keep none w w' := by
 go_enter Tryz.func99, Tryz.ntmps99; go_wp2_with fail; generalize hW : (w.alloc _).alloc _ = W; have HA := yh (show Blk W (w.heap.size + 1) Set4.zero.cells 178 from by
  rw [← hW]; have := Blk.new (w.alloc (.cells Set4.zero.cells.toArray 178)) Set4.zero.cells 178; rw [show (w.alloc (.cells Set4.zero.cells.toArray 178)).heap.size = w.heap.size + 1 by simp] at this; exact this)
 have HR := yh (show Blk W w.heap.size Set4.zero.cells 178 from by
  rw [← hW]; exact (Blk.new w _ 178).alloc _)
 have HK := yh (show Keep none w W from by rw [← hW]; exact ((Keep.refl _ _).alloc _).alloc _); clear hW; go_loopw [7] (fun kv wr => ∃ (k : Nat) (S : Set4), kv = .int .i64 (k : Int) ∧ k ≤ s.size ∧ S.ofL (s.data.toList.drop k) = Set4.of s.data.toList ∧ Blk wr (w.heap.size + 1) S.cells 178 ∧ Blk wr w.heap.size Set4.zero.cells 178 ∧ Keep none w wr) (fun kv _ => s.size - (intOf kv).toNat)
 case atStart => exact ⟨0, .zero, rfl, by omega, rfl, HA.out, HR.out, HK.out⟩
 case round =>
  obtain ⟨k, S, rfl, hk, hS, hA, hR, hK⟩ := hrel; have HA := yh hA; have HR := yh hR; have HK := yh hK; have HS := yh hS; clear hA hR hK hS; by_cases hlt : k < s.size
  · have b0 : ((k : Int) < (s.size : Int)) := by omega
    have b1 : (0 : Int) ≤ (k : Int) := by omega
    have hwk : IntKind.i64.wrap ((k : Int) + 1) = (k : Int) + 1 := IntWalk.i64_in _ (by omega); obtain ⟨n, hn⟩ : ∃ n : Nat, s[k].toNat = n := ⟨_, rfl⟩; have hn256 : n < 256 := by rw [← hn]; exact s[k].toNat_lt
    have e1 := and63_0 ⟨n, hn256⟩; dsimp only at e1; obtain ⟨m, hm⟩ : ∃ m : Nat, n / 64 = m := ⟨_, rfl⟩; have hm4 : m < 4 := by omega
    have e2 : (n : Int) / 64 = (m : Int) := by omega
    have e3 : min (n % 64) 64 = n % 64 := by omega
    have e4 : ((n : Int) % 64).toNat = n % 64 := by omega
    have m0 : (0 : Int) ≤ (m : Int) := by omega
    have m1 : (m : Int) < 4 := by omega
    have HN := yh (show S.cells[m]? = some (.int .u64 (S.at m)) from by
     have hcase : m = 0 ∨ m = 1 ∨ m = 2 ∨ m = 3 := by omega
     rcases hcase with rfl | rfl | rfl | rfl <;> rfl)
    have HD := yh (drop_byte s k hlt); go_wp2_with fail; refine wp_region_pend (fun w' => w'.cell? ⟨w.heap.size + 1, m, none⟩ = some (.int .u64 (S.at m))) 13 (by kernel_rfl) (by kernel_rfl) (fun c a d v w h => by cases d <;> exact h) (by exact (HA.out.drew.cell m).trans HN.out) ?_; simp only [num, List.length_cons, List.length_nil]; repeat
     (refine pend_stable (by decide +kernel) (fun K hK => ?_)
      rw [if_pos (by rfl)]; apply Exists.intro; refine ⟨fun w' hS' => ?_, hK _ ?_⟩
      · (try dsimp only at hS')
        go_simp; try with_reducible rfl
      clear hK K; simp only [Act.put, List.setIfInBounds_toArray, List.set])
    have hf := HA.out.drew.frozen; have hcm := (HA.out.drew.cell m).trans HN.out; refine pend_last (by decide +kernel) (by decide +kernel) (by decide +kernel) (fun K hK => ?_); rw [if_pos (by rfl)]; go_simp; refine hK.out _ _ ?_; go_wp2_with fail; go_roundw; case rel =>
     refine ⟨k + 1, S.add n, rfl, by omega, ?_, ?_, HR.out.drew.far _ _ (by simp), HK.out.drew.set _ _ (.inr (by simp))⟩
     · rw [← HS.out, HD.out, Set4.ofL, hn]
     · have := HA.out.drew.set m (.int .u64 (bits BinOp.or IntKind.u64 (S.at m) (IntKind.u64.wrap (2 ^ (n % 64))))); rw [Set4.cells_put S m hm4, show S.put m (bits BinOp.or IntKind.u64 (S.at m) (IntKind.u64.wrap (2 ^ (n % 64)))) = S.add n by unfold Set4.add; rw [hm]] at this; exact this
    case measure =>
     simp only [intOf, Int.toNat_natCast]; omega
  · have b0 : ¬ ((k : Int) < (s.size : Int)) := by omega
    have HKE := yh (show k = s.size by omega); have hc := HA.out.cell; have hf := HR.out.frozen; have hcr := HR.out.cell; unfold Set4.cells at hc hcr; go_wp2_with fail; have hSe : S = Set4.of s.data.toList := by
     have := HS.out; rw [HKE.out, drop_end] at this; exact this
    subst hSe; refine bodyPost_ret (results_set rfl _ _ w.heap.size _ _ _ _ rfl ((((HR.out.set 0 _).set 1 _).set 2 _).set 3 _)) rfl ⟨rfl, ?_⟩; have q0 := HK.out.set ⟨w.heap.size, 0, none⟩ (.int .u64 (Set4.of s.data.toList).a) (.inr (Nat.le_refl _)); have q1 := q0.set ⟨w.heap.size, 1, none⟩ (.int .u64 (Set4.of s.data.toList).b) (.inr (Nat.le_refl _)); have q2 := q1.set ⟨w.heap.size, 2, none⟩ (.int .u64 (Set4.of s.data.toList).c) (.inr (Nat.le_refl _)); exact q2.set ⟨w.heap.size, 3, none⟩ (.int .u64 (Set4.of s.data.toList).d) (.inr (Nat.le_refl _))
end Go.Proofs.YtmfabihndpidnaaGreatDoor
namespace Go.Proofs.YtmfabihndpidnaaGreatDoor
open Go.RowKit
set_option maxRecDepth 100000
set_option linter.unusedVariables false
set_option linter.unusedSimpArgs false
theorem run_ix178_0 (a b c d : Value) (w : World) : (Instr.index 178 (.agg #[a, b, c, d]) (.int .i64 0)).run Tryz.prog w = .ok a w := by kernel_rfl
theorem run_ix178_1 (a b c d : Value) (w : World) : (Instr.index 178 (.agg #[a, b, c, d]) (.int .i64 1)).run Tryz.prog w = .ok b w := by kernel_rfl
theorem run_ix178_2 (a b c d : Value) (w : World) : (Instr.index 178 (.agg #[a, b, c, d]) (.int .i64 2)).run Tryz.prog w = .ok c w := by kernel_rfl
theorem run_ix178_3 (a b c d : Value) (w : World) : (Instr.index 178 (.agg #[a, b, c, d]) (.int .i64 3)).run Tryz.prog w = .ok d w := by kernel_rfl
attribute [local go_sem ↓] run_ix178_0 run_ix178_1 run_ix178_2 run_ix178_3
theorem ones_ex (x : Int) : ∃ r : Int, ∀ w, Calls Tryz.prog 119 #[.int .u64 x] w fun e w' => e = .returned (.int .i64 r) ∧ w = w' := by
 apply Exists.intro; intro w; go_enter Tryz.func119, Tryz.ntmps119; go_wp2_with fail; go_ret; exact ⟨rfl, rfl⟩
noncomputable def ones (x : Int) : Int := Classical.choose (ones_ex x)
theorem ones_any (x : Int) (w : World) : Calls Tryz.prog 119 #[.int .u64 x] w fun e w' => e = .returned (.int .i64 (ones x)) ∧ w = w' := Classical.choose_spec (ones_ex x) w
theorem count_ex (s : Set4) : ∃ r : Int, ∀ w, Calls Tryz.prog 105 #[s.val] w fun e w' => e = .returned (.int .i64 r) ∧ Keep none w w' := by
 unfold Set4.val; apply Exists.intro; intro w; go_enter Tryz.func105, Tryz.ntmps105; go_wp2_with fail; refine wp_loop_rounds 5 ?_; rw [rounds_succ]; go_wp2_with fail; refine (ones_any _ _).mono ?_; rintro e w' ⟨rfl, rfl⟩; go_wp2_with fail; rw [rounds_succ]; go_wp2_with fail; refine (ones_any _ _).mono ?_; rintro e w' ⟨rfl, rfl⟩; go_wp2_with fail; rw [rounds_succ]; go_wp2_with fail; refine (ones_any _ _).mono ?_; rintro e w' ⟨rfl, rfl⟩; go_wp2_with fail; rw [rounds_succ]; go_wp2_with fail; refine (ones_any _ _).mono ?_; rintro e w' ⟨rfl, rfl⟩; go_wp2_with fail; rw [rounds_succ]; go_wp2_with fail
 go_ret; exact ⟨rfl, (Keep.refl _ _).alloc _⟩
noncomputable def Set4.count (s : Set4) : Int := Classical.choose (count_ex s)
theorem count_any (s : Set4) (w : World) : Calls Tryz.prog 105 #[s.val] w fun e w' => e = .returned (.int .i64 s.count) ∧ Keep none w w' := Classical.choose_spec (count_ex s) w
end Go.Proofs.YtmfabihndpidnaaGreatDoor
namespace Go.Proofs.YtmfabihndpidnaaGreatDoor
set_option maxHeartbeats 4000000
open Go.RowKit
set_option maxRecDepth 100000
set_option linter.unusedVariables false
set_option linter.unusedSimpArgs false
def Set4.next (s : Set4) : Nat → Nat → Nat × Bool
 | 0, _ => (0, false)
 | k + 1, b => if s.has b then (b, true) else s.next k (b + 1)
theorem Set4.next_lt (s : Set4) : ∀ k b, b + k ≤ 256 → (s.next k b).1 < 256
 | 0, _, _ => by simp [Set4.next]
 | k + 1, b, h => by
  rw [Set4.next]; split
  · simp; omega
  · exact s.next_lt k (b + 1) (by omega)
theorem Set4.cells_box (s : Set4) (w : World) : Blk (w.alloc (.cells #[.int .u64 s.a, .int .u64 s.b, .int .u64 s.c, .int .u64 s.d] 178)) w.heap.size s.cells 178 := Blk.new w s.cells 178
theorem next_any (s : Set4) (w : World) : Calls Tryz.prog 106 #[s.val, .int .i64 0] w fun e w' => e = .returned (.tuple #[.int .u8 ((s.next 256 0).1 : Int), .bool (s.next 256 0).2]) ∧ Keep none w w' := by
 unfold Set4.val; go_enter Tryz.func106, Tryz.ntmps106; go_wp2_with fail; go_loopw [6] (fun kv wr => ∃ (k : Nat), kv = .int .i64 (k : Int) ∧ k ≤ 256 ∧ s.next (256 - k) k = s.next 256 0 ∧ Blk wr w.heap.size s.cells 178 ∧ Keep none w wr) (fun kv _ => 256 - (intOf kv).toNat)
 case atStart => exact ⟨0, rfl, by omega, rfl, s.cells_box w, (Keep.refl _ _).alloc _⟩
 case round =>
  obtain ⟨k, rfl, hk, hS, hA, hK⟩ := hrel; have HA := yh hA; have HK := yh hK; have HS := yh hS; have hc := hA.cell; unfold Set4.cells at hc; clear hA hK hS; by_cases hlt : k < 256
  · have b0 : ((k : Int) < 256) := by omega
    have hwk : IntKind.i64.wrap ((k : Int) + 1) = (k : Int) + 1 := IntWalk.i64_in _ (by omega); have hu8 : IntKind.u8.wrap (k : Int) = (k : Int) := IntWalk.u8_in _ (by omega); go_wp2_with fail; refine (has_any s k (by omega) _).mono ?_; rintro e w1 ⟨rfl, hk1⟩; cases hh : s.has k with
    | true =>
     go_wp2_with fail
     go_ret2
     have hS := HS.out; rw [show 256 - k = (256 - (k + 1)) + 1 by omega, Set4.next, if_pos hh] at hS; rw [← hS]; exact ⟨rfl, HK.out.trans hk1⟩
    | false =>
     go_wp2_with fail; go_roundw; case rel =>
      refine ⟨k + 1, rfl, by omega, ?_, HA.out.keep hk1 (by simp), HK.out.trans hk1⟩; have hS := HS.out; rw [show 256 - k = (256 - (k + 1)) + 1 by omega, Set4.next, if_neg (by simp [hh])] at hS; exact hS
     case measure =>
      simp only [intOf, Int.toNat_natCast]; omega
  · have b0 : ¬ ((k : Int) < 256) := by omega
    have hS := HS.out; rw [show 256 - k = 0 by omega, Set4.next] at hS; go_wp2_with fail
    go_ret2
    rw [← hS]; exact ⟨rfl, HK.out⟩
def escV : List Value := [.int .u8 110, .int .u8 10, .int .u8 114, .int .u8 13, .int .u8 116, .int .u8 9]
def Escs (w : World) : Prop := ∀ o, w.cell? ⟨3, o, none⟩ = escV[o]?
theorem Escs.keep {w w' : World} (h : Escs w) (k : Keep none w w') : Escs w' := fun o => by
 have hlt : 3 < w.heap.size := World.block_lt_of_cell? w ⟨3, 0, none⟩ (h 0); have := k.block 3 hlt (by simp); rw [← h o]; simp only [World.cell?, this]
theorem run_ix199_0 (a b c d e f : Value) (w : World) : (Instr.index 199 (.agg #[a, b, c, d, e, f]) (.int .i64 0)).run Tryz.prog w = .ok (.agg #[a, b]) w := by kernel_rfl
theorem run_ix199_1 (a b c d e f : Value) (w : World) : (Instr.index 199 (.agg #[a, b, c, d, e, f]) (.int .i64 1)).run Tryz.prog w = .ok (.agg #[c, d]) w := by kernel_rfl
theorem run_ix199_2 (a b c d e f : Value) (w : World) : (Instr.index 199 (.agg #[a, b, c, d, e, f]) (.int .i64 2)).run Tryz.prog w = .ok (.agg #[e, f]) w := by kernel_rfl
attribute [local go_sem ↓] run_ix199_0 run_ix199_1 run_ix199_2
theorem conv_one (W : World) (b : Nat) (hb : W.heap.size = b) (z : Int) (x : UInt8) (hz : z = (x.toNat : Int)) : (convert 48 9 (.slice (some ⟨b, 0, none⟩) 1 1)).run Tryz.prog (W.alloc (.cells #[.int .u8 z] 5)) = .ok (.string (mkS [x])) (W.alloc (.cells #[.int .u8 z] 5)) := by
 subst hb; subst hz; exact own_string_bytes (base := 0) (n := 1) ⟨rfl, .inr ⟨W.heap.size, 1, _, rfl, Nat.zero_le _, Blk.new W [.int .u8 (x.toNat : Int)] 5, by simp, by simp [maxLen], rfl, rfl⟩⟩
theorem cat_two (a x : UInt8) : (ByteArray.mk #[a]) ++ mkS [x] = mkS [a, x] := cat_l [a] [x]
theorem hexd_cut : ∀ m : Fin 16, (ByteArray.mk #[48, 49, 50, 51, 52, 53, 54, 55, 56, 57, 97, 98, 99, 100, 101, 102]).extract m.val (m.val + 1) = mkS [hexd m.val] := by decide +kernel
def single (c : UInt8) (barred : Bs) : Bs :=
 if c == 10 then [92, 110] else if c == 13 then [92, 114] else if c == 9 then [92, 116]
 else if !printable c then [92, 120, hexd (c.toNat / 16), hexd (c.toNat % 16)]
 else if barred.contains c then [92, c] else [c]
theorem single_any (c : UInt8) (barred : Bs) (w : World) (hE : Escs w) : Calls Tryz.prog 107 #[.int .u8 (c.toNat : Int), .string (mkS barred)] w fun e w' => e = .returned (.string (mkS (single c barred))) ∧ Keep none w w' := by
 have hc := hE; unfold Escs escV at hc; go_enter Tryz.func107, Tryz.ntmps107; go_wp2_with fail; refine wp_loop_rounds 4 ?_; rw [rounds_succ]; by_cases h10 : (c == 10) = true
 · have c10 : ((10 : Int) == (c.toNat : Int)) = true := by rw [beq_iff_eq.1 h10]; rfl
   have hcv := conv_one (w.alloc (.cells #[.int .u8 110, .int .u8 10] 198)) (w.heap.size + 1) (by simp) 110 110 rfl; have hct := cat_two 92 110; go_wp2_with fail; go_ret; refine ⟨?_, ((Keep.refl _ _).alloc _).alloc _⟩; rw [single, if_pos h10]; rfl
 have h10' : (c == 10) = false := by simpa using h10
 have c10 : ((10 : Int) == (c.toNat : Int)) = false := by
  rw [Bool.eq_false_iff] at h10' ⊢; intro e; apply h10'; rw [beq_iff_eq] at e ⊢; apply UInt8.toNat_inj.1; have : c.toNat = 10 := by omega
  simpa using this
 clear h10; go_wp2_with fail; rw [rounds_succ]; by_cases h13 : (c == 13) = true
 · have c13 : ((13 : Int) == (c.toNat : Int)) = true := by rw [beq_iff_eq.1 h13]; rfl
   have hcv := conv_one ((w.alloc (.cells #[.int .u8 110, .int .u8 10] 198)).alloc (.cells #[.int .u8 114, .int .u8 13] 198)) (w.heap.size + 1 + 1) (by simp) 114 114 rfl; have hct := cat_two 92 114; go_wp2_with fail; go_ret; refine ⟨?_, (((Keep.refl _ _).alloc _).alloc _).alloc _⟩; rw [single, if_neg (by simp [h10']), if_pos h13]; rfl
 have h13' : (c == 13) = false := by simpa using h13
 have c13 : ((13 : Int) == (c.toNat : Int)) = false := by
  rw [Bool.eq_false_iff] at h13' ⊢; intro e; apply h13'; rw [beq_iff_eq] at e ⊢; apply UInt8.toNat_inj.1; have : c.toNat = 13 := by omega
  simpa using this
 clear h13; go_wp2_with fail; rw [rounds_succ]; by_cases h9 : (c == 9) = true
 · have c9 : ((9 : Int) == (c.toNat : Int)) = true := by rw [beq_iff_eq.1 h9]; rfl
   have hcv := conv_one (((w.alloc (.cells #[.int .u8 110, .int .u8 10] 198)).alloc (.cells #[.int .u8 114, .int .u8 13] 198)).alloc (.cells #[.int .u8 116, .int .u8 9] 198)) (w.heap.size + 1 + 1 + 1) (by simp) 116 116 rfl; have hct := cat_two 92 116; go_wp2_with fail; go_ret; refine ⟨?_, ((((Keep.refl _ _).alloc _).alloc _).alloc _).alloc _⟩; rw [single, if_neg (by simp [h10']), if_neg (by simp [h13']), if_pos h9]; rfl
 have h9' : (c == 9) = false := by simpa using h9
 have c9 : ((9 : Int) == (c.toNat : Int)) = false := by
  rw [Bool.eq_false_iff] at h9' ⊢; intro e; apply h9'; rw [beq_iff_eq] at e ⊢; apply UInt8.toNat_inj.1; have : c.toNat = 9 := by omega
  simpa using this
 clear h9; go_wp2_with fail; rw [rounds_succ]; generalize hW : World.alloc (World.alloc (World.alloc w _) _) _ = W; have HK := yh (show Keep none w W from by rw [← hW]; exact (((Keep.refl _ _).alloc _).alloc _).alloc _); have HS := yh (show single c barred = if !printable c then [92, 120, hexd (c.toNat / 16), hexd (c.toNat % 16)] else if barred.contains c then [92, c] else [c] from by
  rw [single, if_neg (by simp [h10']), if_neg (by simp [h13']), if_neg (by simp [h9'])])
 clear hW c10 c13 c9 hc; by_cases hp : printable c = true
 · have hp1 : ((32 : Int) ≤ (c.toNat : Int)) ∧ ((c.toNat : Int) ≤ 126) := by
    unfold printable at hp; simp only [u8_le, Bool.and_eq_true, decide_eq_true_eq] at hp; exact hp
   have q1 : ¬ ((c.toNat : Int) < 32) := by omega
   have q2 : ¬ ((126 : Int) < (c.toNat : Int)) := by omega
   clear hp1; go_wp2_with fail; refine (Tryz.strings_IndexByte _ _ _).mono ?_; rintro e wx ⟨rfl, hwx⟩; obtain rfl := hwx.symm; simp only [Int.toNat_natCast, Nat.toUInt8_eq, UInt8.ofNat_toNat]; have hcon := Lib.contains_iff_indexByte barred c; by_cases hb : barred.contains c = true
   · have hb0 : (0 : Int) ≤ Lib.indexByte barred c := by rw [hb] at hcon; simpa using hcon.symm
     have hcv := conv_one W W.heap.size rfl (c.toNat : Int) c rfl; have hct := cat_two 92 c; go_wp2_with fail; go_ret; refine ⟨?_, HK.out.alloc _⟩; rw [HS.out, if_neg (by simp [hp]), if_pos hb]; rfl
   · have hb' : barred.contains c = false := by simpa using hb
     have hb0 : ¬ ((0 : Int) ≤ Lib.indexByte barred c) := by rw [hb'] at hcon; simpa using hcon.symm
     have hcv := conv_one W W.heap.size rfl (c.toNat : Int) c rfl; go_wp2_with fail; go_ret; refine ⟨?_, HK.out.alloc _⟩; rw [HS.out, if_neg (by simp [hp]), if_neg hb]; rfl
 · have hp' : printable c = false := by simpa using hp
   obtain ⟨m1, hm1⟩ : ∃ m : Nat, c.toNat / 16 = m := ⟨_, rfl⟩; obtain ⟨m2, hm2⟩ : ∃ m : Nat, c.toNat % 16 = m := ⟨_, rfl⟩; have hb1 : m1 < 16 := by have := c.toNat_lt; omega
   have hb2 : m2 < 16 := by omega
   have e1 : (c.toNat : Int) / 16 = (m1 : Int) := by omega
   have e2 : bits BinOp.and IntKind.u8 (c.toNat : Int) 15 = (m2 : Int) := by rw [and15, hm2]
   have g1 : (0 : Int) ≤ (m1 : Int) := by omega
   have g2 : (m1 : Int) + 1 ≤ 16 := by omega
   have g3 : (0 : Int) ≤ (m2 : Int) := by omega
   have g4 : (m2 : Int) + 1 ≤ 16 := by omega
   have g5 : (0 : Int) ≤ (m1 : Int) + 1 := by omega
   have g6 : (0 : Int) ≤ (m2 : Int) + 1 := by omega
   have g7 : (m1 : Int) ≤ (m1 : Int) + 1 := by omega
   have g8 : (m2 : Int) ≤ (m2 : Int) + 1 := by omega
   have u1 : IntKind.u8.wrap ((m1 : Int) + 1) = (m1 : Int) + 1 := IntWalk.u8_in _ (by omega); have u2 : IntKind.u8.wrap ((m2 : Int) + 1) = (m2 : Int) + 1 := IntWalk.u8_in _ (by omega); have x1 := hexd_cut ⟨m1, hb1⟩; have x2 := hexd_cut ⟨m2, hb2⟩; dsimp only at x1 x2; have k1 : (ByteArray.mk #[92, 120]) ++ mkS [hexd m1] = mkS [92, 120, hexd m1] := cat_l [92, 120] [hexd m1]; have k2 : mkS [92, 120, hexd m1] ++ mkS [hexd m2] = mkS [92, 120, hexd m1, hexd m2] := cat_l [92, 120, hexd m1] [hexd m2]; have HS2 := yh (show single c barred = [92, 120, hexd m1, hexd m2] from by rw [HS.out, if_pos (by simp [hp']), hm1, hm2])
   clear hm1 hm2 hb1 hb2; have hp3 : (decide ((32 : Int) ≤ (c.toNat : Int)) && decide ((c.toNat : Int) ≤ 126)) = false := by
    unfold printable at hp'; simp only [u8_le] at hp'; exact hp'
   by_cases q1 : ((c.toNat : Int) < 32)
   · clear hp3; go_wp2_with fail; go_quiet (fail); go_wp2_with fail; rw [HS2.out]; exact bodyPost_ret (v := .string (mkS [92, 120, hexd m1, hexd m2])) (by simp [results, Tryz.results107, go_sem]) rfl ⟨rfl, HK.out.drewN _⟩
   · have q2 : ((126 : Int) < (c.toNat : Int)) := by
      have : decide ((32 : Int) ≤ (c.toNat : Int)) = true := by simp; omega
      rw [this] at hp3; simp at hp3; omega
     clear hp3; go_wp2_with fail; go_quiet (fail); go_wp2_with fail; rw [HS2.out]; exact bodyPost_ret (v := .string (mkS [92, 120, hexd m1, hexd m2])) (by simp [results, Tryz.results107, go_sem]) rfl ⟨rfl, HK.out.drewN _⟩
end Go.Proofs.YtmfabihndpidnaaGreatDoor
