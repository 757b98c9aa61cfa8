/-
  regex.Text: the expression of one text.
-/
import Derived.Test.YtmfabihndpidnaaGreatDoorK31
namespace Go.Proofs.YtmfabihndpidnaaGreatDoor
set_option maxHeartbeats 4000000
open Go.RowKit
set_option maxRecDepth 100000
set_option linter.unusedVariables false
set_option linter.unusedSimpArgs false
theorem mkS_data' (s : ByteArray) : mkS s.data.toList = s := by cases s; simp [mkS]
theorem cut_one (s : ByteArray) (k : Nat) (h : k < s.size) : s.extract k (k + 1) = mkS [s[k]] := by
 apply ByteArray.ext; apply Array.ext'; have h1 : s.data.toList.drop k = s[k] :: s.data.toList.drop (k + 1) := drop_byte s k h; simp only [ByteArray.data_extract, Array.toList_extract, List.extract]; rw [show k + 1 - k = 1 by omega, h1]; rfl
theorem rx_text (s : ByteArray) (hs : s.size ≤ 100000) (w : World) : Calls Tryz.prog 81 #[.string s] w fun e w' => e = .returned (ndV (Nd.text s.data.toList)) ∧ Keep none w w' := by
 by_cases h0 : s.size = 0
 · have hl : s.data.toList = [] := List.eq_nil_of_length_eq_zero (by show s.data.toList.length = 0; simpa using h0); have hse : s = mkS [] := by have h1 := mkS_data' s; rw [hl] at h1; exact h1.symm
   subst hse; go_enter Tryz.func81, Tryz.ntmps81; go_wp2_with fail; go_ret; exact ⟨rfl, Keep.refl _ _⟩
 · have hne : s.toList.isEmpty = false := by
    rw [ByteArray.toList_eq, List.isEmpty_eq_false_iff]; intro e; have : s.data.toList.length = s.size := by show s.data.toList.length = s.data.size; simp
    rw [e] at this; exact h0 this.symm
   have HL := yh (show s.data.toList.length = s.size by show s.data.toList.length = s.data.size; simp); obtain ⟨T, hT⟩ : ∃ T, Nd.text s.data.toList = T := ⟨_, rfl⟩; rw [hT]; have HT := yh hT; clear hT; go_enter Tryz.func81, Tryz.ntmps81; go_wp2_with fail; go_loopw [3, 12] (fun nv kv wr => ∃ k : Nat, kv = .int .i64 (k : Int) ∧ k ≤ s.size ∧ ((k = 0 ∧ nv = .nilIface ∧ Nd.text (s.data.toList.drop k) = T) ∨ (0 < k ∧ ∃ m, nv = ndV m ∧ m.textL (s.data.toList.drop k) = T)) ∧ Keep none w wr) (fun _ kv _ => s.size - (intOf kv).toNat)
   case atStart => exact ⟨0, rfl, by omega, .inl ⟨rfl, rfl, HT.out⟩, Keep.refl _ _⟩
   case round =>
    obtain ⟨k, rfl, hk, hcase, hkp⟩ := hrel; have HK := yh hkp; clear hkp; by_cases hlt : k < s.size
    · have b0 : ((k : Int) < (s.size : Int)) := by omega
      have b1 : (0 : Int) ≤ (k : Int) := by omega
      have hwk : IntKind.i64.wrap ((k : Int) + 1) = (k : Int) + 1 := IntWalk.i64_in _ (by omega); have b2 : (k : Int) + 1 ≤ (s.size : Int) := by omega
      have b3 : (k : Int) ≤ (k : Int) + 1 := by omega
      have hcut := cut_one s k hlt; have HD := yh (drop_byte s k hlt); rcases hcase with ⟨hk0, rfl, hT⟩ | ⟨hk0, m, rfl, hT⟩
      · have HT2 := yh (show Nd.textL (.cls (Set4.of [s[k]])) (s.data.toList.drop (k + 1)) = T from by rw [HD.out] at hT; exact hT); clear hT hk0; go_wp2_with fail; refine (of_any (mkS [s[k]]) (by simp) _).mono ?_; rintro e x1 ⟨rfl, kx⟩; obtain ⟨U, hU⟩ : ∃ U, Set4.of [s[k]] = U := ⟨_, rfl⟩; have hU2 : Set4.of (mkS [s[k]]).data.toList = U := hU; rw [hU2]; rw [hU] at HT2; replace HK := yh (HK.out.trans kx); clear hU hU2 kx; unfold Set4.val; go_wp2_with fail; go_roundw; case rel => exact ⟨k + 1, rfl, by omega, .inr ⟨by omega, .cls U, rfl, HT2.out⟩, HK.out.alloc _⟩
        case measure =>
         simp only [intOf, Int.toNat_natCast]; omega
      · have HT2 := yh (show Nd.textL (.cat m (.cls (Set4.of [s[k]]))) (s.data.toList.drop (k + 1)) = T from by rw [HD.out] at hT; exact hT); clear hT hk0; obtain ⟨ty, y, hn⟩ := ndV_iface m; rw [hn]; have HN := yh hn; clear hn; go_wp2_with fail; refine (of_any (mkS [s[k]]) (by simp) _).mono ?_; rintro e x1 ⟨rfl, kx⟩; obtain ⟨U, hU⟩ : ∃ U, Set4.of [s[k]] = U := ⟨_, rfl⟩; have hU2 : Set4.of (mkS [s[k]]).data.toList = U := hU; rw [hU2]; rw [hU] at HT2; replace HK := yh (HK.out.trans kx); clear hU hU2 kx; unfold Set4.val; go_wp2_with fail; go_roundw; case rel => exact ⟨k + 1, rfl, by omega, .inr ⟨by omega, .cat m (.cls U), by rw [ndV, HN.out]; rfl, HT2.out⟩, HK.out.alloc _⟩
        case measure =>
         simp only [intOf, Int.toNat_natCast]; omega
    · have b0 : ¬ ((k : Int) < (s.size : Int)) := by omega
      rcases hcase with ⟨hk0, rfl, hT⟩ | ⟨hk0, m, rfl, hT⟩
      · omega
      · have hmT : m = T := by
         rw [show k = s.size by omega, drop_end] at hT; exact hT
        subst hmT; obtain ⟨ty, y, hn⟩ := ndV_iface m; rw [hn]; have HN := yh hn; clear hn hT; go_wp2_with fail; go_ret; exact ⟨by rw [HN.out]; rfl, HK.out⟩
end Go.Proofs.YtmfabihndpidnaaGreatDoor
