/-
  Sets of bytes: a set's text.
-/
import Derived.Test.YtmfabihndpidnaaGreatDoorK16
namespace Go.Proofs.YtmfabihndpidnaaGreatDoor
set_option maxHeartbeats 8000000
open Go.RowKit
set_option maxRecDepth 100000
set_option linter.unusedVariables false
set_option linter.unusedSimpArgs false
def specials : Bs := [40, 41, 91, 93, 123, 125, 124, 38, 45, 42, 43, 63, 46, 92, 47, 94]
def classSpecials : Bs := [92, 93, 91, 45, 94, 47]
def Set4.endOf (s : Set4) : Nat → Nat → Nat
 | 0, e => e
 | k + 1, e => if e < 255 ∧ s.has (e + 1) = true then s.endOf k (e + 1) else e
def runText (b e : Nat) : Bs := single (UInt8.ofNat b) classSpecials ++ ((if b + 1 < e then [45] else []) ++ (if b < e then single (UInt8.ofNat e) classSpecials else []))
def Set4.body (s : Set4) : Nat → Nat → Bs → Bs
 | 0, _, out => out
 | k + 1, b, out => if s.has b then s.body (k - (s.endOf 255 b - b)) (s.endOf 255 b + 1) (out ++ runText b (s.endOf 255 b)) else s.body k (b + 1) out
termination_by k => k
noncomputable def Set4.show (s : Set4) : Bs :=
 if s.count = 1 then single (UInt8.ofNat (s.next 256 0).1) specials
 else (if 128 < s.count then s.not.body 256 0 [91, 94] else s.body 256 0 [91]) ++ [93]
theorem Set4.endOf_le (s : Set4) : ∀ k e, e ≤ 255 → e ≤ s.endOf k e ∧ s.endOf k e ≤ 255
 | 0, e, h => ⟨Nat.le_refl _, h⟩
 | k + 1, e, h => by
  rw [Set4.endOf]; split
  · rename_i hc; have := s.endOf_le k (e + 1) (by omega); omega
  · exact ⟨Nat.le_refl _, h⟩
theorem single_len (c : UInt8) (b : Bs) : (single c b).length ≤ 4 := by
 unfold single; repeat' split
 all_goals simp
theorem show_one (s : Set4) (w : World) (hE : Escs w) (h1 : s.count = 1) : Calls Tryz.prog 88 #[s.val] w fun e w' => e = .returned (.string (mkS s.show)) ∧ Keep none w w' := by
 have hlt := s.next_lt 256 0 (by omega); have hto : (((UInt8.ofNat (s.next 256 0).1).toNat : Nat) : Int) = ((s.next 256 0).1 : Int) := by
  rw [UInt8.toNat_ofNat', Nat.mod_eq_of_lt (by simpa using hlt)]
 have HTO := yh hto; have HS := yh (show s.show = single (UInt8.ofNat (s.next 256 0).1) specials from by unfold Set4.show; rw [if_pos h1]); have HE := yh hE; have b1 : (s.count == 1) = true := by simp [h1]
 clear hlt hto hE h1; have hval : s.val = .agg #[.int .u64 s.a, .int .u64 s.b, .int .u64 s.c, .int .u64 s.d] := rfl; rw [hval]; go_enter Tryz.func88, Tryz.ntmps88; go_wp2_with fail; refine (count_any s _).mono ?_; rintro e w1 ⟨rfl, hk1⟩; have HB1 := yh ((s.cells_box w).keep hk1 (by simp)); have K1 := yh (((Keep.refl none w).alloc _).trans hk1); clear hk1; have hc := HB1.out.cell; unfold Set4.cells at hc; go_wp2_with fail; refine (next_any s _).mono ?_; rintro e w2 ⟨rfl, hk2⟩; clear hc; go_wp2_with fail; rw [← HTO.out]; refine (single_any _ specials _ (HE.out.keep (K1.out.trans hk2))).mono ?_
 rintro e w3 ⟨rfl, hk3⟩; go_wp2_with fail; go_ret; rw [HS.out]; exact ⟨rfl, (K1.out.trans hk2).trans hk3⟩
theorem cat_r (a : Bs) (x : UInt8) : mkS a ++ (ByteArray.mk #[x]) = mkS (a ++ [x]) := cat_l a [x]
theorem runText_len (b e : Nat) : (runText b e).length ≤ 9 := by
 have h1 := single_len (UInt8.ofNat b) classSpecials; have h2 := single_len (UInt8.ofNat e) classSpecials; have h3 : (if b + 1 < e then ([45] : Bs) else []).length ≤ 1 := by split <;> simp
 have h4 : (if b < e then single (UInt8.ofNat e) classSpecials else []).length ≤ 4 := by
  split
  · exact h2
  · simp
 unfold runText; rw [List.length_append, List.length_append]; omega
theorem single_nat (n : Nat) (hn : n < 256) (barred : Bs) (w : World) (hE : Escs w) : Calls Tryz.prog 107 #[.int .u8 (n : Int), .string (mkS barred)] w fun e w' => e = .returned (.string (mkS (single (UInt8.ofNat n) barred))) ∧ Keep none w w' := by
 have := single_any (UInt8.ofNat n) barred w hE; rw [UInt8.toNat_ofNat', Nat.mod_eq_of_lt (by simpa using hn)] at this; exact this
theorem show_many (s : Set4) (w : World) (hE : Escs w) (h1 : s.count ≠ 1) : Calls Tryz.prog 88 #[s.val] w fun e w' => e = .returned (.string (mkS s.show)) ∧ Keep none w w' := by
 have HE := yh hE; have b1 : (s.count == 1) = false := by simp [h1]
 have hval : s.val = .agg #[.int .u64 s.a, .int .u64 s.b, .int .u64 s.c, .int .u64 s.d] := rfl; rw [hval]; by_cases h128 : 128 < s.count
 · have HS := yh (show s.show = s.not.body 256 0 [91, 94] ++ [93] from by unfold Set4.show; rw [if_neg h1, if_pos h128]); clear hE h1; go_enter Tryz.func88, Tryz.ntmps88; go_wp2_with fail; refine (count_any s _).mono ?_; rintro e w1 ⟨rfl, hk1⟩; have HB1 := yh ((s.cells_box w).keep hk1 (by simp)); have K1 := yh (((Keep.refl none w).alloc _).trans hk1); clear hk1; have hc := HB1.out.cell; unfold Set4.cells at hc; go_wp2_with fail; refine (not_any s _).mono ?_; rintro e w2 ⟨rfl, hk2⟩; clear hc; have HBN := yh (HB1.out.keep hk2 (by simp)); have KN := yh (K1.out.trans hk2); clear hk2
   have hc := HBN.out.cell; have hf := HBN.out.frozen; unfold Set4.cells at hc; unfold Set4.val; go_wp2_with fail; clear hc hf; have HB2 := yh (show Blk _ w.heap.size s.not.cells 178 from (((HBN.out.set 0 (.int .u64 s.not.a)).set 1 (.int .u64 s.not.b)).set 2 (.int .u64 s.not.c)).set 3 (.int .u64 s.not.d)); have K2 := yh ((((KN.out.set ⟨w.heap.size, 0, none⟩ (.int .u64 s.not.a) (.inr (Nat.le_refl _))).set ⟨w.heap.size, 1, none⟩ (.int .u64 s.not.b) (.inr (Nat.le_refl _))).set ⟨w.heap.size, 2, none⟩ (.int .u64 s.not.c) (.inr (Nat.le_refl _))).set ⟨w.heap.size, 3, none⟩ (.int .u64 s.not.d) (.inr (Nat.le_refl _)))
   go_loopw [6, 7] (fun ov kv wr => ∃ (k b : Nat) (out : Bs), ov = .string (mkS out) ∧ kv = .int .i64 (b : Int) ∧ b ≤ 256 ∧ k + b = 256 ∧ out.length ≤ 9 * b + 2 ∧ s.not.body k b out = s.not.body 256 0 [91, 94] ∧ Blk wr w.heap.size s.not.cells 178 ∧ Keep none w wr) (fun _ kv _ => 256 - (intOf kv).toNat)
   case atStart => exact ⟨256, 0, [91, 94], rfl, rfl, by omega, by omega, by simp, rfl, HB2.out, K2.out⟩
   case round =>
    obtain ⟨k, b, out, rfl, rfl, hb, hkb, hol, hR, hB, hK⟩ := hrel; have HR := yh hR; have HB := yh hB; have HK := yh hK; have HOL := yh hol; have HKB := yh hkb; have hc := hB.cell; unfold Set4.cells at hc; clear hR hB hK hol hkb; by_cases hlt : b < 256
    · have b0 : ((b : Int) < 256) := by omega
      have hu8 : IntKind.u8.wrap (b : Int) = (b : Int) := IntWalk.u8_in _ (by omega); have hw1 : IntKind.i64.wrap ((b : Int) + 1) = (b : Int) + 1 := IntWalk.i64_in _ (by omega); obtain ⟨k', hk'⟩ : ∃ k', k = k' + 1 := ⟨k - 1, by have := HKB.out; omega⟩; subst hk'; go_wp2_with fail; refine (has_any s.not b (by omega) _).mono ?_; rintro e w3 ⟨rfl, hk3⟩; cases hh : s.not.has b with
      | false =>
       go_wp2_with fail; go_roundw; case rel =>
        refine ⟨k', b + 1, out, rfl, rfl, by omega, by have := HKB.out; omega, by have := HOL.out; omega, ?_, HB.out.keep hk3 (by simp), HK.out.trans hk3⟩; have hR := HR.out; rw [Set4.body, if_neg (by simp [hh])] at hR; exact hR
       case measure =>
        simp only [intOf, Int.toNat_natCast]; omega
      | true =>
       have HB3 := yh (HB.out.keep hk3 (by simp)); have HK3 := yh (HK.out.trans hk3); have HH := yh hh; clear hk3 hc hh; have hel := s.not.endOf_le 255 b (by omega); go_wp2_with fail; go_loopw [8] (fun ev wr2 => ∃ (j e : Nat), ev = .int .i64 (e : Int) ∧ b ≤ e ∧ e ≤ 255 ∧ 255 ≤ j + e ∧ s.not.endOf j e = s.not.endOf 255 b ∧ Blk wr2 w.heap.size s.not.cells 178 ∧ Keep none w wr2) (fun ev _ => 255 - (intOf ev).toNat)
       case atStart => exact ⟨255, b, rfl, by omega, by omega, by omega, rfl, HB3.out, HK3.out⟩
       case round =>
        obtain ⟨j, e, rfl, hbe, he, hje, hE, hB2, hK2⟩ := hrel; have HEE := yh hE; have HB4 := yh hB2; have HK4 := yh hK2; have hc := hB2.cell; unfold Set4.cells at hc; clear hE hB2 hK2; have hwe : IntKind.i64.wrap ((e : Int) + 1) = (e : Int) + 1 := IntWalk.i64_in _ (by omega); have hstop : ∀ (hst : s.not.endOf j e = e), s.not.endOf 255 b = e := fun h => by rw [← HEE.out, h]
        have HSTOP := yh hstop; clear hstop; by_cases h255 : e < 255
        · have c0 : ((e : Int) < 255) := by omega
          have hue : IntKind.u8.wrap ((e : Int) + 1) = (e : Int) + 1 := IntWalk.u8_in _ (by omega); have hcast : ((e + 1 : Nat) : Int) = (e : Int) + 1 := by omega
          have HHAS := fun w => has_any s.not (e + 1) (by omega) w
          rw [hcast] at HHAS; go_wp2_with fail; refine (HHAS _).mono ?_; rintro e5 w5 ⟨rfl, hk5⟩; clear hc; cases hh2 : s.not.has (e + 1) with
          | true =>
           go_wp2_with fail; go_roundw; case rel =>
            cases j with
            | zero => omega
            | succ j =>
            refine ⟨j, e + 1, rfl, by omega, by omega, by omega, ?_, HB4.out.keep hk5 (by simp), HK4.out.trans hk5⟩; rw [← HEE.out, Set4.endOf, if_pos ⟨h255, hh2⟩]
           case measure =>
            simp only [intOf, Int.toNat_natCast]; omega
          | false =>
           have HEND := yh (HSTOP.out (by cases j with | zero => rfl | succ j => rw [Set4.endOf, if_neg (by simp [hh2])])); have HB5 := yh (HB4.out.keep hk5 (by simp)); have HK5 := yh (HK4.out.trans hk5); clear hk5; go_wp2_with fail; refine (single_nat b (by omega) classSpecials _ (HE.out.keep HK5.out)).mono ?_; rintro e6 w6 ⟨rfl, hk6⟩; obtain ⟨t1, ht1⟩ : ∃ t, single (UInt8.ofNat b) classSpecials = t := ⟨_, rfl⟩; obtain ⟨t2, ht2⟩ : ∃ t, single (UInt8.ofNat e) classSpecials = t := ⟨_, rfl⟩; have hl1 : t1.length ≤ 4 := by rw [← ht1]; exact single_len _ _
           have hl2 : t2.length ≤ 4 := by rw [← ht2]; exact single_len _ _
           rw [ht1]; have s1 : ¬ 9223372036854775807 < out.length + t1.length := by have := HOL.out; omega
           have a1 : mkS out ++ mkS t1 = mkS (out ++ t1) := cat_l out t1; by_cases h3 : b < e
           · have c3 : ((b : Int) < (e : Int)) := by omega
             by_cases h2 : b + 1 < e
             · have c2 : ((b : Int) + 1 < (e : Int)) := by omega
               have hue2 : IntKind.u8.wrap (e : Int) = (e : Int) := IntWalk.u8_in _ (by omega); have hwz : IntKind.i64.wrap ((e : Int) + 1) = (e : Int) + 1 := IntWalk.i64_in _ (by omega); have s2 : ¬ 9223372036854775807 < out.length + t1.length + 1 := by have := HOL.out; omega
               have a2 := cat_r (out ++ t1) 45; have s3 : ¬ 9223372036854775807 < out.length + (t1.length + 1) + t2.length := by have := HOL.out; omega
               have a3 : mkS (out ++ (t1 ++ [45])) ++ mkS t2 = mkS (out ++ (t1 ++ [45]) ++ t2) := cat_l (out ++ (t1 ++ [45])) t2; go_wp2_with fail; refine (single_nat e (by omega) classSpecials _ (HE.out.keep (HK5.out.trans hk6))).mono ?_; rintro e7 w7 ⟨rfl, hk7⟩; rw [ht2]; have HBZ := yh ((HB5.out.keep hk6 (by simp)).keep hk7 (by simp)); have HKZ := yh ((HK5.out.trans hk6).trans hk7); clear hk6 hk7; go_wp2_with fail; go_roundw; case rel =>
                refine ⟨k' - (e - b), e + 1, out ++ runText b e, by simp [runText, ht1, ht2, h2, h3], rfl, by omega, by have := HKB.out; omega, ?_, ?_, HBZ.out, HKZ.out⟩
                · have := HOL.out; have := runText_len b e; rw [List.length_append]; omega
                · have hR := HR.out; rw [Set4.body, if_pos HH.out, HEND.out] at hR; exact hR
               case measure =>
                simp only [intOf, Int.toNat_natCast]; omega
             · have HEB := yh (show e = b + 1 by omega); have c2 : ¬ ((b : Int) + 1 < (e : Int)) := by omega
               have hue2 : IntKind.u8.wrap (e : Int) = (e : Int) := IntWalk.u8_in _ (by omega); have hwz : IntKind.i64.wrap ((e : Int) + 1) = (e : Int) + 1 := IntWalk.i64_in _ (by omega); have s3 : ¬ 9223372036854775807 < out.length + t1.length + t2.length := by have := HOL.out; omega
               have a3 : mkS (out ++ t1) ++ mkS t2 = mkS (out ++ t1 ++ t2) := cat_l (out ++ t1) t2; go_wp2_with fail; refine (single_nat e (by omega) classSpecials _ (HE.out.keep (HK5.out.trans hk6))).mono ?_; rintro e7 w7 ⟨rfl, hk7⟩; rw [ht2]; have HBZ := yh ((HB5.out.keep hk6 (by simp)).keep hk7 (by simp)); have HKZ := yh ((HK5.out.trans hk6).trans hk7); clear hk6 hk7; go_wp2_with fail; go_roundw; case rel =>
                refine ⟨k' - (e - b), e + 1, out ++ runText b e, by simp [runText, ht1, ht2, h2, h3], rfl, by omega, by have := HKB.out; omega, ?_, ?_, HBZ.out, HKZ.out⟩
                · have := HOL.out; have := runText_len b e; rw [List.length_append]; omega
                · have hR := HR.out; rw [Set4.body, if_pos HH.out, HEND.out] at hR; exact hR
               case measure =>
                simp only [intOf, Int.toNat_natCast]; omega
           · have c2 : ¬ ((b : Int) + 1 < (e : Int)) := by omega
             have c3 : ¬ ((b : Int) < (e : Int)) := by omega
             have h2 : ¬ b + 1 < e := by omega
             have hwz : IntKind.i64.wrap ((e : Int) + 1) = (e : Int) + 1 := IntWalk.i64_in _ (by omega); have HBZ := yh (HB5.out.keep hk6 (by simp)); have HKZ := yh (HK5.out.trans hk6); clear hk6; go_wp2_with fail; go_roundw; case rel =>
              refine ⟨k' - (e - b), e + 1, out ++ runText b e, by simp [runText, ht1, ht2, h2, h3], rfl, by omega, by have := HKB.out; omega, ?_, ?_, HBZ.out, HKZ.out⟩
              · have := HOL.out; have := runText_len b e; rw [List.length_append]; omega
              · have hR := HR.out; rw [Set4.body, if_pos HH.out, HEND.out] at hR; exact hR
             case measure =>
              simp only [intOf, Int.toNat_natCast]; omega
        · have c0 : ¬ ((e : Int) < 255) := by omega
          have HEND := yh (HSTOP.out (by cases j with | zero => rfl | succ j => rw [Set4.endOf, if_neg (by simp [h255])])); have HB5 := HB4; have HK5 := HK4; clear hc; go_wp2_with fail; refine (single_nat b (by omega) classSpecials _ (HE.out.keep HK5.out)).mono ?_; rintro e6 w6 ⟨rfl, hk6⟩; obtain ⟨t1, ht1⟩ : ∃ t, single (UInt8.ofNat b) classSpecials = t := ⟨_, rfl⟩; obtain ⟨t2, ht2⟩ : ∃ t, single (UInt8.ofNat e) classSpecials = t := ⟨_, rfl⟩; have hl1 : t1.length ≤ 4 := by rw [← ht1]; exact single_len _ _
          have hl2 : t2.length ≤ 4 := by rw [← ht2]; exact single_len _ _
          rw [ht1]; have s1 : ¬ 9223372036854775807 < out.length + t1.length := by have := HOL.out; omega
          have a1 : mkS out ++ mkS t1 = mkS (out ++ t1) := cat_l out t1; by_cases h3 : b < e
          · have c3 : ((b : Int) < (e : Int)) := by omega
            by_cases h2 : b + 1 < e
            · have c2 : ((b : Int) + 1 < (e : Int)) := by omega
              have hue2 : IntKind.u8.wrap (e : Int) = (e : Int) := IntWalk.u8_in _ (by omega); have hwz : IntKind.i64.wrap ((e : Int) + 1) = (e : Int) + 1 := IntWalk.i64_in _ (by omega); have s2 : ¬ 9223372036854775807 < out.length + t1.length + 1 := by have := HOL.out; omega
              have a2 := cat_r (out ++ t1) 45; have s3 : ¬ 9223372036854775807 < out.length + (t1.length + 1) + t2.length := by have := HOL.out; omega
              have a3 : mkS (out ++ (t1 ++ [45])) ++ mkS t2 = mkS (out ++ (t1 ++ [45]) ++ t2) := cat_l (out ++ (t1 ++ [45])) t2; go_wp2_with fail; refine (single_nat e (by omega) classSpecials _ (HE.out.keep (HK5.out.trans hk6))).mono ?_; rintro e7 w7 ⟨rfl, hk7⟩; rw [ht2]; have HBZ := yh ((HB5.out.keep hk6 (by simp)).keep hk7 (by simp)); have HKZ := yh ((HK5.out.trans hk6).trans hk7); clear hk6 hk7; go_wp2_with fail; go_roundw; case rel =>
               refine ⟨k' - (e - b), e + 1, out ++ runText b e, by simp [runText, ht1, ht2, h2, h3], rfl, by omega, by have := HKB.out; omega, ?_, ?_, HBZ.out, HKZ.out⟩
               · have := HOL.out; have := runText_len b e; rw [List.length_append]; omega
               · have hR := HR.out; rw [Set4.body, if_pos HH.out, HEND.out] at hR; exact hR
              case measure =>
               simp only [intOf, Int.toNat_natCast]; omega
            · have HEB := yh (show e = b + 1 by omega); have c2 : ¬ ((b : Int) + 1 < (e : Int)) := by omega
              have hue2 : IntKind.u8.wrap (e : Int) = (e : Int) := IntWalk.u8_in _ (by omega); have hwz : IntKind.i64.wrap ((e : Int) + 1) = (e : Int) + 1 := IntWalk.i64_in _ (by omega); have s3 : ¬ 9223372036854775807 < out.length + t1.length + t2.length := by have := HOL.out; omega
              have a3 : mkS (out ++ t1) ++ mkS t2 = mkS (out ++ t1 ++ t2) := cat_l (out ++ t1) t2; go_wp2_with fail; refine (single_nat e (by omega) classSpecials _ (HE.out.keep (HK5.out.trans hk6))).mono ?_; rintro e7 w7 ⟨rfl, hk7⟩; rw [ht2]; have HBZ := yh ((HB5.out.keep hk6 (by simp)).keep hk7 (by simp)); have HKZ := yh ((HK5.out.trans hk6).trans hk7); clear hk6 hk7; go_wp2_with fail; go_roundw; case rel =>
               refine ⟨k' - (e - b), e + 1, out ++ runText b e, by simp [runText, ht1, ht2, h2, h3], rfl, by omega, by have := HKB.out; omega, ?_, ?_, HBZ.out, HKZ.out⟩
               · have := HOL.out; have := runText_len b e; rw [List.length_append]; omega
               · have hR := HR.out; rw [Set4.body, if_pos HH.out, HEND.out] at hR; exact hR
              case measure =>
               simp only [intOf, Int.toNat_natCast]; omega
          · have c2 : ¬ ((b : Int) + 1 < (e : Int)) := by omega
            have c3 : ¬ ((b : Int) < (e : Int)) := by omega
            have h2 : ¬ b + 1 < e := by omega
            have hwz : IntKind.i64.wrap ((e : Int) + 1) = (e : Int) + 1 := IntWalk.i64_in _ (by omega); have HBZ := yh (HB5.out.keep hk6 (by simp)); have HKZ := yh (HK5.out.trans hk6); clear hk6; go_wp2_with fail; go_roundw; case rel =>
             refine ⟨k' - (e - b), e + 1, out ++ runText b e, by simp [runText, ht1, ht2, h2, h3], rfl, by omega, by have := HKB.out; omega, ?_, ?_, HBZ.out, HKZ.out⟩
             · have := HOL.out; have := runText_len b e; rw [List.length_append]; omega
             · have hR := HR.out; rw [Set4.body, if_pos HH.out, HEND.out] at hR; exact hR
            case measure =>
             simp only [intOf, Int.toNat_natCast]; omega
    · have b0 : ¬ ((b : Int) < 256) := by omega
      have hcat := cat_r out 93; have hsz : ¬ 9223372036854775807 < out.length + 1 := by have := HOL.out; omega
      go_wp2_with fail; go_ret; refine ⟨?_, HK.out⟩; have hR := HR.out; rw [show k = 0 by have := HKB.out; omega, Set4.body] at hR; rw [HS.out, ← hR]; rfl
 · have HS := yh (show s.show = s.body 256 0 [91] ++ [93] from by unfold Set4.show; rw [if_neg h1, if_neg h128]); clear hE h1; go_enter Tryz.func88, Tryz.ntmps88; go_wp2_with fail; refine (count_any s _).mono ?_; rintro e w1 ⟨rfl, hk1⟩; have HB2 := yh ((s.cells_box w).keep hk1 (by simp)); have K2 := yh (((Keep.refl none w).alloc _).trans hk1); clear hk1; go_wp2_with fail; go_loopw [6, 7] (fun ov kv wr => ∃ (k b : Nat) (out : Bs), ov = .string (mkS out) ∧ kv = .int .i64 (b : Int) ∧ b ≤ 256 ∧ k + b = 256 ∧ out.length ≤ 9 * b + 2 ∧ s.body k b out = s.body 256 0 [91] ∧ Blk wr w.heap.size s.cells 178 ∧ Keep none w wr) (fun _ kv _ => 256 - (intOf kv).toNat)
   case atStart => exact ⟨256, 0, [91], rfl, rfl, by omega, by omega, by simp, rfl, HB2.out, K2.out⟩
   case round =>
    obtain ⟨k, b, out, rfl, rfl, hb, hkb, hol, hR, hB, hK⟩ := hrel; have HR := yh hR; have HB := yh hB; have HK := yh hK; have HOL := yh hol; have HKB := yh hkb; have hc := hB.cell; unfold Set4.cells at hc; clear hR hB hK hol hkb; by_cases hlt : b < 256
    · have b0 : ((b : Int) < 256) := by omega
      have hu8 : IntKind.u8.wrap (b : Int) = (b : Int) := IntWalk.u8_in _ (by omega); have hw1 : IntKind.i64.wrap ((b : Int) + 1) = (b : Int) + 1 := IntWalk.i64_in _ (by omega); obtain ⟨k', hk'⟩ : ∃ k', k = k' + 1 := ⟨k - 1, by have := HKB.out; omega⟩; subst hk'; go_wp2_with fail; refine (has_any s b (by omega) _).mono ?_; rintro e w3 ⟨rfl, hk3⟩; cases hh : s.has b with
      | false =>
       go_wp2_with fail; go_roundw; case rel =>
        refine ⟨k', b + 1, out, rfl, rfl, by omega, by have := HKB.out; omega, by have := HOL.out; omega, ?_, HB.out.keep hk3 (by simp), HK.out.trans hk3⟩; have hR := HR.out; rw [Set4.body, if_neg (by simp [hh])] at hR; exact hR
       case measure =>
        simp only [intOf, Int.toNat_natCast]; omega
      | true =>
       have HB3 := yh (HB.out.keep hk3 (by simp)); have HK3 := yh (HK.out.trans hk3); have HH := yh hh; clear hk3 hc hh; have hel := s.endOf_le 255 b (by omega); go_wp2_with fail; go_loopw [8] (fun ev wr2 => ∃ (j e : Nat), ev = .int .i64 (e : Int) ∧ b ≤ e ∧ e ≤ 255 ∧ 255 ≤ j + e ∧ s.endOf j e = s.endOf 255 b ∧ Blk wr2 w.heap.size s.cells 178 ∧ Keep none w wr2) (fun ev _ => 255 - (intOf ev).toNat)
       case atStart => exact ⟨255, b, rfl, by omega, by omega, by omega, rfl, HB3.out, HK3.out⟩
       case round =>
        obtain ⟨j, e, rfl, hbe, he, hje, hE, hB2, hK2⟩ := hrel; have HEE := yh hE; have HB4 := yh hB2; have HK4 := yh hK2; have hc := hB2.cell; unfold Set4.cells at hc; clear hE hB2 hK2; have hwe : IntKind.i64.wrap ((e : Int) + 1) = (e : Int) + 1 := IntWalk.i64_in _ (by omega); have hstop : ∀ (hst : s.endOf j e = e), s.endOf 255 b = e := fun h => by rw [← HEE.out, h]
        have HSTOP := yh hstop; clear hstop; by_cases h255 : e < 255
        · have c0 : ((e : Int) < 255) := by omega
          have hue : IntKind.u8.wrap ((e : Int) + 1) = (e : Int) + 1 := IntWalk.u8_in _ (by omega); have hcast : ((e + 1 : Nat) : Int) = (e : Int) + 1 := by omega
          have HHAS := fun w => has_any s (e + 1) (by omega) w
          rw [hcast] at HHAS; go_wp2_with fail; refine (HHAS _).mono ?_; rintro e5 w5 ⟨rfl, hk5⟩; clear hc; cases hh2 : s.has (e + 1) with
          | true =>
           go_wp2_with fail; go_roundw; case rel =>
            cases j with
            | zero => omega
            | succ j =>
            refine ⟨j, e + 1, rfl, by omega, by omega, by omega, ?_, HB4.out.keep hk5 (by simp), HK4.out.trans hk5⟩; rw [← HEE.out, Set4.endOf, if_pos ⟨h255, hh2⟩]
           case measure =>
            simp only [intOf, Int.toNat_natCast]; omega
          | false =>
           have HEND := yh (HSTOP.out (by cases j with | zero => rfl | succ j => rw [Set4.endOf, if_neg (by simp [hh2])])); have HB5 := yh (HB4.out.keep hk5 (by simp)); have HK5 := yh (HK4.out.trans hk5); clear hk5; go_wp2_with fail; refine (single_nat b (by omega) classSpecials _ (HE.out.keep HK5.out)).mono ?_; rintro e6 w6 ⟨rfl, hk6⟩; obtain ⟨t1, ht1⟩ : ∃ t, single (UInt8.ofNat b) classSpecials = t := ⟨_, rfl⟩; obtain ⟨t2, ht2⟩ : ∃ t, single (UInt8.ofNat e) classSpecials = t := ⟨_, rfl⟩; have hl1 : t1.length ≤ 4 := by rw [← ht1]; exact single_len _ _
           have hl2 : t2.length ≤ 4 := by rw [← ht2]; exact single_len _ _
           rw [ht1]; have s1 : ¬ 9223372036854775807 < out.length + t1.length := by have := HOL.out; omega
           have a1 : mkS out ++ mkS t1 = mkS (out ++ t1) := cat_l out t1; by_cases h3 : b < e
           · have c3 : ((b : Int) < (e : Int)) := by omega
             by_cases h2 : b + 1 < e
             · have c2 : ((b : Int) + 1 < (e : Int)) := by omega
               have hue2 : IntKind.u8.wrap (e : Int) = (e : Int) := IntWalk.u8_in _ (by omega); have hwz : IntKind.i64.wrap ((e : Int) + 1) = (e : Int) + 1 := IntWalk.i64_in _ (by omega); have s2 : ¬ 9223372036854775807 < out.length + t1.length + 1 := by have := HOL.out; omega
               have a2 := cat_r (out ++ t1) 45; have s3 : ¬ 9223372036854775807 < out.length + (t1.length + 1) + t2.length := by have := HOL.out; omega
               have a3 : mkS (out ++ (t1 ++ [45])) ++ mkS t2 = mkS (out ++ (t1 ++ [45]) ++ t2) := cat_l (out ++ (t1 ++ [45])) t2; go_wp2_with fail; refine (single_nat e (by omega) classSpecials _ (HE.out.keep (HK5.out.trans hk6))).mono ?_; rintro e7 w7 ⟨rfl, hk7⟩; rw [ht2]; have HBZ := yh ((HB5.out.keep hk6 (by simp)).keep hk7 (by simp)); have HKZ := yh ((HK5.out.trans hk6).trans hk7); clear hk6 hk7; go_wp2_with fail; go_roundw; case rel =>
                refine ⟨k' - (e - b), e + 1, out ++ runText b e, by simp [runText, ht1, ht2, h2, h3], rfl, by omega, by have := HKB.out; omega, ?_, ?_, HBZ.out, HKZ.out⟩
                · have := HOL.out; have := runText_len b e; rw [List.length_append]; omega
                · have hR := HR.out; rw [Set4.body, if_pos HH.out, HEND.out] at hR; exact hR
               case measure =>
                simp only [intOf, Int.toNat_natCast]; omega
             · have HEB := yh (show e = b + 1 by omega); have c2 : ¬ ((b : Int) + 1 < (e : Int)) := by omega
               have hue2 : IntKind.u8.wrap (e : Int) = (e : Int) := IntWalk.u8_in _ (by omega); have hwz : IntKind.i64.wrap ((e : Int) + 1) = (e : Int) + 1 := IntWalk.i64_in _ (by omega); have s3 : ¬ 9223372036854775807 < out.length + t1.length + t2.length := by have := HOL.out; omega
               have a3 : mkS (out ++ t1) ++ mkS t2 = mkS (out ++ t1 ++ t2) := cat_l (out ++ t1) t2; go_wp2_with fail; refine (single_nat e (by omega) classSpecials _ (HE.out.keep (HK5.out.trans hk6))).mono ?_; rintro e7 w7 ⟨rfl, hk7⟩; rw [ht2]; have HBZ := yh ((HB5.out.keep hk6 (by simp)).keep hk7 (by simp)); have HKZ := yh ((HK5.out.trans hk6).trans hk7); clear hk6 hk7; go_wp2_with fail; go_roundw; case rel =>
                refine ⟨k' - (e - b), e + 1, out ++ runText b e, by simp [runText, ht1, ht2, h2, h3], rfl, by omega, by have := HKB.out; omega, ?_, ?_, HBZ.out, HKZ.out⟩
                · have := HOL.out; have := runText_len b e; rw [List.length_append]; omega
                · have hR := HR.out; rw [Set4.body, if_pos HH.out, HEND.out] at hR; exact hR
               case measure =>
                simp only [intOf, Int.toNat_natCast]; omega
           · have c2 : ¬ ((b : Int) + 1 < (e : Int)) := by omega
             have c3 : ¬ ((b : Int) < (e : Int)) := by omega
             have h2 : ¬ b + 1 < e := by omega
             have hwz : IntKind.i64.wrap ((e : Int) + 1) = (e : Int) + 1 := IntWalk.i64_in _ (by omega); have HBZ := yh (HB5.out.keep hk6 (by simp)); have HKZ := yh (HK5.out.trans hk6); clear hk6; go_wp2_with fail; go_roundw; case rel =>
              refine ⟨k' - (e - b), e + 1, out ++ runText b e, by simp [runText, ht1, ht2, h2, h3], rfl, by omega, by have := HKB.out; omega, ?_, ?_, HBZ.out, HKZ.out⟩
              · have := HOL.out; have := runText_len b e; rw [List.length_append]; omega
              · have hR := HR.out; rw [Set4.body, if_pos HH.out, HEND.out] at hR; exact hR
             case measure =>
              simp only [intOf, Int.toNat_natCast]; omega
        · have c0 : ¬ ((e : Int) < 255) := by omega
          have HEND := yh (HSTOP.out (by cases j with | zero => rfl | succ j => rw [Set4.endOf, if_neg (by simp [h255])])); have HB5 := HB4; have HK5 := HK4; clear hc; go_wp2_with fail; refine (single_nat b (by omega) classSpecials _ (HE.out.keep HK5.out)).mono ?_; rintro e6 w6 ⟨rfl, hk6⟩; obtain ⟨t1, ht1⟩ : ∃ t, single (UInt8.ofNat b) classSpecials = t := ⟨_, rfl⟩; obtain ⟨t2, ht2⟩ : ∃ t, single (UInt8.ofNat e) classSpecials = t := ⟨_, rfl⟩; have hl1 : t1.length ≤ 4 := by rw [← ht1]; exact single_len _ _
          have hl2 : t2.length ≤ 4 := by rw [← ht2]; exact single_len _ _
          rw [ht1]; have s1 : ¬ 9223372036854775807 < out.length + t1.length := by have := HOL.out; omega
          have a1 : mkS out ++ mkS t1 = mkS (out ++ t1) := cat_l out t1; by_cases h3 : b < e
          · have c3 : ((b : Int) < (e : Int)) := by omega
            by_cases h2 : b + 1 < e
            · have c2 : ((b : Int) + 1 < (e : Int)) := by omega
              have hue2 : IntKind.u8.wrap (e : Int) = (e : Int) := IntWalk.u8_in _ (by omega); have hwz : IntKind.i64.wrap ((e : Int) + 1) = (e : Int) + 1 := IntWalk.i64_in _ (by omega); have s2 : ¬ 9223372036854775807 < out.length + t1.length + 1 := by have := HOL.out; omega
              have a2 := cat_r (out ++ t1) 45; have s3 : ¬ 9223372036854775807 < out.length + (t1.length + 1) + t2.length := by have := HOL.out; omega
              have a3 : mkS (out ++ (t1 ++ [45])) ++ mkS t2 = mkS (out ++ (t1 ++ [45]) ++ t2) := cat_l (out ++ (t1 ++ [45])) t2; go_wp2_with fail; refine (single_nat e (by omega) classSpecials _ (HE.out.keep (HK5.out.trans hk6))).mono ?_; rintro e7 w7 ⟨rfl, hk7⟩; rw [ht2]; have HBZ := yh ((HB5.out.keep hk6 (by simp)).keep hk7 (by simp)); have HKZ := yh ((HK5.out.trans hk6).trans hk7); clear hk6 hk7; go_wp2_with fail; go_roundw; case rel =>
               refine ⟨k' - (e - b), e + 1, out ++ runText b e, by simp [runText, ht1, ht2, h2, h3], rfl, by omega, by have := HKB.out; omega, ?_, ?_, HBZ.out, HKZ.out⟩
               · have := HOL.out; have := runText_len b e; rw [List.length_append]; omega
               · have hR := HR.out; rw [Set4.body, if_pos HH.out, HEND.out] at hR; exact hR
              case measure =>
               simp only [intOf, Int.toNat_natCast]; omega
            · have HEB := yh (show e = b + 1 by omega); have c2 : ¬ ((b : Int) + 1 < (e : Int)) := by omega
              have hue2 : IntKind.u8.wrap (e : Int) = (e : Int) := IntWalk.u8_in _ (by omega); have hwz : IntKind.i64.wrap ((e : Int) + 1) = (e : Int) + 1 := IntWalk.i64_in _ (by omega); have s3 : ¬ 9223372036854775807 < out.length + t1.length + t2.length := by have := HOL.out; omega
              have a3 : mkS (out ++ t1) ++ mkS t2 = mkS (out ++ t1 ++ t2) := cat_l (out ++ t1) t2; go_wp2_with fail; refine (single_nat e (by omega) classSpecials _ (HE.out.keep (HK5.out.trans hk6))).mono ?_; rintro e7 w7 ⟨rfl, hk7⟩; rw [ht2]; have HBZ := yh ((HB5.out.keep hk6 (by simp)).keep hk7 (by simp)); have HKZ := yh ((HK5.out.trans hk6).trans hk7); clear hk6 hk7; go_wp2_with fail; go_roundw; case rel =>
               refine ⟨k' - (e - b), e + 1, out ++ runText b e, by simp [runText, ht1, ht2, h2, h3], rfl, by omega, by have := HKB.out; omega, ?_, ?_, HBZ.out, HKZ.out⟩
               · have := HOL.out; have := runText_len b e; rw [List.length_append]; omega
               · have hR := HR.out; rw [Set4.body, if_pos HH.out, HEND.out] at hR; exact hR
              case measure =>
               simp only [intOf, Int.toNat_natCast]; omega
          · have c2 : ¬ ((b : Int) + 1 < (e : Int)) := by omega
            have c3 : ¬ ((b : Int) < (e : Int)) := by omega
            have h2 : ¬ b + 1 < e := by omega
            have hwz : IntKind.i64.wrap ((e : Int) + 1) = (e : Int) + 1 := IntWalk.i64_in _ (by omega); have HBZ := yh (HB5.out.keep hk6 (by simp)); have HKZ := yh (HK5.out.trans hk6); clear hk6; go_wp2_with fail; go_roundw; case rel =>
             refine ⟨k' - (e - b), e + 1, out ++ runText b e, by simp [runText, ht1, ht2, h2, h3], rfl, by omega, by have := HKB.out; omega, ?_, ?_, HBZ.out, HKZ.out⟩
             · have := HOL.out; have := runText_len b e; rw [List.length_append]; omega
             · have hR := HR.out; rw [Set4.body, if_pos HH.out, HEND.out] at hR; exact hR
            case measure =>
             simp only [intOf, Int.toNat_natCast]; omega
    · have b0 : ¬ ((b : Int) < 256) := by omega
      have hcat := cat_r out 93; have hsz : ¬ 9223372036854775807 < out.length + 1 := by have := HOL.out; omega
      go_wp2_with fail; go_ret; refine ⟨?_, HK.out⟩; have hR := HR.out; rw [show k = 0 by have := HKB.out; omega, Set4.body] at hR; rw [HS.out, ← hR]; rfl
theorem show_any (s : Set4) (w : World) (hE : Escs w) : Calls Tryz.prog 88 #[s.val] w fun e w' => e = .returned (.string (mkS s.show)) ∧ Keep none w w' := by
 by_cases h : s.count = 1
 · exact show_one s w hE h
 · exact show_many s w hE h
end Go.Proofs.YtmfabihndpidnaaGreatDoor
