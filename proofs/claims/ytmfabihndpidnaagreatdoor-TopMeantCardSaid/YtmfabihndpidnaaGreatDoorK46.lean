/-
  Terms: the head of a term's text, walked.
-/
import Derived.Test.YtmfabihndpidnaaGreatDoorK44
import Derived.Lib.AppendIntMem
import Derived.Lib.ItoaLen
namespace Go.Proofs.YtmfabihndpidnaaGreatDoor
open Go.RowKit
set_option maxRecDepth 100000
set_option linter.unusedVariables false
set_option linter.unusedSimpArgs false
theorem head_walk (wd : Bs) (bx bk c : Nat) (parts : List Bs) (t : Tm) (v : Value) (w : World) (h : TmV w t v) (hb : Blk w bx [v] 23) (hp : t.place ≤ 1000000000)
 (hrow : ∀ (j : Nat) x, parts[j]? = some x → w.cell? ⟨bk, j, none⟩ = some (.string (mkS x))) (hbk : bk < w.heap.size) (hn : parts.length ≤ 3) (hc : parts.length ≤ c)
 (htab : ∀ X, Keep none w X → Lib.TabIs Tryz.prog X "internal/strconv.uint64pow10" .u64 Lib.pow10Tab) (hw : wd.length ≤ 1000) (hl : (Lib.join parts [44]).length ≤ 10000000000000) :
 Calls Tryz.prog 22 #[.string (mkS wd), .slice (some ⟨bk, 0, none⟩) parts.length c, .pointer (some ⟨bx, 0, none⟩)] w fun e w' => e = .returned (.string (mkS (headT wd t.place parts))) ∧ Keep none w w' := by
 obtain ⟨ty, y, K, rfl, hm, hk, hcall⟩ := h.placeAt; have HC := yh hcall; have HTB := yh htab; have HRW := yh hrow; have hcb := hb.cell; have c0 : ¬ 9223372036854775807 < wd.length + 1 := by omega
 have c1 : mkS wd ++ ByteArray.mk #[64] = mkS (wd ++ [64]) := cat_l wd [64]; clear hcall htab hrow h; go_enter Tryz.func22, Tryz.ntmps22; go_wp2_with fail; refine (HC.out w (Keep.refl _ _)).mono ?_; rintro e x1 ⟨rfl, k1⟩; obtain ⟨I, hI⟩ : ∃ I, Lib.itoa (t.place : Int) = I := ⟨_, rfl⟩; have hil : I.length ≤ 21 := by rw [← hI]; exact Lib.itoa_length_le _ (by omega) (by omega)
 obtain ⟨J, hJ⟩ : ∃ J, Lib.join parts [44] = J := ⟨_, rfl⟩; rw [hJ] at hl; have c2 : mkS (wd ++ [64]) ++ (ByteArray.mk I.toArray) = mkS (wd ++ [64] ++ I) := by apply ByteArray.ext; simp [mkS]
 have c3 : mkS (wd ++ [64] ++ I) ++ ByteArray.mk #[40] = mkS (wd ++ [64] ++ I ++ [40]) := cat_l _ [40]; have c4 : mkS (wd ++ [64] ++ I ++ [40]) ++ (ByteArray.mk J.toArray) = mkS (wd ++ [64] ++ I ++ [40] ++ J) := by apply ByteArray.ext; simp [mkS]
 have c5 : mkS (wd ++ [64] ++ I ++ [40] ++ J) ++ ByteArray.mk #[41] = mkS (wd ++ [64] ++ I ++ [40] ++ J ++ [41]) := cat_l _ [41]; have d1 : ¬ 9223372036854775807 < wd.length + 1 + I.length := by omega
 have d2 : ¬ 9223372036854775807 < wd.length + 1 + I.length + 1 := by omega
 have d3 : ¬ 9223372036854775807 < wd.length + 1 + I.length + 1 + J.length := by omega
 have d4 : ¬ 9223372036854775807 < wd.length + 1 + I.length + 1 + J.length + 1 := by omega
 go_wp2_with fail; refine (Tryz.strconv_Itoa (t.place : Int) (by omega) (by omega) x1 (HTB.out x1 k1)).mono ?_; rintro e x2 ⟨rfl, kk, os, rfl⟩; rw [hI]; have k2 : Keep none x1 (Sort.grow (x1.drewN kk) os) := Keep.of_below (Lib.below_grow _ _ (Nat.le_refl _) kk os); generalize Sort.grow (x1.drewN kk) os = X at k2 ⊢; go_wp2_with fail; have hjn := Tryz.strings_Join bk 0 c (parts.map mkS) ⟨#[44]⟩ X (fun j x hx => by
  obtain ⟨b, hb, rfl⟩ : ∃ b, parts[j]? = some b ∧ mkS b = x := by simpa using hx
  rw [Nat.zero_add]; exact Keep.cellN (k1.trans k2) (HRW.out j b hb)) (by have := (k1.trans k2).size; omega) (by simp; omega) (by simpa using hc) (by simp only [List.map_map]; rw [show (List.map ((fun x => x.data.toList) ∘ mkS) parts) = parts from by simp [Function.comp_def]]; rw [hJ]; omega)
 rw [show List.map (fun x : ByteArray => x.data.toList) (parts.map mkS) = parts from by simp [Function.comp_def], List.length_map, show (ByteArray.mk #[44]).data.toList = [44] from rfl, hJ] at hjn; refine hjn.mono ?_; rintro e x3 ⟨rfl, hb3⟩; go_wp2_with fail; go_ret; exact ⟨by unfold headT; rw [hI, hJ]; simp; apply ByteArray.ext; simp [mkS], k1.trans (k2.trans (Keep.of_below hb3))⟩
end Go.Proofs.YtmfabihndpidnaaGreatDoor
