/-
  Terms: node. Terms: places; the head of a term's text. Terms: the head of a term's text.
-/
import Derived.Test.YtmfabihndpidnaaGreatDoorK43
import Derived.Test.YtmfabihndpidnaaGreatDoorK31
namespace Go.Proofs.YtmfabihndpidnaaGreatDoor
open Go.RowKit
set_option maxRecDepth 100000
set_option linter.unusedVariables false
set_option linter.unusedSimpArgs false
theorem node_walk (n : Nd) (w : World) (hE : Escs w) (hl : (n.show 0).length ≤ 1000000000) :
 Calls Tryz.prog 26 #[ndV n] w fun e w' => e = .returned (.string (mkS (47 :: n.show 0 ++ [47]))) ∧ Keep none w w' := by
 have hp := rx_print n w hE (by omega); obtain ⟨ty, y, hnd⟩ := ndV_iface n; rw [hnd] at hp ⊢; have HP := yh hp; have c1 : ByteArray.mk #[47] ++ mkS (n.show 0) = mkS (47 :: n.show 0) := cat_l [47] (n.show 0); have c2 : mkS (47 :: n.show 0) ++ ByteArray.mk #[47] = mkS (47 :: (n.show 0 ++ [47])) := cat_l (47 :: n.show 0) [47]; clear hp hnd hE; go_enter Tryz.func26, Tryz.ntmps26; go_wp2_with fail; refine HP.out.mono ?_; rintro e x ⟨rfl, k⟩; go_wp2_with fail; go_ret; exact ⟨rfl, k⟩
end Go.Proofs.YtmfabihndpidnaaGreatDoor
namespace Go.Proofs.YtmfabihndpidnaaGreatDoor
open Go.RowKit
set_option maxRecDepth 100000
set_option linter.unusedVariables false
set_option linter.unusedSimpArgs false
def Cn.place : Cn → Nat
 | .leaf _ p _ => p
 | .norm p _ _ _ => p
 | .star p _ => p
 | .two _ p _ _ => p
def Ln.place : Ln → Nat
 | .copy _ p _ => p
 | .del p _ _ => p
 | .ins p _ => p
 | .keyed p _ => p
 | .star p _ => p
 | .left p _ _ => p
 | .right p _ _ => p
 | .deflt p _ _ => p
 | .two _ p _ _ => p
def Tm.place : Tm → Nat
 | .text p _ => p
 | .rx p _ => p
 | .canon c => c.place
 | .lens l => l.place
theorem CnV.at0 {w : World} {c : Cn} {g : Nat} (h : CnV w c g) : w.cell? ⟨g, 0, none⟩ = some (.int .i64 (c.place : Int)) := by
 cases c with
 | leaf f p n => exact Blk.cell h 0
 | norm p n fw bw => exact Blk.cell h 0
 | star p a =>
  obtain ⟨ga, h1, _⟩ := h; exact Blk.cell h1 0
 | two c p a b =>
  obtain ⟨ga, gb, h1, _⟩ := h; exact Blk.cell h1 0
theorem LnV.at0 {w : World} {c : Ln} {g : Nat} (h : LnV w c g) : w.cell? ⟨g, 0, none⟩ = some (.int .i64 (c.place : Int)) := by
 cases c with
 | copy f p n => exact Blk.cell h 0
 | del p n t => exact Blk.cell h 0
 | ins p t => exact Blk.cell h 0
 | keyed p a =>
  obtain ⟨ga, h1, _⟩ := h; exact Blk.cell h1 0
 | star p a =>
  obtain ⟨ga, h1, _⟩ := h; exact Blk.cell h1 0
 | left p q a =>
  obtain ⟨gq, ga, h1, _⟩ := h; exact Blk.cell h1 0
 | right p a q =>
  obtain ⟨gq, ga, h1, _⟩ := h; exact Blk.cell h1 0
 | deflt p a t =>
  obtain ⟨ga, h1, _⟩ := h; exact Blk.cell h1 0
 | two c p a b =>
  obtain ⟨ga, gb, h1, _⟩ := h; exact Blk.cell h1 0
theorem place_canon (c : Cn) (g : Nat) (w : World) (h : CnV w c g) : Calls Tryz.prog 162 #[ptr g] w fun e w' => e = .returned (.int .i64 (c.place : Int)) ∧ Keep none w w' := by
 have hc := h.at0; unfold ptr; clear h; go_enter Tryz.func162, Tryz.ntmps162; go_wp2_with fail; go_ret; exact ⟨rfl, Keep.refl _ _⟩
theorem place_lens (c : Ln) (g : Nat) (w : World) (h : LnV w c g) : Calls Tryz.prog 164 #[ptr g] w fun e w' => e = .returned (.int .i64 (c.place : Int)) ∧ Keep none w w' := by
 have hc := h.at0; unfold ptr; clear h; go_enter Tryz.func164, Tryz.ntmps164; go_wp2_with fail; go_ret; exact ⟨rfl, Keep.refl _ _⟩
end Go.Proofs.YtmfabihndpidnaaGreatDoor
namespace Go.Proofs.YtmfabihndpidnaaGreatDoor
open Go.RowKit
set_option maxRecDepth 100000
set_option linter.unusedVariables false
set_option linter.unusedSimpArgs false
def headT (wd : Bs) (p : Nat) (parts : List Bs) : Bs := wd ++ 64 :: (Lib.itoa (p : Int) ++ 40 :: (Lib.join parts [44] ++ [41]))
theorem TmV.placeAt {w : World} {t : Tm} {v : Value} (h : TmV w t v) : ∃ (ty : TypeId) (y : Value) (K : Nat), v = .iface ty y ∧ (∀ w, (method 329 ty y "Place").run Tryz.prog w = .ok (K, y) w) ∧ (∀ args w, (callFunc K args).run Tryz.prog w = .ok (.enter K args) w) ∧
 ∀ X, Keep none w X → Calls Tryz.prog K #[y] X fun e w' => e = .returned (.int .i64 (t.place : Int)) ∧ Keep none X w' := by
 cases t with
 | text p s =>
  obtain rfl : v = _ := h; refine ⟨78, _, 158, rfl, fun w => by kernel_rfl, fun args w => Tryz.call158 args w, fun X k => ?_⟩; clear k; go_enter Tryz.func158, Tryz.ntmps158; go_wp2_with fail; go_ret; exact ⟨rfl, (Keep.refl _ _).alloc _⟩
 | rx p n =>
  obtain rfl : v = _ := h; obtain ⟨ty, y, hnd⟩ := ndV_iface n; rw [hnd]; refine ⟨82, _, 160, rfl, fun w => by kernel_rfl, fun args w => Tryz.call160 args w, fun X k => ?_⟩; clear k hnd; go_enter Tryz.func160, Tryz.ntmps160; go_wp2_with fail; go_ret; exact ⟨rfl, (Keep.refl _ _).alloc _⟩
 | canon c =>
  obtain ⟨g, rfl, hc⟩ := h; exact ⟨84, _, 162, rfl, fun w => by kernel_rfl, fun args w => Tryz.call162 args w, fun X k => place_canon c g X (hc.keep k)⟩
 | lens c =>
  obtain ⟨g, rfl, hc⟩ := h; exact ⟨87, _, 164, rfl, fun w => by kernel_rfl, fun args w => Tryz.call164 args w, fun X k => place_lens c g X (hc.keep k)⟩
end Go.Proofs.YtmfabihndpidnaaGreatDoor
