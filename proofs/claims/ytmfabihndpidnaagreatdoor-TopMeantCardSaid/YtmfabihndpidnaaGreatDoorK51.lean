/-
  TopMeant, walked.
-/
import Derived.Test.YtmfabihndpidnaaGreatDoorK49
import Derived.Test.YtmfabihndpidnaaGreatDoorK50
import Derived.Test.YtmfabihndpidnaaGreatDoorK45
import Derived.Test.YtmfabihndpidnaaGreatDoorK43
namespace Go.Proofs.YtmfabihndpidnaaGreatDoor
set_option maxHeartbeats 16000000
open Go.RowKit
set_option maxRecDepth 100000
set_option linter.unusedVariables false
set_option linter.unusedSimpArgs false
theorem read_any (s : ByteArray) (w : World) (hr : Ranks w) (hE : Escs w) (R : Except Nat Tm) (hR : readT s.data.toList = R) : Calls Tryz.prog 4 #[.string s] w (ElOut w R) := by
 refine read_term s w hr hE (fun p h => ?_) (fun f h => parse_err h) R hR; obtain ⟨h1, h2, h3⟩ := parse_good h; exact ⟨fun d hd => ⟨(h1 d hd).1.2.2, (h1 d hd).2.2.1, by have := (h1 d hd).1.1.len; omega⟩, ⟨h2.1, h2.2.1.1⟩, by omega⟩
def Tm.kind : Tm → Nat
 | .text _ _ => 1
 | .rx _ _ => 2
 | .canon _ => 3
 | .lens _ => 4
theorem kind_bare {t u : Tm} (h : t.bare = u.bare) : t.kind = u.kind := by
 cases t <;> cases u <;> simp_all [Tm.bare, Tm.kind]
theorem TmV.kindAt {w : World} {t : Tm} {v : Value} (h : TmV w t v) : ∃ (ty : TypeId) (y : Value) (K : Nat), v = .iface ty y ∧ (∀ w, (method 329 ty y "Kind").run Tryz.prog w = .ok (K, y) w) ∧ (∀ args w, (callFunc K args).run Tryz.prog w = .ok (.enter K args) w) ∧
 ∀ X, Calls Tryz.prog K #[y] X fun e w' => e = .returned (.int .i64 (t.kind : Int)) ∧ Keep none X w' := by
 cases t with
 | text p s =>
  obtain rfl : v = _ := h; refine ⟨78, _, 157, rfl, fun w => by kernel_rfl, fun args w => Tryz.call157 args w, fun X => ?_⟩; go_enter Tryz.func157, Tryz.ntmps157; go_wp2_with fail; go_ret; exact ⟨rfl, (Keep.refl _ _).alloc _⟩
 | rx p n =>
  obtain rfl : v = _ := h; obtain ⟨ty, y, hnd⟩ := ndV_iface n; rw [hnd]; refine ⟨82, _, 159, rfl, fun w => by kernel_rfl, fun args w => Tryz.call159 args w, fun X => ?_⟩; clear hnd; go_enter Tryz.func159, Tryz.ntmps159; go_wp2_with fail; go_ret; exact ⟨rfl, (Keep.refl _ _).alloc _⟩
 | canon c =>
  obtain ⟨g, rfl, hc⟩ := h; refine ⟨84, _, 161, rfl, fun w => by kernel_rfl, fun args w => Tryz.call161 args w, fun X => ?_⟩; unfold ptr; clear hc; go_enter Tryz.func161, Tryz.ntmps161; go_wp2_with fail; go_ret; exact ⟨rfl, Keep.refl _ _⟩
 | lens c =>
  obtain ⟨g, rfl, hc⟩ := h; refine ⟨87, _, 163, rfl, fun w => by kernel_rfl, fun args w => Tryz.call163 args w, fun X => ?_⟩; unfold ptr; clear hc; go_enter Tryz.func163, Tryz.ntmps163; go_wp2_with fail; go_ret; exact ⟨rfl, Keep.refl _ _⟩
theorem top_walk (s : ByteArray) (w : World) (hr : Ranks w) (hE : Escs w) (hT : Pow10 w) : Calls Tryz.prog 3 #[.string s] w fun e w' => e = .returned (.bool true) ∧ Keep none w w' := by
 have HR := yh hr; have HE := yh hE; have HT := yh hT; have HF := yh (read_any ⟨#[99, 111, 112, 121, 40, 47, 97, 47, 41]⟩ w hr hE (.ok firstTm) first_read); have HS := yh (first_show w); clear hr hE hT; go_enter Tryz.func3, Tryz.ntmps3; go_wp2_with fail; refine HF.out.mono ?_; rintro e x1 ⟨v1, rfl, hv1, k1⟩; have HV := yh hv1; obtain ⟨tv, yv, rfl⟩ := hv1.iface; have HK := yh k1; clear k1 hv1; unfold faultV; go_wp2_with fail; have BF := yh (Blk.new x1 [.int .i64 0, .int .i64 0, .string ⟨#[]⟩] 26); have hg0 : w.heap.size ≤ x1.heap.size := HK.out.size; replace HV := yh (HV.out.keep ((Keep.refl none x1).alloc (.cells #[.int .i64 0, .int .i64 0, .string ⟨#[]⟩] 26)))
 replace HK := yh (HK.out.alloc (.cells #[.int .i64 0, .int .i64 0, .string ⟨#[]⟩] 26)); generalize World.alloc x1 (.cells #[.int .i64 0, .int .i64 0, .string ⟨#[]⟩] 26) = V1 at BF HV HK ⊢; generalize x1.heap.size = g0 at BF hg0 ⊢; refine (term_show (HE.out.keep HK.out) (HT.out.keep HK.out) HV.out (readT_good first_read).2 (readT_good first_read).1).mono ?_; rintro e x2 ⟨rfl, k2⟩; rw [show mkS firstTm.shown = ⟨#[99, 111, 112, 121, 64, 48, 40, 47, 97, 47, 41]⟩ from by rw [HS.out]]; replace BF := yh (BF.out.keep k2 (by simp)); replace HK := yh (HK.out.trans k2); clear k2 HV HF HS; have hgl := BF.out.lt
 go_wp2_with fail; cases hx : parse s.data.toList with
 | error f =>
  have hcz : ¬ ((f.code : Int) = 0) := by have := parse_err hx; omega
  refine (parse_walk s x2 (HR.out.keepN HK.out) _ hx).mono ?_; rintro e x3 ⟨rfl, k3⟩; replace BF := yh (BF.out.keep k3 (by simp)); replace HK := yh (HK.out.trans k3); have hc := BF.out.cell; have hf := BF.out.frozen; unfold faultV; go_wp2_with fail; go_ret; exact ⟨rfl, HK.out.three _ _ _ hg0⟩
 | ok p =>
  refine (parse_walk s x2 (HR.out.keepN HK.out) _ hx).mono ?_; rintro e x3 ⟨b, base, rfl, hb0, hb1, hpv, k3⟩; replace BF := yh (BF.out.keep k3 (by simp)); replace HK := yh (HK.out.trans k3); have hc := BF.out.cell; have hf := BF.out.frozen; unfold faultV; have hg2 : g0 < base := by omega
  go_wp2_with fail; replace BF := yh (BF.out.three (.int .i64 0) (.int .i64 0) (.string ⟨#[]⟩)); have HP := yh (show ProgV (((x3.setCell ⟨g0, 0, none⟩ (.int .i64 0)).setCell ⟨g0, 1, none⟩ (.int .i64 0)).setCell ⟨g0, 2, none⟩ (.string ⟨#[]⟩)) base b p from ProgV.up hpv hb1 (fun i hi => by
   have hne : i ≠ g0 := by omega
   rw [Below.heap_setCell _ _ _ _ (by exact hne), Below.heap_setCell _ _ _ _ (by exact hne), Below.heap_setCell _ _ _ _ (by exact hne)]))
  replace HK := yh (HK.out.three (.int .i64 0) (.int .i64 0) (.string ⟨#[]⟩) hg0); generalize World.setCell _ _ _ = V3 at BF HP HK ⊢; clear hc hf k3 hpv; obtain ⟨p1, p2, p3⟩ := parse_good hx; have hpl := print_le hx; refine (print_walk base b p V3 HP.out (HR.out.keepN HK.out) (fun d hd => (p1 d hd).1.2.2) p2.1 (by omega) (by omega)).mono ?_; rintro e x4 ⟨rfl, k4⟩; replace HK := yh (HK.out.trans k4); clear k4 HP BF; by_cases h4 : 4096 < (print p).length
  · have h4' : ((4096 : Int) < ((print p).length : Int)) := by omega
    go_wp2_with fail; go_ret; exact ⟨rfl, HK.out⟩
  · have h4' : ¬ ((4096 : Int) < ((print p).length : Int)) := by omega
    have HRP := yh (read_print hx (by omega)); clear hpl h4 p1 p2 p3; go_wp2_with fail; cases hy : readT s.data.toList with
    | error c =>
     have HZ := yh (show readT (mkS (print p)).data.toList = .error c from by rw [show (mkS (print p)).data.toList = print p from by simp]; exact onT_err HRP.out.symm hy); have hcz : ¬ ((c : Int) = 0) := by
      have : readT s.data.toList = elabT p := by unfold readT; rw [hx]
      rw [this] at hy; have := elabT_err hy; omega
     refine (read_any s x4 (HR.out.keepN HK.out) (HE.out.keep HK.out) _ hy).mono ?_; rintro e x5 ⟨pl, rfl, k5⟩; replace HK := yh (HK.out.trans k5); have BG := yh (Blk.new x5 [.int .i64 (c : Int), .int .i64 pl, .string ⟨#[]⟩] 26); replace HK := yh (HK.out.alloc (.cells #[.int .i64 (c : Int), .int .i64 pl, .string ⟨#[]⟩] 26)); unfold faultV; clear k5 hy hx HRP; go_wp2_with fail; refine (read_any (mkS (print p)) _ (HR.out.keepN HK.out) (HE.out.keep HK.out) _ HZ.out).mono ?_; rintro e x6 ⟨pl2, rfl, k6⟩; replace HK := yh (HK.out.trans k6); have c1 := ((BG.out.keep k6 (by simp)).alloc (.cells #[.int .i64 (c : Int), .int .i64 pl2, .string ⟨#[]⟩] 26)).cell
     have c2 := (Blk.new x6 [.int .i64 (c : Int), .int .i64 pl2, .string ⟨#[]⟩] 26).cell; unfold faultV; clear k6; go_wp2_with fail; go_ret; exact ⟨rfl, HK.out.alloc _⟩
    | ok t =>
     obtain ⟨u, hz, hb⟩ := onT_ok HRP.out.symm hy; have HZ := yh (show readT (mkS (print p)).data.toList = .ok u from by rw [show (mkS (print p)).data.toList = print p from by simp]; exact hz); have HG := yh (readT_good hy); have HG2 := yh (readT_good hz); have HA := yh (shown_agree hb); have HSZ := yh (show t.size = u.size by rw [← Tm.bare_size t, ← Tm.bare_size u, hb]); have HKD := yh (kind_bare hb); refine (read_any s x4 (HR.out.keepN HK.out) (HE.out.keep HK.out) _ hy).mono ?_; rintro e x5 ⟨v, rfl, hv, k5⟩; replace HK := yh ((HK.out.trans k5).alloc (.cells #[.int .i64 0, .int .i64 0, .string ⟨#[]⟩] 26))
     have BG := yh (Blk.new x5 [.int .i64 0, .int .i64 0, .string ⟨#[]⟩] 26); have HV := yh (hv.keep ((Keep.refl none x5).alloc (.cells #[.int .i64 0, .int .i64 0, .string ⟨#[]⟩] 26))); obtain ⟨ta, ya, rfl⟩ := hv.iface; unfold faultV; clear k5 hy hx HRP hz hb hv; go_wp2_with fail; refine (read_any (mkS (print p)) _ (HR.out.keepN HK.out) (HE.out.keep HK.out) _ HZ.out).mono ?_; rintro e x6 ⟨v2, rfl, hv2, k6⟩; have c1 := ((BG.out.keep k6 (by simp)).alloc (.cells #[.int .i64 0, .int .i64 0, .string ⟨#[]⟩] 26)).cell; have c2 := (Blk.new x6 [.int .i64 0, .int .i64 0, .string ⟨#[]⟩] 26).cell
     replace HK := yh ((HK.out.trans k6).alloc (.cells #[.int .i64 0, .int .i64 0, .string ⟨#[]⟩] 26)); replace HV := yh ((HV.out.keep k6).keep ((Keep.refl none x6).alloc (.cells #[.int .i64 0, .int .i64 0, .string ⟨#[]⟩] 26))); have HV2 := yh (hv2.keep ((Keep.refl none x6).alloc (.cells #[.int .i64 0, .int .i64 0, .string ⟨#[]⟩] 26))); obtain ⟨tb, yb, rfl⟩ := hv2.iface; unfold faultV; clear k6 hv2 BG; go_wp2_with fail; clear c1 c2; refine (term_show (HE.out.keep HK.out) (HT.out.keep HK.out) HV.out HG.out.2 HG.out.1).mono ?_; rintro e x7 ⟨rfl, k7⟩; replace HK := yh (HK.out.trans k7)
     replace HV := yh (HV.out.keep k7); replace HV2 := yh (HV2.out.keep k7); clear k7; go_wp2_with fail; refine (stripped_walk (mkS t.shown) x7 (by rw [mkS_size]; have := shown_len HG.out.2 HG.out.1; omega)).mono ?_; rintro e x8 ⟨rfl, k8⟩; replace HK := yh (HK.out.trans k8); replace HV := yh (HV.out.keep k8); replace HV2 := yh (HV2.out.keep k8); clear k8; rw [show (mkS t.shown).data.toList = t.shown from by simp, HA.out]; go_wp2_with fail; refine (term_show (HE.out.keep HK.out) (HT.out.keep HK.out) HV2.out HG2.out.2 HG2.out.1).mono ?_; rintro e x9 ⟨rfl, k9⟩; replace HK := yh (HK.out.trans k9)
     replace HV := yh (HV.out.keep k9); replace HV2 := yh (HV2.out.keep k9); clear k9; go_wp2_with fail; refine (stripped_walk (mkS u.shown) x9 (by rw [mkS_size]; have := shown_len HG2.out.2 HG2.out.1; omega)).mono ?_; rintro e y1 ⟨rfl, k1⟩; replace HK := yh (HK.out.trans k1); replace HV := yh (HV.out.keep k1); replace HV2 := yh (HV2.out.keep k1); clear k1; rw [show (mkS u.shown).data.toList = u.shown from by simp]; generalize sgo .out u.shown = Z; go_wp2_with fail; refine (size_any t _ y1 HV.out HG.out.1.2.1 (by have := HG.out.1.2.2; omega)).mono ?_; rintro e y2 ⟨rfl, k2⟩
     replace HK := yh (HK.out.trans k2); replace HV := yh (HV.out.keep k2); replace HV2 := yh (HV2.out.keep k2); clear k2; rw [HSZ.out]; go_wp2_with fail; refine (size_any u _ y2 HV2.out HG2.out.1.2.1 (by have := HG2.out.1.2.2; omega)).mono ?_; rintro e y3 ⟨rfl, k3⟩; replace HK := yh (HK.out.trans k3); replace HV := yh (HV.out.keep k3); replace HV2 := yh (HV2.out.keep k3); clear k3; obtain ⟨ty1, z1, K1, e1, m1, q1, C1⟩ := HV.out.kindAt; obtain ⟨ty2, z2, K2, e2, m2, q2, C2⟩ := HV2.out.kindAt; cases e1; cases e2; have HC1 := yh C1; have HC2 := yh C2; clear C1 C2
     go_wp2_with fail; refine (HC1.out _).mono ?_; rintro e y4 ⟨rfl, k4⟩; rw [HKD.out]; go_wp2_with fail; refine (HC2.out _).mono ?_; rintro e y5 ⟨rfl, k5⟩; go_wp2_with fail; go_ret; exact ⟨rfl, (HK.out.trans k4).trans k5⟩
end Go.Proofs.YtmfabihndpidnaaGreatDoor
