/-
  regex.Parse, whole.
-/
import Derived.Test.YtmfabihndpidnaaGreatDoorK28
namespace Go.Proofs.YtmfabihndpidnaaGreatDoor
set_option maxHeartbeats 8000000
open Go.RowKit
set_option maxRecDepth 100000
set_option linter.unusedVariables false
set_option linter.unusedSimpArgs false
theorem run_assert26r (v : Value) (w : World) : (Instr.typeAssert (.iface 26 v) 20 26 false).run Tryz.prog w = .ok v w := by kernel_rfl
attribute [local go_sem ↓] run_assert26r
theorem rxp_catch (bo bf : Nat) (x a b d : Value) (c p : Int) (w : World) (ho : Blk w bo [x] 80) (hf : Blk w bf [a, b, d] 26) (hne : bo ≠ bf) :
 CallsD Tryz.prog 59 #[.pointer (some ⟨bo, 0, none⟩), .pointer (some ⟨bf, 0, none⟩)] (.panicking (flt c p)) w fun e u' w' =>
  e = .returned (.tuple #[]) ∧ u' = recovered c p ∧ Blk w' bo [.nilIface] 80 ∧ Blk w' bf [.int .i64 c, .int .i64 p, .string ⟨#[]⟩] 26 ∧ Below (min bo bf) w w' := by
 have h1 := ho.cell; have h2 := ho.frozen; have h3 := hf.cell; have h4 := hf.frozen; refine callsD_of_wpS Tryz.func59 rfl fun c₀ cs hu => ?_
 apply wpS_seq; apply wpS_region; simp [wpOpsS, go_sem, recoverD, hu, flt, Tryz.ntmps59, Exit.thenS]; refine wpS_of_wp ?_; change Code.wp _ _ _ { tmps := #[.pointer (some ⟨bo, 0, none⟩), .pointer (some ⟨bf, 0, none⟩), .iface 26 (faultV c p), .iface 26 (faultV c p), undef, undef, undef, undef], defers := [] } _; unfold faultV; go_wp2_with fail; go_region
 all_goals
  refine ⟨rfl, _, rfl, .tuple #[], by simp [results, Tryz.results59, go_sem], rfl, rfl, ?_, ?_, ?_⟩
 · exact ((((((ho.set 0 .nilIface).far _ _ hne).far _ _ hne).far _ _ hne)).drew)
 · exact (((((hf.far ⟨bo, 0, none⟩ .nilIface hne.symm).set 0 (.int .i64 c)).set 1 (.int .i64 p)).set 2 (.string ⟨#[]⟩)).drew)
 · have k1 := (Below.refl (min bo bf) w).setCell (p := ⟨bo, 0, none⟩) (Nat.min_le_left _ _) .nilIface; have k2 := k1.setCell (p := ⟨bf, 0, none⟩) (Nat.min_le_right _ _) (.int .i64 c); have k3 := k2.setCell (p := ⟨bf, 1, none⟩) (Nat.min_le_right _ _) (.int .i64 p); exact (k3.setCell (p := ⟨bf, 2, none⟩) (Nat.min_le_right _ _) (.string ⟨#[]⟩)).drew
theorem rxp_idle (p q : Addr) (w : World) :
 CallsD Tryz.prog 59 #[.pointer (some p), .pointer (some q)] .returning w fun e u' w' => e = .returned (.tuple #[]) ∧ u' = .returning ∧ w' = w := by
 refine callsD_of_wpS Tryz.func59 rfl fun c₀ cs hu => ?_
 apply wpS_seq; apply wpS_region; simp [wpOpsS, go_sem, recoverD, hu, Tryz.ntmps59, Exit.thenS]; refine wpS_of_wp ?_; change Code.wp _ _ _ { tmps := #[.pointer (some p), .pointer (some q), .nilIface, .nilIface, undef, undef, undef, undef], defers := [] } _; go_wp2_with fail; cases c₀; simp_all [bodyPostS, results, Tryz.results59, go_sem]
theorem run_load80 (g : Nat) (v : Value) (w : World) (h : Blk w g [v] 80) : (loadVar 80 ⟨g, 0, none⟩).run Tryz.prog w = .ok v w := by
 have hc := h.cell 0; simp only [List.getElem?_cons_zero] at hc; simp [go_sem, hc]
theorem results_nf {fn : Func} {p q : Tmp} (h : fn.results = #[.cell p 80, .cell q 26]) (tmps : Array Value) (w : World) (g k : Nat) (v a b c : Value)
 (hp : tmps.getD p undef = .pointer (some ⟨g, 0, none⟩)) (hq : tmps.getD q undef = .pointer (some ⟨k, 0, none⟩)) (hg : Blk w g [v] 80) (hk : Blk w k [a, b, c] 26) :
 (results fn tmps).run Tryz.prog w = .ok (.tuple #[v, .agg #[a, b, c]]) w := by
 have hp' : tmps[p]?.getD undef = .pointer (some ⟨g, 0, none⟩) := by simpa using hp
 have hq' : tmps[q]?.getD undef = .pointer (some ⟨k, 0, none⟩) := by simpa using hq
 simp [results, h, hp', hq', asAddr, run_load80 g v w hg, run_loadVar_row w k 26 26 #[a, b, c] (0, 0) _ hk Tryz.underlying26 rfl (by kernel_rfl)]
def RxpOut (w : World) (r : Except Nat Nd) (e : Ending) (w' : World) : Prop :=
 match r with
 | .ok n => e = .returned (.tuple #[ndV n, faultV 0 0]) ∧ Keep none w w'
 | .error c => ∃ pl : Int, e = .returned (.tuple #[.nilIface, faultV c pl]) ∧ Keep none w w'
theorem rx_parse (s : ByteArray) (hs : s.size ≤ 1048576) (w : World) (hE : Escs w) (R : Except Nat Nd) (hR : rxParse s.data.toList = R) : Calls Tryz.prog 41 #[.string s] w (RxpOut w R) := by
 have hmf : ∀ (fn : Fn) (first cap : Array Value) (w : World), (Instr.makeFunc fn first cap).run Tryz.prog w = .ok (.func fn first cap) w := fun _ _ _ _ => rfl
 have HLEN := yh (show s.data.toList.length = s.size by show s.data.toList.length = s.data.size; simp); have HE := yh hE; have HR := yh (show (match rxAlts s.data.toList (6 * s.size + 6) 0 0 with
  | .error e => .error e
  | .ok (r, q) => if q < s.size then .error 20 else if 2000 < r.size then .error 24 else .ok r.nd) = R from by
  rw [rxParse, HLEN.out, if_neg (by omega)] at hR; exact hR)
 have b0 : ¬ ((1048576 : Int) < (s.size : Int)) := by omega
 have h3 : 3 < w.heap.size := hE.lt; clear hE hR; go_enter_defers Tryz.func41, Tryz.ntmps41; go_wp2_with fail; generalize hW : ((w.alloc _).alloc _).alloc _ = W; have BO := yh (show Blk W w.heap.size [.nilIface] 80 from by rw [← hW]; exact ((Blk.new w _ 80).alloc _).alloc _); have BF := yh (show Blk W (w.heap.size + 1) [.int .i64 0, .int .i64 0, .string ⟨#[]⟩] 26 from by
  rw [← hW]; have := Blk.new (w.alloc (.cells #[.nilIface] 80)) [.int .i64 0, .int .i64 0, .string ⟨#[]⟩] 26; rw [show (w.alloc (.cells #[.nilIface] 80)).heap.size = w.heap.size + 1 by simp] at this; exact this.alloc _)
 have SC := yh (show ScR W w.heap.size (w.heap.size + 1 + 1) s 0 0 from by
  refine ⟨none, 0, [], rfl, ?_, ⟨rfl, .inl ⟨rfl, rfl⟩⟩, by omega⟩; rw [← hW]; have := Blk.new ((w.alloc (.cells #[.nilIface] 80)).alloc (.cells #[.int .i64 0, .int .i64 0, .string ⟨#[]⟩] 26)) [.string s, .int .i64 0, .slice none 0 0] 136; rw [show ((w.alloc (.cells #[.nilIface] 80)).alloc (.cells #[.int .i64 0, .int .i64 0, .string ⟨#[]⟩] 26)).heap.size = w.heap.size + 1 + 1 by simp] at this; exact this)
 have HE1 := yh (show Escs W from by rw [← hW]; exact HE.out.keep ((((Keep.refl _ _).alloc _).alloc _).alloc _)); have HK := yh (show RK w.heap.size w W from by rw [← hW]; exact ((((RK.refl _ _).alloc _).alloc _).alloc _)); clear hW; have hne : w.heap.size ≠ w.heap.size + 1 := by omega
 cases hx : rxAlts s.data.toList (6 * s.size + 6) 0 0 with
 | error c =>
  have hRe : R = .error c := by have h0 := HR.out; rw [hx] at h0; exact h0.symm
  subst hRe; refine ((rxAt_all s (by omega) (6 * s.size + 6)).alts 0 0 w.heap.size (w.heap.size + 1 + 1) _ _ (by omega) (by omega) (by omega) SC.out HE1.out h3 hx).mono ?_; rintro e x5 ⟨pl, rfl, kx5⟩; have B3 := BO.out.rk kx5 (by decide) (by decide); have F3 := BF.out.rk kx5 (by decide) (by decide); have K3 := (HK.out.trans kx5).keep; dsimp only; refine leaves_cons (f := 59) (args := #[.pointer (some ⟨w.heap.size, 0, none⟩), .pointer (some ⟨w.heap.size + 1, 0, none⟩)]) (by simp) (by simp [go_sem]) ?_; refine (rxp_catch w.heap.size (w.heap.size + 1) _ _ _ _ c pl _ B3 F3 hne).mono ?_; rintro e u' w4 ⟨rfl, rfl, ho4, hf4, hbl⟩
  refine ⟨_, results_nf (by rfl) _ _ w.heap.size (w.heap.size + 1) _ _ _ _ rfl rfl ho4 hf4, pl, rfl, ?_⟩; exact K3.below_trans hbl (by omega)
 | ok y =>
  obtain ⟨r, q⟩ := y; have HR2 := yh (show (if q < s.size then .error 20 else if 2000 < r.size then .error 24 else .ok r.nd) = R from by have h0 := HR.out; rw [hx] at h0; exact h0); refine ((rxAt_all s (by omega) (6 * s.size + 6)).alts 0 0 w.heap.size (w.heap.size + 1 + 1) _ _ (by omega) (by omega) (by omega) SC.out HE1.out h3 hx).mono ?_; rintro e x5 ⟨v5, rfl, hv5, hs5, hq5, hq6, kx5⟩; obtain ⟨f5, rfl, hg5, hz5⟩ := hv5; obtain ⟨K5, c5, rfl, he5, hc5⟩ := hg5; have HC5 := yh hc5; have HHE5 := yh he5; have B5 := yh ((BO.out.rk kx5 (by decide) (by decide)).alloc (.cells #[.int .i64 (r.size : Int), .func (.func K5) #[] c5] 139))
  have F5 := yh ((BF.out.rk kx5 (by decide) (by decide)).alloc (.cells #[.int .i64 (r.size : Int), .func (.func K5) #[] c5] 139)); have HS5 := yh (hs5.keep ((Keep.refl _ _).alloc (.cells #[.int .i64 (r.size : Int), .func (.func K5) #[] c5] 139))); have HD5 := yh (Blk.new x5 [.int .i64 (r.size : Int), .func (.func K5) #[] c5] 139); have K5k := yh (((HK.out.trans kx5).keep).alloc (.cells #[.int .i64 (r.size : Int), .func (.func K5) #[] c5] 139)); have hsame : Same (fun i => W.heap.size ≤ i) x5 (x5.alloc (.cells #[.int .i64 (r.size : Int), .func (.func K5) #[] c5] 139)) := ((Keep.refl none x5).alloc _).same
  have HSM := yh hsame; have hd1 : w.heap.size + 1 < x5.heap.size := by
   have := kx5.size; have := BF.out.lt; omega
  have HWS := yh (show w.heap.size + 1 < W.heap.size from BF.out.lt); have HX5 := yh (show x5.heap.size ≤ (x5.alloc (.cells #[.int .i64 (r.size : Int), .func (.func K5) #[] c5] 139)).heap.size from by simp); clear hc5 he5 hs5 kx5 hx hsame BO BF SC HE1; go_wp2_with fail; generalize World.alloc x5 _ = V at B5 F5 HS5 HD5 K5k HSM HX5 ⊢; obtain ⟨ao6, oc6, xs6, hx6, hB6, hO6, hbg6⟩ := HS5.out; have HB6 := yh hB6; clear hx6 hB6 hO6 hbg6; have hhD := HD5.out.cell; by_cases hqs : q < s.size
  · have hRe : R = .error 20 := by rw [← HR2.out, if_pos hqs]
    subst hRe; refine (rx_ended_no _ s q _ (by omega) hqs _ HB6.out).mono ?_; rintro e x6 ⟨rfl, x6n, rfl⟩; have hcg := HB6.out.cell; go_wp2_with fail; clear hcg; refine (rx_fail _ _ _ _).mono ?_; rintro e x7 ⟨rfl, rfl⟩; dsimp only; refine leaves_cons (f := 59) (args := #[.pointer (some ⟨w.heap.size, 0, none⟩), .pointer (some ⟨w.heap.size + 1, 0, none⟩)]) (by simp) (by simp [go_sem]) ?_; refine (rxp_catch w.heap.size (w.heap.size + 1) _ _ _ _ _ _ _ (B5.out.drewN _) (F5.out.drewN _) hne).mono ?_; rintro e u' w4 ⟨rfl, rfl, ho4, hf4, hbl⟩; refine ⟨_, results_nf (by rfl) _ _ w.heap.size (w.heap.size + 1) _ _ _ _ rfl rfl ho4 hf4, _, rfl, ?_⟩
    exact (K5k.out.drewN _).below_trans hbl (by omega)
  · refine (rx_ended_yes _ s q _ (by omega) (by omega) _ HB6.out).mono ?_; rintro e x6 ⟨rfl, x6n, rfl⟩; replace B5 := yh (B5.out.drewN x6n); replace F5 := yh (F5.out.drewN x6n); replace K5k := yh (K5k.out.drewN x6n); replace HSM := yh (HSM.out.drewN x6n); replace HD5 := yh (HD5.out.drewN x6n); clear HB6 HS5 hhD HX5; generalize World.drewN V x6n = V7 at B5 F5 K5k HSM HD5 ⊢; have hcO := B5.out.cell; have hfO := B5.out.frozen; have hcF := F5.out.cell; have hfF := F5.out.frozen; have hcD := HD5.out.cell; by_cases hz : 2000 < r.size
    · have hRe : R = .error 24 := by rw [← HR2.out, if_neg hqs, if_pos hz]
      subst hRe; have t1 : ((2000 : Int) < (r.size : Int)) := by omega
      clear hz hqs; go_wp2_with fail; refine leaves_cons (f := 59) (args := #[.pointer (some ⟨w.heap.size, 0, none⟩), .pointer (some ⟨w.heap.size + 1, 0, none⟩)]) (by simp) (by simp [go_sem]) ?_; refine (rxp_idle _ _ _).mono ?_; rintro e u' w6 ⟨rfl, rfl, rfl⟩; refine ⟨_, results_nf (by rfl) _ _ w.heap.size (w.heap.size + 1) .nilIface (.int .i64 24) (.int .i64 0) (.string ⟨#[]⟩) rfl rfl ?_ ?_, 0, rfl, ?_⟩
      · exact ((B5.out.set 0 .nilIface).far3 _ _ _ hne)
      · exact ((F5.out.far _ _ hne.symm).three _ _ _)
      · exact (K5k.out.set _ _ (.inr (Nat.le_refl _))).three _ _ _ (by omega)
    · have hRe : R = .ok r.nd := by rw [← HR2.out, if_neg hqs, if_neg hz]
      subst hRe; have t1 : ¬ ((2000 : Int) < (r.size : Int)) := by omega
      have hent := HHE5.out; clear hz hqs; go_wp2_with fail; refine (HC5.out V7 HSM.out).mono ?_; rintro e x8 ⟨rfl, x8n, rfl⟩; obtain ⟨ty, yy, hn⟩ := ndV_iface r.nd; rw [hn]; have HN := yh hn; clear hn; go_wp2_with fail; refine leaves_cons (f := 59) (args := #[.pointer (some ⟨w.heap.size, 0, none⟩), .pointer (some ⟨w.heap.size + 1, 0, none⟩)]) (by simp) (by simp [go_sem]) ?_; refine (rxp_idle _ _ _).mono ?_; rintro e u' w6 ⟨rfl, rfl, rfl⟩; refine ⟨_, results_nf (by rfl) _ _ w.heap.size (w.heap.size + 1) (.iface ty yy) (.int .i64 0) (.int .i64 0) (.string ⟨#[]⟩) rfl rfl ?_ ?_, ?_⟩
      · exact (((B5.out.drewN _).set 0 _).far3 _ _ _ hne)
      · exact (((F5.out.drewN _).far _ _ hne.symm).three _ _ _)
      · exact ⟨by rw [HN.out]; rfl, ((K5k.out.drewN _).set _ _ (.inr (Nat.le_refl _))).three _ _ _ (by omega)⟩
end Go.Proofs.YtmfabihndpidnaaGreatDoor
