/-
  The scanner of expressions over bytes: alternatives; meets.
-/
import Derived.Test.YtmfabihndpidnaaGreatDoorK24
namespace Go.Proofs.YtmfabihndpidnaaGreatDoor
set_option maxHeartbeats 16000000
open Go.RowKit
set_option maxRecDepth 100000
set_option linter.unusedVariables false
set_option linter.unusedSimpArgs false
theorem rx_alts (s : ByteArray) (hs : s.size ≤ 2000000) (m : Nat) (ih : ∀ k, k < m → RxAt s k) (n p base g : Nat) (w : World) (R : Except Nat (Rl × Nat)) (hp : p ≤ s.size) (hm : 6 * (s.size - p) + 6 ≤ m) (hn : n ≤ 1000) (h : ScR w base g s p n) (hE : Escs w) (hb3 : 3 < base) (hR : rxAlts s.data.toList m n p = R) :
 Calls Tryz.prog 60 #[.pointer (some ⟨g, 0, none⟩)] w (RxOut base g s n p w R) := by
 have HE := yh hE; have IH := yh ih; have hgl := h.lt; obtain ⟨m, rfl⟩ : ∃ m', m = m' + 1 := ⟨m - 1, by omega⟩; have HSA := yh (show ScR (w.alloc (.cells #[.int .i64 0, .nilFunc] 139)) base g s p n from h.keep ((Keep.refl _ _).alloc _)); have HEA := yh (show Escs (w.alloc (.cells #[.int .i64 0, .nilFunc] 139)) from hE.keep ((Keep.refl _ _).alloc _)); have HKA := yh (show RK base w (w.alloc (.cells #[.int .i64 0, .nilFunc] 139)) from (RK.refl _ _).alloc _); have HR := yh hR; clear ih h hE hR; go_enter Tryz.func60, Tryz.ntmps60; go_wp2_with fail; cases hx : rxMeets s.data.toList m n p with
 | error c =>
  refine ((IH.out m (by omega)).meets n p base g _ _ hp (by omega) hn HSA.out HEA.out hb3 hx).mono ?_; rintro e x1 ⟨pl, rfl, kx1⟩; have hRe : R = .error c := by
   have h0 := HR.out; rw [rxAlts, hx] at h0; exact h0.symm
  subst hRe; exact ⟨rfl, _, rfl, HKA.out.trans kx1⟩
 | ok y =>
  obtain ⟨o, q⟩ := y; refine ((IH.out m (by omega)).meets n p base g _ _ hp (by omega) hn HSA.out HEA.out hb3 hx).mono ?_; rintro e x1 ⟨v1, rfl, hv1, hs1, hq1, hq2, kx1⟩; obtain ⟨Ko, co, rfl⟩ := hv1.form; have HR2 := yh (show rxAltsL s.data.toList m n o q = R from by
   have h0 := HR.out; rw [rxAlts, hx] at h0; exact h0)
  have HT := yh (AI.first hgl.1 kx1 hs1 hv1); clear hv1 hs1 kx1 hx HR HSA HEA HKA; go_wp2_with fail; generalize World.alloc x1 _ = W at HT ⊢; generalize x1.heap.size = b at HT ⊢; go_loopw [] (fun wr => ∃ (k r : Nat) (o : Rl) (Ko : Nat) (co : Array Value), r ≤ s.size ∧ p ≤ r ∧ 6 * (s.size - r) + (6 - 1) ≤ k ∧ k ≤ m ∧ rxAltsL s.data.toList k n o r = R ∧ AI w wr base b o Ko co g s r n) (fun wr => s.size - rdAt wr g)
  case atStart => exact ⟨m, q, o, Ko, co, hq2, hq1, by omega, by omega, HR2.out, HT.out⟩
  case round =>
   clear HT HR2; obtain ⟨k, r, o, Ko, co, hr, hlo, hk, hkm, hR, hT⟩ := hrel; have HT := yh hT; have HAT := yh hT.sc.at_; have HR := yh hR; clear hT hR; obtain ⟨k, rfl⟩ : ∃ k', k = k' + 1 := ⟨k - 1, by omega⟩; by_cases hlt : r < s.size
   · have hlt256 := s[r].toNat_lt; have HGB := yh (get_byte s r hlt); have hwr : IntKind.i64.wrap ((r : Int) + 1) = (r : Int) + 1 := IntWalk.i64_in _ (by omega); obtain ⟨ao, oc, xs, hxs, hBs, hOs, hgs⟩ := HT.out.sc; have HBs := yh hBs; clear hxs hBs hOs hgs; go_wp2_with fail; refine (rx_ended_no g s r _ hs hlt _ HBs.out).mono ?_; rintro e x2 ⟨rfl, x2n, rfl⟩; have HT := yh (HT.out.drewN x2n); generalize World.drewN wr x2n = V1 at HT ⊢; clear HBs; obtain ⟨ao, oc, xs, hxs, hBs, hOs, hgs⟩ := HT.out.sc; have HBs := yh hBs; clear hxs hBs hOs hgs; go_wp2_with fail; refine (rx_next g s r _ hs hlt _ HBs.out).mono ?_
     rintro e x3 ⟨rfl, x3n, rfl⟩; have HT := yh (HT.out.drewN x3n); generalize World.drewN V1 x3n = V2 at HT ⊢; by_cases h124 : (s[r] == 124) = true
     · have c124 : ((s[r].toNat : Int) == 124) = true := byte_eq _ 124 true (by omega) h124; have HY := yh (show s.data.toList[r]? = some 124 from by rw [HGB.out]; simpa using h124); clear h124; have hcg := HT.out.sc.cellAt; have hfg := HT.out.sc.free; go_wp2_with fail; clear hcg hfg; have HT := yh HT.out.step; generalize World.setCell V2 ⟨g, 1, none⟩ (.int .i64 ((r : Int) + 1)) = V3 at HT ⊢; refine wp_region_pend (fun w' => ∀ q, w'.cell? ⟨b, q, none⟩ = [Value.int .i64 (o.size : Int), .func (.func Ko) #[] co][q]?) 4 (by kernel_rfl) (by kernel_rfl) (fun c a d v w h => by cases d <;> exact h) (by exact HT.out.bo.drew.cell) ?_
       simp only [num, List.length_cons, List.length_nil]; repeat
        (refine pend_stable (by decide +kernel) (fun K hK => ?_)
         rw [if_pos (by rfl)]; apply Exists.intro; refine ⟨fun w' hS' => ?_, hK _ ?_⟩
         · (try dsimp only at hS')
           go_simp; try with_reducible rfl
         clear hK K; simp only [Act.put, List.setIfInBounds_toArray, List.set])
       have hE3 := HE.out.rk (HT.out.k.trans (RK.refl base _).drew) hb3; cases hx : rxMeets s.data.toList k n (r + 1) with
       | error c =>
        refine pend_active (by decide +kernel) (fun K hK => ?_); rw [if_pos (by rfl)]; go_wp2_with fail; refine (((IH.out k (by omega)).meets) n (r + 1) base g _ _ (by omega) (by omega) hn (HT.out.keep ((Keep.refl _ _).drew)).sc hE3 hb3 hx).mono ?_; rintro e x3 ⟨pl, rfl, kx3⟩; have hRe : R = .error c := by
         have h0 := HR.out; rw [rxAltsL, if_pos HY.out, hx] at h0; exact h0.symm
        subst hRe; exact ⟨rfl, _, rfl, (HT.out.k.trans (RK.refl base _).drew).trans kx3⟩
       | ok y =>
        obtain ⟨x, q⟩ := y; refine pend_active (by decide +kernel) (fun K hK => ?_); rw [if_pos (by rfl)]; go_wp2_with fail; refine (((IH.out k (by omega)).meets) n (r + 1) base g _ _ (by omega) (by omega) hn (HT.out.keep ((Keep.refl _ _).drew)).sc hE3 hb3 hx).mono ?_; rintro e x3 ⟨v1, rfl, hv1, hs3, hq3, hq4, kx3⟩; have HTD := yh (HT.out.keep ((Keep.refl _ _).drew)); have HV1 := yh (hv1.mono (ok' := okA w b) (fun i _ hi => HTD.out.okNew i hi)); have HT := yh (HTD.out.call kx3 hs3); clear hv1 hs3 kx3 HTD; refine hK.out _ _ (HT.out.bo.cell) ?_; clear hK K; try simp only [Act.put, List.setIfInBounds_toArray, List.set]
        refine pend_active (by decide +kernel) (fun K hK => ?_); rw [if_pos (by rfl)]; go_wp2_with fail; refine (join_any o x _ _ 80 .alt (.inr (.inl ⟨rfl, rfl⟩)) _ (okA w b) HT.out.okNew HT.out.vo HV1.out).mono ?_; rintro e x4 ⟨v2, rfl, hv2, kx2⟩; obtain ⟨K2, c2, rfl⟩ := hv2.form; have HT := yh (HT.out.keep kx2); have HV2 := yh hv2; clear hv2 kx2; refine hK.out _ _ (HT.out.bo.cell) ?_; clear hK K; try simp only [Act.put, List.setIfInBounds_toArray, List.set]
        have hcA := HT.out.bo.cell; have hfA := HT.out.bo.frozen; refine pend_last (by decide +kernel) (by decide +kernel) (by decide +kernel) (fun K hK => ?_); rw [if_pos (by rfl)]; go_simp; refine hK.out _ _ ?_; clear hcA hfA; go_wp2_with fail; go_roundw; case rel =>
         refine ⟨k, q, o.join x .alt, K2, c2, hq4, by omega, by omega, by omega, ?_, HT.out.put HV2.out⟩; have h0 := HR.out; rw [rxAltsL, if_pos HY.out, hx] at h0; exact h0
        case measure =>
         rw [(HT.out.put HV2.out).sc.at_, HAT.out]; omega
     have h124' : (s[r] == 124) = false := by simpa using h124
     have c124 : ((s[r].toNat : Int) == 124) = false := byte_eq _ 124 false (by omega) h124'; have HN124 := yh (show ¬ s.data.toList[r]? = some 124 from by rw [HGB.out]; simpa using h124); clear h124 h124'; have hRe : R = .ok (o, r) := by
      have h0 := HR.out; rw [rxAltsL, if_neg HN124.out] at h0; exact h0.symm
     subst hRe; have hcA := HT.out.bo.cell; have hcR := HT.out.br.cell; have hfR := HT.out.br.frozen; go_wp2_with fail; clear hcA hcR hfR; exact bodyPost_ret (results_rule rfl _ _ w.heap.size _ _ rfl ((HT.out.br.set 0 _).set 1 _)) rfl (HT.out.ret hlo hr)
   · have HNN := yh (get_none s r (by omega)); obtain ⟨ao, oc, xs, hxs, hBs, hOs, hgs⟩ := HT.out.sc; have HBs := yh hBs; clear hxs hBs hOs hgs; go_wp2_with fail; refine (rx_ended_yes g s r _ hs (by omega) _ HBs.out).mono ?_; rintro e x2 ⟨rfl, x2n, rfl⟩; have HT := yh (HT.out.drewN x2n); generalize World.drewN wr x2n = V1 at HT ⊢; have hRe : R = .ok (o, r) := by
      have h0 := HR.out; rw [rxAltsL, if_neg (by rw [HNN.out]; simp)] at h0; exact h0.symm
     subst hRe; have hcA := HT.out.bo.cell; have hcR := HT.out.br.cell; have hfR := HT.out.br.frozen; go_wp2_with fail; clear hcA hcR hfR; exact bodyPost_ret (results_rule rfl _ _ w.heap.size _ _ rfl ((HT.out.br.set 0 _).set 1 _)) rfl (HT.out.ret hlo hr)
theorem rx_meets (s : ByteArray) (hs : s.size ≤ 2000000) (m : Nat) (ih : ∀ k, k < m → RxAt s k) (n p base g : Nat) (w : World) (R : Except Nat (Rl × Nat)) (hp : p ≤ s.size) (hm : 6 * (s.size - p) + 5 ≤ m) (hn : n ≤ 1000) (h : ScR w base g s p n) (hE : Escs w) (hb3 : 3 < base) (hR : rxMeets s.data.toList m n p = R) :
 Calls Tryz.prog 77 #[.pointer (some ⟨g, 0, none⟩)] w (RxOut base g s n p w R) := by
 have HE := yh hE; have IH := yh ih; have hgl := h.lt; obtain ⟨m, rfl⟩ : ∃ m', m = m' + 1 := ⟨m - 1, by omega⟩; have HSA := yh (show ScR (w.alloc (.cells #[.int .i64 0, .nilFunc] 139)) base g s p n from h.keep ((Keep.refl _ _).alloc _)); have HEA := yh (show Escs (w.alloc (.cells #[.int .i64 0, .nilFunc] 139)) from hE.keep ((Keep.refl _ _).alloc _)); have HKA := yh (show RK base w (w.alloc (.cells #[.int .i64 0, .nilFunc] 139)) from (RK.refl _ _).alloc _); have HR := yh hR; clear ih h hE hR; go_enter Tryz.func77, Tryz.ntmps77; go_wp2_with fail; cases hx : rxRow s.data.toList m n p with
 | error c =>
  refine ((IH.out m (by omega)).row n p base g _ _ hp (by omega) hn HSA.out HEA.out hb3 hx).mono ?_; rintro e x1 ⟨pl, rfl, kx1⟩; have hRe : R = .error c := by
   have h0 := HR.out; rw [rxMeets, hx] at h0; exact h0.symm
  subst hRe; exact ⟨rfl, _, rfl, HKA.out.trans kx1⟩
 | ok y =>
  obtain ⟨o, q⟩ := y; refine ((IH.out m (by omega)).row n p base g _ _ hp (by omega) hn HSA.out HEA.out hb3 hx).mono ?_; rintro e x1 ⟨v1, rfl, hv1, hs1, hq1, hq2, kx1⟩; obtain ⟨Ko, co, rfl⟩ := hv1.form; have HR2 := yh (show rxMeetsL s.data.toList m n o q = R from by
   have h0 := HR.out; rw [rxMeets, hx] at h0; exact h0)
  have HT := yh (AI.first hgl.1 kx1 hs1 hv1); clear hv1 hs1 kx1 hx HR HSA HEA HKA; go_wp2_with fail; generalize World.alloc x1 _ = W at HT ⊢; generalize x1.heap.size = b at HT ⊢; go_loopw [] (fun wr => ∃ (k r : Nat) (o : Rl) (Ko : Nat) (co : Array Value), r ≤ s.size ∧ p ≤ r ∧ 6 * (s.size - r) + (5 - 1) ≤ k ∧ k ≤ m ∧ rxMeetsL s.data.toList k n o r = R ∧ AI w wr base b o Ko co g s r n) (fun wr => s.size - rdAt wr g)
  case atStart => exact ⟨m, q, o, Ko, co, hq2, hq1, by omega, by omega, HR2.out, HT.out⟩
  case round =>
   clear HT HR2; obtain ⟨k, r, o, Ko, co, hr, hlo, hk, hkm, hR, hT⟩ := hrel; have HT := yh hT; have HAT := yh hT.sc.at_; have HR := yh hR; clear hT hR; obtain ⟨k, rfl⟩ : ∃ k', k = k' + 1 := ⟨k - 1, by omega⟩; by_cases hlt : r < s.size
   · have hlt256 := s[r].toNat_lt; have HGB := yh (get_byte s r hlt); have hwr : IntKind.i64.wrap ((r : Int) + 1) = (r : Int) + 1 := IntWalk.i64_in _ (by omega); obtain ⟨ao, oc, xs, hxs, hBs, hOs, hgs⟩ := HT.out.sc; have HBs := yh hBs; clear hxs hBs hOs hgs; go_wp2_with fail; refine (rx_ended_no g s r _ hs hlt _ HBs.out).mono ?_; rintro e x2 ⟨rfl, x2n, rfl⟩; have HT := yh (HT.out.drewN x2n); generalize World.drewN wr x2n = V1 at HT ⊢; clear HBs; obtain ⟨ao, oc, xs, hxs, hBs, hOs, hgs⟩ := HT.out.sc; have HBs := yh hBs; clear hxs hBs hOs hgs; go_wp2_with fail; refine (rx_next g s r _ hs hlt _ HBs.out).mono ?_
     rintro e x3 ⟨rfl, x3n, rfl⟩; have HT := yh (HT.out.drewN x3n); generalize World.drewN V1 x3n = V2 at HT ⊢; by_cases h38 : (s[r] == 38) = true
     · have c38 : ((s[r].toNat : Int) == 38) = true := byte_eq _ 38 true (by omega) h38; have HY := yh (show s.data.toList[r]? = some 38 from by rw [HGB.out]; simpa using h38); clear h38; have hcg := HT.out.sc.cellAt; have hfg := HT.out.sc.free; go_wp2_with fail; clear hcg hfg; have HT := yh HT.out.step; generalize World.setCell V2 ⟨g, 1, none⟩ (.int .i64 ((r : Int) + 1)) = V3 at HT ⊢; refine wp_region_pend (fun w' => ∀ q, w'.cell? ⟨b, q, none⟩ = [Value.int .i64 (o.size : Int), .func (.func Ko) #[] co][q]?) 4 (by kernel_rfl) (by kernel_rfl) (fun c a d v w h => by cases d <;> exact h) (by exact HT.out.bo.drew.cell) ?_
       simp only [num, List.length_cons, List.length_nil]; repeat
        (refine pend_stable (by decide +kernel) (fun K hK => ?_)
         rw [if_pos (by rfl)]; apply Exists.intro; refine ⟨fun w' hS' => ?_, hK _ ?_⟩
         · (try dsimp only at hS')
           go_simp; try with_reducible rfl
         clear hK K; simp only [Act.put, List.setIfInBounds_toArray, List.set])
       have hE3 := HE.out.rk (HT.out.k.trans (RK.refl base _).drew) hb3; cases hx : rxRow s.data.toList k n (r + 1) with
       | error c =>
        refine pend_active (by decide +kernel) (fun K hK => ?_); rw [if_pos (by rfl)]; go_wp2_with fail; refine (((IH.out k (by omega)).row) n (r + 1) base g _ _ (by omega) (by omega) hn (HT.out.keep ((Keep.refl _ _).drew)).sc hE3 hb3 hx).mono ?_; rintro e x3 ⟨pl, rfl, kx3⟩; have hRe : R = .error c := by
         have h0 := HR.out; rw [rxMeetsL, if_pos HY.out, hx] at h0; exact h0.symm
        subst hRe; exact ⟨rfl, _, rfl, (HT.out.k.trans (RK.refl base _).drew).trans kx3⟩
       | ok y =>
        obtain ⟨x, q⟩ := y; refine pend_active (by decide +kernel) (fun K hK => ?_); rw [if_pos (by rfl)]; go_wp2_with fail; refine (((IH.out k (by omega)).row) n (r + 1) base g _ _ (by omega) (by omega) hn (HT.out.keep ((Keep.refl _ _).drew)).sc hE3 hb3 hx).mono ?_; rintro e x3 ⟨v1, rfl, hv1, hs3, hq3, hq4, kx3⟩; have HTD := yh (HT.out.keep ((Keep.refl _ _).drew)); have HV1 := yh (hv1.mono (ok' := okA w b) (fun i _ hi => HTD.out.okNew i hi)); have HT := yh (HTD.out.call kx3 hs3); clear hv1 hs3 kx3 HTD; refine hK.out _ _ (HT.out.bo.cell) ?_; clear hK K; try simp only [Act.put, List.setIfInBounds_toArray, List.set]
        refine pend_active (by decide +kernel) (fun K hK => ?_); rw [if_pos (by rfl)]; go_wp2_with fail; refine (join_any o x _ _ 95 .and (.inr (.inr (.inl ⟨rfl, rfl⟩))) _ (okA w b) HT.out.okNew HT.out.vo HV1.out).mono ?_; rintro e x4 ⟨v2, rfl, hv2, kx2⟩; obtain ⟨K2, c2, rfl⟩ := hv2.form; have HT := yh (HT.out.keep kx2); have HV2 := yh hv2; clear hv2 kx2; refine hK.out _ _ (HT.out.bo.cell) ?_; clear hK K; try simp only [Act.put, List.setIfInBounds_toArray, List.set]
        have hcA := HT.out.bo.cell; have hfA := HT.out.bo.frozen; refine pend_last (by decide +kernel) (by decide +kernel) (by decide +kernel) (fun K hK => ?_); rw [if_pos (by rfl)]; go_simp; refine hK.out _ _ ?_; clear hcA hfA; go_wp2_with fail; go_roundw; case rel =>
         refine ⟨k, q, o.join x .and, K2, c2, hq4, by omega, by omega, by omega, ?_, HT.out.put HV2.out⟩; have h0 := HR.out; rw [rxMeetsL, if_pos HY.out, hx] at h0; exact h0
        case measure =>
         rw [(HT.out.put HV2.out).sc.at_, HAT.out]; omega
     have h38' : (s[r] == 38) = false := by simpa using h38
     have c38 : ((s[r].toNat : Int) == 38) = false := byte_eq _ 38 false (by omega) h38'; have HN38 := yh (show ¬ s.data.toList[r]? = some 38 from by rw [HGB.out]; simpa using h38); clear h38 h38'; by_cases h45 : (s[r] == 45) = true
     · have c45 : ((s[r].toNat : Int) == 45) = true := byte_eq _ 45 true (by omega) h45; have HY := yh (show s.data.toList[r]? = some 45 from by rw [HGB.out]; simpa using h45); clear h45; have hcg := HT.out.sc.cellAt; have hfg := HT.out.sc.free; go_wp2_with fail; clear hcg hfg; have HT := yh HT.out.step; generalize World.setCell V2 ⟨g, 1, none⟩ (.int .i64 ((r : Int) + 1)) = V3 at HT ⊢; refine wp_region_pend (fun w' => ∀ q, w'.cell? ⟨b, q, none⟩ = [Value.int .i64 (o.size : Int), .func (.func Ko) #[] co][q]?) 4 (by kernel_rfl) (by kernel_rfl) (fun c a d v w h => by cases d <;> exact h) (by exact HT.out.bo.drew.cell) ?_
       simp only [num, List.length_cons, List.length_nil]; repeat
        (refine pend_stable (by decide +kernel) (fun K hK => ?_)
         rw [if_pos (by rfl)]; apply Exists.intro; refine ⟨fun w' hS' => ?_, hK _ ?_⟩
         · (try dsimp only at hS')
           go_simp; try with_reducible rfl
         clear hK K; simp only [Act.put, List.setIfInBounds_toArray, List.set])
       have hE3 := HE.out.rk (HT.out.k.trans (RK.refl base _).drew) hb3; cases hx : rxRow s.data.toList k n (r + 1) with
       | error c =>
        refine pend_active (by decide +kernel) (fun K hK => ?_); rw [if_pos (by rfl)]; go_wp2_with fail; refine (((IH.out k (by omega)).row) n (r + 1) base g _ _ (by omega) (by omega) hn (HT.out.keep ((Keep.refl _ _).drew)).sc hE3 hb3 hx).mono ?_; rintro e x3 ⟨pl, rfl, kx3⟩; have hRe : R = .error c := by
         have h0 := HR.out; rw [rxMeetsL, if_neg HN38.out, if_pos HY.out, hx] at h0; exact h0.symm
        subst hRe; exact ⟨rfl, _, rfl, (HT.out.k.trans (RK.refl base _).drew).trans kx3⟩
       | ok y =>
        obtain ⟨x, q⟩ := y; refine pend_active (by decide +kernel) (fun K hK => ?_); rw [if_pos (by rfl)]; go_wp2_with fail; refine (((IH.out k (by omega)).row) n (r + 1) base g _ _ (by omega) (by omega) hn (HT.out.keep ((Keep.refl _ _).drew)).sc hE3 hb3 hx).mono ?_; rintro e x3 ⟨v1, rfl, hv1, hs3, hq3, hq4, kx3⟩; have HTD := yh (HT.out.keep ((Keep.refl _ _).drew)); have HV1 := yh (hv1.mono (ok' := okA w b) (fun i _ hi => HTD.out.okNew i hi)); have HT := yh (HTD.out.call kx3 hs3); clear hv1 hs3 kx3 HTD; refine hK.out _ _ (HT.out.bo.cell) ?_; clear hK K; try simp only [Act.put, List.setIfInBounds_toArray, List.set]
        refine pend_active (by decide +kernel) (fun K hK => ?_); rw [if_pos (by rfl)]; go_wp2_with fail; refine (join_any o x _ _ 96 .minus (.inr (.inr (.inr ⟨rfl, rfl⟩))) _ (okA w b) HT.out.okNew HT.out.vo HV1.out).mono ?_; rintro e x4 ⟨v2, rfl, hv2, kx2⟩; obtain ⟨K2, c2, rfl⟩ := hv2.form; have HT := yh (HT.out.keep kx2); have HV2 := yh hv2; clear hv2 kx2; refine hK.out _ _ (HT.out.bo.cell) ?_; clear hK K; try simp only [Act.put, List.setIfInBounds_toArray, List.set]
        have hcA := HT.out.bo.cell; have hfA := HT.out.bo.frozen; refine pend_last (by decide +kernel) (by decide +kernel) (by decide +kernel) (fun K hK => ?_); rw [if_pos (by rfl)]; go_simp; refine hK.out _ _ ?_; clear hcA hfA; go_wp2_with fail; go_roundw; case rel =>
         refine ⟨k, q, o.join x .minus, K2, c2, hq4, by omega, by omega, by omega, ?_, HT.out.put HV2.out⟩; have h0 := HR.out; rw [rxMeetsL, if_neg HN38.out, if_pos HY.out, hx] at h0; exact h0
        case measure =>
         rw [(HT.out.put HV2.out).sc.at_, HAT.out]; omega
     have h45' : (s[r] == 45) = false := by simpa using h45
     have c45 : ((s[r].toNat : Int) == 45) = false := byte_eq _ 45 false (by omega) h45'; have HN45 := yh (show ¬ s.data.toList[r]? = some 45 from by rw [HGB.out]; simpa using h45); clear h45 h45'; have hRe : R = .ok (o, r) := by
      have h0 := HR.out; rw [rxMeetsL, if_neg HN38.out, if_neg HN45.out] at h0; exact h0.symm
     subst hRe; have hcA := HT.out.bo.cell; have hcR := HT.out.br.cell; have hfR := HT.out.br.frozen; go_wp2_with fail; clear hcA hcR hfR; exact bodyPost_ret (results_rule rfl _ _ w.heap.size _ _ rfl ((HT.out.br.set 0 _).set 1 _)) rfl (HT.out.ret hlo hr)
   · have HNN := yh (get_none s r (by omega)); obtain ⟨ao, oc, xs, hxs, hBs, hOs, hgs⟩ := HT.out.sc; have HBs := yh hBs; clear hxs hBs hOs hgs; go_wp2_with fail; refine (rx_ended_yes g s r _ hs (by omega) _ HBs.out).mono ?_; rintro e x2 ⟨rfl, x2n, rfl⟩; have HT := yh (HT.out.drewN x2n); generalize World.drewN wr x2n = V1 at HT ⊢; have hRe : R = .ok (o, r) := by
      have h0 := HR.out; rw [rxMeetsL, if_neg (by rw [HNN.out]; simp), if_neg (by rw [HNN.out]; simp)] at h0; exact h0.symm
     subst hRe; have hcA := HT.out.bo.cell; have hcR := HT.out.br.cell; have hfR := HT.out.br.frozen; go_wp2_with fail; clear hcA hcR hfR; exact bodyPost_ret (results_rule rfl _ _ w.heap.size _ _ rfl ((HT.out.br.set 0 _).set 1 _)) rfl (HT.out.ret hlo hr)
end Go.Proofs.YtmfabihndpidnaaGreatDoor
