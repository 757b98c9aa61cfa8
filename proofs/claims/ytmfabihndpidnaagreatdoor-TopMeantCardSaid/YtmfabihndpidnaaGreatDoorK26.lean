/-
  The scanner of expressions over bytes: a row.
-/
import Derived.Test.YtmfabihndpidnaaGreatDoorK25
namespace Go.Proofs.YtmfabihndpidnaaGreatDoor
set_option maxHeartbeats 16000000
open Go.RowKit
set_option maxRecDepth 100000
set_option linter.unusedVariables false
set_option linter.unusedSimpArgs false
theorem AI.keepG {w wr : World} {base b : Nat} {o : Rl} {Ko : Nat} {co : Array Value} {g : Nat} {s : ByteArray} {r n : Nat} {x : World} {q : Nat} {ao : Option Addr} {oc : Nat} {xs : List Int} (h : AI w wr base b o Ko co g s r n) (hx : xs.length = n) (hB : Blk wr g [.string s, .int .i64 (r : Int), .slice ao n oc] 136) (hO : wr.ownsRow base 3 1 (.slice ao n oc) n (xs.map (Value.int .i64)))
 (k : Keep (some g) wr x) (hb : Blk x g [.string s, .int .i64 (q : Int), .slice ao n oc] 136) : AI w x base b o Ko co g s q n :=
 h.call (RK.of_keepG k (hB.isVol (.inl rfl)) h.sc.lt.2) (ScR.keepG hx hB hO h.sc.lt.2 k hb)
theorem AI.put2 {w wr : World} {base b : Nat} {o : Rl} {Ko : Nat} {co : Array Value} {g : Nat} {s : ByteArray} {r n : Nat} {o' : Rl} {Kb d : Nat} {cb : Array Value} {x y : Value} (h : AI w wr base b o Ko co g s r n) (hd : Blk wr d [x, y] 139) (h1 : d ≠ b) (h2 : w.heap.size < d)
 (hb : RuleV wr (fun i => okA w b i ∧ i ≠ d) o' (.agg #[.int .i64 (o'.size : Int), .func (.func Kb) #[] cb])) :
 AI w ((((wr.setCell ⟨d, 0, none⟩ (.int .i64 (o'.size : Int))).setCell ⟨d, 1, none⟩ (.func (.func Kb) #[] cb)).setCell ⟨b, 0, none⟩ (.int .i64 (o'.size : Int))).setCell ⟨b, 1, none⟩ (.func (.func Kb) #[] cb)) base b o' Kb cb g s r n := by
 have hbl := h.hb; have hgl := h.gl; obtain ⟨ao, oc, xs, hx, hB, ho, hg⟩ := h.sc; have k1 : Keep (some d) wr ((wr.setCell ⟨d, 0, none⟩ (.int .i64 (o'.size : Int))).setCell ⟨d, 1, none⟩ (.func (.func Kb) #[] cb)) := ((Keep.refl (some d) wr).set ⟨d, 0, none⟩ _ (.inl rfl)).set ⟨d, 1, none⟩ _ (.inl rfl); have hr1 : RuleV ((wr.setCell ⟨d, 0, none⟩ (.int .i64 (o'.size : Int))).setCell ⟨d, 1, none⟩ (.func (.func Kb) #[] cb)) (okA w b) o' (.agg #[.int .i64 (o'.size : Int), .func (.func Kb) #[] cb]) :=
  ((hb.set _ _ (by simp)).set _ _ (by simp)).mono fun i _ h => h.1
 have hB1 := hB.keep k1 (by simp; omega); have ho1 := own_keep ho k1 (NotRow.blk hd (by decide)); have hbo1 := h.bo.keep k1 (by simp; omega); have hbr1 := h.br.keep k1 (by simp; omega); have hk1 := (h.k.setNew ⟨d, 0, none⟩ (.int .i64 (o'.size : Int)) (by simp; omega)).setNew ⟨d, 1, none⟩ (.func (.func Kb) #[] cb) (by simp; omega); generalize (wr.setCell ⟨d, 0, none⟩ (.int .i64 (o'.size : Int))).setCell ⟨d, 1, none⟩ (.func (.func Kb) #[] cb) = V at hr1 hB1 ho1 hbo1 hbr1 hk1 ⊢; have k2 : Keep (some b) V ((V.setCell ⟨b, 0, none⟩ (.int .i64 (o'.size : Int))).setCell ⟨b, 1, none⟩ (.func (.func Kb) #[] cb)) := ((Keep.refl (some b) V).set ⟨b, 0, none⟩ _ (.inl rfl)).set ⟨b, 1, none⟩ _ (.inl rfl)
 exact ⟨(hbo1.set 0 _).set 1 _, hbr1.keep k2 (by simp; omega), ⟨ao, oc, xs, hx, hB1.keep k2 (by simp; omega), own_keep ho1 k2 (NotRow.blk hbo1 (by decide)), hg⟩,
  (hr1.set _ _ (by simp [okA])).set _ _ (by simp [okA]), (hk1.setNew _ _ (by simp; omega)).setNew _ _ (by simp; omega), hbl, hgl⟩
theorem rxReps_adv {l : Bs} : ∀ {k : Nat} {a : Rl} {p : Nat} {b : Rl} {q : Nat}, rxReps l k a p = .ok (b, q) → p ≤ q
 | 0, a, p, b, q, h => by cases h
 | k + 1, a, p, b, q, h => by
  rw [rxReps] at h; split at h
  · exact Nat.le_of_succ_le (rxReps_adv h)
  split at h
  · exact Nat.le_of_succ_le (rxReps_adv h)
  split at h
  · exact Nat.le_of_succ_le (rxReps_adv h)
  split at h
  · split at h
    · cases h
    · rename_i hb; exact Nat.le_trans (Nat.le_of_lt (rxBraces_adv hb)) (rxReps_adv h)
  · cases h; exact Nat.le_refl _
theorem rx_row (s : ByteArray) (hs : s.size ≤ 2000000) (m : Nat) (ih : ∀ k, k < m → RxAt s k) (n p base g : Nat) (w : World) (R : Except Nat (Rl × Nat)) (hp : p ≤ s.size) (hm : 6 * (s.size - p) + 4 ≤ m) (hn : n ≤ 1000) (h : ScR w base g s p n) (hE : Escs w) (hb3 : 3 < base) (hR : rxRow s.data.toList m n p = R) :
 Calls Tryz.prog 94 #[.pointer (some ⟨g, 0, none⟩)] w (RxOut base g s n p w R) := by
 have HE := yh hE; have IH := yh ih; have hgl := h.lt; obtain ⟨m, rfl⟩ : ∃ m', m = m' + 1 := ⟨m - 1, by omega⟩; have HSA := yh (show ScR (w.alloc (.cells #[.int .i64 0, .nilFunc] 139)) base g s p n from h.keep ((Keep.refl _ _).alloc _)); have HR := yh (show rxRowL s.data.toList m n false (.leaf .eps) p = R from by rw [rxRow] at hR; exact hR); clear ih h hE hR; go_enter Tryz.func94, Tryz.ntmps94; go_wp2_with fail; refine (leaf_any .eps _ (fun i => (w.alloc (.cells #[.int .i64 0, .nilFunc] 139)).heap.size ≤ i) (fun i hi => hi)).mono ?_; rintro e x1 ⟨v1, rfl, hv1, kx1⟩; obtain ⟨Ko, co, rfl⟩ := hv1.form
 have HT := yh (AI.first hgl.1 (RK.of_keep kx1) (HSA.out.keep kx1) hv1); clear hv1 kx1 HSA; go_wp2_with fail; generalize World.alloc x1 _ = W at HT ⊢; generalize x1.heap.size = b at HT ⊢; go_loopw [4] (fun av wr => ∃ (k r : Nat) (any : Bool) (o : Rl) (Ko : Nat) (co : Array Value), av = .bool any ∧ r ≤ s.size ∧ p ≤ r ∧ 6 * (s.size - r) + 3 ≤ k ∧ k ≤ m ∧ rxRowL s.data.toList k n any o r = R ∧ AI w wr base b o Ko co g s r n) (fun _ wr => s.size - rdAt wr g)
 case atStart => exact ⟨m, p, false, _, Ko, co, rfl, hp, Nat.le_refl _, by omega, by omega, HR.out, HT.out⟩
 case round =>
  clear HT HR; obtain ⟨k, r, any, o, Ko, co, rfl, hr, hlo, hk, hkm, hR, hT⟩ := hrel; have HT := yh hT; have HAT := yh hT.sc.at_; have HR := yh hR; clear hT hR; obtain ⟨k, rfl⟩ : ∃ k', k = k' + 1 := ⟨k - 1, by omega⟩; by_cases hlt : r < s.size
  · have hlt256 := s[r].toNat_lt; have HGB := yh (get_byte s r hlt); obtain ⟨c, hc⟩ : ∃ c, s[r] = c := ⟨_, rfl⟩; rw [hc] at HGB hlt256; have HC := yh hc; clear hc; obtain ⟨ao, oc, xs, hxs, hBs, hOs, hgs⟩ := HT.out.sc; have HBs := yh hBs; clear hxs hBs hOs hgs; go_wp2_with fail; refine (rx_ended_no g s r _ hs hlt _ HBs.out).mono ?_; rintro e x2 ⟨rfl, x2n, rfl⟩; have HT := yh (HT.out.drewN x2n); generalize World.drewN wr x2n = V1 at HT ⊢; clear HBs; obtain ⟨ao, oc, xs, hxs, hBs, hOs, hgs⟩ := HT.out.sc; have HBs := yh hBs; clear hxs hBs hOs hgs; go_wp2_with fail; refine (rx_next g s r _ hs hlt _ HBs.out).mono ?_
    rintro e x3 ⟨rfl, x3n, rfl⟩; have HT := yh (HT.out.drewN x3n); generalize World.drewN V1 x3n = V2 at HT ⊢; rw [HC.out]; by_cases h124 : (c == 124) = true
    · have c124 : ((c.toNat : Int) == 124) = true := byte_eq _ 124 true (by omega) h124; have HY := yh h124; clear h124; have hRe : R = .ok (o, r) := by
       have h0 := HR.out; rw [rxRowL, HGB.out] at h0; dsimp only at h0; rw [if_pos (by rw [HY.out]; simp)] at h0
       exact h0.symm
      subst hRe; have hcA := HT.out.bo.cell; have hcR := HT.out.br.cell; have hfR := HT.out.br.frozen; go_wp2_with fail; clear hcA hcR hfR; exact bodyPost_ret (results_rule rfl _ _ w.heap.size _ _ rfl ((HT.out.br.set 0 _).set 1 _)) rfl (HT.out.ret hlo hr)
    have h124' : (c == 124) = false := by simpa using h124
    have c124 : ((c.toNat : Int) == 124) = false := byte_eq _ 124 false (by omega) h124'; have HN124 := yh h124'; clear h124 h124'; by_cases h38 : (c == 38) = true
    · have c38 : ((c.toNat : Int) == 38) = true := byte_eq _ 38 true (by omega) h38; have HY := yh h38; clear h38; have hRe : R = .ok (o, r) := by
       have h0 := HR.out; rw [rxRowL, HGB.out] at h0; dsimp only at h0; rw [if_pos (by rw [HY.out]; simp)] at h0
       exact h0.symm
      subst hRe; have hcA := HT.out.bo.cell; have hcR := HT.out.br.cell; have hfR := HT.out.br.frozen; go_wp2_with fail; clear hcA hcR hfR; exact bodyPost_ret (results_rule rfl _ _ w.heap.size _ _ rfl ((HT.out.br.set 0 _).set 1 _)) rfl (HT.out.ret hlo hr)
    have h38' : (c == 38) = false := by simpa using h38
    have c38 : ((c.toNat : Int) == 38) = false := byte_eq _ 38 false (by omega) h38'; have HN38 := yh h38'; clear h38 h38'; by_cases h45 : (c == 45) = true
    · have c45 : ((c.toNat : Int) == 45) = true := byte_eq _ 45 true (by omega) h45; have HY := yh h45; clear h45; have hRe : R = .ok (o, r) := by
       have h0 := HR.out; rw [rxRowL, HGB.out] at h0; dsimp only at h0; rw [if_pos (by rw [HY.out]; simp)] at h0
       exact h0.symm
      subst hRe; have hcA := HT.out.bo.cell; have hcR := HT.out.br.cell; have hfR := HT.out.br.frozen; go_wp2_with fail; clear hcA hcR hfR; exact bodyPost_ret (results_rule rfl _ _ w.heap.size _ _ rfl ((HT.out.br.set 0 _).set 1 _)) rfl (HT.out.ret hlo hr)
    have h45' : (c == 45) = false := by simpa using h45
    have c45 : ((c.toNat : Int) == 45) = false := byte_eq _ 45 false (by omega) h45'; have HN45 := yh h45'; clear h45 h45'; by_cases h41 : (c == 41) = true
    · have c41 : ((c.toNat : Int) == 41) = true := byte_eq _ 41 true (by omega) h41; have HY := yh h41; clear h41; have hRe : R = .ok (o, r) := by
       have h0 := HR.out; rw [rxRowL, HGB.out] at h0; dsimp only at h0; rw [if_pos (by rw [HY.out]; simp)] at h0
       exact h0.symm
      subst hRe; have hcA := HT.out.bo.cell; have hcR := HT.out.br.cell; have hfR := HT.out.br.frozen; go_wp2_with fail; clear hcA hcR hfR; exact bodyPost_ret (results_rule rfl _ _ w.heap.size _ _ rfl ((HT.out.br.set 0 _).set 1 _)) rfl (HT.out.ret hlo hr)
    have h41' : (c == 41) = false := by simpa using h41
    have c41 : ((c.toNat : Int) == 41) = false := byte_eq _ 41 false (by omega) h41'; have HN41 := yh h41'; clear h41 h41'; by_cases h42 : (c == 42) = true
    · have c42 : ((c.toNat : Int) == 42) = true := byte_eq _ 42 true (by omega) h42; have HY := yh h42; clear h42; have hRe : R = .error 20 := by
       have h0 := HR.out; rw [rxRowL, HGB.out] at h0; dsimp only at h0; rw [if_neg (by rw [HN124.out, HN38.out, HN45.out, HN41.out]; decide), if_pos (by rw [HY.out]; simp)] at h0
       exact h0.symm
      subst hRe; have hcg := HT.out.sc.cellAt; go_wp2_with fail; clear hcg; refine (rx_fail g _ _ _).mono ?_; rintro e w9 ⟨rfl, rfl⟩; exact ⟨rfl, _, rfl, HT.out.k⟩
    have h42' : (c == 42) = false := by simpa using h42
    have c42 : ((c.toNat : Int) == 42) = false := byte_eq _ 42 false (by omega) h42'; have HN42 := yh h42'; clear h42 h42'; by_cases h43 : (c == 43) = true
    · have c43 : ((c.toNat : Int) == 43) = true := byte_eq _ 43 true (by omega) h43; have HY := yh h43; clear h43; have hRe : R = .error 20 := by
       have h0 := HR.out; rw [rxRowL, HGB.out] at h0; dsimp only at h0; rw [if_neg (by rw [HN124.out, HN38.out, HN45.out, HN41.out]; decide), if_pos (by rw [HY.out]; simp)] at h0
       exact h0.symm
      subst hRe; have hcg := HT.out.sc.cellAt; go_wp2_with fail; clear hcg; refine (rx_fail g _ _ _).mono ?_; rintro e w9 ⟨rfl, rfl⟩; exact ⟨rfl, _, rfl, HT.out.k⟩
    have h43' : (c == 43) = false := by simpa using h43
    have c43 : ((c.toNat : Int) == 43) = false := byte_eq _ 43 false (by omega) h43'; have HN43 := yh h43'; clear h43 h43'; by_cases h63 : (c == 63) = true
    · have c63 : ((c.toNat : Int) == 63) = true := byte_eq _ 63 true (by omega) h63; have HY := yh h63; clear h63; have hRe : R = .error 20 := by
       have h0 := HR.out; rw [rxRowL, HGB.out] at h0; dsimp only at h0; rw [if_neg (by rw [HN124.out, HN38.out, HN45.out, HN41.out]; decide), if_pos (by rw [HY.out]; simp)] at h0
       exact h0.symm
      subst hRe; have hcg := HT.out.sc.cellAt; go_wp2_with fail; clear hcg; refine (rx_fail g _ _ _).mono ?_; rintro e w9 ⟨rfl, rfl⟩; exact ⟨rfl, _, rfl, HT.out.k⟩
    have h63' : (c == 63) = false := by simpa using h63
    have c63 : ((c.toNat : Int) == 63) = false := byte_eq _ 63 false (by omega) h63'; have HN63 := yh h63'; clear h63 h63'; by_cases h123 : (c == 123) = true
    · have c123 : ((c.toNat : Int) == 123) = true := byte_eq _ 123 true (by omega) h123; have HY := yh h123; clear h123; have hRe : R = .error 20 := by
       have h0 := HR.out; rw [rxRowL, HGB.out] at h0; dsimp only at h0; rw [if_neg (by rw [HN124.out, HN38.out, HN45.out, HN41.out]; decide), if_pos (by rw [HY.out]; simp)] at h0
       exact h0.symm
      subst hRe; have hcg := HT.out.sc.cellAt; go_wp2_with fail; clear hcg; refine (rx_fail g _ _ _).mono ?_; rintro e w9 ⟨rfl, rfl⟩; exact ⟨rfl, _, rfl, HT.out.k⟩
    have h123' : (c == 123) = false := by simpa using h123
    have c123 : ((c.toNat : Int) == 123) = false := byte_eq _ 123 false (by omega) h123'; have HN123 := yh h123'; clear h123 h123'; have HR2 := yh (show (match rxAtom s.data.toList k n r with
     | .error e => .error e
     | .ok (x, q) =>
      match rxReps s.data.toList (s.data.toList.length + 1) x q with
      | .error e => .error e
      | .ok (y, t) => rxRowL s.data.toList k n true (if any then o.join y .cat else y) t) = R from by have h0 := HR.out; rw [rxRowL, HGB.out] at h0; dsimp only at h0; rw [if_neg (by rw [HN124.out, HN38.out, HN45.out, HN41.out]; decide), if_neg (by rw [HN42.out, HN43.out, HN63.out, HN123.out]; decide)] at h0; exact h0)
    clear HN124; clear HN38; clear HN45; clear HN41; clear HN42; clear HN43; clear HN63; clear HN123; have hE3 := HE.out.rk HT.out.k hb3; go_wp2_with fail; clear c124; clear c38; clear c45; clear c41; clear c42; clear c43; clear c63; clear c123; cases hx : rxAtom s.data.toList k n r with
    | error cd =>
     refine ((IH.out k (by omega)).atom n r base g _ _ hlt (by omega) hn HT.out.sc hE3 hb3 hx).mono ?_; rintro e x4 ⟨pl, rfl, kx4⟩; have hRe : R = .error cd := by have h0 := HR2.out; rw [hx] at h0; exact h0.symm
     subst hRe; exact ⟨rfl, _, rfl, HT.out.k.trans kx4⟩
    | ok y =>
     obtain ⟨x, q⟩ := y; refine ((IH.out k (by omega)).atom n r base g _ _ hlt (by omega) hn HT.out.sc hE3 hb3 hx).mono ?_; rintro e x4 ⟨v1, rfl, hv1, hs4, hq4, hq5, kx4⟩; have HV1 := yh (hv1.mono (ok' := okA w b) (fun i _ hi => HT.out.okNew i hi)); have HT := yh (HT.out.call kx4 hs4); clear hv1 hs4 kx4 hE3; obtain ⟨ao, oc, xs, hxs, hBs, hOs, hgs⟩ := HT.out.sc; have HXS := yh hxs; have HBs := yh hBs; have HOs := yh hOs; clear hxs hBs hOs hgs; go_wp2_with fail; cases hy : rxReps s.data.toList (s.data.toList.length + 1) x q with
     | error cd =>
      refine (rx_repeats x _ g s q ao n oc hs hq5 _ (okA w b) HT.out.okNew HV1.out HBs.out _ hy).mono ?_; rintro e x5 ⟨pl, rfl, kx5⟩; have hRe : R = .error cd := by have h0 := HR2.out; rw [hx] at h0; dsimp only at h0; rw [hy] at h0; exact h0.symm
      subst hRe; exact ⟨rfl, _, rfl, HT.out.k.trans (RK.of_keepG kx5 HT.out.sc.vol HT.out.sc.lt.2)⟩
     | ok z =>
      obtain ⟨z, t⟩ := z; have hadv := rxReps_adv hy; refine (rx_repeats x _ g s q ao n oc hs hq5 _ (okA w b) HT.out.okNew HV1.out HBs.out _ hy).mono ?_; rintro e x5 ⟨v5, rfl, hv5, hB5, ht5, kx5⟩; obtain ⟨K5, c5, rfl⟩ := hv5.form; have HV5 := yh hv5; have HT := yh (HT.out.keepG HXS.out HBs.out HOs.out kx5 hB5); have HR3 := yh (show rxRowL s.data.toList k n true (if any then o.join z .cat else z) t = R from by
       have h0 := HR2.out; rw [hx] at h0; dsimp only at h0; rw [hy] at h0; exact h0)
      clear hv5 hB5 kx5 hx hy HV1 HXS HBs HOs; cases any with
      | false =>
       have hfO := HT.out.bo.frozen; have hcO := HT.out.bo.cell; have hbs := HT.out.bo.lt; have hbs2 : b < x5.heap.size + 1 := by omega
       have hbs3 : b ≠ x5.heap.size := by omega
       go_wp2_with fail; clear hfO hcO hbs hbs2 hbs3; go_roundw; case rel => exact ⟨k, t, true, z, K5, c5, rfl, ht5, by omega, by omega, by omega, HR3.out, (HT.out.put HV5.out).keep ((Keep.refl _ _).alloc _)⟩
       case measure =>
        rw [((HT.out.put HV5.out).keep ((Keep.refl _ _).alloc _)).sc.at_, HAT.out]; omega
      | true =>
       have hcO := HT.out.bo.cell; have hbs := HT.out.bo.lt; have hbs2 : b < x5.heap.size + 1 := by omega
       have hbs3 : b ≠ x5.heap.size := by omega
       go_wp2_with fail; clear hcO hbs2 hbs3; have HB5 := yh (show Blk (x5.alloc (.cells #[.int .i64 (z.size : Int), .func (.func K5) #[] c5] 139)) x5.heap.size [.int .i64 (z.size : Int), .func (.func K5) #[] c5] 139 from Blk.new x5 _ 139); have HV5 := yh ((HV5.out.mono (ok' := fun i => okA w b i ∧ i ≠ x5.heap.size) fun i hi ho => ⟨ho, by omega⟩).keep ((Keep.refl _ _).alloc (.cells #[.int .i64 (z.size : Int), .func (.func K5) #[] c5] 139))); have HVO := yh ((HT.out.vo.mono (ok' := fun i => okA w b i ∧ i ≠ x5.heap.size) fun i hi ho => ⟨ho, by omega⟩).keep ((Keep.refl _ _).alloc (.cells #[.int .i64 (z.size : Int), .func (.func K5) #[] c5] 139)))
       have HT := yh (HT.out.keep ((Keep.refl _ _).alloc (.cells #[.int .i64 (z.size : Int), .func (.func K5) #[] c5] 139))); have hwd : w.heap.size < x5.heap.size := by have := HT.out.hb; omega
       have hdb : x5.heap.size ≠ b := by omega
       clear hbs; generalize x5.alloc (.cells #[.int .i64 (z.size : Int), .func (.func K5) #[] c5] 139) = V6 at HB5 HV5 HVO HT ⊢; generalize x5.heap.size = d at HB5 HV5 HVO hwd hdb ⊢; refine (join_any o z _ _ 116 .cat (.inl ⟨rfl, rfl⟩) _ (fun i => okA w b i ∧ i ≠ d) (fun i hi => ⟨HT.out.okNew i hi, by have := HB5.out.lt; omega⟩) HVO.out HV5.out).mono ?_; rintro e x6 ⟨v6, rfl, hv6, kx6⟩; obtain ⟨K6, c6, rfl⟩ := hv6.form; have HV6 := yh hv6; have HT := yh (HT.out.keep kx6); have HB5 := yh (HB5.out.keep kx6 (by simp)); clear hv6 kx6 HV5 HVO; have hcO := HT.out.bo.cell; have hfO := HT.out.bo.frozen
       have hc5 := HB5.out.cell; have hf5 := HB5.out.frozen; have hdb2 : b ≠ d := hdb.symm; go_wp2_with fail; clear hcO hfO hc5 hf5 hdb2; go_roundw; case rel => exact ⟨k, t, true, o.join z .cat, K6, c6, rfl, ht5, by omega, by omega, by omega, HR3.out, HT.out.put2 HB5.out hdb hwd HV6.out⟩
       case measure =>
        rw [(HT.out.put2 HB5.out hdb hwd HV6.out).sc.at_, HAT.out]; omega
  · have HGB := yh (get_none s r (by omega)); obtain ⟨ao, oc, xs, hxs, hBs, hOs, hgs⟩ := HT.out.sc; have HBs := yh hBs; clear hxs hBs hOs hgs; go_wp2_with fail; refine (rx_ended_yes g s r _ hs (by omega) _ HBs.out).mono ?_; rintro e x2 ⟨rfl, x2n, rfl⟩; have HT := yh (HT.out.drewN x2n); generalize World.drewN wr x2n = V1 at HT ⊢; have hRe : R = .ok (o, r) := by
     have h0 := HR.out; rw [rxRowL, HGB.out] at h0
     skip
     exact h0.symm
    subst hRe; have hcA := HT.out.bo.cell; have hcR := HT.out.br.cell; have hfR := HT.out.br.frozen; go_wp2_with fail; clear hcA hcR hfR; exact bodyPost_ret (results_rule rfl _ _ w.heap.size _ _ rfl ((HT.out.br.set 0 _).set 1 _)) rfl (HT.out.ret hlo hr)
end Go.Proofs.YtmfabihndpidnaaGreatDoor
