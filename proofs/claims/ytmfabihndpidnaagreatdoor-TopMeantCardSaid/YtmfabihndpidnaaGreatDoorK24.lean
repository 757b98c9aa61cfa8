/-
  The scanner of expressions over bytes: repeats. The scanner of expressions over bytes: what its reading methods say.
-/
import Derived.Test.YtmfabihndpidnaaGreatDoorK23
namespace Go.Proofs.YtmfabihndpidnaaGreatDoor
set_option maxHeartbeats 16000000
open Go.RowKit
set_option maxRecDepth 100000
set_option linter.unusedVariables false
set_option linter.unusedSimpArgs false
def okR (w : World) (ok : Nat → Prop) : Nat → Prop := fun i => ok i ∧ i ≠ w.heap.size ∧ i ≠ w.heap.size + 1
structure RI (w wr : World) (ok : Nat → Prop) (a : Rl) (Ka : Nat) (ca : Array Value) (g : Nat) (s : ByteArray) (r : Nat) (v : Value) : Prop where
 ba : Blk wr w.heap.size [.int .i64 (a.size : Int), .func (.func Ka) #[] ca] 139
 br : Blk wr (w.heap.size + 1) [.int .i64 0, .nilFunc] 139
 bg : Blk wr g [.string s, .int .i64 (r : Int), v] 136
 va : RuleV wr (okR w ok) a (.agg #[.int .i64 (a.size : Int), .func (.func Ka) #[] ca])
 k : Keep (some g) w wr
 gl : g < w.heap.size
theorem RI.drewN {w wr : World} {ok : Nat → Prop} {a : Rl} {Ka : Nat} {ca : Array Value} {g : Nat} {s : ByteArray} {r : Nat} {v : Value} (h : RI w wr ok a Ka ca g s r v) (n : Nat) : RI w (wr.drewN n) ok a Ka ca g s r v :=
 ⟨h.ba, h.br, h.bg, h.va.drewN n, h.k.drewN n, h.gl⟩
theorem RI.keepG {w wr : World} {ok : Nat → Prop} {a : Rl} {Ka : Nat} {ca : Array Value} {g : Nat} {s : ByteArray} {r : Nat} {v : Value} {x : World} {r' : Nat} (h : RI w wr ok a Ka ca g s r v) (k : Keep (some g) wr x) (hg : Blk x g [.string s, .int .i64 (r' : Int), v] 136) : RI w x ok a Ka ca g s r' v :=
 ⟨h.ba.keep k (by have := h.gl; simp; omega), h.br.keep k (by have := h.gl; simp; omega), hg, h.va.far k.size (Same.keepG k fun _ => h.bg.isVol (.inl rfl)), h.k.trans k, h.gl⟩
theorem RI.keep {w wr : World} {ok : Nat → Prop} {a : Rl} {Ka : Nat} {ca : Array Value} {g : Nat} {s : ByteArray} {r : Nat} {v : Value} {x : World} (h : RI w wr ok a Ka ca g s r v) (k : Keep none wr x) : RI w x ok a Ka ca g s r v :=
 h.keepG k.of_none (h.bg.keep k (by simp))
theorem RI.step {w wr : World} {ok : Nat → Prop} {a : Rl} {Ka : Nat} {ca : Array Value} {g : Nat} {s : ByteArray} {r : Nat} {v : Value} (h : RI w wr ok a Ka ca g s r v) : RI w (wr.setCell ⟨g, 1, none⟩ (.int .i64 ((r : Int) + 1))) ok a Ka ca g s (r + 1) v :=
 h.keepG ((Keep.refl _ _).set _ _ (.inl rfl)) h.bg.step3
theorem RI.okNew {w wr : World} {ok : Nat → Prop} {a : Rl} {Ka : Nat} {ca : Array Value} {g : Nat} {s : ByteArray} {r : Nat} {v : Value} (h : RI w wr ok a Ka ca g s r v) (hok : ∀ i, w.heap.size ≤ i → ok i) : ∀ i, wr.heap.size ≤ i → okR w ok i := fun i hi => by
 have h1 := h.br.lt; exact ⟨hok i (by omega), by omega, by omega⟩
theorem RI.put {w wr : World} {ok : Nat → Prop} {a : Rl} {Ka : Nat} {ca : Array Value} {g : Nat} {s : ByteArray} {r : Nat} {v : Value} {b : Rl} {Kb : Nat} {cb : Array Value} (h : RI w wr ok a Ka ca g s r v) (hb : RuleV wr (okR w ok) b (.agg #[.int .i64 (b.size : Int), .func (.func Kb) #[] cb])) :
 RI w ((wr.setCell ⟨w.heap.size, 0, none⟩ (.int .i64 (b.size : Int))).setCell ⟨w.heap.size, 1, none⟩ (.func (.func Kb) #[] cb)) ok b Kb cb g s r v :=
 ⟨(h.ba.set 0 _).set 1 _, (h.br.far _ _ (by simp)).far _ _ (by simp), (h.bg.far _ _ (by have := h.gl; simp; omega)).far _ _ (by have := h.gl; simp; omega),
  (hb.set _ _ (by simp [okR])).set _ _ (by simp [okR]), (h.k.set _ _ (.inr (Nat.le_refl _))).set _ _ (.inr (Nat.le_refl _)), h.gl⟩
theorem RI.ret {w wr : World} {ok : Nat → Prop} {a : Rl} {Ka : Nat} {ca : Array Value} {g : Nat} {s : ByteArray} {r : Nat} {v : Value} (h : RI w wr ok a Ka ca g s r v) (hr : r ≤ s.size) :
 BrOut g s v w ok (.ok (a, r)) (.returned (.agg #[.int .i64 (a.size : Int), .func (.func Ka) #[] ca])) ((wr.setCell ⟨w.heap.size + 1, 0, none⟩ (.int .i64 (a.size : Int))).setCell ⟨w.heap.size + 1, 1, none⟩ (.func (.func Ka) #[] ca)) :=
 ⟨_, rfl, ((h.va.set _ _ (by simp [okR])).set _ _ (by simp [okR])).mono fun i _ h => h.1, (h.bg.far _ _ (by have := h.gl; simp; omega)).far _ _ (by have := h.gl; simp; omega), hr,
  (h.k.set _ _ (.inr (by simp))).set _ _ (.inr (by simp))⟩
theorem RI.start {w : World} {ok : Nat → Prop} {a : Rl} {Ka : Nat} {ca : Array Value} {g : Nat} {s : ByteArray} {r : Nat} {v : Value} (hg : Blk w g [.string s, .int .i64 (r : Int), v] 136)
 (ha : RuleV w ok a (.agg #[.int .i64 (a.size : Int), .func (.func Ka) #[] ca])) :
 RI w ((w.alloc (.cells #[.int .i64 (a.size : Int), .func (.func Ka) #[] ca] 139)).alloc (.cells #[.int .i64 0, .nilFunc] 139)) ok a Ka ca g s r v := by
 have k0 : Keep none w ((w.alloc (.cells #[.int .i64 (a.size : Int), .func (.func Ka) #[] ca] 139)).alloc (.cells #[.int .i64 0, .nilFunc] 139)) := ((Keep.refl _ _).alloc _).alloc _; refine ⟨(Blk.new w _ 139).alloc _, ?_, (hg.alloc _).alloc _, (ha.mono fun i hi ho => ⟨ho, by omega, by omega⟩).keep k0, k0.of_none, hg.lt⟩; have := Blk.new (w.alloc (.cells #[.int .i64 (a.size : Int), .func (.func Ka) #[] ca] 139)) [.int .i64 0, .nilFunc] 139; rw [show (w.alloc (.cells #[.int .i64 (a.size : Int), .func (.func Ka) #[] ca] 139)).heap.size = w.heap.size + 1 by simp] at this; exact this
theorem rx_repeats (a : Rl) (va : Value) (g : Nat) (s : ByteArray) (p : Nat) (ao : Option Addr) (on oc : Nat) (hs : s.size ≤ 2000000) (hp : p ≤ s.size) (w : World) (ok : Nat → Prop) (hok : ∀ i, w.heap.size ≤ i → ok i) (ha : RuleV w ok a va)
 (h : Blk w g [.string s, .int .i64 (p : Int), .slice ao on oc] 136) (R : Except Nat (Rl × Nat)) (hR : rxReps s.data.toList (s.data.toList.length + 1) a p = R) :
 Calls Tryz.prog 114 #[.pointer (some ⟨g, 0, none⟩), va] w (BrOut g s (.slice ao on oc) w ok R) := by
 have hmf : ∀ (fn : Fn) (first cap : Array Value) (w : World), (Instr.makeFunc fn first cap).run Tryz.prog w = .ok (.func fn first cap) w := fun _ _ _ _ => rfl
 obtain ⟨Ka, ca, rfl⟩ := ha.form; have HT := yh (RI.start h ha); have HO := yh hok; have HR := yh (show rxReps s.data.toList (s.size + 1) a p = R from by
  rw [← hR, show s.data.toList.length = s.size by show s.data.toList.length = s.data.size; simp])
 clear ha h hok hR; go_enter Tryz.func114, Tryz.ntmps114; go_wp2_with fail; generalize World.alloc (World.alloc w _) _ = W at HT ⊢; go_loopw [] (fun wr => ∃ (k r : Nat) (a : Rl) (Ka : Nat) (ca : Array Value), r ≤ s.size ∧ s.size < k + r ∧ rxReps s.data.toList k a r = R ∧ RI w wr ok a Ka ca g s r (.slice ao on oc)) (fun wr => s.size - rdAt wr g)
 case atStart => exact ⟨s.size + 1, p, a, Ka, ca, hp, by omega, HR.out, HT.out⟩
 case round =>
  clear HT HR; obtain ⟨k, r, a, Ka, ca, hr, hkr, hR, hT⟩ := hrel; have HT := yh hT; have HAT := yh hT.bg.at1; have HR := yh hR; clear hT hR; cases k with
  | zero => omega
  | succ k =>
  by_cases hlt : r < s.size
  · have hlt256 := s[r].toNat_lt; have HGB := yh (get_byte s r hlt); have hwr : IntKind.i64.wrap ((r : Int) + 1) = (r : Int) + 1 := IntWalk.i64_in _ (by omega); go_wp2_with fail; refine (rx_ended_no g s r _ hs hlt _ HT.out.bg).mono ?_; rintro e x1 ⟨rfl, x1n, rfl⟩; have HT := yh (HT.out.drewN x1n); generalize World.drewN wr x1n = V1 at HT ⊢; go_wp2_with fail; refine (rx_next g s r _ hs hlt _ HT.out.bg).mono ?_; rintro e x2 ⟨rfl, x2n, rfl⟩; have HT := yh (HT.out.drewN x2n); generalize World.drewN V1 x2n = V2 at HT ⊢; by_cases h42 : (s[r] == 42) = true
    · have c42 : ((s[r].toNat : Int) == 42) = true := byte_eq _ 42 true (by omega) h42; have HY := yh (show s.data.toList[r]? = some 42 from by rw [HGB.out]; simpa using h42); clear h42; have hcA := HT.out.ba.cell; have hfA := HT.out.ba.frozen; go_wp2_with fail; clear hcA hfA; refine (star_any a _ _ (okR w ok) (HT.out.okNew HO.out) HT.out.va).mono ?_; rintro e x3 ⟨v2, rfl, hv2, kx2⟩; obtain ⟨K2, c2, rfl⟩ := hv2.form; have HT := yh (HT.out.keep kx2); have HV2 := yh hv2; clear hv2 kx2; have hcA := HT.out.ba.cell; have hfA := HT.out.ba.frozen; have hcg := HT.out.bg.cell; have hfg := HT.out.bg.frozen
      have hgA : g ≠ w.heap.size := by have := HT.out.gl; omega
      go_wp2_with fail; clear hcA hfA hcg hfg hgA; go_roundw; case rel =>
       refine ⟨k, r + 1, a.star, K2, c2, by omega, by omega, ?_, (HT.out.put HV2.out).step⟩; have h0 := HR.out; rw [rxReps, if_pos HY.out] at h0; exact h0
      case measure =>
       rw [Blk.at1 ((HT.out.put HV2.out).step).bg, HAT.out]; omega
    have h42' : (s[r] == 42) = false := by simpa using h42
    have c42 : ((s[r].toNat : Int) == 42) = false := byte_eq _ 42 false (by omega) h42'; have HN42 := yh (show ¬ s.data.toList[r]? = some 42 from by rw [HGB.out]; simpa using h42); clear h42 h42'; by_cases h43 : (s[r] == 43) = true
    · have c43 : ((s[r].toNat : Int) == 43) = true := byte_eq _ 43 true (by omega) h43; have HY := yh (show s.data.toList[r]? = some 43 from by rw [HGB.out]; simpa using h43); clear h43; go_wp2_with fail; refine wp_region_pend (fun w' => ∀ q, w'.cell? ⟨w.heap.size, q, none⟩ = [Value.int .i64 (a.size : Int), .func (.func Ka) #[] ca][q]?) 4 (by kernel_rfl) (by kernel_rfl) (fun c a d v w h => by cases d <;> exact h) (by exact HT.out.ba.drew.cell) ?_; simp only [num, List.length_cons, List.length_nil]; repeat
       (refine pend_stable (by decide +kernel) (fun K hK => ?_)
        rw [if_pos (by rfl)]; apply Exists.intro; refine ⟨fun w' hS' => ?_, hK _ ?_⟩
        · (try dsimp only at hS')
          go_simp; try with_reducible rfl
        clear hK K; simp only [Act.put, List.setIfInBounds_toArray, List.set])
      refine pend_active (by decide +kernel) (fun K hK => ?_); rw [if_pos (by rfl)]; go_wp2_with fail; refine (star_any a _ _ (okR w ok) ((HT.out.keep ((Keep.refl _ _).drew)).okNew HO.out) HT.out.va.drew).mono ?_; rintro e x3 ⟨v1, rfl, hv1, kx1⟩; have HT := yh ((HT.out.keep ((Keep.refl _ _).drew)).keep kx1); have HV1 := yh hv1; clear hv1 kx1; refine hK.out _ _ (HT.out.ba.cell) ?_; clear hK K; try simp only [Act.put, List.setIfInBounds_toArray, List.set]
      refine pend_active (by decide +kernel) (fun K hK => ?_); rw [if_pos (by rfl)]; go_wp2_with fail; refine (join_any a a.star _ _ 116 .cat (.inl ⟨rfl, rfl⟩) _ (okR w ok) (HT.out.okNew HO.out) HT.out.va HV1.out).mono ?_; rintro e x4 ⟨v2, rfl, hv2, kx2⟩; obtain ⟨K2, c2, rfl⟩ := hv2.form; have HT := yh (HT.out.keep kx2); have HV2 := yh hv2; clear hv2 kx2; refine hK.out _ _ (HT.out.ba.cell) ?_; clear hK K; try simp only [Act.put, List.setIfInBounds_toArray, List.set]
      have hcA := HT.out.ba.cell; have hfA := HT.out.ba.frozen; refine pend_last (by decide +kernel) (by decide +kernel) (by decide +kernel) (fun K hK => ?_); rw [if_pos (by rfl)]; go_simp; refine hK.out _ _ ?_; clear hcA hfA; have hcg := HT.out.bg.cell; have hfg := HT.out.bg.frozen; have hgA : g ≠ w.heap.size := by have := HT.out.gl; omega
      go_wp2_with fail; clear hcg hfg hgA; go_roundw; case rel =>
       refine ⟨k, r + 1, a.join a.star .cat, K2, c2, by omega, by omega, ?_, (HT.out.put HV2.out).step⟩; have h0 := HR.out; rw [rxReps, if_neg HN42.out, if_pos HY.out] at h0; exact h0
      case measure =>
       rw [Blk.at1 ((HT.out.put HV2.out).step).bg, HAT.out]; omega
    have h43' : (s[r] == 43) = false := by simpa using h43
    have c43 : ((s[r].toNat : Int) == 43) = false := byte_eq _ 43 false (by omega) h43'; have HN43 := yh (show ¬ s.data.toList[r]? = some 43 from by rw [HGB.out]; simpa using h43); clear h43 h43'; by_cases h63 : (s[r] == 63) = true
    · have c63 : ((s[r].toNat : Int) == 63) = true := byte_eq _ 63 true (by omega) h63; have HY := yh (show s.data.toList[r]? = some 63 from by rw [HGB.out]; simpa using h63); clear h63; have hcA := HT.out.ba.cell; have hfA := HT.out.ba.frozen; go_wp2_with fail; clear hcA hfA; refine (maybe_any a _ _ (okR w ok) (HT.out.okNew HO.out) HT.out.va).mono ?_; rintro e x3 ⟨v2, rfl, hv2, kx2⟩; obtain ⟨K2, c2, rfl⟩ := hv2.form; have HT := yh (HT.out.keep kx2); have HV2 := yh hv2; clear hv2 kx2; have hcA := HT.out.ba.cell; have hfA := HT.out.ba.frozen; have hcg := HT.out.bg.cell; have hfg := HT.out.bg.frozen
      have hgA : g ≠ w.heap.size := by have := HT.out.gl; omega
      go_wp2_with fail; clear hcA hfA hcg hfg hgA; go_roundw; case rel =>
       refine ⟨k, r + 1, a.maybe, K2, c2, by omega, by omega, ?_, (HT.out.put HV2.out).step⟩; have h0 := HR.out; rw [rxReps, if_neg HN42.out, if_neg HN43.out, if_pos HY.out] at h0; exact h0
      case measure =>
       rw [Blk.at1 ((HT.out.put HV2.out).step).bg, HAT.out]; omega
    have h63' : (s[r] == 63) = false := by simpa using h63
    have c63 : ((s[r].toNat : Int) == 63) = false := byte_eq _ 63 false (by omega) h63'; have HN63 := yh (show ¬ s.data.toList[r]? = some 63 from by rw [HGB.out]; simpa using h63); clear h63 h63'; by_cases h123 : (s[r] == 123) = true
    · have c123 : ((s[r].toNat : Int) == 123) = true := byte_eq _ 123 true (by omega) h123; have HY := yh (show s.data.toList[r]? = some 123 from by rw [HGB.out]; simpa using h123); clear h123; have hcA := HT.out.ba.cell; have hfA := HT.out.ba.frozen; go_wp2_with fail; clear hcA hfA; cases hb : rxBraces s.data.toList a r with
      | error c =>
       refine (rx_braces a _ g s r ao on oc hs hlt _ (okR w ok) (HT.out.okNew HO.out) HT.out.va HT.out.bg _ hb).mono ?_; rintro e x3 ⟨pl, rfl, kx3⟩; have hRe : R = .error c := by
        have h0 := HR.out; rw [rxReps, if_neg HN42.out, if_neg HN43.out, if_neg HN63.out, if_pos HY.out, hb] at h0; exact h0.symm
       subst hRe; exact ⟨rfl, _, rfl, HT.out.k.trans kx3⟩
      | ok y =>
       obtain ⟨b, q⟩ := y; have hadv := rxBraces_adv hb; refine (rx_braces a _ g s r ao on oc hs hlt _ (okR w ok) (HT.out.okNew HO.out) HT.out.va HT.out.bg _ hb).mono ?_; rintro e x3 ⟨v2, rfl, hv2, hb3, hq3, kx3⟩; obtain ⟨K2, c2, rfl⟩ := hv2.form; have HT := yh (HT.out.keepG kx3 hb3); have HV2 := yh hv2; have HRq := yh (show rxReps s.data.toList k b q = R from by
        have h0 := HR.out; rw [rxReps, if_neg HN42.out, if_neg HN43.out, if_neg HN63.out, if_pos HY.out, hb] at h0; exact h0)
       clear hv2 kx3 hb3 hb; have hcA := HT.out.ba.cell; have hfA := HT.out.ba.frozen; go_wp2_with fail; clear hcA hfA; go_roundw; case rel => exact ⟨k, q, b, K2, c2, hq3, by omega, HRq.out, HT.out.put HV2.out⟩
       case measure =>
        rw [Blk.at1 (HT.out.put HV2.out).bg, HAT.out]; omega
    have h123' : (s[r] == 123) = false := by simpa using h123
    have c123 : ((s[r].toNat : Int) == 123) = false := byte_eq _ 123 false (by omega) h123'; have HN123 := yh (show ¬ s.data.toList[r]? = some 123 from by rw [HGB.out]; simpa using h123); clear h123 h123'; have hRe : R = .ok (a, r) := by
     have h0 := HR.out; rw [rxReps, if_neg HN42.out, if_neg HN43.out, if_neg HN63.out, if_neg HN123.out] at h0; exact h0.symm
    subst hRe; have hcA := HT.out.ba.cell; have hcR := HT.out.br.cell; have hfR := HT.out.br.frozen; go_wp2_with fail; clear hcA hcR hfR; exact bodyPost_ret (results_rule rfl _ _ (w.heap.size + 1) _ _ rfl ((HT.out.br.set 0 _).set 1 _)) rfl (HT.out.ret hr)
  · have HNN := yh (get_none s r (by omega)); go_wp2_with fail; refine (rx_ended_yes g s r _ hs (by omega) _ HT.out.bg).mono ?_; rintro e x1 ⟨rfl, x1n, rfl⟩; have HT := yh (HT.out.drewN x1n); generalize World.drewN wr x1n = V1 at HT ⊢; have hRe : R = .ok (a, r) := by
     have h0 := HR.out; rw [rxReps, if_neg (by rw [HNN.out]; simp), if_neg (by rw [HNN.out]; simp), if_neg (by rw [HNN.out]; simp), if_neg (by rw [HNN.out]; simp)] at h0; exact h0.symm
    subst hRe; have hcA := HT.out.ba.cell; have hcR := HT.out.br.cell; have hfR := HT.out.br.frozen; go_wp2_with fail; clear hcA hcR hfR; exact bodyPost_ret (results_rule rfl _ _ (w.heap.size + 1) _ _ rfl ((HT.out.br.set 0 _).set 1 _)) rfl (HT.out.ret hr)
end Go.Proofs.YtmfabihndpidnaaGreatDoor
namespace Go.Proofs.YtmfabihndpidnaaGreatDoor
open Go.RowKit
set_option maxRecDepth 100000
set_option linter.unusedVariables false
set_option linter.unusedSimpArgs false
def ScR (w : World) (base g : Nat) (s : ByteArray) (p n : Nat) : Prop := ∃ (ao : Option Addr) (oc : Nat) (xs : List Int), xs.length = n ∧ Blk w g [.string s, .int .i64 (p : Int), .slice ao n oc] 136 ∧ w.ownsRow base 3 1 (.slice ao n oc) n (xs.map (Value.int .i64)) ∧ base ≤ g
theorem ScR.keepG {w w' : World} {base g : Nat} {s : ByteArray} {p q n : Nat} {ao : Option Addr} {oc : Nat} {xs : List Int} (hx : xs.length = n) (hb : Blk w g [.string s, .int .i64 (p : Int), .slice ao n oc] 136) (ho : w.ownsRow base 3 1 (.slice ao n oc) n (xs.map (Value.int .i64))) (hg : base ≤ g)
 (k : Keep (some g) w w') (hb' : Blk w' g [.string s, .int .i64 (q : Int), .slice ao n oc] 136) : ScR w' base g s q n :=
 ⟨ao, oc, xs, hx, hb', own_keep ho k (NotRow.blk hb (by decide)), hg⟩
theorem ScR.keep {w w' : World} {base g : Nat} {s : ByteArray} {p n : Nat} (h : ScR w base g s p n) (k : Keep none w w') : ScR w' base g s p n := by
 obtain ⟨ao, oc, xs, hx, hb, ho, hg⟩ := h; exact ⟨ao, oc, xs, hx, hb.keep k (by simp), own_keep ho k (NotRow.none _ _), hg⟩
theorem ScR.drewN {w : World} {base g : Nat} {s : ByteArray} {p n : Nat} (h : ScR w base g s p n) (k : Nat) : ScR (w.drewN k) base g s p n := h.keep ((Keep.refl _ _).drewN k)
theorem ScR.step {w : World} {base g : Nat} {s : ByteArray} {p n : Nat} (h : ScR w base g s p n) : ScR (w.setCell ⟨g, 1, none⟩ (.int .i64 ((p : Int) + 1))) base g s (p + 1) n := by
 obtain ⟨ao, oc, xs, hx, hb, ho, hg⟩ := h; exact ScR.keepG hx hb ho hg ((Keep.refl _ _).set _ _ (.inl rfl)) hb.step3
theorem ScR.at_ {w : World} {base g : Nat} {s : ByteArray} {p n : Nat} (h : ScR w base g s p n) : rdAt w g = p := by
 obtain ⟨ao, oc, xs, hx, hb, ho, hg⟩ := h; exact hb.at1
theorem ScR.vol {w : World} {base g : Nat} {s : ByteArray} {p n : Nat} (h : ScR w base g s p n) : Vol w g := by
 obtain ⟨ao, oc, xs, hx, hb, ho, hg⟩ := h; exact hb.isVol (.inl rfl)
theorem ScR.lt {w : World} {base g : Nat} {s : ByteArray} {p n : Nat} (h : ScR w base g s p n) : g < w.heap.size ∧ base ≤ g := by
 obtain ⟨ao, oc, xs, hx, hb, ho, hg⟩ := h; exact ⟨hb.lt, hg⟩
theorem ScR.cellAt {w : World} {base g : Nat} {s : ByteArray} {p n : Nat} (h : ScR w base g s p n) : w.cell? ⟨g, 1, none⟩ = some (.int .i64 (p : Int)) := by
 obtain ⟨ao, oc, xs, hx, hb, ho, hg⟩ := h; exact hb.cell 1
theorem ScR.free {w : World} {base g : Nat} {s : ByteArray} {p n : Nat} (h : ScR w base g s p n) : ∀ o, w.frozen? ⟨g, o, none⟩ = false := by
 obtain ⟨ao, oc, xs, hx, hb, ho, hg⟩ := h; exact hb.frozen
theorem RK.of_keepG {base : Nat} {w w' : World} {g : Nat} (k : Keep (some g) w w') (hv : Vol w g) (hb : base ≤ g) : RK base w w' :=
 ⟨k.os, k.tape, k.output, k.size, fun i hi ha => k.block i hi (by
  intro e; simp at e; subst e; rcases ha with ha | ha
  · omega
  · exact ha hv)⟩
theorem Blk.rk {base : Nat} {w w' : World} {b : Nat} {cs : List Value} {t : TypeId} (h : Blk w b cs t) (k : RK base w w') (ht : t ≠ 136) (h3 : t ≠ 3) : Blk w' b cs t :=
 h.same (RK.same (ok := fun _ => True) k) trivial ht h3
theorem Escs.rk {base : Nat} {w w' : World} (h : Escs w) (k : RK base w w') (hb : 3 < base) : Escs w' := fun o => by
 rw [← h o]; have := k.block 3 h.lt (.inl hb); simp only [World.cell?, this]
def RxOut (base g : Nat) (s : ByteArray) (n lo : Nat) (w : World) (r : Except Nat (Rl × Nat)) (e : Ending) (w' : World) : Prop :=
 match r with
 | .ok (r, q) => ∃ x, e = .returned x ∧ RuleV w' (fun i => w.heap.size ≤ i) r x ∧ ScR w' base g s q n ∧ lo ≤ q ∧ q ≤ s.size ∧ RK base w w'
 | .error c => ∃ pl : Int, e = .panicked (flt c pl) ∧ RK base w w'
structure RxAt (s : ByteArray) (m : Nat) : Prop where
 alts : ∀ (n p base g : Nat) (w : World) (R : Except Nat (Rl × Nat)), p ≤ s.size → 6 * (s.size - p) + 6 ≤ m → n ≤ 1000 → ScR w base g s p n → Escs w → 3 < base → rxAlts s.data.toList m n p = R → Calls Tryz.prog 60 #[.pointer (some ⟨g, 0, none⟩)] w (RxOut base g s n p w R)
 meets : ∀ (n p base g : Nat) (w : World) (R : Except Nat (Rl × Nat)), p ≤ s.size → 6 * (s.size - p) + 5 ≤ m → n ≤ 1000 → ScR w base g s p n → Escs w → 3 < base → rxMeets s.data.toList m n p = R → Calls Tryz.prog 77 #[.pointer (some ⟨g, 0, none⟩)] w (RxOut base g s n p w R)
 row : ∀ (n p base g : Nat) (w : World) (R : Except Nat (Rl × Nat)), p ≤ s.size → 6 * (s.size - p) + 4 ≤ m → n ≤ 1000 → ScR w base g s p n → Escs w → 3 < base → rxRow s.data.toList m n p = R → Calls Tryz.prog 94 #[.pointer (some ⟨g, 0, none⟩)] w (RxOut base g s n p w R)
 atom : ∀ (n p base g : Nat) (w : World) (R : Except Nat (Rl × Nat)), p < s.size → 6 * (s.size - p) + 2 ≤ m → n ≤ 1000 → ScR w base g s p n → Escs w → 3 < base → rxAtom s.data.toList m n p = R → Calls Tryz.prog 115 #[.pointer (some ⟨g, 0, none⟩)] w (RxOut base g s n (p + 1) w R)
def okA (w : World) (b : Nat) : Nat → Prop := fun i => w.heap.size < i ∧ i ≠ b
structure AI (w wr : World) (base b : Nat) (o : Rl) (Ko : Nat) (co : Array Value) (g : Nat) (s : ByteArray) (r n : Nat) : Prop where
 bo : Blk wr b [.int .i64 (o.size : Int), .func (.func Ko) #[] co] 139
 br : Blk wr w.heap.size [.int .i64 0, .nilFunc] 139
 sc : ScR wr base g s r n
 vo : RuleV wr (okA w b) o (.agg #[.int .i64 (o.size : Int), .func (.func Ko) #[] co])
 k : RK base w wr
 hb : w.heap.size < b
 gl : g < w.heap.size
theorem AI.keep {w wr : World} {base b : Nat} {o : Rl} {Ko : Nat} {co : Array Value} {g : Nat} {s : ByteArray} {r n : Nat} {x : World} (h : AI w wr base b o Ko co g s r n) (k : Keep none wr x) : AI w x base b o Ko co g s r n :=
 ⟨h.bo.keep k (by simp), h.br.keep k (by simp), h.sc.keep k, h.vo.keep k, h.k.trans (RK.of_keep k), h.hb, h.gl⟩
theorem AI.drewN {w wr : World} {base b : Nat} {o : Rl} {Ko : Nat} {co : Array Value} {g : Nat} {s : ByteArray} {r n : Nat} (h : AI w wr base b o Ko co g s r n) (q : Nat) : AI w (wr.drewN q) base b o Ko co g s r n := h.keep ((Keep.refl _ _).drewN q)
theorem AI.call {w wr : World} {base b : Nat} {o : Rl} {Ko : Nat} {co : Array Value} {g : Nat} {s : ByteArray} {r n : Nat} {x : World} {q : Nat} (h : AI w wr base b o Ko co g s r n) (k : RK base wr x) (hs : ScR x base g s q n) : AI w x base b o Ko co g s q n :=
 ⟨h.bo.rk k (by decide) (by decide), h.br.rk k (by decide) (by decide), hs, h.vo.rk k, h.k.trans k, h.hb, h.gl⟩
theorem AI.step {w wr : World} {base b : Nat} {o : Rl} {Ko : Nat} {co : Array Value} {g : Nat} {s : ByteArray} {r n : Nat} (h : AI w wr base b o Ko co g s r n) : AI w (wr.setCell ⟨g, 1, none⟩ (.int .i64 ((r : Int) + 1))) base b o Ko co g s (r + 1) n :=
 h.call (RK.of_keepG ((Keep.refl _ _).set _ _ (.inl rfl)) h.sc.vol h.sc.lt.2) h.sc.step
theorem AI.okNew {w wr : World} {base b : Nat} {o : Rl} {Ko : Nat} {co : Array Value} {g : Nat} {s : ByteArray} {r n : Nat} (h : AI w wr base b o Ko co g s r n) : ∀ i, wr.heap.size ≤ i → okA w b i := fun i hi => by
 have h1 := h.bo.lt; have h2 := h.hb; exact ⟨by omega, by omega⟩
theorem AI.put {w wr : World} {base b : Nat} {o : Rl} {Ko : Nat} {co : Array Value} {g : Nat} {s : ByteArray} {r n : Nat} {o' : Rl} {Kb : Nat} {cb : Array Value} (h : AI w wr base b o Ko co g s r n) (hb : RuleV wr (okA w b) o' (.agg #[.int .i64 (o'.size : Int), .func (.func Kb) #[] cb])) :
 AI w ((wr.setCell ⟨b, 0, none⟩ (.int .i64 (o'.size : Int))).setCell ⟨b, 1, none⟩ (.func (.func Kb) #[] cb)) base b o' Kb cb g s r n := by
 have hbl := h.hb; have hgl := h.gl; obtain ⟨ao, oc, xs, hx, hB, ho, hg⟩ := h.sc; have hne : g ≠ b := by omega
 refine ⟨(h.bo.set 0 _).set 1 _, (h.br.far _ _ (by simp; omega)).far _ _ (by simp; omega), ?_, (hb.set _ _ (by simp [okA])).set _ _ (by simp [okA]), (h.k.setNew _ _ (by simp; omega)).setNew _ _ (by simp; omega), hbl, hgl⟩; have kk : Keep (some b) wr ((wr.setCell ⟨b, 0, none⟩ (.int .i64 (o'.size : Int))).setCell ⟨b, 1, none⟩ (.func (.func Kb) #[] cb)) := ((Keep.refl (some b) wr).set ⟨b, 0, none⟩ _ (.inl rfl)).set ⟨b, 1, none⟩ _ (.inl rfl); exact ⟨ao, oc, xs, hx, hB.keep kk (by simp; omega), own_keep ho kk (NotRow.blk h.bo (by decide)), hg⟩
theorem AI.ret {w wr : World} {base b : Nat} {o : Rl} {Ko : Nat} {co : Array Value} {g : Nat} {s : ByteArray} {r n : Nat} {lo : Nat} (h : AI w wr base b o Ko co g s r n) (hlo : lo ≤ r) (hr : r ≤ s.size) :
 RxOut base g s n lo w (.ok (o, r)) (.returned (.agg #[.int .i64 (o.size : Int), .func (.func Ko) #[] co])) ((wr.setCell ⟨w.heap.size, 0, none⟩ (.int .i64 (o.size : Int))).setCell ⟨w.heap.size, 1, none⟩ (.func (.func Ko) #[] co)) := by
 have hgl := h.gl; obtain ⟨ao, oc, xs, hx, hB, ho, hg⟩ := h.sc; have kk : Keep (some w.heap.size) wr ((wr.setCell ⟨w.heap.size, 0, none⟩ (.int .i64 (o.size : Int))).setCell ⟨w.heap.size, 1, none⟩ (.func (.func Ko) #[] co)) := ((Keep.refl (some w.heap.size) wr).set ⟨w.heap.size, 0, none⟩ _ (.inl rfl)).set ⟨w.heap.size, 1, none⟩ _ (.inl rfl); exact ⟨_, rfl, ((h.vo.set _ _ (by simp [okA])).set _ _ (by simp [okA])).mono fun i _ h => Nat.le_of_lt h.1, ⟨ao, oc, xs, hx, hB.keep kk (by simp; omega), own_keep ho kk (NotRow.blk h.br (by decide)), hg⟩, hlo, hr,
  (h.k.setNew _ _ (Nat.le_refl _)).setNew _ _ (Nat.le_refl _)⟩
theorem AI.first {w x : World} {base : Nat} {o : Rl} {Ko : Nat} {co : Array Value} {g : Nat} {s : ByteArray} {q n : Nat} (hgl : g < w.heap.size)
 (hr : RK base (w.alloc (.cells #[.int .i64 0, .nilFunc] 139)) x) (hs : ScR x base g s q n) (hv : RuleV x (fun i => (w.alloc (.cells #[.int .i64 0, .nilFunc] 139)).heap.size ≤ i) o (.agg #[.int .i64 (o.size : Int), .func (.func Ko) #[] co])) :
 AI w (x.alloc (.cells #[.int .i64 (o.size : Int), .func (.func Ko) #[] co] 139)) base x.heap.size o Ko co g s q n := by
 have h0 := Blk.new w [.int .i64 0, .nilFunc] 139; have hsz := hr.size; simp at hsz; refine ⟨Blk.new x _ 139, (h0.rk hr (by decide) (by decide)).alloc _, hs.keep ((Keep.refl _ _).alloc _), ?_, (((RK.refl base w).alloc _).trans hr).alloc _, by omega, hgl⟩; refine (hv.mono (ok' := okA w x.heap.size) fun i hi ho => ⟨?_, by omega⟩).keep ((Keep.refl _ _).alloc _); simp at ho; omega
end Go.Proofs.YtmfabihndpidnaaGreatDoor
