/-
  Rules: a repeat of so many times.
-/
import Derived.Test.YtmfabihndpidnaaGreatDoorK21
namespace Go.Proofs.YtmfabihndpidnaaGreatDoor
set_option maxHeartbeats 8000000
open Go.RowKit
set_option maxRecDepth 100000
set_option linter.unusedVariables false
set_option linter.unusedSimpArgs false
def okT (w : World) (ok : Nat → Prop) : Nat → Prop := fun i => ok i ∧ i ≠ w.heap.size + 1 ∧ i ≠ w.heap.size + 2
structure TI (w wr : World) (ok : Nat → Prop) (a o : Rl) (Ka Ko : Nat) (ca co : Array Value) : Prop where
 ba : Blk wr w.heap.size [.int .i64 (a.size : Int), .func (.func Ka) #[] ca] 139
 br : Blk wr (w.heap.size + 1) [.int .i64 0, .nilFunc] 139
 bo : Blk wr (w.heap.size + 1 + 1) [.int .i64 (o.size : Int), .func (.func Ko) #[] co] 139
 va : RuleV wr (okT w ok) a (.agg #[.int .i64 (a.size : Int), .func (.func Ka) #[] ca])
 vo : RuleV wr (okT w ok) o (.agg #[.int .i64 (o.size : Int), .func (.func Ko) #[] co])
 k : Keep none w wr
theorem TI.keep {w wr x : World} {ok : Nat → Prop} {a o : Rl} {Ka Ko : Nat} {ca co : Array Value} (h : TI w wr ok a o Ka Ko ca co) (k : Keep none wr x) : TI w x ok a o Ka Ko ca co :=
 ⟨h.ba.keep k (by simp), h.br.keep k (by simp), h.bo.keep k (by simp), h.va.keep k, h.vo.keep k, h.k.trans k⟩
theorem TI.okNew {w wr : World} {ok : Nat → Prop} {a o : Rl} {Ka Ko : Nat} {ca co : Array Value} (h : TI w wr ok a o Ka Ko ca co) (hok : ∀ i, w.heap.size ≤ i → ok i) : ∀ i, wr.heap.size ≤ i → okT w ok i := fun i hi => by
 have h1 := h.bo.lt; exact ⟨hok i (by omega), by omega, by omega⟩
theorem TI.put {w wr : World} {ok : Nat → Prop} {a o o' : Rl} {Ka Ko Kn : Nat} {ca co cn : Array Value} (h : TI w wr ok a o Ka Ko ca co)
 (hn : RuleV wr (okT w ok) o' (.agg #[.int .i64 (o'.size : Int), .func (.func Kn) #[] cn])) :
 TI w ((wr.setCell ⟨w.heap.size + 1 + 1, 0, none⟩ (.int .i64 (o'.size : Int))).setCell ⟨w.heap.size + 1 + 1, 1, none⟩ (.func (.func Kn) #[] cn)) ok a o' Ka Kn ca cn :=
 ⟨(h.ba.far _ _ (by simp; omega)).far _ _ (by simp; omega), (h.br.far _ _ (by simp)).far _ _ (by simp), (h.bo.set 0 _).set 1 _,
  (h.va.set _ _ (by simp [okT])).set _ _ (by simp [okT]), (hn.set _ _ (by simp [okT])).set _ _ (by simp [okT]), (h.k.set _ _ (.inr (by simp; omega))).set _ _ (.inr (by simp; omega))⟩
theorem run_ret_ti {w wr : World} {ok : Nat → Prop} {a o r : Rl} {Ka Ko Kr : Nat} {ca co cr : Array Value} (h : TI w wr ok a o Ka Ko ca co)
 (hr : RuleV wr (okT w ok) r (.agg #[.int .i64 (r.size : Int), .func (.func Kr) #[] cr])) :
 RlOut w ok r (.returned (.agg #[.int .i64 (r.size : Int), .func (.func Kr) #[] cr])) ((wr.setCell ⟨w.heap.size + 1, 0, none⟩ (.int .i64 (r.size : Int))).setCell ⟨w.heap.size + 1, 1, none⟩ (.func (.func Kr) #[] cr)) :=
 ⟨_, rfl, ((hr.set _ _ (by simp [okT])).set _ _ (by simp [okT])).mono fun i _ h => h.1, (h.k.set _ _ (.inr (by simp))).set _ _ (.inr (by simp))⟩
theorem times_any (a : Rl) (v : Value) (m : Nat) (n : Int) (hm : m ≤ 1000) (hn : n ≤ 1000) (hn0 : -1 ≤ n) (w : World) (ok : Nat → Prop) (hok : ∀ i, w.heap.size ≤ i → ok i) (h : RuleV w ok a v) :
 Calls Tryz.prog 128 #[v, .int .i64 (m : Int), .int .i64 n] w (RlOut w ok (a.times m n)) := by
 have hmf : ∀ (fn : Fn) (first cap : Array Value) (w : World), (Instr.makeFunc fn first cap).run Tryz.prog w = .ok (.func fn first cap) w := fun _ _ _ _ => rfl
 have HO := yh hok; have HV := yh (show RuleV w (okT w ok) a v from h.mono fun i hi ho => ⟨ho, by omega, by omega⟩); obtain ⟨Ka, ca, rfl⟩ := h.form; obtain ⟨R, hR⟩ : ∃ R, a.times m n = R := ⟨_, rfl⟩; rw [hR]; unfold Rl.times at hR; have HR := yh hR; clear h hok hR; by_cases c1 : m = 0 ∧ n < 0
 · obtain ⟨c1, c2⟩ := c1; have t1 : ((m : Int) == 0) = true := by rw [c1]; simp
   have hr := HR.out; rw [if_pos ⟨c1, c2⟩] at hr; subst hr; clear c1; go_enter Tryz.func128, Tryz.ntmps128; go_wp2_with fail; generalize hA : World.alloc (World.alloc w _) _ = A; have BA := yh (show Blk A w.heap.size [.int .i64 (a.size : Int), .func (.func Ka) #[] ca] 139 from by rw [← hA]; exact (Blk.new w _ 139).alloc _); have BR := yh (show Blk A (w.heap.size + 1) [.int .i64 0, .nilFunc] 139 from by
    rw [← hA]; have := Blk.new (w.alloc (.cells #[.int .i64 (a.size : Int), .func (.func Ka) #[] ca] 139)) [.int .i64 0, .nilFunc] 139; rw [show (w.alloc (.cells #[.int .i64 (a.size : Int), .func (.func Ka) #[] ca] 139)).heap.size = w.heap.size + 1 by simp] at this; exact this)
   have KA := yh (show Keep none w A from by rw [← hA]; exact (((Keep.refl _ _).alloc _).alloc _)); have HAS := yh (show w.heap.size + 2 = A.heap.size from by rw [← hA]; simp); clear hA; refine (star_any a _ _ (fun i => ok i ∧ i ≠ w.heap.size + 1) (fun i hi => ⟨HO.out i (by have := HAS.out; omega), by have := HAS.out; omega⟩) ((HV.out.keep KA.out).mono fun i _ h => ⟨h.1, h.2.1⟩)).mono ?_; rintro e x1 ⟨v1, rfl, hv1, kx1⟩; obtain ⟨K2, c2, rfl⟩ := hv1.form; have BR := yh (BR.out.keep kx1 (by simp)); have KA := yh (KA.out.trans kx1); have HV1 := yh hv1; clear hv1 kx1; have hcR := BR.out.cell
   have hfR := BR.out.frozen; go_wp2_with fail; clear hcR hfR; refine bodyPost_ret (results_rule rfl _ _ (w.heap.size + 1) _ _ rfl ((BR.out.set 0 _).set 1 _)) rfl ⟨_, rfl, ?_, (KA.out.set _ _ (.inr (by simp))).set _ _ (.inr (by simp))⟩; exact ((HV1.out.set _ _ (by simp)).set _ _ (by simp)).mono fun i _ h => h.1
 by_cases c2 : m = 0 ∧ n = 0
 · obtain ⟨c3, c4⟩ := c2; have t1 : ((m : Int) == 0) = true := by rw [c3]; simp
   have t2 : (n == 0) = true := by rw [c4]; simp
   have t3 : ¬ (n < 0) := by omega
   have hr := HR.out; rw [if_neg c1, if_pos ⟨c3, c4⟩] at hr; subst hr; clear c3 c4 c1; go_enter Tryz.func128, Tryz.ntmps128; go_wp2_with fail; generalize hA : World.alloc (World.alloc w _) _ = A; have BR := yh (show Blk A (w.heap.size + 1) [.int .i64 0, .nilFunc] 139 from by
    rw [← hA]; have := Blk.new (w.alloc (.cells #[.int .i64 (a.size : Int), .func (.func Ka) #[] ca] 139)) [.int .i64 0, .nilFunc] 139; rw [show (w.alloc (.cells #[.int .i64 (a.size : Int), .func (.func Ka) #[] ca] 139)).heap.size = w.heap.size + 1 by simp] at this; exact this)
   have KA := yh (show Keep none w A from by rw [← hA]; exact (((Keep.refl _ _).alloc _).alloc _)); have HAS := yh (show w.heap.size + 2 = A.heap.size from by rw [← hA]; simp); clear hA; refine (leaf_any .eps _ (fun i => ok i ∧ i ≠ w.heap.size + 1) (fun i hi => ⟨HO.out i (by have := HAS.out; omega), by have := HAS.out; omega⟩)).mono ?_; rintro e x1 ⟨v1, rfl, hv1, kx1⟩; obtain ⟨K2, c2, rfl⟩ := hv1.form; have BR := yh (BR.out.keep kx1 (by simp)); have KA := yh (KA.out.trans kx1); have HV1 := yh hv1; clear hv1 kx1; have hcR := BR.out.cell; have hfR := BR.out.frozen; go_wp2_with fail
   clear hcR hfR; refine bodyPost_ret (results_rule rfl _ _ (w.heap.size + 1) _ _ rfl ((BR.out.set 0 _).set 1 _)) rfl ⟨_, rfl, ?_, (KA.out.set _ _ (.inr (by simp))).set _ _ (.inr (by simp))⟩; exact ((HV1.out.set _ _ (by simp)).set _ _ (by simp)).mono fun i _ h => h.1
 have hr := HR.out; rw [if_neg c1, if_neg c2] at hr; obtain ⟨X, hXX⟩ : ∃ X, a.more (m - 1) (if m = 0 then a.maybe else a) = X := ⟨_, rfl⟩; rw [hXX] at hr; have HR2 := yh hr; have HXX := yh hXX; clear hr hXX; by_cases c3 : m = 0
 · have t1 : ((m : Int) == 0) = true := by rw [c3]; simp
   have t2 : (n == 0) = false := by rw [beq_eq_false_iff_ne]; omega
   have t3 : ¬ (n < 0) := by omega
   have HM := yh c3; clear c1 c2 c3; go_enter Tryz.func128, Tryz.ntmps128; go_wp2_with fail; generalize hA : World.alloc (World.alloc (World.alloc w _) _) _ = A; have HT := yh (show TI w A ok a a Ka Ka ca ca from by
    have k0 : Keep none w A := by rw [← hA]; exact ((((Keep.refl _ _).alloc _).alloc _).alloc _)
    refine ⟨?_, ?_, ?_, HV.out.keep k0, HV.out.keep k0, k0⟩
    · rw [← hA]; exact ((Blk.new w _ 139).alloc _).alloc _
    · rw [← hA]; have := Blk.new (w.alloc (.cells #[.int .i64 (a.size : Int), .func (.func Ka) #[] ca] 139)) [.int .i64 0, .nilFunc] 139; rw [show (w.alloc (.cells #[.int .i64 (a.size : Int), .func (.func Ka) #[] ca] 139)).heap.size = w.heap.size + 1 by simp] at this; exact this.alloc _
    · rw [← hA]; have := Blk.new ((w.alloc (.cells #[.int .i64 (a.size : Int), .func (.func Ka) #[] ca] 139)).alloc (.cells #[.int .i64 0, .nilFunc] 139)) [.int .i64 (a.size : Int), .func (.func Ka) #[] ca] 139; rw [show ((w.alloc (.cells #[.int .i64 (a.size : Int), .func (.func Ka) #[] ca] 139)).alloc (.cells #[.int .i64 0, .nilFunc] 139)).heap.size = w.heap.size + 1 + 1 by simp] at this; exact this)
   clear hA; refine (maybe_any a _ _ (okT w ok) (HT.out.okNew HO.out) HT.out.va).mono ?_; rintro e x2 ⟨v2, rfl, hv2, kx2⟩; obtain ⟨K2, c2, rfl⟩ := hv2.form; have HT := yh (HT.out.keep kx2); have HV2 := yh hv2; clear hv2 kx2; have hcO := HT.out.bo.cell; have hfO := HT.out.bo.frozen; go_wp2_with fail; clear hcO hfO; have HT := yh (HT.out.put HV2.out); have HX := yh (show a.more (m - 1) a.maybe = X from by rw [← HXX.out, if_pos HM.out]); go_loopw [8] (fun kv wr => ∃ (k : Nat) (o : Rl) (Ko : Nat) (co : Array Value), kv = .int .i64 (k : Int) ∧ 1 ≤ k ∧ (k ≤ m ∨ k = 1) ∧ a.more (m - k) o = X ∧ TI w wr ok a o Ka Ko ca co) (fun kv _ => m - (intOf kv).toNat)
   case atStart => exact ⟨1, _, _, _, rfl, by omega, by omega, HX.out, HT.out⟩
   case round =>
    clear HT HX; obtain ⟨k, o, Ko, co, rfl, hk1, hkm, hX, hT⟩ := hrel; have HX := yh hX; have HT := yh hT; clear hX hT; have hwk : IntKind.i64.wrap ((k : Int) + 1) = (k : Int) + 1 := IntWalk.i64_in _ (by omega); by_cases hlt : k < m
    · have b0 : ((k : Int) < (m : Int)) := by omega
      have hcA := HT.out.ba.cell; have hcO := HT.out.bo.cell; go_wp2_with fail; clear hcA hcO; refine (join_any o a _ _ 116 .cat (.inl ⟨rfl, rfl⟩) _ (okT w ok) (HT.out.okNew HO.out) HT.out.vo HT.out.va).mono ?_; rintro e x2 ⟨v2, rfl, hv2, kx2⟩; obtain ⟨K2, c2, rfl⟩ := hv2.form; have HT := yh (HT.out.keep kx2); have HV2 := yh hv2; clear hv2 kx2; have hcO := HT.out.bo.cell; have hfO := HT.out.bo.frozen; go_wp2_with fail; clear hcO hfO; go_roundw; case rel =>
       refine ⟨k + 1, o.join a .cat, K2, c2, rfl, by omega, by omega, ?_, HT.out.put HV2.out⟩; rw [← HX.out, show m - k = (m - (k + 1)) + 1 by omega, Rl.more]
      case measure =>
       simp only [intOf, Int.toNat_natCast]; omega
    · have b0 : ¬ ((k : Int) < (m : Int)) := by omega
      have HX := yh (show o = X from by rw [← HX.out, show m - k = 0 by omega, Rl.more]); have HKM := yh (show (max (m : Int) 1) = (k : Int) from by omega); by_cases hn : n < 0
      · have HR3 := yh (show o.join a.star .cat = R from by rw [← HR2.out, if_pos hn, HX.out]); go_wp2_with fail; refine wp_region_pend (fun w' => (∀ q, w'.cell? ⟨w.heap.size, q, none⟩ = [Value.int .i64 (a.size : Int), .func (.func Ka) #[] ca][q]?) ∧ (∀ q, w'.cell? ⟨w.heap.size + 1 + 1, q, none⟩ = [Value.int .i64 (o.size : Int), .func (.func Ko) #[] co][q]?)) 4 (by kernel_rfl) (by kernel_rfl) (fun c a d v w h => by cases d <;> exact h) (by exact ⟨HT.out.ba.drew.cell, HT.out.bo.drew.cell⟩) ?_; simp only [num, List.length_cons, List.length_nil]; repeat
         (refine pend_stable (by decide +kernel) (fun K hK => ?_)
          rw [if_pos (by rfl)]; apply Exists.intro; refine ⟨fun w' hS' => ?_, hK _ ?_⟩
          · obtain ⟨hSa, hSo⟩ := hS'; go_simp; try with_reducible rfl
          clear hK K; simp only [Act.put, List.setIfInBounds_toArray, List.set])
        refine pend_active (by decide +kernel) (fun K hK => ?_); rw [if_pos (by rfl)]; go_wp2_with fail; refine (star_any a _ _ (okT w ok) ((HT.out.keep ((Keep.refl _ _).drew)).okNew HO.out) HT.out.va.drew).mono ?_; rintro e x1 ⟨v1, rfl, hv1, kx1⟩; have HT := yh ((HT.out.keep ((Keep.refl _ _).drew)).keep kx1); have HV1 := yh hv1; clear hv1 kx1; refine hK.out _ _ (⟨HT.out.ba.cell, HT.out.bo.cell⟩) ?_; clear hK K; try simp only [Act.put, List.setIfInBounds_toArray, List.set]
        refine pend_active (by decide +kernel) (fun K hK => ?_); rw [if_pos (by rfl)]; go_wp2_with fail; refine (join_any o a.star _ _ 116 .cat (.inl ⟨rfl, rfl⟩) _ (okT w ok) (HT.out.okNew HO.out) HT.out.vo HV1.out).mono ?_; rintro e x2 ⟨v2, rfl, hv2, kx2⟩; obtain ⟨K2, c2, rfl⟩ := hv2.form; have HT := yh (HT.out.keep kx2); have HV2 := yh hv2; clear hv2 kx2; refine hK.out _ _ (⟨HT.out.ba.cell, HT.out.bo.cell⟩) ?_; clear hK K; try simp only [Act.put, List.setIfInBounds_toArray, List.set]
        have hcR := HT.out.br.cell; have hfR := HT.out.br.frozen; refine pend_last (by decide +kernel) (by decide +kernel) (by decide +kernel) (fun K hK => ?_); rw [if_pos (by rfl)]; go_simp; refine hK.out _ _ ?_; clear hcR hfR; go_wp2_with fail; have hr := HR3.out; subst hr; exact bodyPost_ret (results_rule rfl _ _ (w.heap.size + 1) _ _ rfl ((HT.out.br.set 0 _).set 1 _)) rfl (run_ret_ti HT.out HV2.out)
      · have HR3 := yh (show a.maybes (n - (k : Int)).toNat o = R from by rw [← HR2.out, if_neg hn, HX.out, HKM.out]); go_wp2_with fail; go_loopw [8] (fun kv wr => ∃ (j : Nat) (o : Rl) (Ko : Nat) (co : Array Value), kv = .int .i64 (j : Int) ∧ j ≤ 1001 ∧ a.maybes (n - (j : Int)).toNat o = R ∧ TI w wr ok a o Ka Ko ca co) (fun kv _ => n.toNat - (intOf kv).toNat)
        case atStart => exact ⟨k, o, Ko, co, rfl, by omega, HR3.out, HT.out⟩
        case round =>
         clear HT HX HR3; obtain ⟨j, o, Ko, co, rfl, hj1, hX, hT⟩ := hrel; have HX := yh hX; have HT := yh hT; clear hX hT; have hwj : IntKind.i64.wrap ((j : Int) + 1) = (j : Int) + 1 := IntWalk.i64_in _ (by omega); by_cases hlt2 : (j : Int) < n
         · go_wp2_with fail; refine wp_region_pend (fun w' => (∀ q, w'.cell? ⟨w.heap.size, q, none⟩ = [Value.int .i64 (a.size : Int), .func (.func Ka) #[] ca][q]?) ∧ (∀ q, w'.cell? ⟨w.heap.size + 1 + 1, q, none⟩ = [Value.int .i64 (o.size : Int), .func (.func Ko) #[] co][q]?)) 4 (by kernel_rfl) (by kernel_rfl) (fun c a d v w h => by cases d <;> exact h) (by exact ⟨HT.out.ba.drew.cell, HT.out.bo.drew.cell⟩) ?_; simp only [num, List.length_cons, List.length_nil]; repeat
            (refine pend_stable (by decide +kernel) (fun K hK => ?_)
             rw [if_pos (by rfl)]; apply Exists.intro; refine ⟨fun w' hS' => ?_, hK _ ?_⟩
             · obtain ⟨hSa, hSo⟩ := hS'; go_simp; try with_reducible rfl
             clear hK K; simp only [Act.put, List.setIfInBounds_toArray, List.set])
           refine pend_active (by decide +kernel) (fun K hK => ?_); rw [if_pos (by rfl)]; go_wp2_with fail; refine (maybe_any a _ _ (okT w ok) ((HT.out.keep ((Keep.refl _ _).drew)).okNew HO.out) HT.out.va.drew).mono ?_; rintro e x1 ⟨v1, rfl, hv1, kx1⟩; have HT := yh ((HT.out.keep ((Keep.refl _ _).drew)).keep kx1); have HV1 := yh hv1; clear hv1 kx1; refine hK.out _ _ (⟨HT.out.ba.cell, HT.out.bo.cell⟩) ?_; clear hK K; try simp only [Act.put, List.setIfInBounds_toArray, List.set]
           refine pend_active (by decide +kernel) (fun K hK => ?_); rw [if_pos (by rfl)]; go_wp2_with fail; refine (join_any o a.maybe _ _ 116 .cat (.inl ⟨rfl, rfl⟩) _ (okT w ok) (HT.out.okNew HO.out) HT.out.vo HV1.out).mono ?_; rintro e x2 ⟨v2, rfl, hv2, kx2⟩; obtain ⟨K2, c2, rfl⟩ := hv2.form; have HT := yh (HT.out.keep kx2); have HV2 := yh hv2; clear hv2 kx2; refine hK.out _ _ (⟨HT.out.ba.cell, HT.out.bo.cell⟩) ?_; clear hK K; try simp only [Act.put, List.setIfInBounds_toArray, List.set]
           have hcO := HT.out.bo.cell; have hfO := HT.out.bo.frozen; refine pend_last (by decide +kernel) (by decide +kernel) (by decide +kernel) (fun K hK => ?_); rw [if_pos (by rfl)]; go_simp; refine hK.out _ _ ?_; clear hcO hfO; go_wp2_with fail; go_roundw; case rel =>
            refine ⟨j + 1, o.join a.maybe .cat, K2, c2, rfl, by omega, ?_, HT.out.put HV2.out⟩; rw [← HX.out, show (n - (j : Int)).toNat = (n - ((j + 1 : Nat) : Int)).toNat + 1 by omega, Rl.maybes]
           case measure =>
            simp only [intOf, Int.toNat_natCast]; omega
         · have HRe := yh (show o = R from by rw [← HX.out, show (n - (j : Int)).toNat = 0 by omega, Rl.maybes]); have hcO := HT.out.bo.cell; have hcR := HT.out.br.cell; have hfR := HT.out.br.frozen; go_wp2_with fail; clear hcO hcR hfR; have hr := HRe.out; subst hr; exact bodyPost_ret (results_rule rfl _ _ (w.heap.size + 1) _ _ rfl ((HT.out.br.set 0 _).set 1 _)) rfl (run_ret_ti HT.out HT.out.vo)
 · have t1 : ((m : Int) == 0) = false := by rw [beq_eq_false_iff_ne]; omega
   have HX := yh (show a.more (m - 1) a = X from by rw [← HXX.out, if_neg c3]); clear c1 c2; go_enter Tryz.func128, Tryz.ntmps128; go_wp2_with fail; generalize hA : World.alloc (World.alloc (World.alloc w _) _) _ = A; have HT := yh (show TI w A ok a a Ka Ka ca ca from by
    have k0 : Keep none w A := by rw [← hA]; exact ((((Keep.refl _ _).alloc _).alloc _).alloc _)
    refine ⟨?_, ?_, ?_, HV.out.keep k0, HV.out.keep k0, k0⟩
    · rw [← hA]; exact ((Blk.new w _ 139).alloc _).alloc _
    · rw [← hA]; have := Blk.new (w.alloc (.cells #[.int .i64 (a.size : Int), .func (.func Ka) #[] ca] 139)) [.int .i64 0, .nilFunc] 139; rw [show (w.alloc (.cells #[.int .i64 (a.size : Int), .func (.func Ka) #[] ca] 139)).heap.size = w.heap.size + 1 by simp] at this; exact this.alloc _
    · rw [← hA]; have := Blk.new ((w.alloc (.cells #[.int .i64 (a.size : Int), .func (.func Ka) #[] ca] 139)).alloc (.cells #[.int .i64 0, .nilFunc] 139)) [.int .i64 (a.size : Int), .func (.func Ka) #[] ca] 139; rw [show ((w.alloc (.cells #[.int .i64 (a.size : Int), .func (.func Ka) #[] ca] 139)).alloc (.cells #[.int .i64 0, .nilFunc] 139)).heap.size = w.heap.size + 1 + 1 by simp] at this; exact this)
   clear hA; go_loopw [8] (fun kv wr => ∃ (k : Nat) (o : Rl) (Ko : Nat) (co : Array Value), kv = .int .i64 (k : Int) ∧ 1 ≤ k ∧ (k ≤ m ∨ k = 1) ∧ a.more (m - k) o = X ∧ TI w wr ok a o Ka Ko ca co) (fun kv _ => m - (intOf kv).toNat)
   case atStart => exact ⟨1, _, _, _, rfl, by omega, by omega, HX.out, HT.out⟩
   case round =>
    clear HT HX; obtain ⟨k, o, Ko, co, rfl, hk1, hkm, hX, hT⟩ := hrel; have HX := yh hX; have HT := yh hT; clear hX hT; have hwk : IntKind.i64.wrap ((k : Int) + 1) = (k : Int) + 1 := IntWalk.i64_in _ (by omega); by_cases hlt : k < m
    · have b0 : ((k : Int) < (m : Int)) := by omega
      have hcA := HT.out.ba.cell; have hcO := HT.out.bo.cell; go_wp2_with fail; clear hcA hcO; refine (join_any o a _ _ 116 .cat (.inl ⟨rfl, rfl⟩) _ (okT w ok) (HT.out.okNew HO.out) HT.out.vo HT.out.va).mono ?_; rintro e x2 ⟨v2, rfl, hv2, kx2⟩; obtain ⟨K2, c2, rfl⟩ := hv2.form; have HT := yh (HT.out.keep kx2); have HV2 := yh hv2; clear hv2 kx2; have hcO := HT.out.bo.cell; have hfO := HT.out.bo.frozen; go_wp2_with fail; clear hcO hfO; go_roundw; case rel =>
       refine ⟨k + 1, o.join a .cat, K2, c2, rfl, by omega, by omega, ?_, HT.out.put HV2.out⟩; rw [← HX.out, show m - k = (m - (k + 1)) + 1 by omega, Rl.more]
      case measure =>
       simp only [intOf, Int.toNat_natCast]; omega
    · have b0 : ¬ ((k : Int) < (m : Int)) := by omega
      have HX := yh (show o = X from by rw [← HX.out, show m - k = 0 by omega, Rl.more]); have HKM := yh (show (max (m : Int) 1) = (k : Int) from by omega); by_cases hn : n < 0
      · have HR3 := yh (show o.join a.star .cat = R from by rw [← HR2.out, if_pos hn, HX.out]); go_wp2_with fail; refine wp_region_pend (fun w' => (∀ q, w'.cell? ⟨w.heap.size, q, none⟩ = [Value.int .i64 (a.size : Int), .func (.func Ka) #[] ca][q]?) ∧ (∀ q, w'.cell? ⟨w.heap.size + 1 + 1, q, none⟩ = [Value.int .i64 (o.size : Int), .func (.func Ko) #[] co][q]?)) 4 (by kernel_rfl) (by kernel_rfl) (fun c a d v w h => by cases d <;> exact h) (by exact ⟨HT.out.ba.drew.cell, HT.out.bo.drew.cell⟩) ?_; simp only [num, List.length_cons, List.length_nil]; repeat
         (refine pend_stable (by decide +kernel) (fun K hK => ?_)
          rw [if_pos (by rfl)]; apply Exists.intro; refine ⟨fun w' hS' => ?_, hK _ ?_⟩
          · obtain ⟨hSa, hSo⟩ := hS'; go_simp; try with_reducible rfl
          clear hK K; simp only [Act.put, List.setIfInBounds_toArray, List.set])
        refine pend_active (by decide +kernel) (fun K hK => ?_); rw [if_pos (by rfl)]; go_wp2_with fail; refine (star_any a _ _ (okT w ok) ((HT.out.keep ((Keep.refl _ _).drew)).okNew HO.out) HT.out.va.drew).mono ?_; rintro e x1 ⟨v1, rfl, hv1, kx1⟩; have HT := yh ((HT.out.keep ((Keep.refl _ _).drew)).keep kx1); have HV1 := yh hv1; clear hv1 kx1; refine hK.out _ _ (⟨HT.out.ba.cell, HT.out.bo.cell⟩) ?_; clear hK K; try simp only [Act.put, List.setIfInBounds_toArray, List.set]
        refine pend_active (by decide +kernel) (fun K hK => ?_); rw [if_pos (by rfl)]; go_wp2_with fail; refine (join_any o a.star _ _ 116 .cat (.inl ⟨rfl, rfl⟩) _ (okT w ok) (HT.out.okNew HO.out) HT.out.vo HV1.out).mono ?_; rintro e x2 ⟨v2, rfl, hv2, kx2⟩; obtain ⟨K2, c2, rfl⟩ := hv2.form; have HT := yh (HT.out.keep kx2); have HV2 := yh hv2; clear hv2 kx2; refine hK.out _ _ (⟨HT.out.ba.cell, HT.out.bo.cell⟩) ?_; clear hK K; try simp only [Act.put, List.setIfInBounds_toArray, List.set]
        have hcR := HT.out.br.cell; have hfR := HT.out.br.frozen; refine pend_last (by decide +kernel) (by decide +kernel) (by decide +kernel) (fun K hK => ?_); rw [if_pos (by rfl)]; go_simp; refine hK.out _ _ ?_; clear hcR hfR; go_wp2_with fail; have hr := HR3.out; subst hr; exact bodyPost_ret (results_rule rfl _ _ (w.heap.size + 1) _ _ rfl ((HT.out.br.set 0 _).set 1 _)) rfl (run_ret_ti HT.out HV2.out)
      · have HR3 := yh (show a.maybes (n - (k : Int)).toNat o = R from by rw [← HR2.out, if_neg hn, HX.out, HKM.out]); go_wp2_with fail; go_loopw [8] (fun kv wr => ∃ (j : Nat) (o : Rl) (Ko : Nat) (co : Array Value), kv = .int .i64 (j : Int) ∧ j ≤ 1001 ∧ a.maybes (n - (j : Int)).toNat o = R ∧ TI w wr ok a o Ka Ko ca co) (fun kv _ => n.toNat - (intOf kv).toNat)
        case atStart => exact ⟨k, o, Ko, co, rfl, by omega, HR3.out, HT.out⟩
        case round =>
         clear HT HX HR3; obtain ⟨j, o, Ko, co, rfl, hj1, hX, hT⟩ := hrel; have HX := yh hX; have HT := yh hT; clear hX hT; have hwj : IntKind.i64.wrap ((j : Int) + 1) = (j : Int) + 1 := IntWalk.i64_in _ (by omega); by_cases hlt2 : (j : Int) < n
         · go_wp2_with fail; refine wp_region_pend (fun w' => (∀ q, w'.cell? ⟨w.heap.size, q, none⟩ = [Value.int .i64 (a.size : Int), .func (.func Ka) #[] ca][q]?) ∧ (∀ q, w'.cell? ⟨w.heap.size + 1 + 1, q, none⟩ = [Value.int .i64 (o.size : Int), .func (.func Ko) #[] co][q]?)) 4 (by kernel_rfl) (by kernel_rfl) (fun c a d v w h => by cases d <;> exact h) (by exact ⟨HT.out.ba.drew.cell, HT.out.bo.drew.cell⟩) ?_; simp only [num, List.length_cons, List.length_nil]; repeat
            (refine pend_stable (by decide +kernel) (fun K hK => ?_)
             rw [if_pos (by rfl)]; apply Exists.intro; refine ⟨fun w' hS' => ?_, hK _ ?_⟩
             · obtain ⟨hSa, hSo⟩ := hS'; go_simp; try with_reducible rfl
             clear hK K; simp only [Act.put, List.setIfInBounds_toArray, List.set])
           refine pend_active (by decide +kernel) (fun K hK => ?_); rw [if_pos (by rfl)]; go_wp2_with fail; refine (maybe_any a _ _ (okT w ok) ((HT.out.keep ((Keep.refl _ _).drew)).okNew HO.out) HT.out.va.drew).mono ?_; rintro e x1 ⟨v1, rfl, hv1, kx1⟩; have HT := yh ((HT.out.keep ((Keep.refl _ _).drew)).keep kx1); have HV1 := yh hv1; clear hv1 kx1; refine hK.out _ _ (⟨HT.out.ba.cell, HT.out.bo.cell⟩) ?_; clear hK K; try simp only [Act.put, List.setIfInBounds_toArray, List.set]
           refine pend_active (by decide +kernel) (fun K hK => ?_); rw [if_pos (by rfl)]; go_wp2_with fail; refine (join_any o a.maybe _ _ 116 .cat (.inl ⟨rfl, rfl⟩) _ (okT w ok) (HT.out.okNew HO.out) HT.out.vo HV1.out).mono ?_; rintro e x2 ⟨v2, rfl, hv2, kx2⟩; obtain ⟨K2, c2, rfl⟩ := hv2.form; have HT := yh (HT.out.keep kx2); have HV2 := yh hv2; clear hv2 kx2; refine hK.out _ _ (⟨HT.out.ba.cell, HT.out.bo.cell⟩) ?_; clear hK K; try simp only [Act.put, List.setIfInBounds_toArray, List.set]
           have hcO := HT.out.bo.cell; have hfO := HT.out.bo.frozen; refine pend_last (by decide +kernel) (by decide +kernel) (by decide +kernel) (fun K hK => ?_); rw [if_pos (by rfl)]; go_simp; refine hK.out _ _ ?_; clear hcO hfO; go_wp2_with fail; go_roundw; case rel =>
            refine ⟨j + 1, o.join a.maybe .cat, K2, c2, rfl, by omega, ?_, HT.out.put HV2.out⟩; rw [← HX.out, show (n - (j : Int)).toNat = (n - ((j + 1 : Nat) : Int)).toNat + 1 by omega, Rl.maybes]
           case measure =>
            simp only [intOf, Int.toNat_natCast]; omega
         · have HRe := yh (show o = R from by rw [← HX.out, show (n - (j : Int)).toNat = 0 by omega, Rl.maybes]); have hcO := HT.out.bo.cell; have hcR := HT.out.br.cell; have hfR := HT.out.br.frozen; go_wp2_with fail; clear hcO hcR hfR; have hr := HRe.out; subst hr; exact bodyPost_ret (results_rule rfl _ _ (w.heap.size + 1) _ _ rfl ((HT.out.br.set 0 _).set 1 _)) rfl (run_ret_ti HT.out HT.out.vo)
end Go.Proofs.YtmfabihndpidnaaGreatDoor
