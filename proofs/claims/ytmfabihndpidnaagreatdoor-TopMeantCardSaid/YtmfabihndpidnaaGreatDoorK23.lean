/-
  The scanner of expressions over bytes: a repeat in braces.
-/
import Derived.Test.YtmfabihndpidnaaGreatDoorK21
import Derived.Test.YtmfabihndpidnaaGreatDoorK22
namespace Go.Proofs.YtmfabihndpidnaaGreatDoor
set_option maxHeartbeats 16000000
open Go.RowKit
set_option maxRecDepth 100000
set_option linter.unusedVariables false
set_option linter.unusedSimpArgs false
theorem rxDigits_ge (l : Bs) : ∀ (k p acc : Nat), p ≤ (rxDigits l k p acc).2
 | 0, p, acc => Nat.le_refl _
 | k + 1, p, acc => by
  rw [rxDigits]; split
  · exact Nat.le_refl _
  · split
    · exact Nat.le_of_succ_le (rxDigits_ge l k (p + 1) _)
    · exact Nat.le_refl _
theorem rxNumber_adv {l : Bs} {p n q : Nat} (h : rxNumber l p = .ok (n, q)) : p < q := by
 unfold rxNumber at h; have := rxDigits_ge l 3 p 0; split at h
 · cases h
 · rename_i hne; have h := Except.ok.inj h; have h2 : (rxDigits l 3 p 0).2 = q := by rw [h]
   omega
theorem rxUpper_adv {l : Bs} {m q : Nat} {n : Int} {r : Nat} (h : rxUpper l m q = .ok (n, r)) : q ≤ r := by
 unfold rxUpper at h; split at h
 · split at h
   · cases h; omega
   · split at h
     · cases h
     · rename_i hx; cases h; have := rxNumber_adv hx; omega
 · cases h; exact Nat.le_refl _
theorem rxBraces_adv {l : Bs} {a : Rl} {p : Nat} {b : Rl} {q : Nat} (h : rxBraces l a p = .ok (b, q)) : p < q := by
 unfold rxBraces at h; split at h
 · cases h
 · rename_i hx; have h1 := rxNumber_adv hx; split at h
   · cases h
   · rename_i hy; have h2 := rxUpper_adv hy; split at h
     · split at h
       · cases h
       · cases h; omega
     · cases h
def BrOut (g : Nat) (s : ByteArray) (v : Value) (w : World) (ok : Nat → Prop) (r : Except Nat (Rl × Nat)) (e : Ending) (w' : World) : Prop :=
 match r with
 | .ok (r, q) => ∃ x, e = .returned x ∧ RuleV w' ok r x ∧ Blk w' g [.string s, .int .i64 (q : Int), v] 136 ∧ q ≤ s.size ∧ Keep (some g) w w'
 | .error c => ∃ pl : Int, e = .panicked (flt c pl) ∧ Keep (some g) w w'
def okB (w : World) (ok : Nat → Prop) : Nat → Prop := fun i => ok i ∧ i ≠ w.heap.size + 1
structure BI (w wr : World) (ok : Nat → Prop) (a : Rl) (Ka : Nat) (ca : Array Value) (g : Nat) (s : ByteArray) (r : Nat) (v : Value) : Prop where
 ba : Blk wr w.heap.size [.int .i64 (a.size : Int), .func (.func Ka) #[] ca] 139
 br : Blk wr (w.heap.size + 1) [.int .i64 0, .nilFunc] 139
 bg : Blk wr g [.string s, .int .i64 (r : Int), v] 136
 va : RuleV wr (okB w ok) a (.agg #[.int .i64 (a.size : Int), .func (.func Ka) #[] ca])
 k : Keep (some g) w wr
 gl : g < w.heap.size
theorem Blk.isVol {w : World} {g : Nat} {cs : List Value} {t : TypeId} (h : Blk w g cs t) (ht : t = 136 ∨ t = 3) : Vol w g := ⟨_, t, _, h, ht⟩
theorem BI.drewN {w wr : World} {ok : Nat → Prop} {a : Rl} {Ka : Nat} {ca : Array Value} {g : Nat} {s : ByteArray} {r : Nat} {v : Value} (h : BI w wr ok a Ka ca g s r v) (n : Nat) : BI w (wr.drewN n) ok a Ka ca g s r v :=
 ⟨h.ba, h.br, h.bg, h.va.drewN n, h.k.drewN n, h.gl⟩
theorem BI.keepG {w wr x : World} {ok : Nat → Prop} {a : Rl} {Ka : Nat} {ca : Array Value} {g : Nat} {s : ByteArray} {r r' : Nat} {v : Value} (h : BI w wr ok a Ka ca g s r v) (k : Keep (some g) wr x) (hg : Blk x g [.string s, .int .i64 (r' : Int), v] 136) : BI w x ok a Ka ca g s r' v :=
 ⟨h.ba.keep k (by have := h.gl; simp; omega), h.br.keep k (by have := h.gl; simp; omega), hg, h.va.far k.size (Same.keepG k fun _ => h.bg.isVol (.inl rfl)), h.k.trans k, h.gl⟩
theorem BI.keep {w wr x : World} {ok : Nat → Prop} {a : Rl} {Ka : Nat} {ca : Array Value} {g : Nat} {s : ByteArray} {r : Nat} {v : Value} (h : BI w wr ok a Ka ca g s r v) (k : Keep none wr x) : BI w x ok a Ka ca g s r v :=
 h.keepG k.of_none (h.bg.keep k (by simp))
theorem BI.step {w wr : World} {ok : Nat → Prop} {a : Rl} {Ka : Nat} {ca : Array Value} {g : Nat} {s : ByteArray} {r : Nat} {v : Value} (h : BI w wr ok a Ka ca g s r v) : BI w (wr.setCell ⟨g, 1, none⟩ (.int .i64 ((r : Int) + 1))) ok a Ka ca g s (r + 1) v :=
 h.keepG ((Keep.refl _ _).set _ _ (.inl rfl)) h.bg.step3
theorem BI.okNew {w wr : World} {ok : Nat → Prop} {a : Rl} {Ka : Nat} {ca : Array Value} {g : Nat} {s : ByteArray} {r : Nat} {v : Value} (h : BI w wr ok a Ka ca g s r v) (hok : ∀ i, w.heap.size ≤ i → ok i) : ∀ i, wr.heap.size ≤ i → okB w ok i := fun i hi => by
 have h1 := h.br.lt; exact ⟨hok i (by omega), by omega⟩
theorem BI.ret {w wr : World} {ok : Nat → Prop} {a b : Rl} {Ka Kr : Nat} {ca cr : Array Value} {g : Nat} {s : ByteArray} {r : Nat} {v : Value} (h : BI w wr ok a Ka ca g s r v) (hr : r ≤ s.size)
 (hb : RuleV wr (okB w ok) b (.agg #[.int .i64 (b.size : Int), .func (.func Kr) #[] cr])) :
 BrOut g s v w ok (.ok (b, r)) (.returned (.agg #[.int .i64 (b.size : Int), .func (.func Kr) #[] cr])) ((wr.setCell ⟨w.heap.size + 1, 0, none⟩ (.int .i64 (b.size : Int))).setCell ⟨w.heap.size + 1, 1, none⟩ (.func (.func Kr) #[] cr)) :=
 ⟨_, rfl, ((hb.set _ _ (by simp [okB])).set _ _ (by simp [okB])).mono fun i _ h => h.1, (h.bg.far _ _ (by have := h.gl; simp; omega)).far _ _ (by have := h.gl; simp; omega), hr,
  (h.k.set _ _ (.inr (by simp))).set _ _ (.inr (by simp))⟩
theorem BI.start {w w1 : World} {ok : Nat → Prop} {a : Rl} {Ka : Nat} {ca : Array Value} {g : Nat} {s : ByteArray} {r : Nat} {v : Value} (hw : Keep (some g) w w1) (hz : w1.heap.size = w.heap.size) (hv : Vol w g) (hg : Blk w1 g [.string s, .int .i64 (r : Int), v] 136)
 (ha : RuleV w ok a (.agg #[.int .i64 (a.size : Int), .func (.func Ka) #[] ca])) :
 BI w ((w1.alloc (.cells #[.int .i64 (a.size : Int), .func (.func Ka) #[] ca] 139)).alloc (.cells #[.int .i64 0, .nilFunc] 139)) ok a Ka ca g s r v := by
 have k0 : Keep none w1 ((w1.alloc (.cells #[.int .i64 (a.size : Int), .func (.func Ka) #[] ca] 139)).alloc (.cells #[.int .i64 0, .nilFunc] 139)) := ((Keep.refl _ _).alloc _).alloc _; have hgl : g < w.heap.size := by have := hg.lt; omega
 have hb := Blk.new w1 [.int .i64 (a.size : Int), .func (.func Ka) #[] ca] 139; rw [hz] at hb; refine ⟨hb.alloc _, ?_, (hg.alloc _).alloc _, ?_, hw.trans k0.of_none, hgl⟩
 · have := Blk.new (w1.alloc (.cells #[.int .i64 (a.size : Int), .func (.func Ka) #[] ca] 139)) [.int .i64 0, .nilFunc] 139; rw [show (w1.alloc (.cells #[.int .i64 (a.size : Int), .func (.func Ka) #[] ca] 139)).heap.size = w.heap.size + 1 by simp [hz]] at this; exact this
 · exact ((ha.mono fun i hi ho => ⟨ho, by omega⟩).far hw.size (Same.keepG hw fun _ => hv)).keep k0
theorem rx_braces (a : Rl) (va : Value) (g : Nat) (s : ByteArray) (p : Nat) (ao : Option Addr) (on oc : Nat) (hs : s.size ≤ 2000000) (hp : p < s.size) (w : World) (ok : Nat → Prop) (hok : ∀ i, w.heap.size ≤ i → ok i) (ha : RuleV w ok a va)
 (h : Blk w g [.string s, .int .i64 (p : Int), .slice ao on oc] 136) (R : Except Nat (Rl × Nat)) (hR : rxBraces s.data.toList a p = R) :
 Calls Tryz.prog 124 #[.pointer (some ⟨g, 0, none⟩), va] w (BrOut g s (.slice ao on oc) w ok R) := by
 have hmf : ∀ (fn : Fn) (first cap : Array Value) (w : World), (Instr.makeFunc fn first cap).run Tryz.prog w = .ok (.func fn first cap) w := fun _ _ _ _ => rfl
 obtain ⟨Ka, ca, rfl⟩ := ha.form; have HT := yh (BI.start ((Keep.refl _ _).set ⟨g, 1, none⟩ (.int .i64 ((p : Int) + 1)) (.inl rfl)) (by simp [World.setCell]) (h.isVol (.inl rfl)) h.step3 ha); have HO := yh hok; have HR := yh hR; have hc := h.cell; have hf := h.frozen; have hgl := h.lt; have hg0 : g ≠ w.heap.size := by omega
 have hg1 : g ≠ w.heap.size + 1 := by omega
 have hg2 : g < w.heap.size + 1 := by omega
 have hwp : IntKind.i64.wrap ((p : Int) + 1) = (p : Int) + 1 := IntWalk.i64_in _ (by omega); clear ha h hok hR; go_enter Tryz.func124, Tryz.ntmps124; go_wp2_with fail; clear hc hf hg0 hg1 hg2 hgl; generalize World.alloc (World.alloc (World.setCell w _ _) _) _ = W at HT ⊢; cases hm : rxNumber s.data.toList (p + 1) with
 | error c =>
  refine (rx_number g s (p + 1) ao on oc hs (by omega) _ HT.out.bg _ hm).mono ?_; rintro e x9 ⟨pl, rfl, hk9⟩; have hRe : R = .error c := by have h0 := HR.out; rw [rxBraces, hm] at h0; exact h0.symm
  subst hRe; exact ⟨rfl, _, rfl, HT.out.k.trans hk9⟩
 | ok y =>
  obtain ⟨m, mq⟩ := y; have ma := rxNumber_adv hm; refine (rx_number g s (p + 1) ao on oc hs (by omega) _ HT.out.bg _ hm).mono ?_; rintro e x1 ⟨rfl, hb9, ms, ml, hk9⟩; have HT := yh (HT.out.keepG hk9 hb9); clear hk9 hb9; have HR2 := yh (show (match rxUpper s.data.toList m mq with
   | .error e => .error e
   | .ok (n, r) => if s.data.toList[r]? = some 125 then (if 255 < m ∨ 255 < n ∨ (0 ≤ n ∧ n < (m : Int)) then .error 22 else .ok (a.times m n, r + 1)) else .error 20) = R from by have h0 := HR.out; rw [rxBraces, hm] at h0; exact h0)
  clear hm; go_wp2_with fail; by_cases hql : mq < s.size
  · have hlt3 := s[mq].toNat_lt; have HGQ := yh (get_byte s mq hql); refine (rx_ended_no g s mq _ hs hql _ HT.out.bg).mono ?_; rintro e z1 ⟨rfl, z1n, rfl⟩; have HT := yh (HT.out.drewN z1n); generalize World.drewN x1 z1n = Z1 at HT ⊢; go_wp2_with fail; refine (rx_next g s mq _ hs hql _ HT.out.bg).mono ?_; rintro e z2 ⟨rfl, z2n, rfl⟩; have HT := yh (HT.out.drewN z2n); generalize World.drewN Z1 z2n = Z2 at HT ⊢; by_cases h44 : (s[mq] == 44) = true
    · have f1 : ((s[mq].toNat : Int) == 44) = true := byte_eq _ 44 true (by omega) h44; have HC := yh (show s.data.toList[mq]? = some 44 from by rw [HGQ.out]; simpa using h44); clear h44; have hwq : IntKind.i64.wrap ((mq : Int) + 1) = (mq : Int) + 1 := IntWalk.i64_in _ (by omega); have hcg := HT.out.bg.cell; have hfg := HT.out.bg.frozen; have hcA := HT.out.ba.cell; have hgA : g ≠ w.heap.size := by have := HT.out.gl; omega
      go_wp2_with fail; clear hcg hfg hcA hgA; have HT := yh HT.out.step; generalize World.setCell Z2 ⟨g, 1, none⟩ (.int .i64 ((mq : Int) + 1)) = Z3 at HT ⊢; obtain ⟨mr, hmr⟩ : ∃ mr, mq + 1 = mr := ⟨_, rfl⟩; rw [hmr] at HT; have hmr2 : mq < mr := by omega
      have hmr3 : mr ≤ s.size := by omega
      have HMR := yh hmr; clear hmr; by_cases hql2 : mr < s.size
      · have hlt4 := s[mr].toNat_lt; have HGQ2 := yh (get_byte s (mr) hql2); refine (rx_ended_no g s (mr) _ hs hql2 _ HT.out.bg).mono ?_; rintro e z4 ⟨rfl, z4n, rfl⟩; have HT := yh (HT.out.drewN z4n); generalize World.drewN Z3 z4n = Z4 at HT ⊢; go_wp2_with fail; refine (rx_next g s (mr) _ hs hql2 _ HT.out.bg).mono ?_; rintro e z5 ⟨rfl, z5n, rfl⟩; have HT := yh (HT.out.drewN z5n); generalize World.drewN Z4 z5n = Z5 at HT ⊢; by_cases h125 : (s[mr] == 125) = true
        · have f2 : ((s[mr].toNat : Int) == 125) = true := byte_eq _ 125 true (by omega) h125; have f3 : ((s[mr].toNat : Int) != 125) = false := by rw [bne, f2]; rfl
          have HR3 := yh (show (if s.data.toList[mr]? = some 125 then (if 255 < m ∨ 255 < (-1 : Int) ∨ (0 ≤ (-1 : Int) ∧ (-1 : Int) < (m : Int)) then .error 22 else .ok (a.times m (-1 : Int), mr + 1)) else .error 20) = R from by
           have h0 := HR2.out; rw [rxUpper, if_pos HC.out, HMR.out, if_pos (by rw [HGQ2.out]; simpa using h125)] at h0; exact h0)
          have HY125 := yh (show s[mr] = 125 from by simpa using h125); clear h125; go_wp2_with fail; by_cases hrl : mr < s.size
          · have hlt2 := s[mr].toNat_lt; have HGB := yh (get_byte s (mr) hrl); by_cases h125 : (s[mr] == 125) = true
            · have e1 : ((s[mr].toNat : Int) == 125) = true := byte_eq _ 125 true (by omega) h125; have e2 : ((s[mr].toNat : Int) != 125) = false := by rw [bne, e1]; rfl
              have HR3 := yh (show (if 255 < m ∨ 255 < (-1 : Int) ∨ (0 ≤ (-1 : Int) ∧ (-1 : Int) < (m : Int)) then .error 22 else .ok (a.times m (-1 : Int), mr + 1)) = R from by have h0 := HR3.out; rw [if_pos (by rw [HGB.out]; simpa using h125)] at h0; exact h0); clear h125; have hwr : IntKind.i64.wrap (((mr : Nat) : Int) + 1) = ((mr : Nat) : Int) + 1 := IntWalk.i64_in _ (by omega); refine (rx_ended_no g s (mr) _ hs hrl _ HT.out.bg).mono ?_; rintro e y1 ⟨rfl, y1n, rfl⟩; have HT := yh (HT.out.drewN y1n); generalize World.drewN Z5 y1n = Y1 at HT ⊢; go_wp2_with fail; refine (rx_next g s (mr) _ hs hrl _ HT.out.bg).mono ?_
              rintro e y2 ⟨rfl, y2n, rfl⟩; have HT := yh (HT.out.drewN y2n); generalize World.drewN Y1 y2n = Y2 at HT ⊢; by_cases k1 : 255 < m
              · have HR3 := yh (show .error 22 = R from by have h0 := HR3.out; rw [if_pos (by omega)] at h0; exact h0); have hcg := HT.out.bg.cell; have hfg := HT.out.bg.frozen; have hcA := HT.out.ba.cell; have hgA : g ≠ w.heap.size := by have := HT.out.gl; omega
                have p0 : ((255 : Int) < (m : Int)) := by omega
                go_wp2_with fail; clear hcg hfg hcA hgA; have HT := yh HT.out.step; refine (rx_fail g _ _ _).mono ?_; rintro e w9 ⟨rfl, rfl⟩; have hr := HR3.out; subst hr; exact ⟨rfl, _, rfl, HT.out.k⟩
              by_cases k2 : 255 < (-1 : Int)
              · exact absurd k2 (by omega)
              by_cases k3 : 0 ≤ (-1 : Int)
              · by_cases k4 : (-1 : Int) < (m : Int)
                · exact absurd k3 (by omega)
                · exact absurd k3 (by omega)
              have HR3 := yh (show .ok (a.times m (-1 : Int), mr + 1) = R from by have h0 := HR3.out; rw [if_neg (by omega)] at h0; exact h0); have hcg := HT.out.bg.cell; have hfg := HT.out.bg.frozen; have hcA := HT.out.ba.cell; have hgA : g ≠ w.heap.size := by have := HT.out.gl; omega
              have q0 : ¬ ((255 : Int) < (m : Int)) := by omega
              have q1 : ¬ ((255 : Int) < (-1 : Int)) := by omega
              have q2 : ¬ ((0 : Int) ≤ (-1 : Int)) := by omega
              go_wp2_with fail; clear hcg hfg hcA hgA; have HT := yh HT.out.step; refine (times_any a _ m (-1 : Int) (by omega) (by omega) (by omega) _ (okB w ok) (HT.out.okNew HO.out) HT.out.va).mono ?_; rintro e z1 ⟨v2, rfl, hv2, kx2⟩; obtain ⟨K2, c2, rfl⟩ := hv2.form; have HT := yh (HT.out.keep kx2); have HV2 := yh hv2; clear hv2 kx2; have hcR := HT.out.br.cell; have hfR := HT.out.br.frozen; go_wp2_with fail; clear hcR hfR; have hr := HR3.out; subst hr; exact bodyPost_ret (results_rule rfl _ _ (w.heap.size + 1) _ _ rfl ((HT.out.br.set 0 _).set 1 _)) rfl (HT.out.ret (by omega) HV2.out)
            · exact absurd (show (s[mr] == 125) = true from by have := HY125.out; simpa using this) h125
          · exact absurd hql2 hrl
        · have h125' : (s[mr] == 125) = false := by simpa using h125
          have f2 : ((s[mr].toNat : Int) == 125) = false := byte_eq _ 125 false (by omega) h125'; have f3 : ((s[mr].toNat : Int) != 125) = true := by rw [bne, f2]; rfl
          have HN125 := yh (show ¬ s.data.toList[mr]? = some 125 from by rw [HGQ2.out]; simpa using h125); clear h125; go_wp2_with fail; cases hk : rxNumber s.data.toList (mr) with
          | error c =>
           refine (rx_number g s (mr) ao on oc hs (by omega) _ HT.out.bg _ hk).mono ?_; rintro e x9 ⟨pl, rfl, hk9⟩; have hRe : R = .error c := by have h0 := HR2.out; rw [rxUpper, if_pos HC.out, HMR.out, if_neg HN125.out, hk] at h0; exact h0.symm
           subst hRe; exact ⟨rfl, _, rfl, HT.out.k.trans hk9⟩
          | ok y =>
           obtain ⟨k, kq⟩ := y; have ka := rxNumber_adv hk; refine (rx_number g s (mr) ao on oc hs (by omega) _ HT.out.bg _ hk).mono ?_; rintro e Z6 ⟨rfl, hb9, ks, kl, hk9⟩; have HT := yh (HT.out.keepG hk9 hb9); clear hk9 hb9; have HR3 := yh (show (if s.data.toList[kq]? = some 125 then (if 255 < m ∨ 255 < (k : Int) ∨ (0 ≤ (k : Int) ∧ (k : Int) < (m : Int)) then .error 22 else .ok (a.times m (k : Int), kq + 1)) else .error 20) = R from by
            have h0 := HR2.out; rw [rxUpper, if_pos HC.out, HMR.out, if_neg HN125.out, hk] at h0; exact h0)
           clear hk; go_wp2_with fail; by_cases hrl : kq < s.size
           · have hlt2 := s[kq].toNat_lt; have HGB := yh (get_byte s (kq) hrl); by_cases h125 : (s[kq] == 125) = true
             · have e1 : ((s[kq].toNat : Int) == 125) = true := byte_eq _ 125 true (by omega) h125; have e2 : ((s[kq].toNat : Int) != 125) = false := by rw [bne, e1]; rfl
               have HR3 := yh (show (if 255 < m ∨ 255 < (k : Int) ∨ (0 ≤ (k : Int) ∧ (k : Int) < (m : Int)) then .error 22 else .ok (a.times m (k : Int), kq + 1)) = R from by have h0 := HR3.out; rw [if_pos (by rw [HGB.out]; simpa using h125)] at h0; exact h0); clear h125; have hwr : IntKind.i64.wrap (((kq : Nat) : Int) + 1) = ((kq : Nat) : Int) + 1 := IntWalk.i64_in _ (by omega); refine (rx_ended_no g s (kq) _ hs hrl _ HT.out.bg).mono ?_; rintro e y1 ⟨rfl, y1n, rfl⟩; have HT := yh (HT.out.drewN y1n); generalize World.drewN Z6 y1n = Y1 at HT ⊢; go_wp2_with fail; refine (rx_next g s (kq) _ hs hrl _ HT.out.bg).mono ?_
               rintro e y2 ⟨rfl, y2n, rfl⟩; have HT := yh (HT.out.drewN y2n); generalize World.drewN Y1 y2n = Y2 at HT ⊢; by_cases k1 : 255 < m
               · have HR3 := yh (show .error 22 = R from by have h0 := HR3.out; rw [if_pos (by omega)] at h0; exact h0); have hcg := HT.out.bg.cell; have hfg := HT.out.bg.frozen; have hcA := HT.out.ba.cell; have hgA : g ≠ w.heap.size := by have := HT.out.gl; omega
                 have p0 : ((255 : Int) < (m : Int)) := by omega
                 go_wp2_with fail; clear hcg hfg hcA hgA; have HT := yh HT.out.step; refine (rx_fail g _ _ _).mono ?_; rintro e w9 ⟨rfl, rfl⟩; have hr := HR3.out; subst hr; exact ⟨rfl, _, rfl, HT.out.k⟩
               by_cases k2 : 255 < (k : Int)
               · have HR3 := yh (show .error 22 = R from by have h0 := HR3.out; rw [if_pos (by omega)] at h0; exact h0); have hcg := HT.out.bg.cell; have hfg := HT.out.bg.frozen; have hcA := HT.out.ba.cell; have hgA : g ≠ w.heap.size := by have := HT.out.gl; omega
                 have p0 : ((255 : Int) < (k : Int)) := by omega
                 have q0 : ¬ ((255 : Int) < (m : Int)) := by omega
                 go_wp2_with fail; clear hcg hfg hcA hgA; have HT := yh HT.out.step; refine (rx_fail g _ _ _).mono ?_; rintro e w9 ⟨rfl, rfl⟩; have hr := HR3.out; subst hr; exact ⟨rfl, _, rfl, HT.out.k⟩
               by_cases k3 : 0 ≤ (k : Int)
               · by_cases k4 : (k : Int) < (m : Int)
                 · have HR3 := yh (show .error 22 = R from by have h0 := HR3.out; rw [if_pos (by omega)] at h0; exact h0); have hcg := HT.out.bg.cell; have hfg := HT.out.bg.frozen; have hcA := HT.out.ba.cell; have hgA : g ≠ w.heap.size := by have := HT.out.gl; omega
                   have p0 : ((0 : Int) ≤ (k : Int)) := by omega
                   have p1 : ((k : Int) < (m : Int)) := by omega
                   have q0 : ¬ ((255 : Int) < (m : Int)) := by omega
                   have q1 : ¬ ((255 : Int) < (k : Int)) := by omega
                   go_wp2_with fail; clear hcg hfg hcA hgA; have HT := yh HT.out.step; refine (rx_fail g _ _ _).mono ?_; rintro e w9 ⟨rfl, rfl⟩; have hr := HR3.out; subst hr; exact ⟨rfl, _, rfl, HT.out.k⟩
                 · have HR3 := yh (show .ok (a.times m (k : Int), kq + 1) = R from by have h0 := HR3.out; rw [if_neg (by omega)] at h0; exact h0); have hcg := HT.out.bg.cell; have hfg := HT.out.bg.frozen; have hcA := HT.out.ba.cell; have hgA : g ≠ w.heap.size := by have := HT.out.gl; omega
                   have p0 : ((0 : Int) ≤ (k : Int)) := by omega
                   have q0 : ¬ ((255 : Int) < (m : Int)) := by omega
                   have q1 : ¬ ((255 : Int) < (k : Int)) := by omega
                   have q2 : ¬ ((k : Int) < (m : Int)) := by omega
                   go_wp2_with fail; clear hcg hfg hcA hgA; have HT := yh HT.out.step; refine (times_any a _ m (k : Int) (by omega) (by omega) (by omega) _ (okB w ok) (HT.out.okNew HO.out) HT.out.va).mono ?_; rintro e z1 ⟨v2, rfl, hv2, kx2⟩; obtain ⟨K2, c2, rfl⟩ := hv2.form; have HT := yh (HT.out.keep kx2); have HV2 := yh hv2; clear hv2 kx2; have hcR := HT.out.br.cell; have hfR := HT.out.br.frozen; go_wp2_with fail; clear hcR hfR; have hr := HR3.out; subst hr; exact bodyPost_ret (results_rule rfl _ _ (w.heap.size + 1) _ _ rfl ((HT.out.br.set 0 _).set 1 _)) rfl (HT.out.ret (by omega) HV2.out)
               exact absurd k3 (by omega)
             · have h125' : (s[kq] == 125) = false := by simpa using h125
               have e1 : ((s[kq].toNat : Int) == 125) = false := byte_eq _ 125 false (by omega) h125'; have e2 : ((s[kq].toNat : Int) != 125) = true := by rw [bne, e1]; rfl
               have HR3 := yh (show .error 20 = R from by have h0 := HR3.out; rw [if_neg (by rw [HGB.out]; simpa using h125)] at h0; exact h0); clear h125; refine (rx_ended_no g s (kq) _ hs hrl _ HT.out.bg).mono ?_; rintro e y1 ⟨rfl, y1n, rfl⟩; have HT := yh (HT.out.drewN y1n); generalize World.drewN Z6 y1n = Y1 at HT ⊢; go_wp2_with fail; refine (rx_next g s (kq) _ hs hrl _ HT.out.bg).mono ?_; rintro e y2 ⟨rfl, y2n, rfl⟩; have HT := yh (HT.out.drewN y2n); generalize World.drewN Y1 y2n = Y2 at HT ⊢; have hcg := HT.out.bg.cell; have hfg := HT.out.bg.frozen; have hcA := HT.out.ba.cell
               have hgA : g ≠ w.heap.size := by have := HT.out.gl; omega
               go_wp2_with fail; clear hcg hfg hcA hgA; refine (rx_fail g _ _ _).mono ?_; rintro e w9 ⟨rfl, rfl⟩; have hr := HR3.out; subst hr; exact ⟨rfl, _, rfl, HT.out.k⟩
           · have HR3 := yh (show .error 20 = R from by have h0 := HR3.out; rw [if_neg (by rw [get_none s (kq) (by omega)]; simp)] at h0; exact h0); refine (rx_ended_yes g s (kq) _ hs (by omega) _ HT.out.bg).mono ?_; rintro e y1 ⟨rfl, y1n, rfl⟩; have HT := yh (HT.out.drewN y1n); generalize World.drewN Z6 y1n = Y1 at HT ⊢; have hcg := HT.out.bg.cell; have hfg := HT.out.bg.frozen; have hcA := HT.out.ba.cell; have hgA : g ≠ w.heap.size := by have := HT.out.gl; omega
             go_wp2_with fail; clear hcg hfg hcA hgA; refine (rx_fail g _ _ _).mono ?_; rintro e w9 ⟨rfl, rfl⟩; have hr := HR3.out; subst hr; exact ⟨rfl, _, rfl, HT.out.k⟩
      · have HN125 := yh (show ¬ s.data.toList[mr]? = some 125 from by rw [get_none s (mr) (by omega)]; simp); refine (rx_ended_yes g s (mr) _ hs (by omega) _ HT.out.bg).mono ?_; rintro e z4 ⟨rfl, z4n, rfl⟩; have HT := yh (HT.out.drewN z4n); generalize World.drewN Z3 z4n = Z5 at HT ⊢; go_wp2_with fail; cases hk : rxNumber s.data.toList (mr) with
        | error c =>
         refine (rx_number g s (mr) ao on oc hs (by omega) _ HT.out.bg _ hk).mono ?_; rintro e x9 ⟨pl, rfl, hk9⟩; have hRe : R = .error c := by have h0 := HR2.out; rw [rxUpper, if_pos HC.out, HMR.out, if_neg HN125.out, hk] at h0; exact h0.symm
         subst hRe; exact ⟨rfl, _, rfl, HT.out.k.trans hk9⟩
        | ok y =>
         obtain ⟨k, kq⟩ := y; have ka := rxNumber_adv hk; refine (rx_number g s (mr) ao on oc hs (by omega) _ HT.out.bg _ hk).mono ?_; rintro e Z6 ⟨rfl, hb9, ks, kl, hk9⟩; have HT := yh (HT.out.keepG hk9 hb9); clear hk9 hb9; exact absurd ka (by omega)
    · have h44' : (s[mq] == 44) = false := by simpa using h44
      have f1 : ((s[mq].toNat : Int) == 44) = false := byte_eq _ 44 false (by omega) h44'; have HC := yh (show ¬ s.data.toList[mq]? = some 44 from by rw [HGQ.out]; simpa using h44); clear h44; have HR3 := yh (show (if s.data.toList[mq]? = some 125 then (if 255 < m ∨ 255 < (m : Int) ∨ (0 ≤ (m : Int) ∧ (m : Int) < (m : Int)) then .error 22 else .ok (a.times m (m : Int), mq + 1)) else .error 20) = R from by
       have h0 := HR2.out; rw [rxUpper, if_neg HC.out] at h0; exact h0)
      go_wp2_with fail; by_cases hrl : mq < s.size
      · have hlt2 := s[mq].toNat_lt; have HGB := yh (get_byte s (mq) hrl); by_cases h125 : (s[mq] == 125) = true
        · have e1 : ((s[mq].toNat : Int) == 125) = true := byte_eq _ 125 true (by omega) h125; have e2 : ((s[mq].toNat : Int) != 125) = false := by rw [bne, e1]; rfl
          have HR3 := yh (show (if 255 < m ∨ 255 < (m : Int) ∨ (0 ≤ (m : Int) ∧ (m : Int) < (m : Int)) then .error 22 else .ok (a.times m (m : Int), mq + 1)) = R from by have h0 := HR3.out; rw [if_pos (by rw [HGB.out]; simpa using h125)] at h0; exact h0); clear h125; have hwr : IntKind.i64.wrap (((mq : Nat) : Int) + 1) = ((mq : Nat) : Int) + 1 := IntWalk.i64_in _ (by omega); refine (rx_ended_no g s (mq) _ hs hrl _ HT.out.bg).mono ?_; rintro e y1 ⟨rfl, y1n, rfl⟩; have HT := yh (HT.out.drewN y1n); generalize World.drewN Z2 y1n = Y1 at HT ⊢; go_wp2_with fail; refine (rx_next g s (mq) _ hs hrl _ HT.out.bg).mono ?_
          rintro e y2 ⟨rfl, y2n, rfl⟩; have HT := yh (HT.out.drewN y2n); generalize World.drewN Y1 y2n = Y2 at HT ⊢; by_cases k1 : 255 < m
          · have HR3 := yh (show .error 22 = R from by have h0 := HR3.out; rw [if_pos (by omega)] at h0; exact h0); have hcg := HT.out.bg.cell; have hfg := HT.out.bg.frozen; have hcA := HT.out.ba.cell; have hgA : g ≠ w.heap.size := by have := HT.out.gl; omega
            have p0 : ((255 : Int) < (m : Int)) := by omega
            go_wp2_with fail; clear hcg hfg hcA hgA; have HT := yh HT.out.step; refine (rx_fail g _ _ _).mono ?_; rintro e w9 ⟨rfl, rfl⟩; have hr := HR3.out; subst hr; exact ⟨rfl, _, rfl, HT.out.k⟩
          by_cases k2 : 255 < (m : Int)
          · exact absurd k2 (by omega)
          by_cases k3 : 0 ≤ (m : Int)
          · by_cases k4 : (m : Int) < (m : Int)
            · exact absurd k4 (by omega)
            · have HR3 := yh (show .ok (a.times m (m : Int), mq + 1) = R from by have h0 := HR3.out; rw [if_neg (by omega)] at h0; exact h0); have hcg := HT.out.bg.cell; have hfg := HT.out.bg.frozen; have hcA := HT.out.ba.cell; have hgA : g ≠ w.heap.size := by have := HT.out.gl; omega
              have p0 : ((0 : Int) ≤ (m : Int)) := by omega
              have q0 : ¬ ((255 : Int) < (m : Int)) := by omega
              have q1 : ¬ ((255 : Int) < (m : Int)) := by omega
              have q2 : ¬ ((m : Int) < (m : Int)) := by omega
              go_wp2_with fail; clear hcg hfg hcA hgA; have HT := yh HT.out.step; refine (times_any a _ m (m : Int) (by omega) (by omega) (by omega) _ (okB w ok) (HT.out.okNew HO.out) HT.out.va).mono ?_; rintro e z1 ⟨v2, rfl, hv2, kx2⟩; obtain ⟨K2, c2, rfl⟩ := hv2.form; have HT := yh (HT.out.keep kx2); have HV2 := yh hv2; clear hv2 kx2; have hcR := HT.out.br.cell; have hfR := HT.out.br.frozen; go_wp2_with fail; clear hcR hfR; have hr := HR3.out; subst hr; exact bodyPost_ret (results_rule rfl _ _ (w.heap.size + 1) _ _ rfl ((HT.out.br.set 0 _).set 1 _)) rfl (HT.out.ret (by omega) HV2.out)
          exact absurd k3 (by omega)
        · have h125' : (s[mq] == 125) = false := by simpa using h125
          have e1 : ((s[mq].toNat : Int) == 125) = false := byte_eq _ 125 false (by omega) h125'; have e2 : ((s[mq].toNat : Int) != 125) = true := by rw [bne, e1]; rfl
          have HR3 := yh (show .error 20 = R from by have h0 := HR3.out; rw [if_neg (by rw [HGB.out]; simpa using h125)] at h0; exact h0); clear h125; refine (rx_ended_no g s (mq) _ hs hrl _ HT.out.bg).mono ?_; rintro e y1 ⟨rfl, y1n, rfl⟩; have HT := yh (HT.out.drewN y1n); generalize World.drewN Z2 y1n = Y1 at HT ⊢; go_wp2_with fail; refine (rx_next g s (mq) _ hs hrl _ HT.out.bg).mono ?_; rintro e y2 ⟨rfl, y2n, rfl⟩; have HT := yh (HT.out.drewN y2n); generalize World.drewN Y1 y2n = Y2 at HT ⊢; have hcg := HT.out.bg.cell; have hfg := HT.out.bg.frozen; have hcA := HT.out.ba.cell; have hgA : g ≠ w.heap.size := by have := HT.out.gl; omega
          go_wp2_with fail; clear hcg hfg hcA hgA; refine (rx_fail g _ _ _).mono ?_; rintro e w9 ⟨rfl, rfl⟩; have hr := HR3.out; subst hr; exact ⟨rfl, _, rfl, HT.out.k⟩
      · exact absurd hql hrl
  · have HC := yh (show ¬ s.data.toList[mq]? = some 44 from by rw [get_none s mq (by omega)]; simp); have HR3 := yh (show .error 20 = R from by
     have h0 := HR2.out; rw [rxUpper, if_neg HC.out] at h0; dsimp only at h0; rw [if_neg (by rw [get_none s mq (by omega)]; simp)] at h0; exact h0)
    refine (rx_ended_yes g s mq _ hs (by omega) _ HT.out.bg).mono ?_; rintro e z1 ⟨rfl, z1n, rfl⟩; have HT := yh (HT.out.drewN z1n); generalize World.drewN x1 z1n = Z1 at HT ⊢; go_wp2_with fail; refine (rx_ended_yes g s mq _ hs (by omega) _ HT.out.bg).mono ?_; rintro e y1 ⟨rfl, y1n, rfl⟩; have HT := yh (HT.out.drewN y1n); generalize World.drewN Z1 y1n = Y1 at HT ⊢; have hcg := HT.out.bg.cell; have hfg := HT.out.bg.frozen; have hcA := HT.out.ba.cell; have hgA : g ≠ w.heap.size := by have := HT.out.gl; omega
    go_wp2_with fail; clear hcg hfg hcA hgA; refine (rx_fail g _ _ _).mono ?_; rintro e w9 ⟨rfl, rfl⟩; have hr := HR3.out; subst hr; exact ⟨rfl, _, rfl, HT.out.k⟩
end Go.Proofs.YtmfabihndpidnaaGreatDoor
