/-
  The scanner of expressions over bytes: an atom in parentheses.
-/
import Derived.Test.YtmfabihndpidnaaGreatDoorK27
import Derived.Deep.AppendLies
namespace Go.Proofs.YtmfabihndpidnaaGreatDoor
set_option maxHeartbeats 16000000
open Go.RowKit
set_option maxRecDepth 100000
set_option linter.unusedVariables false
set_option linter.unusedSimpArgs false
theorem info3 : (Tryz.prog.info? 3).map (fun i => (i.zero, i.size, i.bytes)) = some (some (.int .i64 0), 1, 8) := by kernel_rfl
theorem RK.grown {base : Nat} {u v w : World} {x : Value} {n : Nat} {xs : List Value} (h : RK base u v) (ho : v.ownsRow base 3 1 x n xs) (hg : v.grownBy w x.ownBlock) : RK base u w :=
 h.trans ⟨hg.os, hg.tape, hg.output, hg.size, fun k hk ha => hg.block k hk (by
  intro e; rcases ho.2 with ⟨hv, _⟩ | ⟨g', cap', cur, hv, hb, hh, _⟩
  · subst hv; cases e
  · subst hv; simp only [Value.ownBlock, Option.some.injEq] at e; subst e; rcases ha with ha | ha
    · omega
    · exact ha ⟨_, _, _, hh, .inr rfl⟩)⟩
theorem own_form {w : World} {base n oc : Nat} {ao : Option Addr} {xs : List Value} (h : w.ownsRow base 3 1 (.slice ao (n + 1) oc) (n + 1) xs) : ∃ rb, ao = some ⟨rb, 0, none⟩ ∧ n + 1 ≤ oc ∧ oc ≤ maxLen := by
 rcases h.2 with ⟨_, h0⟩ | ⟨g', cap', cur, hv, hb, hg, h1, h2, h3, h4⟩
 · omega
 · cases hv; exact ⟨g', rfl, h1, h2⟩
theorem rx_atom_par (s : ByteArray) (hs : s.size ≤ 2000000) (m : Nat) (ih : ∀ k, k < m → RxAt s k) (n p base g : Nat) (w : World) (R : Except Nat (Rl × Nat)) (hp : p < s.size) (hm : 6 * (s.size - p) + 2 ≤ m) (hn : n ≤ 1000) (h : ScR w base g s p n) (hE : Escs w) (hb3 : 3 < base) (hR : rxAtom s.data.toList m n p = R) (h40 : (s[p] == 40) = true) :
 Calls Tryz.prog 115 #[.pointer (some ⟨g, 0, none⟩)] w (RxOut base g s n (p + 1) w R) := by
 have HE := yh hE; have IH := yh ih; have hgl := h.lt; have hlt256 := s[p].toNat_lt; have c40 : ((s[p].toNat : Int) == 40) = true := byte_eq _ 40 true (by omega) h40; have e40 : ((s[p].toNat : Int) != 40) = false := by rw [bne, c40]; rfl
 have hwp : IntKind.i64.wrap ((p : Int) + 1) = (p : Int) + 1 := IntWalk.i64_in _ (by omega); obtain ⟨m, rfl⟩ : ∃ m', m = m' + 1 := ⟨m - 1, by omega⟩; have HR := yh (show (if 1000 ≤ n then .error 23
  else match rxAlts s.data.toList m (n + 1) (p + 1) with
   | .error e => .error e
   | .ok (r, q) => if s.data.toList.length ≤ q then .error 21 else .ok (r, q + 1)) = R from by
  rw [rxAtom, if_pos (by rw [get_byte s p hp]; simpa using h40)] at hR; exact hR)
 obtain ⟨ao, oc, xs, hx, hB, hO, hbg⟩ := h; have HX := yh hx; have HB := yh (show Blk (w.alloc (.cells #[.int .i64 0, .nilFunc] 139)) g [.string s, .int .i64 (p : Int), .slice ao n oc] 136 from hB.alloc _); have HO := yh (show (w.alloc (.cells #[.int .i64 0, .nilFunc] 139)).ownsRow base 3 1 (.slice ao n oc) n (xs.map (Value.int .i64)) from own_keep hO ((Keep.refl _ _).alloc _) (NotRow.none _ _)); have HEA := yh (show Escs (w.alloc (.cells #[.int .i64 0, .nilFunc] 139)) from hE.keep ((Keep.refl _ _).alloc _)); have HKA := yh (show RK base w (w.alloc (.cells #[.int .i64 0, .nilFunc] 139)) from (RK.refl _ _).alloc _)
 have BR := yh (show Blk (w.alloc (.cells #[.int .i64 0, .nilFunc] 139)) w.heap.size [.int .i64 0, .nilFunc] 139 from Blk.new w _ 139); clear ih hE hR hx hB hO h40; go_enter Tryz.func115, Tryz.ntmps115; go_wp2_with fail; refine (rx_next g s p _ hs hp _ HB.out).mono ?_; rintro e x1 ⟨rfl, x1n, rfl⟩; have HB := yh (HB.out.drewN x1n); have HO := yh (own_keep HO.out ((Keep.refl none _).drewN x1n) (NotRow.none _ _)); have HEA := yh (HEA.out.keep ((Keep.refl none _).drewN x1n)); have HKA := yh (HKA.out.drewN x1n); have BR := yh (BR.out.drewN x1n); generalize World.drewN (World.alloc w _) x1n = V at HB HO HEA HKA BR ⊢
 have hcg := HB.out.cell; by_cases h1000 : 1000 ≤ n
 · have hRe : R = .error 23 := by
    have h0 := HR.out; rw [if_pos h1000] at h0; exact h0.symm
   subst hRe; have t1 : ((1000 : Int) ≤ (n : Int)) := by omega
   clear h1000; go_wp2_with fail; refine (rx_fail g _ _ _).mono ?_; rintro e w9 ⟨rfl, rfl⟩; exact ⟨rfl, _, rfl, HKA.out⟩
 have t1 : ¬ ((1000 : Int) ≤ (n : Int)) := by omega
 have HR2 := yh (show (match rxAlts s.data.toList m (n + 1) (p + 1) with
  | .error e => .error e
  | .ok (r, q) => if s.data.toList.length ≤ q then .error 21 else .ok (r, q + 1)) = R from by
  have h0 := HR.out; rw [if_neg h1000] at h0; exact h0)
 have hn1 : n < 1000 := by omega
 clear h1000; go_wp2_with fail; clear hcg; refine wp_region_pen (fun w' => Blk w' g [.string s, .int .i64 (p : Int), .slice ao n oc] 136) 13 (by kernel_rfl) (by kernel_rfl) (fun c a d v w h => by cases d <;> exact h) (by exact HB.out.drew) ?_; simp only [List.length_cons, List.length_nil]; replace HB := yh HB.out.drew; replace HO := yh HO.out.drew; replace HEA := yh (HEA.out.keep ((Keep.refl none _).drew)); replace HKA := yh HKA.out.drew; replace BR := yh BR.out.drew; generalize V.drew = V0 at HB HO HEA HKA BR ⊢; refine pen_stable 0 (by rfl) (by decide +kernel) (fun K hK => ?_)
 rw [if_pos (by rfl)]; apply Exists.intro; refine ⟨fun w' hS' => ?_, hK _ ?_⟩
 · replace hS' := Blk.cell hS'; go_simp; try with_reducible rfl
 clear hK K; simp only [Act.put, List.setIfInBounds_toArray, List.set]; refine pen_stable 1 (by rfl) (by decide +kernel) (fun K hK => ?_); rw [if_pos (by rfl)]; apply Exists.intro; refine ⟨fun w' hS' => ?_, hK _ ?_⟩
 · replace hS' := Blk.cell hS'; go_simp; try with_reducible rfl
 clear hK K; simp only [Act.put, List.setIfInBounds_toArray, List.set]; refine pen_stable 2 (by rfl) (by decide +kernel) (fun K hK => ?_); rw [if_pos (by rfl)]; apply Exists.intro; refine ⟨fun w' hS' => ?_, hK _ ?_⟩
 · replace hS' := Blk.cell hS'; go_simp; try with_reducible rfl
 clear hK K; simp only [Act.put, List.setIfInBounds_toArray, List.set]; refine pen_stable 3 (by rfl) (by decide +kernel) (fun K hK => ?_); rw [if_pos (by rfl)]; apply Exists.intro; refine ⟨fun w' hS' => ?_, hK _ ?_⟩
 · replace hS' := Blk.cell hS'; go_simp; try with_reducible rfl
 clear hK K; simp only [Act.put, List.setIfInBounds_toArray, List.set]; refine pen_stable 4 (by rfl) (by decide +kernel) (fun K hK => ?_); rw [if_pos (by rfl)]; apply Exists.intro; refine ⟨fun w' hS' => ?_, hK _ ?_⟩
 · replace hS' := Blk.cell hS'; go_simp; try with_reducible rfl
 clear hK K; simp only [Act.put, List.setIfInBounds_toArray, List.set]; refine pen_stable 5 (by rfl) (by decide +kernel) (fun K hK => ?_); rw [if_pos (by rfl)]; apply Exists.intro; refine ⟨fun w' hS' => ?_, hK _ ?_⟩
 · replace hS' := Blk.cell hS'; go_simp; try with_reducible rfl
 clear hK K; simp only [Act.put, List.setIfInBounds_toArray, List.set]; refine pen_stable 6 (by rfl) (by decide +kernel) (fun K hK => ?_); rw [if_pos (by rfl)]; apply Exists.intro; refine ⟨fun w' hS' => ?_, hK _ ?_⟩
 · replace hS' := Blk.cell hS'; go_simp; try with_reducible rfl
 clear hK K; simp only [Act.put, List.setIfInBounds_toArray, List.set]; refine pen_stable 7 (by rfl) (by decide +kernel) (fun K hK => ?_); rw [if_pos (by rfl)]; apply Exists.intro; refine ⟨fun w' hS' => ?_, hK _ ?_⟩
 · replace hS' := Blk.cell hS'; go_simp; try with_reducible rfl
 clear hK K; simp only [Act.put, List.setIfInBounds_toArray, List.set]; refine pen_stable 8 (by rfl) (by decide +kernel) (fun K hK => ?_); rw [if_pos (by rfl)]; apply Exists.intro; refine ⟨fun w' hS' => ?_, hK _ ?_⟩
 · replace hS' := Blk.cell hS'; go_simp; try with_reducible rfl
 clear hK K; simp only [Act.put, List.setIfInBounds_toArray, List.set]; refine pen_active 9 (by rfl) (by decide +kernel) (fun K hK => ?_); rw [if_pos (by rfl)]; go_simp; refine hK.out _ _ (HB.out.alloc _) ?_; clear hK K; try simp only [Act.put, List.setIfInBounds_toArray, List.set]
 have NB := yh (Blk.new V0 [.int .i64 (p : Int)] 3); have HZ := yh (show (V0.alloc (.cells #[.int .i64 (p : Int)] 3)).heap.size = V0.heap.size + 1 from by simp); replace HB := yh (HB.out.alloc (.cells #[.int .i64 (p : Int)] 3)); replace HO := yh (own_keep HO.out ((Keep.refl none _).alloc (.cells #[.int .i64 (p : Int)] 3)) (NotRow.none _ _)); replace HEA := yh (HEA.out.keep ((Keep.refl none _).alloc (.cells #[.int .i64 (p : Int)] 3))); replace HKA := yh (HKA.out.alloc (.cells #[.int .i64 (p : Int)] 3)); replace BR := yh (BR.out.alloc (.cells #[.int .i64 (p : Int)] 3))
 change Pen _ _ _ _ _ _ _ _ (World.alloc V0 (.cells #[.int .i64 (p : Int)] 3)); generalize World.alloc V0 (.cells #[.int .i64 (p : Int)] 3) = V1 at NB HZ HB HO HEA HKA BR ⊢; generalize V0.heap.size = nb at NB HZ ⊢; obtain ⟨i0, hi, hz0, hz1, hz2⟩ := info_parts info3; have hbase : base ≤ V1.heap.size := by have := HB.out.lt; omega
 have hmx : n + 1 ≤ maxLen := by unfold maxLen; omega
 refine pen_active 10 (by rfl) (by decide +kernel) (fun K hK => ?_); rw [if_pos (by rfl)]; refine wp_append_lies _ _ _ _ (by rfl) base 3 i0 _ 1 8 Tryz.underlying134 hi hz0 hz1 hz2 rfl (by omega) (.slice ao n oc) n (xs.map (Value.int .i64)) (by rfl) HO.out ⟨nb, 0, none⟩ 1 1 [.int .i64 (p : Int)] (by rfl) (by rfl) (World.news_of_block NB.out) (by simp [Value.oneCell']) (by omega) hmx (by omega) hbase V1.heap.size rfl ?_; intro rb cap V2 hown hgrow hat hlt; have HB2 := yh (show Blk V2 g [.string s, .int .i64 (p : Int), .slice ao n oc] 136 from Blk.grown HB.out hgrow (own_ne HO.out HB.out (by decide)))
 have HO2 := yh hown; have HKA2 := yh (HKA.out.grown HO.out hgrow); have BR2 := yh (show Blk V2 w.heap.size [.int .i64 0, .nilFunc] 139 from Blk.grown BR.out hgrow (own_ne HO.out BR.out (by decide))); clear hown hgrow hat hlt hi hz0 hz1 hz2 HO HEA HKA BR HB NB HZ hbase hmx; refine hK.out _ _ HB2.out ?_; clear hK K; simp only [Act.put, List.setIfInBounds_toArray, List.set]; refine pen_active 11 (by rfl) (by decide +kernel) (fun K hK => ?_); rw [if_pos (by rfl)]; go_simp; refine hK.out _ _ (HB2.out) ?_; clear hK K; try simp only [Act.put, List.setIfInBounds_toArray, List.set]
 refine pen_stable 12 (by rfl) (by decide +kernel) (fun K hK => ?_); rw [if_pos (by rfl)]; apply Exists.intro; refine ⟨fun w' hS' => ?_, hK _ ?_⟩
 · replace hS' := Blk.cell hS'; go_simp; try with_reducible rfl
 clear hK K; simp only [Act.put, List.setIfInBounds_toArray, List.set]; have hcg := HB2.out.cell; have hfg := HB2.out.frozen; refine pen_last 13 (by rfl) (by decide +kernel) (by decide +kernel) (by decide +kernel) (fun K hK => ?_); rw [if_pos (by rfl)]; go_simp; refine hK.out _ _ ?_; clear hcg hfg; have HS3 := yh (show ScR (V2.setCell ⟨g, 2, none⟩ (.slice (some ⟨rb, 0, none⟩) (n + 1) cap)) base g s p (n + 1) from
  ⟨some ⟨rb, 0, none⟩, cap, xs ++ [(p : Int)], by rw [List.length_append, HX.out]; rfl, HB2.out.set 2 _, by
   have := own_keep HO2.out ((Keep.refl (some g) V2).set ⟨g, 2, none⟩ (.slice (some ⟨rb, 0, none⟩) (n + 1) cap) (.inl rfl)) (NotRow.blk HB2.out (by decide)); simpa using this, hgl.2⟩)
 have HK3 := yh (HKA2.out.trans (RK.of_keepG ((Keep.refl _ _).set ⟨g, 2, none⟩ (.slice (some ⟨rb, 0, none⟩) (n + 1) cap) (.inl rfl)) (HB2.out.isVol (.inl rfl)) hgl.2)); have BR3 := yh (BR2.out.far ⟨g, 2, none⟩ (.slice (some ⟨rb, 0, none⟩) (n + 1) cap) (by simp; omega)); clear HB2 HO2 HKA2 BR2; generalize World.setCell V2 _ _ = X at HS3 HK3 BR3 ⊢; have hcg := HS3.out.cellAt; have hfg := HS3.out.free; go_wp2_with fail; clear hcg hfg; have HS4 := yh HS3.out.step; have HK4 := yh (HK3.out.trans (RK.of_keepG ((Keep.refl _ _).set ⟨g, 1, none⟩ (.int .i64 ((p : Int) + 1)) (.inl rfl)) HS3.out.vol hgl.2))
 have BR4 := yh (BR3.out.far ⟨g, 1, none⟩ (.int .i64 ((p : Int) + 1)) (by simp; omega)); clear HS3 HK3 BR3; generalize World.setCell X _ _ = X4 at HS4 HK4 BR4 ⊢; have hE4 := HE.out.rk HK4.out hb3; cases hx : rxAlts s.data.toList m (n + 1) (p + 1) with
 | error c =>
  refine ((IH.out m (by omega)).alts (n + 1) (p + 1) base g _ _ (by omega) (by omega) (by omega) HS4.out hE4 hb3 hx).mono ?_; rintro e x5 ⟨pl, rfl, kx5⟩; have hRe : R = .error c := by
   have h0 := HR2.out; rw [hx] at h0; exact h0.symm
  subst hRe; exact ⟨rfl, _, rfl, HK4.out.trans kx5⟩
 | ok y =>
  obtain ⟨r, q⟩ := y; refine ((IH.out m (by omega)).alts (n + 1) (p + 1) base g _ _ (by omega) (by omega) (by omega) HS4.out hE4 hb3 hx).mono ?_; rintro e x5 ⟨v5, rfl, hv5, hs5, hq5, hq6, kx5⟩; obtain ⟨K5, c5, rfl⟩ := hv5.form; have HR3 := yh (show (if s.size ≤ q then .error 21 else .ok (r, q + 1)) = R from by
   have h0 := HR2.out; rw [hx] at h0; rw [← h0, show s.data.toList.length = s.size by show s.data.toList.length = s.data.size; simp])
  have hsx := BR4.out.lt; have HV5 := yh (((hv5.mono (ok' := fun i => w.heap.size < i) fun i hi ho => by omega)).keep ((Keep.refl _ _).alloc (.cells #[.int .i64 (r.size : Int), .func (.func K5) #[] c5] 139))); have HD5 := yh (Blk.new x5 [.int .i64 (r.size : Int), .func (.func K5) #[] c5] 139); have HS5 := yh (hs5.keep ((Keep.refl _ _).alloc (.cells #[.int .i64 (r.size : Int), .func (.func K5) #[] c5] 139))); have HK5 := yh ((HK4.out.trans kx5).alloc (.cells #[.int .i64 (r.size : Int), .func (.func K5) #[] c5] 139)); have BR5 := yh ((BR4.out.rk kx5 (by decide) (by decide)).alloc (.cells #[.int .i64 (r.size : Int), .func (.func K5) #[] c5] 139))
  have hwx : w.heap.size < x5.heap.size := by have := kx5.size; omega
  clear hv5 hs5 kx5 hx hE4 hsx; go_wp2_with fail; generalize World.alloc x5 _ = V6 at HV5 HD5 HS5 HK5 BR5 ⊢; generalize x5.heap.size = d at HD5 hwx ⊢; obtain ⟨ao6, oc6, xs6, hx6, hB6, hO6, hbg6⟩ := HS5.out; obtain ⟨rb6, rfl, hoc6, hocm⟩ := own_form hO6; have HX6 := yh hx6; have HB6 := yh hB6; have HO6 := yh hO6; clear hx6 hB6 hO6; by_cases hqs : q < s.size
  · have hRe : R = .ok (r, q + 1) := by rw [← HR3.out, if_neg (by omega)]
    subst hRe; have hwq : IntKind.i64.wrap ((q : Int) + 1) = (q : Int) + 1 := IntWalk.i64_in _ (by omega); refine (rx_ended_no g s q _ hs hqs _ HB6.out).mono ?_; rintro e x6 ⟨rfl, x6n, rfl⟩; replace HB6 := yh (HB6.out.drewN x6n); replace HO6 := yh (own_keep HO6.out ((Keep.refl none _).drewN x6n) (NotRow.none _ _)); replace HV5 := yh (HV5.out.drewN x6n); replace HD5 := yh (HD5.out.drewN x6n); replace HK5 := yh (HK5.out.drewN x6n); replace BR5 := yh (BR5.out.drewN x6n); clear HS5; generalize World.drewN V6 x6n = V7 at HB6 HO6 HV5 HD5 HK5 BR5 ⊢; have hcg := HB6.out.cell
    have hfg := HB6.out.frozen; go_wp2_with fail; clear hcg hfg; have kk := (Keep.refl (some g) V7).set ⟨g, 1, none⟩ (.int .i64 ((q : Int) + 1)) (.inl rfl); replace HV5 := yh (HV5.out.far kk.size (Same.keepG kk fun _ => HB6.out.isVol (.inl rfl))); replace HK5 := yh (HK5.out.trans (RK.of_keepG kk (HB6.out.isVol (.inl rfl)) hgl.2)); replace HO6 := yh (own_keep HO6.out kk (NotRow.blk HB6.out (by decide))); replace BR5 := yh (BR5.out.keep kk (by simp; omega)); replace HD5 := yh (HD5.out.keep kk (by simp; omega)); replace HB6 := yh HB6.out.step3; clear kk; generalize World.setCell V7 _ _ = V8 at HB6 HO6 HV5 HD5 HK5 BR5 ⊢
    have hw1 : IntKind.i64.wrap (((n + 1 : Nat) : Int) - 1) = (n : Int) := by
     rw [show (((n + 1 : Nat) : Int) - 1) = (n : Int) by omega]; exact IntWalk.i64_in _ (by omega)
    have hw2 : IntKind.i64.wrap ((n : Int) + 1 - 1) = (n : Int) := by
     rw [show ((n : Int) + 1 - 1) = (n : Int) by omega]; exact IntWalk.i64_in _ (by omega)
    have hw3 : IntKind.i64.wrap (n : Int) = (n : Int) := IntWalk.i64_in _ (by omega); have hcap : (n : Int) ≤ (oc6 : Int) := by omega
    have hcap0 : (0 : Int) ≤ (n : Int) := by omega
    refine wp_region_pen (fun w' => Blk w' g [.string s, .int .i64 ((q + 1 : Nat) : Int), .slice (some ⟨rb6, 0, none⟩) (n + 1) oc6] 136) 14 (by kernel_rfl) (by kernel_rfl) (fun c a d v w h => by cases d <;> exact h) (by exact HB6.out.drew) ?_; simp only [List.length_cons, List.length_nil]; replace HB6 := yh HB6.out.drew; replace HO6 := yh (own_keep HO6.out ((Keep.refl none _).drew) (NotRow.none _ _)); replace HV5 := yh HV5.out.drew; replace HD5 := yh HD5.out.drew; replace HK5 := yh HK5.out.drew; replace BR5 := yh BR5.out.drew; generalize V8.drew = V9 at HB6 HO6 HV5 HD5 HK5 BR5 ⊢
    refine pen_stable 0 (by rfl) (by decide +kernel) (fun K hK => ?_); rw [if_pos (by rfl)]; apply Exists.intro; refine ⟨fun w' hS' => ?_, hK _ ?_⟩
    · replace hS' := Blk.cell hS'; go_simp; try with_reducible rfl
    clear hK K; simp only [Act.put, List.setIfInBounds_toArray, List.set]; refine pen_stable 1 (by rfl) (by decide +kernel) (fun K hK => ?_); rw [if_pos (by rfl)]; apply Exists.intro; refine ⟨fun w' hS' => ?_, hK _ ?_⟩
    · replace hS' := Blk.cell hS'; go_simp; try with_reducible rfl
    clear hK K; simp only [Act.put, List.setIfInBounds_toArray, List.set]; refine pen_stable 2 (by rfl) (by decide +kernel) (fun K hK => ?_); rw [if_pos (by rfl)]; apply Exists.intro; refine ⟨fun w' hS' => ?_, hK _ ?_⟩
    · replace hS' := Blk.cell hS'; go_simp; try with_reducible rfl
    clear hK K; simp only [Act.put, List.setIfInBounds_toArray, List.set]; refine pen_stable 3 (by rfl) (by decide +kernel) (fun K hK => ?_); rw [if_pos (by rfl)]; apply Exists.intro; refine ⟨fun w' hS' => ?_, hK _ ?_⟩
    · replace hS' := Blk.cell hS'; go_simp; try with_reducible rfl
    clear hK K; simp only [Act.put, List.setIfInBounds_toArray, List.set]; refine pen_stable 4 (by rfl) (by decide +kernel) (fun K hK => ?_); rw [if_pos (by rfl)]; apply Exists.intro; refine ⟨fun w' hS' => ?_, hK _ ?_⟩
    · replace hS' := Blk.cell hS'; go_simp; try with_reducible rfl
    clear hK K; simp only [Act.put, List.setIfInBounds_toArray, List.set]; refine pen_stable 5 (by rfl) (by decide +kernel) (fun K hK => ?_); rw [if_pos (by rfl)]; apply Exists.intro; refine ⟨fun w' hS' => ?_, hK _ ?_⟩
    · replace hS' := Blk.cell hS'; go_simp; try with_reducible rfl
    clear hK K; simp only [Act.put, List.setIfInBounds_toArray, List.set]; refine pen_stable 6 (by rfl) (by decide +kernel) (fun K hK => ?_); rw [if_pos (by rfl)]; apply Exists.intro; refine ⟨fun w' hS' => ?_, hK _ ?_⟩
    · replace hS' := Blk.cell hS'; go_simp; try with_reducible rfl
    clear hK K; simp only [Act.put, List.setIfInBounds_toArray, List.set]; refine pen_stable 7 (by rfl) (by decide +kernel) (fun K hK => ?_); rw [if_pos (by rfl)]; apply Exists.intro; refine ⟨fun w' hS' => ?_, hK _ ?_⟩
    · replace hS' := Blk.cell hS'; go_simp; try with_reducible rfl
    clear hK K; simp only [Act.put, List.setIfInBounds_toArray, List.set]; refine pen_stable 8 (by rfl) (by decide +kernel) (fun K hK => ?_); rw [if_pos (by rfl)]; apply Exists.intro; refine ⟨fun w' hS' => ?_, hK _ ?_⟩
    · replace hS' := Blk.cell hS'; go_simp; try with_reducible rfl
    clear hK K; simp only [Act.put, List.setIfInBounds_toArray, List.set]; refine pen_stable 9 (by rfl) (by decide +kernel) (fun K hK => ?_); rw [if_pos (by rfl)]; apply Exists.intro; refine ⟨fun w' hS' => ?_, hK _ ?_⟩
    · replace hS' := Blk.cell hS'; go_simp; try with_reducible rfl
    clear hK K; simp only [Act.put, List.setIfInBounds_toArray, List.set]; refine pen_stable 10 (by rfl) (by decide +kernel) (fun K hK => ?_); rw [if_pos (by rfl)]; apply Exists.intro; refine ⟨fun w' hS' => ?_, hK _ ?_⟩
    · replace hS' := Blk.cell hS'; go_simp; try with_reducible rfl
    clear hK K; simp only [Act.put, List.setIfInBounds_toArray, List.set]; refine pen_stable 11 (by rfl) (by decide +kernel) (fun K hK => ?_); rw [if_pos (by rfl)]; apply Exists.intro; refine ⟨fun w' hS' => ?_, hK _ ?_⟩
    · replace hS' := Blk.cell hS'; go_simp; try with_reducible rfl
    clear hK K; simp only [Act.put, List.setIfInBounds_toArray, List.set]; refine pen_active 12 (by rfl) (by decide +kernel) (fun K hK => ?_); rw [if_pos (by rfl)]; go_simp; refine hK.out _ _ (HB6.out) ?_; clear hK K; try simp only [Act.put, List.setIfInBounds_toArray, List.set]
    refine pen_stable 13 (by rfl) (by decide +kernel) (fun K hK => ?_); rw [if_pos (by rfl)]; apply Exists.intro; refine ⟨fun w' hS' => ?_, hK _ ?_⟩
    · replace hS' := Blk.cell hS'; go_simp; try with_reducible rfl
    clear hK K; simp only [Act.put, List.setIfInBounds_toArray, List.set]; have hcg := HB6.out.cell; have hfg := HB6.out.frozen; refine pen_last 14 (by rfl) (by decide +kernel) (by decide +kernel) (by decide +kernel) (fun K hK => ?_); rw [if_pos (by rfl)]; go_simp; refine hK.out _ _ ?_; clear hcg hfg hcap hcap0 hw1 hw2 hw3; have kk := (Keep.refl (some g) V9).set ⟨g, 2, none⟩ (.slice (some ⟨rb6, 0, none⟩) n oc6) (.inl rfl); replace HV5 := yh (HV5.out.far kk.size (Same.keepG kk fun _ => HB6.out.isVol (.inl rfl))); replace HK5 := yh (HK5.out.trans (RK.of_keepG kk (HB6.out.isVol (.inl rfl)) hgl.2))
    have HSF := yh (show ScR (V9.setCell ⟨g, 2, none⟩ (.slice (some ⟨rb6, 0, none⟩) n oc6)) base g s (q + 1) n from
     ⟨_, oc6, xs6.take n, by rw [List.length_take, HX6.out]; omega, HB6.out.set 2 _, own_keep (own_shrink (g := 0) HX6.out HO6.out) kk (NotRow.blk HB6.out (by decide)), hgl.2⟩)
    replace BR5 := yh (BR5.out.keep kk (by simp; omega)); replace HD5 := yh (HD5.out.keep kk (by simp; omega)); clear kk; generalize World.setCell V9 _ _ = VA at HSF HV5 HD5 HK5 BR5 ⊢; have hcd := HD5.out.cell; have hcR := BR5.out.cell; have hfR := BR5.out.frozen; go_wp2_with fail; clear hcd hcR hfR; refine bodyPost_ret (results_rule rfl _ _ w.heap.size _ _ rfl ((BR5.out.set 0 _).set 1 _)) rfl ⟨_, rfl, ((HV5.out.set _ _ (by simp)).set _ _ (by simp)).mono fun i _ h => Nat.le_of_lt h, HSF.out.other BR5.out (by decide) (by decide) (by omega) _ _, by omega, by omega, (HK5.out.setNew _ _ (Nat.le_refl _)).setNew _ _ (Nat.le_refl _)⟩
  · have hRe : R = .error 21 := by rw [← HR3.out, if_pos (by omega)]
    subst hRe; refine (rx_ended_yes g s q _ hs (by omega) _ HB6.out).mono ?_; rintro e x6 ⟨rfl, x6n, rfl⟩; replace HB6 := yh (HB6.out.drewN x6n); replace HO6 := yh (own_keep HO6.out ((Keep.refl none _).drewN x6n) (NotRow.none _ _)); replace HK5 := yh (HK5.out.drewN x6n); clear HS5 HV5 HD5 BR5; generalize World.drewN V6 x6n = V7 at HB6 HO6 HK5 ⊢; have hcg := HB6.out.cell; go_wp2_with fail; clear hcg; obtain ⟨zl, hzl⟩ : ∃ zl, xs6[n]? = some zl := ⟨_, List.getElem?_eq_getElem (by have := HX6.out; omega)⟩; have hcl := HO6.out.cellAt n (by omega); rw [List.getElem?_map, hzl, Option.map_some] at hcl
    have HCL := yh hcl; clear hcl hzl; have hw1 : IntKind.i64.wrap (((n + 1 : Nat) : Int) - 1) = (n : Int) := by
     rw [show (((n + 1 : Nat) : Int) - 1) = (n : Int) by omega]; exact IntWalk.i64_in _ (by omega)
    have hw2 : IntKind.i64.wrap ((n : Int) + 1 - 1) = (n : Int) := by
     rw [show ((n : Int) + 1 - 1) = (n : Int) by omega]; exact IntWalk.i64_in _ (by omega)
    have hw3 : IntKind.i64.wrap (n : Int) = (n : Int) := IntWalk.i64_in _ (by omega); have hcap : (n : Int) < ((n + 1 : Nat) : Int) := by omega
    have hcap1 : (n : Int) < (n : Int) + 1 := by omega
    have hcap0 : (0 : Int) ≤ (n : Int) := by omega
    refine wp_region_pen (fun w' => Blk w' g [.string s, .int .i64 (q : Int), .slice (some ⟨rb6, 0, none⟩) (n + 1) oc6] 136 ∧ w'.cell? ⟨rb6, n, none⟩ = some (.int .i64 zl)) 99 (by kernel_rfl) (by kernel_rfl) (fun c a d v w h => by cases d <;> exact h) (by exact ⟨HB6.out.drew, HCL.out⟩) ?_; simp only [List.length_cons, List.length_nil]; refine pen_stable 0 (by rfl) (by decide +kernel) (fun K hK => ?_); rw [if_pos (by rfl)]; apply Exists.intro; refine ⟨fun w' hS' => ?_, hK _ ?_⟩
    · obtain ⟨hS1, hS2⟩ := hS'; replace hS1 := Blk.cell hS1; go_simp; try with_reducible rfl
    clear hK K; simp only [Act.put, List.setIfInBounds_toArray, List.set]; refine pen_stable 1 (by rfl) (by decide +kernel) (fun K hK => ?_); rw [if_pos (by rfl)]; apply Exists.intro; refine ⟨fun w' hS' => ?_, hK _ ?_⟩
    · obtain ⟨hS1, hS2⟩ := hS'; replace hS1 := Blk.cell hS1; go_simp; try with_reducible rfl
    clear hK K; simp only [Act.put, List.setIfInBounds_toArray, List.set]; refine pen_stable 2 (by rfl) (by decide +kernel) (fun K hK => ?_); rw [if_pos (by rfl)]; apply Exists.intro; refine ⟨fun w' hS' => ?_, hK _ ?_⟩
    · obtain ⟨hS1, hS2⟩ := hS'; replace hS1 := Blk.cell hS1; go_simp; try with_reducible rfl
    clear hK K; simp only [Act.put, List.setIfInBounds_toArray, List.set]; refine pen_stable 3 (by rfl) (by decide +kernel) (fun K hK => ?_); rw [if_pos (by rfl)]; apply Exists.intro; refine ⟨fun w' hS' => ?_, hK _ ?_⟩
    · obtain ⟨hS1, hS2⟩ := hS'; replace hS1 := Blk.cell hS1; go_simp; try with_reducible rfl
    clear hK K; simp only [Act.put, List.setIfInBounds_toArray, List.set]; refine pen_stable 4 (by rfl) (by decide +kernel) (fun K hK => ?_); rw [if_pos (by rfl)]; apply Exists.intro; refine ⟨fun w' hS' => ?_, hK _ ?_⟩
    · obtain ⟨hS1, hS2⟩ := hS'; replace hS1 := Blk.cell hS1; go_simp; try with_reducible rfl
    clear hK K; simp only [Act.put, List.setIfInBounds_toArray, List.set]; refine pen_stable 5 (by rfl) (by decide +kernel) (fun K hK => ?_); rw [if_pos (by rfl)]; apply Exists.intro; refine ⟨fun w' hS' => ?_, hK _ ?_⟩
    · obtain ⟨hS1, hS2⟩ := hS'; replace hS1 := Blk.cell hS1; go_simp; try with_reducible rfl
    clear hK K; simp only [Act.put, List.setIfInBounds_toArray, List.set]; refine pen_stable 6 (by rfl) (by decide +kernel) (fun K hK => ?_); rw [if_pos (by rfl)]; apply Exists.intro; refine ⟨fun w' hS' => ?_, hK _ ?_⟩
    · obtain ⟨hS1, hS2⟩ := hS'; replace hS1 := Blk.cell hS1; go_simp; try with_reducible rfl
    clear hK K; simp only [Act.put, List.setIfInBounds_toArray, List.set]; refine pen_stable 7 (by rfl) (by decide +kernel) (fun K hK => ?_); rw [if_pos (by rfl)]; apply Exists.intro; refine ⟨fun w' hS' => ?_, hK _ ?_⟩
    · obtain ⟨hS1, hS2⟩ := hS'; replace hS1 := Blk.cell hS1; go_simp; try with_reducible rfl
    clear hK K; simp only [Act.put, List.setIfInBounds_toArray, List.set]; refine pen_stable 8 (by rfl) (by decide +kernel) (fun K hK => ?_); rw [if_pos (by rfl)]; apply Exists.intro; refine ⟨fun w' hS' => ?_, hK _ ?_⟩
    · obtain ⟨hS1, hS2⟩ := hS'; replace hS1 := Blk.cell hS1; go_simp; try with_reducible rfl
    clear hK K; simp only [Act.put, List.setIfInBounds_toArray, List.set]; refine pen_stable 9 (by rfl) (by decide +kernel) (fun K hK => ?_); rw [if_pos (by rfl)]; apply Exists.intro; refine ⟨fun w' hS' => ?_, hK _ ?_⟩
    · obtain ⟨hS1, hS2⟩ := hS'; replace hS1 := Blk.cell hS1; go_simp; try with_reducible rfl
    clear hK K; simp only [Act.put, List.setIfInBounds_toArray, List.set]; refine pen_stable 10 (by rfl) (by decide +kernel) (fun K hK => ?_); rw [if_pos (by rfl)]; apply Exists.intro; refine ⟨fun w' hS' => ?_, hK _ ?_⟩
    · obtain ⟨hS1, hS2⟩ := hS'; replace hS1 := Blk.cell hS1; go_simp; try with_reducible rfl
    clear hK K; simp only [Act.put, List.setIfInBounds_toArray, List.set]; refine pen_stable 11 (by rfl) (by decide +kernel) (fun K hK => ?_); rw [if_pos (by rfl)]; apply Exists.intro; refine ⟨fun w' hS' => ?_, hK _ ?_⟩
    · obtain ⟨hS1, hS2⟩ := hS'; replace hS1 := Blk.cell hS1; go_simp; try with_reducible rfl
    clear hK K; simp only [Act.put, List.setIfInBounds_toArray, List.set]; refine pen_stable 12 (by rfl) (by decide +kernel) (fun K hK => ?_); rw [if_pos (by rfl)]; apply Exists.intro; refine ⟨fun w' hS' => ?_, hK _ ?_⟩
    · obtain ⟨hS1, hS2⟩ := hS'; replace hS1 := Blk.cell hS1; go_simp; try with_reducible rfl
    clear hK K; simp only [Act.put, List.setIfInBounds_toArray, List.set]; refine pen_active 13 (by rfl) (by decide +kernel) (fun K hK => ?_); rw [if_pos (by rfl)]; go_wp2_with fail; refine (rx_fail g _ _ _).mono ?_; rintro e w9 ⟨rfl, rfl⟩; exact ⟨rfl, _, rfl, HK5.out.drew⟩
theorem rx_atom (s : ByteArray) (hs : s.size ≤ 2000000) (m : Nat) (ih : ∀ k, k < m → RxAt s k) (n p base g : Nat) (w : World) (R : Except Nat (Rl × Nat)) (hp : p < s.size) (hm : 6 * (s.size - p) + 2 ≤ m) (hn : n ≤ 1000) (h : ScR w base g s p n) (hE : Escs w) (hb3 : 3 < base) (hR : rxAtom s.data.toList m n p = R) :
 Calls Tryz.prog 115 #[.pointer (some ⟨g, 0, none⟩)] w (RxOut base g s n (p + 1) w R) := by
 by_cases h40 : (s[p] == 40) = true
 · exact rx_atom_par s hs m ih n p base g w R hp hm hn h hE hb3 hR h40
 · exact rx_atom_set s hs m n p base g w R hp (by omega) h hE hb3 hR (by simpa using h40)
theorem rxAt_all (s : ByteArray) (hs : s.size ≤ 2000000) (m : Nat) : RxAt s m := by
 induction m using Nat.strongRecOn with
 | ind m ih =>
  exact ⟨fun n p base g w R h1 h2 h3 h4 h5 h6 h7 => rx_alts s hs m ih n p base g w R h1 h2 h3 h4 h5 h6 h7,
   fun n p base g w R h1 h2 h3 h4 h5 h6 h7 => rx_meets s hs m ih n p base g w R h1 h2 h3 h4 h5 h6 h7,
   fun n p base g w R h1 h2 h3 h4 h5 h6 h7 => rx_row s hs m ih n p base g w R h1 h2 h3 h4 h5 h6 h7,
   fun n p base g w R h1 h2 h3 h4 h5 h6 h7 => rx_atom s hs m ih n p base g w R h1 h2 h3 h4 h5 h6 h7⟩
end Go.Proofs.YtmfabihndpidnaaGreatDoor
