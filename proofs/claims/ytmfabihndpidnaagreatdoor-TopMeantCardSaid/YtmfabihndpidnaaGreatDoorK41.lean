/-
  Terms: make.
-/
import Derived.Test.YtmfabihndpidnaaGreatDoorK40
import Derived.Test.YtmfabihndpidnaaGreatDoorK33
import Derived.Test.YtmfabihndpidnaaGreatDoorK34
import Derived.Test.YtmfabihndpidnaaGreatDoorK39
import Derived.Test.YtmfabihndpidnaaGreatDoorK14
import Derived.BigQuiet
import Derived.Test.YtmfabihndpidnaaGreatDoorK03
namespace Go.Proofs.YtmfabihndpidnaaGreatDoor
set_option maxHeartbeats 4000000
open Go.RowKit
set_option maxRecDepth 100000
set_option linter.unusedVariables false
set_option linter.unusedSimpArgs false
attribute [local go_sem ↓] run_tm_78_78 run_tm_78_84 run_tm_78_87 run_tm_82_78 run_tm_82_82 run_tm_82_84 run_tm_82_87 run_tm_84_78 run_tm_84_82 run_tm_84_84 run_tm_84_87 run_tm_87_78 run_tm_87_82 run_tm_87_84 run_tm_87_87 run_as_103_103 run_as_103_105 run_as_103_107 run_as_103_108 run_as_103_109 run_as_103_111 run_as_105_103 run_as_105_105 run_as_105_107 run_as_105_108 run_as_105_109 run_as_105_111 run_as_107_103 run_as_107_105 run_as_107_107 run_as_108_103 run_as_108_105 run_as_108_107 run_as_108_108 run_as_109_103 run_as_109_105 run_as_109_107 run_as_109_108 run_as_109_109 run_as_111_103 run_as_111_105 run_as_111_107 run_as_111_108 run_as_111_109 run_as_111_111 run_as_114_103 run_as_114_105 run_as_114_107 run_as_114_108 run_as_114_109 run_as_114_111 run_as_114_114
theorem make_name (m : Nat) (env : Env) (p : Nat) (n : Bs) (hn : n.length ≤ 100000) (w : World) (hM : MkV w m env) :
 Calls Tryz.prog 21 #[.pointer (some ⟨m, 0, none⟩), .iface 107 (.agg #[.int .i64 (p : Int), .string (mkS n)])] w (TOut w (mk env (.name p n))) := by
 have HM := yh hM; obtain ⟨R, hR⟩ : ∃ R, mk env (.name p n) = R := ⟨_, rfl⟩; rw [hR]; have HR := yh hR; clear hM hR; go_enter Tryz.func21, Tryz.ntmps21; go_wp2_with fail; have HK := yh ((Keep.refl none w).alloc (.cells #[.int .i64 (p : Int), .string (mkS n)] 107)); have HV := yh (HM.out.keep HK.out); have HB := yh (Blk.new w [.int .i64 (p : Int), .string (mkS n)] 107); generalize World.alloc w _ = V at HK HV HB ⊢; obtain ⟨b, hmb, hev⟩ := HV.out; have hc := HB.out.cell; have hcm := hmb.cell; have hl := hev.lookup n hn; cases hg : env.get n with
 | none =>
  simp only [hg] at hl; have hl1 := hl V (Keep.refl _ _); have hl2 := hl V.drew (Keep.refl none _).drew; have hl3 (q : Nat) := hl (V.drewN q) ((Keep.refl none _).drewN q); have HG := yh hg; clear hl hg hmb; go_quiet (fail); clear hc hcm hl1 hl2 hl3; have hc := (HB.out.drewN nq).cell; go_wp2_with fail; refine (tm_fail _ _ _).mono ?_; rintro e x ⟨rfl, rfl⟩; have hRe : R = .error 70 := by rw [← HR.out]; simp [mk, HG.out]
  subst hRe; exact ⟨rfl, _, rfl, HK.out.drewN nq⟩
 | some t =>
  simp only [hg] at hl; obtain ⟨v, htv, hlx⟩ := hl; have hl1 := hlx V (Keep.refl _ _); have hl2 := hlx V.drew (Keep.refl none _).drew; have hl3 (q : Nat) := hlx (V.drewN q) ((Keep.refl none _).drewN q); obtain ⟨tv, yv, rfl⟩ := htv.iface; have HT := yh htv; have HG := yh hg; clear hlx hg hmb htv; go_quiet (fail); clear hc hcm hl1 hl2 hl3; go_wp2_with fail; go_ret; have hRe : R = .ok t := by rw [← HR.out]; simp [mk, HG.out]
  subst hRe; exact ⟨_, rfl, HT.out.keep ((Keep.refl none _).drewN nq), HK.out.drewN nq⟩
theorem make_text (m : Nat) (env : Env) (p : Nat) (n : Bs) (w : World) :
 Calls Tryz.prog 21 #[.pointer (some ⟨m, 0, none⟩), .iface 108 (.agg #[.int .i64 (p : Int), .string (mkS n)])] w (TOut w (mk env (.text p n))) := by
 go_enter Tryz.func21, Tryz.ntmps21; go_wp2_with fail; go_ret; exact ⟨_, rfl, rfl, (Keep.refl none _).alloc _⟩
theorem make_rx (m : Nat) (env : Env) (p : Nat) (n : Bs) (hn : n.length ≤ 100000) (w : World) (hE : Escs w) :
 Calls Tryz.prog 21 #[.pointer (some ⟨m, 0, none⟩), .iface 109 (.agg #[.int .i64 (p : Int), .string (mkS n)])] w (TOut w (mk env (.rx p n))) := by
 have HP := yh (fun V (k : Keep none w V) => rx_parse (mkS n) (by rw [mkS_size]; omega) V (hE.keep k) _ rfl); rw [show (mkS n).data.toList = n from by simp] at HP; obtain ⟨R, hR⟩ : ∃ R, mk env (.rx p n) = R := ⟨_, rfl⟩; rw [hR]; have HR := yh hR; clear hR hE; go_enter Tryz.func21, Tryz.ntmps21; go_wp2_with fail; have HK := yh ((Keep.refl none w).alloc (.cells #[.int .i64 (p : Int), .string (mkS n)] 109)); have HB := yh (Blk.new w [.int .i64 (p : Int), .string (mkS n)] 109); generalize World.alloc w _ = V at HK HB ⊢; have hp := HP.out V HK.out; cases hx : rxParse n with
 | error c =>
  rw [hx] at hp; refine hp.mono ?_; rintro e x1 ⟨pl, rfl, k1⟩; unfold faultV; replace HB := yh (HB.out.keep k1 (by simp)); replace HK := yh (HK.out.trans k1); have hc := HB.out.cell; have HX := yh hx; have hcz : ¬ ((c : Int) = 0) := by have := rxParse_err hx; omega
  have HFB := yh (Blk.new x1 [.int .i64 (c : Int), .int .i64 pl, .string ⟨#[]⟩] 26); have hcc := (HB.out.alloc (.cells #[.int .i64 (c : Int), .int .i64 pl, .string ⟨#[]⟩] 26)).cell; clear hp hx k1; go_wp2_with fail; refine (tm_fail _ _ _).mono ?_; rintro e x ⟨rfl, rfl⟩; have hRe : R = .error c := by rw [← HR.out]; simp [mk, HX.out, andThen]
  subst hRe; exact ⟨rfl, _, rfl, HK.out.alloc _⟩
 | ok nd =>
  rw [hx] at hp; refine hp.mono ?_; rintro e x1 ⟨rfl, k1⟩; unfold faultV; obtain ⟨ty, y, hnd⟩ := ndV_iface nd; rw [hnd]; have HN := yh hnd; replace HB := yh (HB.out.keep k1 (by simp)); replace HK := yh (HK.out.trans k1); have hc := HB.out.cell; have HX := yh hx; have hcc := (HB.out.alloc (.cells #[.int .i64 0, .int .i64 0, .string ⟨#[]⟩] 26)).cell; clear hp hx k1 hnd; go_wp2_with fail; go_ret; have hRe : R = .ok (.rx p nd) := by rw [← HR.out]; simp [mk, HX.out, andThen]
  subst hRe; exact ⟨_, rfl, by simp only [TmV, HN.out]; rfl, HK.out.alloc _⟩
theorem make_keyed (m : Nat) (env : Env) (he : env.good) (p : Nat) (a : Ex) (ha : a.trim) (ta : TypeId) (ya : Value) (w : World)
 (hA : ∀ V, Keep none w V → Calls Tryz.prog 21 #[.pointer (some ⟨m, 0, none⟩), .iface ta ya] V (TOut V (mk env a))) :
 Calls Tryz.prog 21 #[.pointer (some ⟨m, 0, none⟩), .iface 111 (.agg #[.int .i64 (p : Int), .iface ta ya])] w (TOut w (mk env (.keyed p a))) := by
 have hplace := yh (place_111 p (.iface ta ya) ⟨_, _, rfl⟩); have HA := yh hA; have HG := yh (fun t h => mk_good he ha (t := t) h); clear hA he ha; obtain ⟨R, hR⟩ : ∃ R, mk env (.keyed p a) = R := ⟨_, rfl⟩; rw [hR]; have HR := yh hR; clear hR; go_enter Tryz.func21, Tryz.ntmps21; go_wp2_with fail; have HK := yh ((Keep.refl none w).alloc (.cells #[.int .i64 (p : Int), .iface ta ya] 111)); have HB := yh (Blk.new w [.int .i64 (p : Int), .iface ta ya] 111); generalize World.alloc w _ = V at HK HB ⊢; cases hx : mk env a with
 | error c =>
  have hp := HA.out V HK.out; rw [hx] at hp; refine hp.mono ?_; rintro e x1 ⟨pl, rfl, k1⟩; have hRe : R = .error c := by rw [← HR.out]; simp [mk, hx, andThen]
  subst hRe; exact ⟨rfl, pl, rfl, HK.out.trans k1⟩
 | ok t =>
  have hp := HA.out V HK.out; rw [hx] at hp; refine hp.mono ?_; rintro e x1 ⟨v, rfl, htv, k1⟩; replace HB := yh (HB.out.keep k1 (by simp)); replace HK := yh (HK.out.trans k1); have HX := yh hx; have HGT := yh (HG.out t hx); clear hp hx k1; have hc := HB.out.cell; cases t with
  | lens l =>
   obtain ⟨q, rfl, hl⟩ := htv; unfold ptr; have HL := yh hl; clear hl; go_wp2_with fail; have HT := yh (show TmV (x1.alloc (.cells #[.int .i64 (p : Int), .string ⟨#[107, 101, 121, 101, 100]⟩, .nilIface, .string ⟨#[]⟩, .pointer none, .pointer (some ⟨q, 0, none⟩), .pointer none] 89)) (.lens (.keyed p l)) (.iface 87 (ptr x1.heap.size)) from ⟨_, rfl, q, Blk.new x1 _ 89, HL.out.keep ((Keep.refl none _).alloc _)⟩); replace HK := yh (HK.out.alloc (.cells #[.int .i64 (p : Int), .string ⟨#[107, 101, 121, 101, 100]⟩, .nilIface, .string ⟨#[]⟩, .pointer none, .pointer (some ⟨q, 0, none⟩), .pointer none] 89))
   clear hc; have HF := yh (show Tm.fair (.lens (.keyed p l)) from ⟨trivial, HGT.out.2.1, by have := HGT.out.2.2; simp only [Tm.size, Ln.size] at *; omega⟩); have HRT := yh (show R = chk (.lens (.keyed p l)) from by rw [← HR.out]; simp [mk, HX.out, andThen, needLens, Tm.lens?]); replace hplace := hplace.out; generalize World.alloc x1 _ = X at HT HK ⊢; have HPL := yh hplace; refine (size_any (Tm.lens (.keyed p l)) (.iface 87 (ptr x1.heap.size)) X HT.out HF.out.2.1 (by have := HF.out.2.2; omega)).mono ?_; rintro e xs ⟨rfl, ks⟩; replace HT := yh (HT.out.keep ks); replace HK := yh (HK.out.trans ks)
   by_cases hbig : 2000 < ((Tm.lens (.keyed p l))).size
   · have hb1 : (2000 : Int) < ((((Tm.lens (.keyed p l))).size : Nat) : Int) := by omega
     obtain ⟨ty', y', K', pp, hv', hm, hcl, hcall⟩ := HPL.out; cases hv'; go_wp2_with fail; refine (hcall _).mono ?_; rintro e xp ⟨rfl, kp⟩; go_wp2_with fail; refine (tm_fail _ _ _).mono ?_; rintro e xq ⟨rfl, rfl⟩; have hRe : R = .error 24 := by rw [HRT.out]; simp [chk, hbig]
     subst hRe; exact ⟨rfl, _, rfl, HK.out.trans kp⟩
   · have hb1 : ¬ (2000 : Int) < ((((Tm.lens (.keyed p l))).size : Nat) : Int) := by omega
     go_wp2_with fail; go_ret; have hRe : R = .ok ((Tm.lens (.keyed p l))) := by rw [HRT.out]; simp [chk, hbig]
     subst hRe; exact ⟨_, rfl, HT.out, HK.out⟩
  | text q l =>
   obtain rfl : v = _ := htv; go_wp2_with fail; refine (tm_fail _ _ _).mono ?_; rintro e x ⟨rfl, rfl⟩; have hRe : R = .error 72 := by rw [← HR.out]; simp [mk, HX.out, andThen, needLens, Tm.lens?]
   subst hRe; exact ⟨rfl, _, rfl, HK.out⟩
  | rx q n =>
   obtain rfl : v = _ := htv; go_wp2_with fail; refine (tm_fail _ _ _).mono ?_; rintro e x ⟨rfl, rfl⟩; have hRe : R = .error 72 := by rw [← HR.out]; simp [mk, HX.out, andThen, needLens, Tm.lens?]
   subst hRe; exact ⟨rfl, _, rfl, HK.out⟩
  | canon c =>
   obtain ⟨q, rfl, _⟩ := htv; unfold ptr; go_wp2_with fail; refine (tm_fail _ _ _).mono ?_; rintro e x ⟨rfl, rfl⟩; have hRe : R = .error 72 := by rw [← HR.out]; simp [mk, HX.out, andThen, needLens, Tm.lens?]
   subst hRe; exact ⟨rfl, _, rfl, HK.out⟩
theorem make_unary (m : Nat) (env : Env) (he : env.good) (p : Nat) (op : Bs) (hop : op = [42] ∨ op = [43] ∨ op = [63]) (a : Ex) (ha : a.trim) (ta : TypeId) (ya : Value) (w : World)
 (hA : ∀ V, Keep none w V → Calls Tryz.prog 21 #[.pointer (some ⟨m, 0, none⟩), .iface ta ya] V (TOut V (mk env a))) :
 Calls Tryz.prog 21 #[.pointer (some ⟨m, 0, none⟩), .iface 105 (.agg #[.int .i64 (p : Int), .string (mkS op), .iface ta ya])] w (TOut w (mk env (.unary p op a))) := by
 have hplace := yh (place_105 p (mkS op) (.iface ta ya) ⟨_, _, rfl⟩); have HA := yh hA; have HG := yh (fun t h => mk_good he ha (t := t) h); have HOP := yh hop; clear hA he ha hop; obtain ⟨R, hR⟩ : ∃ R, mk env (.unary p op a) = R := ⟨_, rfl⟩; rw [hR]; have HR := yh hR; clear hR; go_enter Tryz.func21, Tryz.ntmps21; go_wp2_with fail; have HK := yh ((Keep.refl none w).alloc (.cells #[.int .i64 (p : Int), .string (mkS op), .iface ta ya] 105)); have HB := yh (Blk.new w [.int .i64 (p : Int), .string (mkS op), .iface ta ya] 105); generalize World.alloc w _ = V at HK HB ⊢
 refine wp_region_pen (fun w' => Blk w' w.heap.size [.int .i64 (p : Int), .string (mkS op), .iface ta ya] 105) 99 (by kernel_rfl) (by kernel_rfl) (fun c a d v w h => by cases d <;> exact h) (by exact HB.out.drew) ?_; simp only [List.length_cons, List.length_nil]; replace HB := yh HB.out.drew; replace HK := yh HK.out.drew; generalize V.drew = V2 at HB HK ⊢; refine pen_list [0, 1, 2, 3] ?_; repeat
  (refine penl_stable (getOp rfl) (by decide +kernel) (fun K hK => ?_)
   rw [if_pos (by rfl)]; apply Exists.intro; refine ⟨fun w' hS' => ?_, hK _ ?_⟩
   · replace hS' := Blk.cell hS'; go_simp; try with_reducible rfl
   clear hK K; simp only [Act.put, List.setIfInBounds_toArray, List.set])
 refine penl_end ?_; refine pen_active 4 (getOp rfl) (by decide +kernel) (fun K hK => ?_); rw [if_pos (by rfl)]; go_wp2_with fail; have hp := HA.out V2 HK.out; cases hx : mk env a with
 | error c =>
  rw [hx] at hp; refine hp.mono ?_; rintro e x1 ⟨pl, rfl, k1⟩; have hRe : R = .error c := by rw [← HR.out]; simp [mk, hx, andThen]
  subst hRe; exact ⟨rfl, pl, rfl, HK.out.trans k1⟩
 | ok t =>
  rw [hx] at hp; refine hp.mono ?_; rintro e x1 ⟨v, rfl, htv, k1⟩; obtain ⟨tv, yv, rfl⟩ := htv.iface; replace HB := yh (HB.out.keep k1 (by simp)); replace HK := yh (HK.out.trans k1); have HX := yh hx; have HGT := yh (HG.out t hx); have hu := unary_any p op HOP.out ta ya t HGT.out.1 _ x1 htv; clear hp hx k1 htv; refine hK.out _ _ HB.out ?_; clear hK K; try simp only [Act.put, List.setIfInBounds_toArray, List.set]
  refine pen_active 5 (getOp rfl) (by decide +kernel) (fun K hK => ?_); rw [if_pos (by rfl)]; go_wp2_with fail; cases hx2 : mkUnary p op t with
  | error c =>
   rw [hx2] at hu; refine hu.mono ?_; rintro e x2 ⟨pl, rfl, k1⟩; have hRe : R = .error c := by rw [← HR.out]; simp [mk, HX.out, hx2, andThen]
   subst hRe; exact ⟨rfl, pl, rfl, HK.out.trans k1⟩
  | ok u =>
   rw [hx2] at hu; refine hu.mono ?_; rintro e x2 ⟨vu, rfl, hvu, k2⟩; obtain ⟨tu, yu, rfl⟩ := hvu.iface; replace HB := yh (HB.out.keep k2 (by simp)); replace HK := yh (HK.out.trans k2); have HT := yh hvu; have HF := yh (mkUnary_fair HGT.out hx2); have HRT := yh (show R = chk u from by rw [← HR.out]; simp [mk, HX.out, hx2, andThen]); clear hu hx2 k2 hvu; refine hK.out _ _ HB.out ?_; clear hK K; try simp only [Act.put, List.setIfInBounds_toArray, List.set]
   refine pen_stable 6 (getOp rfl) (by decide +kernel) (fun K hK => ?_); rw [if_pos (by rfl)]; apply Exists.intro; refine ⟨fun w' hS' => ?_, hK _ ?_⟩
   · replace hS' := Blk.cell hS'; go_simp; try with_reducible rfl
   clear hK K; simp only [Act.put, List.setIfInBounds_toArray, List.set]; refine pen_done (by decide +kernel) ?_; replace hplace := hplace.out; go_wp2_with fail; have HPL := yh hplace; refine (size_any u (.iface tu yu) x2 HT.out HF.out.2.1 (by have := HF.out.2.2; omega)).mono ?_; rintro e xs ⟨rfl, ks⟩; replace HT := yh (HT.out.keep ks); replace HK := yh (HK.out.trans ks); by_cases hbig : 2000 < (u).size
   · have hb1 : (2000 : Int) < (((u).size : Nat) : Int) := by omega
     obtain ⟨ty', y', K', pp, hv', hm, hcl, hcall⟩ := HPL.out; cases hv'; go_wp2_with fail; refine (hcall _).mono ?_; rintro e xp ⟨rfl, kp⟩; go_wp2_with fail; refine (tm_fail _ _ _).mono ?_; rintro e xq ⟨rfl, rfl⟩; have hRe : R = .error 24 := by rw [HRT.out]; simp [chk, hbig]
     subst hRe; exact ⟨rfl, _, rfl, HK.out.trans kp⟩
   · have hb1 : ¬ (2000 : Int) < (((u).size : Nat) : Int) := by omega
     go_wp2_with fail; go_ret; have hRe : R = .ok (u) := by rw [HRT.out]; simp [chk, hbig]
     subst hRe; exact ⟨_, rfl, HT.out, HK.out⟩
theorem rank_signs {op : Bs} (h : 0 ≤ rank op) : op = [124] ∨ op = [46] ∨ op = [38] ∨ op = [45] ∨ op = [62, 62] ∨ op = [126] := by
 unfold rank at h; split at h
 · exact .inl (by assumption)
 · split at h
   · rename_i h1; rcases h1 with h1 | h1
     · exact .inr (.inr (.inl h1))
     · exact .inr (.inr (.inr (.inl h1)))
   · split at h
     · exact .inr (.inr (.inr (.inr (.inl (by assumption)))))
     · split at h
       · exact .inr (.inr (.inr (.inr (.inr (by assumption)))))
       · split at h
         · exact .inr (.inl (by assumption))
         · omega
theorem make_binary (m : Nat) (env : Env) (he : env.good) (p : Nat) (op : Bs) (hop : isMark op ∧ 0 ≤ rank op) (a b : Ex) (ha : a.trim) (hb : b.trim) (ta : TypeId) (ya : Value) (tb : TypeId) (yb : Value) (w : World)
 (hA : ∀ V, Keep none w V → Calls Tryz.prog 21 #[.pointer (some ⟨m, 0, none⟩), .iface ta ya] V (TOut V (mk env a)))
 (hB : ∀ V, Keep none w V → Calls Tryz.prog 21 #[.pointer (some ⟨m, 0, none⟩), .iface tb yb] V (TOut V (mk env b))) :
 Calls Tryz.prog 21 #[.pointer (some ⟨m, 0, none⟩), .iface 103 (.agg #[.int .i64 (p : Int), .string (mkS op), .iface ta ya, .iface tb yb])] w (TOut w (mk env (.binary p op a b))) := by
 have hplace := yh (place_103 p (mkS op) (.iface ta ya) (.iface tb yb) ⟨_, _, rfl⟩ ⟨_, _, rfl⟩); have HA := yh hA; have HA2 := yh hB; have HG := yh (fun t h => mk_good he ha (t := t) h); have HG2 := yh (fun t h => mk_good he hb (t := t) h); have HOP := yh hop; clear hA hB he ha hb hop; obtain ⟨R, hR⟩ : ∃ R, mk env (.binary p op a b) = R := ⟨_, rfl⟩; rw [hR]; have HR := yh hR; clear hR; go_enter Tryz.func21, Tryz.ntmps21; go_wp2_with fail; have HK := yh ((Keep.refl none w).alloc (.cells #[.int .i64 (p : Int), .string (mkS op), .iface ta ya, .iface tb yb] 103))
 have HB := yh (Blk.new w [.int .i64 (p : Int), .string (mkS op), .iface ta ya, .iface tb yb] 103); generalize World.alloc w _ = V at HK HB ⊢; have hp := HA.out V HK.out; cases hx : mk env a with
 | error c =>
  rw [hx] at hp; refine hp.mono ?_; rintro e x1 ⟨pl, rfl, k1⟩; have hRe : R = .error c := by rw [← HR.out]; simp [mk, hx, andThen]
  subst hRe; exact ⟨rfl, pl, rfl, HK.out.trans k1⟩
 | ok t =>
  rw [hx] at hp; refine hp.mono ?_; rintro e x1 ⟨v, rfl, htv, k1⟩; obtain ⟨tv, yv, rfl⟩ := htv.iface; replace HB := yh (HB.out.keep k1 (by simp)); replace HK := yh (HK.out.trans k1); have HX := yh hx; have HGT := yh (HG.out t hx); have HTV := yh htv; clear hp hx k1 htv; go_wp2_with fail; refine wp_region_pen (fun w' => Blk w' w.heap.size [.int .i64 (p : Int), .string (mkS op), .iface ta ya, .iface tb yb] 103) 99 (by kernel_rfl) (by kernel_rfl) (fun c a d v w h => by cases d <;> exact h) (by exact HB.out.drew) ?_; simp only [List.length_cons, List.length_nil]; replace HB := yh HB.out.drew
  replace HK := yh HK.out.drew; replace HTV := yh (HTV.out.keep ((Keep.refl none _).drew)); generalize x1.drew = V2 at HB HK HTV ⊢; refine pen_list [0, 1, 2, 3, 4] ?_; repeat
   (refine penl_stable (getOp rfl) (by decide +kernel) (fun K hK => ?_)
    rw [if_pos (by rfl)]; apply Exists.intro; refine ⟨fun w' hS' => ?_, hK _ ?_⟩
    · replace hS' := Blk.cell hS'; go_simp; try with_reducible rfl
    clear hK K; simp only [Act.put, List.setIfInBounds_toArray, List.set])
  refine penl_end ?_; refine pen_active 5 (getOp rfl) (by decide +kernel) (fun K hK => ?_); rw [if_pos (by rfl)]; go_wp2_with fail; have hp := HA2.out V2 HK.out; cases hx : mk env b with
  | error c =>
   rw [hx] at hp; refine hp.mono ?_; rintro e x1 ⟨pl, rfl, k1⟩; have hRe : R = .error c := by rw [← HR.out]; simp [mk, HX.out, hx, andThen]
   subst hRe; exact ⟨rfl, pl, rfl, HK.out.trans k1⟩
  | ok t2 =>
   rw [hx] at hp; refine hp.mono ?_; rintro e x2 ⟨v2, rfl, htv2, k2⟩; obtain ⟨tv2, yv2, rfl⟩ := htv2.iface; replace HB := yh (HB.out.keep k2 (by simp)); replace HK := yh (HK.out.trans k2); have HX2 := yh hx; have HGT2 := yh (HG2.out t2 hx); have hu := binary_any p op (rank_signs HOP.out.2) ta tb ya yb t t2 HGT.out.1 HGT2.out.1 _ _ x2 (HTV.out.keep k2) htv2; clear hp hx k2 htv2; refine hK.out _ _ HB.out ?_; clear hK K; try simp only [Act.put, List.setIfInBounds_toArray, List.set]
   refine pen_active 6 (getOp rfl) (by decide +kernel) (fun K hK => ?_); rw [if_pos (by rfl)]; go_wp2_with fail; cases hx2 : mkBinary p op t t2 with
   | error c =>
    rw [hx2] at hu; refine hu.mono ?_; rintro e x3 ⟨pl, rfl, k1⟩; have hRe : R = .error c := by rw [← HR.out]; simp [mk, HX.out, HX2.out, hx2, andThen]
    subst hRe; exact ⟨rfl, pl, rfl, HK.out.trans k1⟩
   | ok u =>
    rw [hx2] at hu; refine hu.mono ?_; rintro e x3 ⟨vu, rfl, hvu, k3⟩; obtain ⟨tu, yu, rfl⟩ := hvu.iface; replace HB := yh (HB.out.keep k3 (by simp)); replace HK := yh (HK.out.trans k3); have HT := yh hvu; have HF := yh (mkBinary_fair HGT.out HGT2.out hx2); have HRT := yh (show R = chk u from by rw [← HR.out]; simp [mk, HX.out, HX2.out, hx2, andThen]); clear hu hx2 k3 hvu; refine hK.out _ _ HB.out ?_; clear hK K; try simp only [Act.put, List.setIfInBounds_toArray, List.set]
    refine pen_stable 7 (getOp rfl) (by decide +kernel) (fun K hK => ?_); rw [if_pos (by rfl)]; apply Exists.intro; refine ⟨fun w' hS' => ?_, hK _ ?_⟩
    · replace hS' := Blk.cell hS'; go_simp; try with_reducible rfl
    clear hK K; simp only [Act.put, List.setIfInBounds_toArray, List.set]; refine pen_done (by decide +kernel) ?_; replace hplace := hplace.out; go_wp2_with fail; have HPL := yh hplace; refine (size_any u (.iface tu yu) x3 HT.out HF.out.2.1 (by have := HF.out.2.2; omega)).mono ?_; rintro e xs ⟨rfl, ks⟩; replace HT := yh (HT.out.keep ks); replace HK := yh (HK.out.trans ks); by_cases hbig : 2000 < (u).size
    · have hb1 : (2000 : Int) < (((u).size : Nat) : Int) := by omega
      obtain ⟨ty', y', K', pp, hv', hm, hcl, hcall⟩ := HPL.out; cases hv'; go_wp2_with fail; refine (hcall _).mono ?_; rintro e xp ⟨rfl, kp⟩; go_wp2_with fail; refine (tm_fail _ _ _).mono ?_; rintro e xq ⟨rfl, rfl⟩; have hRe : R = .error 24 := by rw [HRT.out]; simp [chk, hbig]
      subst hRe; exact ⟨rfl, _, rfl, HK.out.trans kp⟩
    · have hb1 : ¬ (2000 : Int) < (((u).size : Nat) : Int) := by omega
      go_wp2_with fail; go_ret; have hRe : R = .ok (u) := by rw [HRT.out]; simp [chk, hbig]
      subst hRe; exact ⟨_, rfl, HT.out, HK.out⟩
theorem make_call (m : Nat) (env : Env) (p : Nat) (wd : Bs) (ab ac : Nat) (xs : List Ex) (es : List Value) (x : Ex) (hx : mk env x = andThen (andThen (mkArgs env xs) (mkCallL p wd)) chk) (hfair : ∀ t, andThen (mkArgs env xs) (mkCallL p wd) = .ok t → t.fair) (w : World) (hlen : es.length = xs.length) (hn : xs.length ≤ 3) (hac : xs.length ≤ ac)
 (hmake : ∀ (i : Nat) (x : Ex) (v : Value), xs[i]? = some x → es[i]? = some v → (∃ ty y, v = .iface ty y) ∧ ∀ V, Keep none w V → Calls Tryz.prog 21 #[.pointer (some ⟨m, 0, none⟩), v] V (TOut V (mk env x)))
 (hsm : ∀ x ∈ xs, ∀ t, mk env x = .ok t → t.small) (hpl : ∀ v ∈ es, PlaceAt v) (hex : ExRow w ab es) (har : arity wd = (xs.length : Int)) (hx1 : 1 ≤ xs.length) :
 Calls Tryz.prog 21 #[.pointer (some ⟨m, 0, none⟩), .iface 114 (.agg #[.int .i64 (p : Int), .string (mkS wd), .slice (some ⟨ab, 0, none⟩) xs.length ac])] w (TOut w (mk env x)) := by
 have hplace := yh (place_114 p (mkS wd) ab xs.length ac); have HC := yh (fun V (k : Keep none w V) => call_any m p wd ab ac env xs es V hlen hn hac (fun i x v h1 h2 => ⟨(hmake i x v h1 h2).1, fun V2 k2 => (hmake i x v h1 h2).2 V2 (k.trans k2)⟩) hsm hpl (hex.keep k (NotRow.none _ _)) har hx1); have HFR := yh hfair; obtain ⟨R, hR⟩ : ∃ R, mk env x = R := ⟨_, rfl⟩; rw [hR]; rw [hx] at hR; have HR := yh hR; clear hlen hac hmake hsm hpl hex har hx1 hfair hR hx; go_enter Tryz.func21, Tryz.ntmps21; go_wp2_with fail; have HK := yh ((Keep.refl none w).alloc (.cells #[.int .i64 (p : Int), .string (mkS wd), .slice (some ⟨ab, 0, none⟩) xs.length ac] 114))
 generalize World.alloc w _ = V at HK ⊢; have hp := HC.out V HK.out; cases hx : andThen (mkArgs env xs) (mkCallL p wd) with
 | error c =>
  rw [hx] at hp; refine hp.mono ?_; rintro e x1 ⟨pl, rfl, k1⟩; have hRe : R = .error c := by rw [← HR.out]; rw [hx]; rfl
  subst hRe; exact ⟨rfl, pl, rfl, HK.out.trans k1⟩
 | ok u =>
  rw [hx] at hp; refine hp.mono ?_; rintro e x1 ⟨vu, rfl, hvu, k1⟩; obtain ⟨tu, yu, rfl⟩ := hvu.iface; replace HK := yh (HK.out.trans k1); have HT := yh hvu; have HF := yh (HFR.out u hx); have HRT := yh (show R = chk u from by rw [← HR.out, hx]; rfl); clear hp hx k1 hvu; replace hplace := hplace.out; go_wp2_with fail; have HPL := yh hplace; refine (size_any u (.iface tu yu) x1 HT.out HF.out.2.1 (by have := HF.out.2.2; omega)).mono ?_; rintro e xs ⟨rfl, ks⟩; replace HT := yh (HT.out.keep ks); replace HK := yh (HK.out.trans ks); by_cases hbig : 2000 < (u).size
  · have hb1 : (2000 : Int) < (((u).size : Nat) : Int) := by omega
    obtain ⟨ty', y', K', pp, hv', hm, hcl, hcall⟩ := HPL.out; cases hv'; go_wp2_with fail; refine (hcall _).mono ?_; rintro e xp ⟨rfl, kp⟩; go_wp2_with fail; refine (tm_fail _ _ _).mono ?_; rintro e xq ⟨rfl, rfl⟩; have hRe : R = .error 24 := by rw [HRT.out]; simp [chk, hbig]
    subst hRe; exact ⟨rfl, _, rfl, HK.out.trans kp⟩
  · have hb1 : ¬ (2000 : Int) < (((u).size : Nat) : Int) := by omega
    go_wp2_with fail; go_ret; have hRe : R = .ok (u) := by rw [HRT.out]; simp [chk, hbig]
    subst hRe; exact ⟨_, rfl, HT.out, HK.out⟩
theorem get1 {α : Type} {a : α} {i : Nat} {y : α} (h : [a][i]? = some y) : i = 0 ∧ y = a := by
 match i, h with
 | 0, h => exact ⟨rfl, (Option.some.inj h).symm⟩
theorem get2 {α : Type} {a b : α} {i : Nat} {y : α} (h : [a, b][i]? = some y) : (i = 0 ∧ y = a) ∨ (i = 1 ∧ y = b) := by
 match i, h with
 | 0, h => exact .inl ⟨rfl, (Option.some.inj h).symm⟩
 | 1, h => exact .inr ⟨rfl, (Option.some.inj h).symm⟩
theorem get3 {α : Type} {a b c : α} {i : Nat} {y : α} (h : [a, b, c][i]? = some y) : (i = 0 ∧ y = a) ∨ (i = 1 ∧ y = b) ∨ (i = 2 ∧ y = c) := by
 match i, h with
 | 0, h => exact .inl ⟨rfl, (Option.some.inj h).symm⟩
 | 1, h => exact .inr (.inl ⟨rfl, (Option.some.inj h).symm⟩)
 | 2, h => exact .inr (.inr ⟨rfl, (Option.some.inj h).symm⟩)
theorem make_any (m : Nat) (env : Env) (he : env.good) : ∀ (x : Ex), Wf x → x.trim → ∀ (v : Value) (w : World) (ok : Nat → Prop), ExV w ok x v → MkV w m env → Escs w →
 Calls Tryz.prog 21 #[.pointer (some ⟨m, 0, none⟩), v] w (TOut w (mk env x)) := by
 intro x; induction x with
 | name p s =>
  intro hw ht v w ok h hM hE; obtain rfl : v = _ := h; exact make_name m env p s ht w hM
 | text p s =>
  intro hw ht v w ok h hM hE; obtain rfl : v = _ := h; exact make_text m env p s w
 | rx p s =>
  intro hw ht v w ok h hM hE; obtain rfl : v = _ := h; exact make_rx m env p s ht w hE
 | keyed p a iha =>
  intro hw ht v w ok h hM hE; obtain ⟨va, h1, rfl⟩ := h; have hA := fun V (k : Keep none w V) => iha hw ht va V ok (h1.keep k (NotRow.none _ _)) (hM.keep k) (hE.keep k)
  obtain ⟨ta, ya, rfl⟩ := h1.iface; exact make_keyed m env he p a ht ta ya w hA
 | unary p op a iha =>
  intro hw ht v w ok h hM hE; obtain ⟨va, h1, rfl⟩ := h; have hA := fun V (k : Keep none w V) => iha hw.2 ht va V ok (h1.keep k (NotRow.none _ _)) (hM.keep k) (hE.keep k)
  obtain ⟨ta, ya, rfl⟩ := h1.iface; exact make_unary m env he p op hw.1 a ht ta ya w hA
 | binary p op a b iha ihb =>
  intro hw ht v w ok h hM hE; obtain ⟨va, vb, h1, h2, rfl⟩ := h; have hA := fun V (k : Keep none w V) => iha hw.2.2.1 ht.1 va V ok (h1.keep k (NotRow.none _ _)) (hM.keep k) (hE.keep k)
  have hB := fun V (k : Keep none w V) => ihb hw.2.2.2 ht.2 vb V ok (h2.keep k (NotRow.none _ _)) (hM.keep k) (hE.keep k)
  obtain ⟨ta, ya, rfl⟩ := h1.iface; obtain ⟨tb, yb, rfl⟩ := h2.iface; exact make_binary m env he p op ⟨hw.1, hw.2.1⟩ a b ht.1 ht.2 ta ya tb yb w hA hB
 | call1 p wd a iha =>
  intro hw ht v w ok h hM hE; have hta : a.trim := ht; obtain ⟨b, c, va, ⟨hb, hrow⟩, h1, hc, rfl⟩ := h; have hA := fun V (k : Keep none w V) => iha hw.2 ht va V ok (h1.keep k (NotRow.none _ _)) (hM.keep k) (hE.keep k)
  refine make_call m env p wd b c [a] [va] (.call1 p wd a) ?_ ?_ w rfl (by simp) hc ?_ ?_ ?_ hrow hw.1 (by simp)
  · simp only [mk, mkArgs]; cases mk env a with
    | error e => rfl
    | ok t => rfl
  · intro t ht'; obtain ⟨ts, h3, h4⟩ := andThen_ok ht'; obtain ⟨t1, h5, h6⟩ := andThen_ok h3; cases h6; exact mkCall1_fair (mk_good he hta h5) h4
  · intro i x v hx hv; obtain ⟨rfl, rfl⟩ := get1 hx; obtain ⟨_, rfl⟩ := get1 hv; exact ⟨h1.iface, hA⟩
  · intro x hx t h5; rw [List.mem_singleton] at hx; subst hx; exact (mk_good he hta h5).1
  · intro v hv; rw [List.mem_singleton] at hv; subst hv; exact h1.place
 | call2 p wd a1 a2 ih1 ih2 =>
  intro hw ht v w ok h hM hE; obtain ⟨b, c, va, vb, ⟨hb, hrow⟩, h1, h2, hc, rfl⟩ := h; have hA := fun V (k : Keep none w V) => ih1 hw.2.1 ht.1 va V ok (h1.keep k (NotRow.none _ _)) (hM.keep k) (hE.keep k)
  have hB := fun V (k : Keep none w V) => ih2 hw.2.2 ht.2 vb V ok (h2.keep k (NotRow.none _ _)) (hM.keep k) (hE.keep k)
  refine make_call m env p wd b c [a1, a2] [va, vb] (.call2 p wd a1 a2) ?_ ?_ w rfl (by simp) hc ?_ ?_ ?_ hrow hw.1 (by simp)
  · simp only [mk, mkArgs]; cases mk env a1 with
    | error e => rfl
    | ok t =>
     cases mk env a2 with
     | error e => rfl
     | ok t => rfl
  · intro t ht'; obtain ⟨ts, h3, h4⟩ := andThen_ok ht'; obtain ⟨t1, h5, h6⟩ := andThen_ok h3; obtain ⟨ts2, h7, h6⟩ := andThen_ok h6; obtain ⟨t2, h8, h9⟩ := andThen_ok h7; cases h9; cases h6; exact mkCall2_fair (mk_good he ht.1 h5) (mk_good he ht.2 h8) h4
  · intro i x v hx hv; rcases get2 hx with ⟨rfl, rfl⟩ | ⟨rfl, rfl⟩
    · obtain rfl : va = v := by simpa using hv
      exact ⟨h1.iface, hA⟩
    · obtain rfl : vb = v := by simpa using hv
      exact ⟨h2.iface, hB⟩
  · intro x hx t h5; simp only [List.mem_cons, List.not_mem_nil, or_false] at hx; rcases hx with rfl | rfl
    · exact (mk_good he ht.1 h5).1
    · exact (mk_good he ht.2 h5).1
  · intro v hv; simp only [List.mem_cons, List.not_mem_nil, or_false] at hv; rcases hv with rfl | rfl
    · exact h1.place
    · exact h2.place
 | call3 p wd a1 a2 a3 ih1 ih2 ih3 =>
  intro hw ht v w ok h hM hE; obtain ⟨b, c, va, vb, vc, ⟨hb, hrow⟩, h1, h2, h3, hc, rfl⟩ := h; have hA := fun V (k : Keep none w V) => ih1 hw.2.1 ht.1 va V ok (h1.keep k (NotRow.none _ _)) (hM.keep k) (hE.keep k)
  have hB := fun V (k : Keep none w V) => ih2 hw.2.2.1 ht.2.1 vb V ok (h2.keep k (NotRow.none _ _)) (hM.keep k) (hE.keep k)
  have hC := fun V (k : Keep none w V) => ih3 hw.2.2.2 ht.2.2 vc V ok (h3.keep k (NotRow.none _ _)) (hM.keep k) (hE.keep k)
  refine make_call m env p wd b c [a1, a2, a3] [va, vb, vc] (.call3 p wd a1 a2 a3) ?_ ?_ w rfl (by simp) hc ?_ ?_ ?_ hrow hw.1 (by simp)
  · simp only [mk, mkArgs]; cases mk env a1 with
    | error e => rfl
    | ok t =>
     cases mk env a2 with
     | error e => rfl
     | ok t =>
      cases mk env a3 with
      | error e => rfl
      | ok t => rfl
  · intro t ht'; obtain ⟨ts, h3, h4⟩ := andThen_ok ht'; obtain ⟨t1, h5, h6⟩ := andThen_ok h3; obtain ⟨ts2, h7, h6⟩ := andThen_ok h6; obtain ⟨t2, h8, h9⟩ := andThen_ok h7; obtain ⟨ts3, h10, h9⟩ := andThen_ok h9; obtain ⟨t3, h11, h12⟩ := andThen_ok h10; cases h12; cases h9; cases h6; exact mkCall3_fair (mk_good he ht.1 h5) (mk_good he ht.2.1 h8) (mk_good he ht.2.2 h11) h4
  · intro i x v hx hv; rcases get3 hx with ⟨rfl, rfl⟩ | ⟨rfl, rfl⟩ | ⟨rfl, rfl⟩
    · obtain rfl : va = v := by simpa using hv
      exact ⟨h1.iface, hA⟩
    · obtain rfl : vb = v := by simpa using hv
      exact ⟨h2.iface, hB⟩
    · obtain rfl : vc = v := by simpa using hv
      exact ⟨h3.iface, hC⟩
  · intro x hx t h5; simp only [List.mem_cons, List.not_mem_nil, or_false] at hx; rcases hx with rfl | rfl | rfl
    · exact (mk_good he ht.1 h5).1
    · exact (mk_good he ht.2.1 h5).1
    · exact (mk_good he ht.2.2 h5).1
  · intro v hv; simp only [List.mem_cons, List.not_mem_nil, or_false] at hv; rcases hv with rfl | rfl | rfl
    · exact h1.place
    · exact h2.place
    · exact h3.place
end Go.Proofs.YtmfabihndpidnaaGreatDoor
