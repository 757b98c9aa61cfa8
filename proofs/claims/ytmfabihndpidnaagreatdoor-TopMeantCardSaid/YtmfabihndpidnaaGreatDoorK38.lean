/-
  Terms: term.call, by words.
-/
import Derived.Test.YtmfabihndpidnaaGreatDoorK37
import Derived.Test.YtmfabihndpidnaaGreatDoorK03
namespace Go.Proofs.YtmfabihndpidnaaGreatDoor
set_option maxHeartbeats 8000000
open Go.RowKit
set_option maxRecDepth 100000
set_option linter.unusedVariables false
set_option linter.unusedSimpArgs false
theorem list2 {α : Type} {l : List α} (h : l.length = 2) : ∃ a b, l = [a, b] := by
 match l, h with
 | [a, b], _ => exact ⟨a, b, rfl⟩
theorem list3 {α : Type} {l : List α} (h : l.length = 3) : ∃ a b c, l = [a, b, c] := by
 match l, h with
 | [a, b, c], _ => exact ⟨a, b, c, rfl⟩
theorem arity_cases (s : Bs) (n : Nat) (h : arity s = (n : Int)) (h1 : 1 ≤ n) : (n = 1 ∧ s = [105, 100]) ∨ (n = 1 ∧ s = [102, 111, 108, 100]) ∨ (n = 3 ∧ s = [110, 111, 114, 109]) ∨ (n = 2 ∧ s = [100, 101, 108]) ∨ (n = 1 ∧ s = [105, 110, 115]) ∨ (n = 1 ∧ s = [99, 111, 112, 121]) ∨ (n = 1 ∧ s = [107, 101, 121]) ∨ (n = 2 ∧ s = [108, 101, 102, 116]) ∨ (n = 2 ∧ s = [114, 105, 103, 104, 116]) ∨ (n = 2 ∧ s = [100, 101, 102, 97, 117, 108, 116]) := by
 unfold arity at h; split at h
 · rename_i hs; have : n = 1 := by omega
   subst this; rcases hs with rfl | rfl | rfl | rfl | rfl <;> simp
 · split at h
   · rename_i hs; have : n = 2 := by omega
     subst this; rcases hs with rfl | rfl | rfl | rfl <;> simp
   · split at h
     · rename_i hs; have : n = 3 := by omega
       subst this; subst hs; simp
     · split at h <;> omega
theorem call_any (mb p : Nat) (wd : Bs) (ab ac : Nat) (env : Env) (xs : List Ex) (es : List Value) (w : World) (hlen : es.length = xs.length) (hn : xs.length ≤ 3) (hac : xs.length ≤ ac)
 (hmake : ∀ (i : Nat) (x : Ex) (v : Value), xs[i]? = some x → es[i]? = some v → (∃ ty y, v = .iface ty y) ∧ ∀ V, Keep none w V → Calls Tryz.prog 21 #[.pointer (some ⟨mb, 0, none⟩), v] V (TOut V (mk env x)))
 (hsm : ∀ x ∈ xs, ∀ t, mk env x = .ok t → t.small) (hpl : ∀ v ∈ es, PlaceAt v) (hex : ExRow w ab es) (har : arity wd = (xs.length : Int)) (hx1 : 1 ≤ xs.length) :
 Calls Tryz.prog 44 #[.pointer (some ⟨mb, 0, none⟩), .agg #[.int .i64 (p : Int), .string (mkS wd), .slice (some ⟨ab, 0, none⟩) xs.length ac]] w (TOut w (andThen (mkArgs env xs) (mkCallL p wd))) := by
 obtain ⟨R, hR⟩ : ∃ R, andThen (mkArgs env xs) (mkCallL p wd) = R := ⟨_, rfl⟩; rw [hR]; have HR := yh hR; have HMK := yh hmake; have HSM := yh hsm; have HPL := yh hpl; have HLE := yh hlen; have HAR := yh har; have hablt : ab < w.heap.size := by obtain ⟨cs, fr, h1, _⟩ := hex; exact lt_of_block h1
 have HEX := yh hex; clear hR hmake hsm hpl hlen har hex; go_enter Tryz.func44, Tryz.ntmps44; go_wp2_with fail; have HT := yh (show CallI w ((w.alloc (.cells #[.int .i64 (p : Int), .string (mkS wd), .slice (some ⟨ab, 0, none⟩) xs.length ac] 114)).alloc (.cells #[.int .i64 (p : Int), .string (mkS wd), .slice (some ⟨ab, 0, none⟩) xs.length ac, .slice none 0 0, .int .i64 0] 157)) (w.heap.size + 1) p wd ab ac xs.length es (.slice none 0 0) [] [] from by
  refine ⟨(Blk.new w _ 114).alloc _, ?_, ⟨rfl, .inl ⟨rfl, rfl⟩⟩, trivial, HEX.out.keep (((Keep.refl none w).alloc _).alloc _) (NotRow.none _ _), ((Keep.refl none w).alloc _).alloc _, rfl⟩; have := Blk.new (w.alloc (.cells #[.int .i64 (p : Int), .string (mkS wd), .slice (some ⟨ab, 0, none⟩) xs.length ac] 114)) [.int .i64 (p : Int), .string (mkS wd), .slice (some ⟨ab, 0, none⟩) xs.length ac, .slice none 0 0, .int .i64 0] 157; rw [show (w.alloc (.cells #[.int .i64 (p : Int), .string (mkS wd), .slice (some ⟨ab, 0, none⟩) xs.length ac] 114)).heap.size = w.heap.size + 1 by simp] at this; exact this)
 generalize World.alloc (World.alloc w _) _ = W at HT ⊢; go_loopw [16] (fun kv wr => ∃ (k : Nat) (st : Value) (ts : List Tm) (vs : List Value), kv = .int .i64 (k : Int) ∧ k ≤ xs.length ∧ ts.length = k ∧ andThen (andThen (mkArgs env (xs.drop k)) fun r => .ok (ts ++ r)) (mkCallL p wd) = R ∧ (∀ t ∈ ts, t.small) ∧ CallI w wr (w.heap.size + 1) p wd ab ac xs.length es st ts vs) (fun kv _ => xs.length - (intOf kv).toNat)
 case atStart =>
  refine ⟨0, _, [], [], rfl, by omega, rfl, ?_, by simp, HT.out⟩; rw [← HR.out, List.drop_zero]; cases mkArgs env xs <;> rfl
 case round =>
  clear HT HR; obtain ⟨k, st, ts, vs, rfl, hk, htl, hR, hts, hT⟩ := hrel; have HT := yh hT; have HR := yh hR; have HTS := yh hts; have HTL := yh htl; clear hT hR hts htl; have hwk : IntKind.i64.wrap ((k : Int) + 1) = (k : Int) + 1 := IntWalk.i64_in _ (by omega); by_cases hlt : k < xs.length
  · have b0 : ((k : Int) < (xs.length : Int)) := by omega
    have b1 : (0 : Int) ≤ (k : Int) := by omega
    obtain ⟨x, hxk⟩ : ∃ x, xs[k]? = some x := ⟨_, List.getElem?_eq_getElem hlt⟩; obtain ⟨v, hvk⟩ : ∃ v, es[k]? = some v := ⟨_, List.getElem?_eq_getElem (by rw [HLE.out]; exact hlt)⟩; obtain ⟨⟨tv, yv, rfl⟩, hcall⟩ := HMK.out k x v hxk hvk; have hcx : wr.cell? ⟨ab, k, none⟩ = some (.iface tv yv) := by
     obtain ⟨cs, fr, h1, h2⟩ := HT.out.ex; have hj : k < es.length := by rw [HLE.out]; exact hlt
     simp [World.cell?, h1, h2 k hj, hvk]
    have HXK := yh (List.mem_of_getElem? hxk); have HRX := yh (show andThen (andThen (mk env x) fun t => andThen (mkArgs env (xs.drop (k + 1))) fun r => .ok (ts ++ t :: r)) (mkCallL p wd) = R from by
     rw [← HR.out, List.drop_eq_getElem_cons hlt, mkArgs]; rw [List.getElem?_eq_getElem hlt] at hxk; rw [Option.some.inj hxk]; cases mk env x with
     | error e => rfl
     | ok t => simp only [andThen]; cases mkArgs env (xs.drop (k + 1)) <;> rfl)
    have HCL := yh hcall; clear hxk hvk hcall; obtain ⟨so, sn, sc, rfl⟩ : ∃ so sn sc, st = .slice so sn sc := by
     rcases HT.out.own.2 with ⟨h, _⟩ | ⟨g', cap', cur, h, _⟩
     · exact ⟨_, _, _, h⟩
     · exact ⟨_, _, _, h⟩
    have hcx2 := hcx; go_wp2_with fail; clear hcx2; refine wp_region_pen (fun w' => Blk w' (w.heap.size + 1) [.int .i64 (p : Int), .string (mkS wd), .slice (some ⟨ab, 0, none⟩) xs.length ac, .slice so sn sc, .int .i64 0] 157) 12 (by kernel_rfl) (by kernel_rfl) (fun c a d v w h => by cases d <;> exact h) (by exact HT.out.arg.drew) ?_; simp only [List.length_cons, List.length_nil]; clear hcx; replace HT := yh (HT.out.keep ((Keep.refl none _).drew)); generalize wr.drew = V0 at HT ⊢; refine pen_list [0, 1, 2, 3, 4, 5, 6] ?_; repeat
     (refine penl_stable (getOp rfl) (by decide +kernel) (fun K hK => ?_)
      rw [if_pos (by rfl)]; apply Exists.intro; refine ⟨fun w' hS' => ?_, hK _ ?_⟩
      · replace hS' := Blk.cell hS'; go_simp; try with_reducible rfl
      clear hK K; simp only [Act.put, List.setIfInBounds_toArray, List.set])
    refine penl_end ?_; cases hx : mk env x with
    | error c =>
     have hc2 := HCL.out V0 HT.out.k; rw [hx] at hc2; refine pen_active 7 (getOp rfl) (by decide +kernel) (fun K hK => ?_); rw [if_pos (by rfl)]; go_wp2_with fail; refine hc2.mono ?_; rintro e x3 ⟨pl, rfl, kx3⟩; have hRe : R = .error c := by
      have h0 := HRX.out; rw [hx] at h0; exact h0.symm
     subst hRe; exact ⟨rfl, pl, rfl, HT.out.k.trans kx3⟩
    | ok t =>
     have hc2 := HCL.out V0 HT.out.k; rw [hx] at hc2; refine pen_active 7 (getOp rfl) (by decide +kernel) (fun K hK => ?_); rw [if_pos (by rfl)]; go_wp2_with fail; refine hc2.mono ?_; rintro e x3 ⟨vt, rfl, hvt, kx3⟩; obtain ⟨tt, yt, rfl⟩ := hvt.iface; have HST := yh (HSM.out x HXK.out t hx); replace HRX := yh (show andThen (andThen (mkArgs env (xs.drop (k + 1))) fun r => .ok (ts ++ t :: r)) (mkCallL p wd) = R from by
      have h0 := HRX.out; rw [hx] at h0; exact h0)
     replace HT := yh (HT.out.keep kx3); have HVT := yh hvt; clear hvt kx3 hc2 hx; refine hK.out _ _ HT.out.arg ?_; clear hK K; try simp only [Act.put, List.setIfInBounds_toArray, List.set]
     refine pen_active 8 (getOp rfl) (by decide +kernel) (fun K hK => ?_); rw [if_pos (by rfl)]; go_simp; refine hK.out _ _ (HT.out.arg.alloc _) ?_; clear hK K; try simp only [Act.put, List.setIfInBounds_toArray, List.set]
     have NB := yh (Blk.new x3 [.iface tt yt] 23); replace HT := yh (HT.out.keep ((Keep.refl none x3).alloc (.cells #[.iface tt yt] 23))); replace HVT := yh (HVT.out.keep ((Keep.refl none x3).alloc (.cells #[.iface tt yt] 23))); change Pen _ _ _ _ _ _ _ _ (World.alloc x3 (.cells #[.iface tt yt] 23)); generalize World.alloc x3 (.cells #[.iface tt yt] 23) = V1 at NB HT HVT ⊢; generalize x3.heap.size = nb at NB ⊢; obtain ⟨i0, hi, hz0, hz1, hz2⟩ := info_parts info23; have hbase : w.heap.size ≤ V1.heap.size := HT.out.k.size; have hvl : vs.length = k := by rw [← HT.out.tms.len]; exact HTL.out
     have hsn : sn = vs.length := by
      rcases HT.out.own.2 with ⟨h, h0⟩ | ⟨g', cap', cur, h, _⟩
      · cases h; exact h0.symm
      · cases h; rfl
     have hmx : vs.length + 1 ≤ maxLen := by unfold maxLen; omega
     have hm2 : vs.length + 1 < 1000 := by omega
     clear hvl; refine pen_active 9 (getOp rfl) (by decide +kernel) (fun K hK => ?_); rw [if_pos (by rfl)]; refine wp_append_lies _ _ _ _ (by rfl) w.heap.size 23 i0 _ 1 16 Tryz.underlying155 hi hz0 hz1 hz2 rfl (by omega) (.slice so sn sc) vs.length vs (by rfl) HT.out.own ⟨nb, 0, none⟩ 1 1 [.iface tt yt] (by rfl) (by rfl) (World.news_of_block NB.out) (by simp [Value.oneCell']) (by omega) hmx (by omega) hbase V1.heap.size rfl ?_; intro rb cap V2 hown hgrow hat hlt2; have hrow := own_base HT.out.own; have HBX := yh (show Blk V2 w.heap.size _ 114 from Blk.grown HT.out.box hgrow (own_ne HT.out.own HT.out.box (by decide)))
     have HAG := yh (show Blk V2 (w.heap.size + 1) _ 157 from Blk.grown HT.out.arg hgrow (own_ne HT.out.own HT.out.arg (by decide))); have HKV := yh (HT.out.k.grown hgrow (fun k hk => .inr (hrow k hk))); have hgk : Keep (Value.slice so sn sc).ownBlock V1 V2 := ⟨hgrow.os, hgrow.tape, hgrow.output, hgrow.size, fun k hk hne => hgrow.block k hk hne⟩; have n86 := NotRow.own HT.out.own (t := 86) (by decide); have n89 := NotRow.own HT.out.own (t := 89) (by decide); have n55 := NotRow.own HT.out.own (t := 55) (by decide); have HTM := yh (HT.out.tms.keepA hgk n86 n89); have HVT2 := yh (HVT.out.keepA hgk n86 n89)
     have HXR := yh (HT.out.ex.keep hgk n55); have HOW := yh hown; clear hown hgrow hat hlt2 hi hz0 hz1 hz2 HT NB hbase hmx hgk n86 n89 n55 hrow HVT; refine hK.out _ _ HAG.out ?_; clear hK K; simp only [Act.put, List.setIfInBounds_toArray, List.set]; refine pen_active 10 (getOp rfl) (by decide +kernel) (fun K hK => ?_); rw [if_pos (by rfl)]; go_simp; refine hK.out _ _ (HAG.out) ?_; clear hK K; try simp only [Act.put, List.setIfInBounds_toArray, List.set]
     refine pen_stable 11 (getOp rfl) (by decide +kernel) (fun K hK => ?_); rw [if_pos (by rfl)]; apply Exists.intro; refine ⟨fun w' hS' => ?_, hK _ ?_⟩
     · replace hS' := Blk.cell hS'; go_simp; try with_reducible rfl
     clear hK K; simp only [Act.put, List.setIfInBounds_toArray, List.set]; have hcg := HAG.out.cell; have hfg := HAG.out.frozen; refine pen_last 12 (getOp rfl) (by decide +kernel) (by decide +kernel) (by decide +kernel) (fun K hK => ?_); rw [if_pos (by rfl)]; go_simp; refine hK.out _ _ ?_; clear hcg hfg; have HN := yh (show CallI w (V2.setCell ⟨w.heap.size + 1, 3, none⟩ (.slice (some ⟨rb, 0, none⟩) (vs.length + 1) cap)) (w.heap.size + 1) p wd ab ac xs.length es (.slice (some ⟨rb, 0, none⟩) (vs.length + 1) cap) (ts ++ [t]) (vs ++ [.iface tt yt]) from by
      have kk := (Keep.refl (some (w.heap.size + 1)) V2).set ⟨w.heap.size + 1, 3, none⟩ (.slice (some ⟨rb, 0, none⟩) (vs.length + 1) cap) (.inl rfl); have n (t : TypeId) (h : (157 : TypeId) ≠ t) : NotRow t (some (w.heap.size + 1)) V2 := NotRow.blk HAG.out h; refine ⟨HBX.out.keep kk (by simp), HAG.out.set 3 _, ?_, (HTM.out.snoc HVT2.out).keepA kk (n 86 (by decide)) (n 89 (by decide)), HXR.out.keep kk (n 55 (by decide)), HKV.out.set _ _ (.inr (by simp)), rfl⟩; have := own_keep HOW.out kk (n 23 (by decide)); simpa using this)
     clear HBX HAG HKV HTM HVT2 HXR HOW; generalize World.setCell V2 _ _ = V3 at HN ⊢; go_wp2_with fail; go_roundw; case rel =>
      refine ⟨k + 1, _, ts ++ [t], _, rfl, by omega, by rw [List.length_append, HTL.out]; rfl, ?_, ?_, HN.out⟩
      · rw [← HRX.out]; cases mkArgs env (xs.drop (k + 1)) <;> simp [andThen]
      · intro u hu; rcases List.mem_append.1 hu with hu | hu
        · exact HTS.out u hu
        · rw [List.mem_singleton] at hu; subst hu; exact HST.out
     case measure =>
      simp only [intOf, Int.toNat_natCast]; omega
  · have b0 : ¬ ((k : Int) < (xs.length : Int)) := by omega
    have HRE := yh (show mkCallL p wd ts = R from by
     have h0 := HR.out; rw [show xs.drop k = [] from List.drop_eq_nil_of_le (by omega)] at h0; simpa [mkArgs, andThen] using h0)
    have hxl : k = xs.length := by omega
    have HVL := yh (show xs.length = vs.length from by rw [← HT.out.tms.len, HTL.out]; exact hxl.symm); obtain ⟨tb, tc, rfl, hA⟩ := HT.out.args HVL.out hx1 HLE.out hn; have HA := yh hA; have hcb := HT.out.box.cell; clear HR hA HMK; rcases arity_cases wd xs.length HAR.out hx1 with ⟨hn, rfl⟩ | ⟨hn, rfl⟩ | ⟨hn, rfl⟩ | ⟨hn, rfl⟩ | ⟨hn, rfl⟩ | ⟨hn, rfl⟩ | ⟨hn, rfl⟩ | ⟨hn, rfl⟩ | ⟨hn, rfl⟩ | ⟨hn, rfl⟩
    · obtain ⟨t0, rfl⟩ : ∃ t0, ts = [t0] := by
       have h := HTL.out; rw [show k = 1 by omega] at h; exact List.length_eq_one_iff.1 h
      obtain ⟨v0, rfl⟩ : ∃ v0, vs = [v0] := by
       have h := HVL.out; rw [hn] at h; exact List.length_eq_one_iff.1 h.symm
      obtain ⟨hv0, _⟩ := HT.out.tms; have HV0 := yh hv0; have HS0 := yh (HTS.out t0 (by simp)); clear hv0; have hcb2 := (HT.out.box.alloc (.cells #[.int .i64 (p : Int), .string (mkS [105, 100]), .nilIface, .string ⟨#[]⟩, .pointer none, .pointer none, .pointer none] 89)).cell; go_wp2_with fail; have HN0 := yh (HV0.out.keep ((Keep.refl none wr).alloc (.cells #[.int .i64 (p : Int), .string (mkS [105, 100]), .nilIface, .string ⟨#[]⟩, .pointer none, .pointer none, .pointer none] 89))); have HAV := yh (HA.out.keep ((Keep.refl none wr).alloc (.cells #[.int .i64 (p : Int), .string (mkS [105, 100]), .nilIface, .string ⟨#[]⟩, .pointer none, .pointer none, .pointer none] 89)))
      have HBX := yh (HT.out.box.alloc (.cells #[.int .i64 (p : Int), .string (mkS [105, 100]), .nilIface, .string ⟨#[]⟩, .pointer none, .pointer none, .pointer none] 89)); have HKV := yh ((Keep.refl (some (w.heap.size + 1)) wr).alloc (.cells #[.int .i64 (p : Int), .string (mkS [105, 100]), .nilIface, .string ⟨#[]⟩, .pointer none, .pointer none, .pointer none] 89)); clear hcb hcb2; generalize World.alloc wr (.cells #[.int .i64 (p : Int), .string (mkS [105, 100]), .nilIface, .string ⟨#[]⟩, .pointer none, .pointer none, .pointer none] 89) = V1 at HN0 HAV HBX HKV ⊢; refine wp_region_pen (fun w' => Blk w' w.heap.size [.int .i64 (p : Int), .string (mkS [105, 100]), .slice (some ⟨ab, 0, none⟩) xs.length ac] 114) 99 (by kernel_rfl) (by kernel_rfl) (fun c a d v w h => by cases d <;> exact h) (by exact HBX.out.drew) ?_
      simp only [List.length_cons, List.length_nil]; replace HN0 := yh (HN0.out.keep ((Keep.refl none _).drew)); replace HAV := yh (HAV.out.keep ((Keep.refl none _).drew)); replace HBX := yh HBX.out.drew; replace HKV := yh HKV.out.drew; generalize V1.drew = V2 at HN0 HAV HBX HKV ⊢; refine pen_list [0, 1, 2, 3, 4] ?_; repeat
       (refine penl_stable (getOp rfl) (by decide +kernel) (fun K hK => ?_)
        rw [if_pos (by rfl)]; apply Exists.intro; refine ⟨fun w' hS' => ?_, hK _ ?_⟩
        · replace hS' := Blk.cell hS'; go_simp; try with_reducible rfl
        clear hK K; simp only [Act.put, List.setIfInBounds_toArray, List.set])
      refine penl_end ?_; have hc := ag_node (w.heap.size + 1) p [105, 100] ab ac es tb tc [v0] 0 (by simp) HPL.out t0 v0 rfl V2 HAV.out HN0.out HS0.out; cases hq0 : t0.node? with
      | none =>
       rw [hq0] at hc; refine pen_active 5 (getOp rfl) (by decide +kernel) (fun K hK => ?_); rw [if_pos (by rfl)]; go_wp2_with fail; refine hc.mono ?_; rintro e x1 ⟨⟨pl, rfl⟩, k1⟩; have hRe : R = .error 72 := by rw [← HRE.out]; simp [mkCallL, mkCall1, mkCall2, mkCall3, needNode, needText, needCanon, needLens, andThen, hq0]
       subst hRe; exact ⟨rfl, pl, rfl, HT.out.k.trans_new (HKV.out.trans k1) (by omega)⟩
      | some n0 =>
       rw [hq0] at hc; refine pen_active 5 (getOp rfl) (by decide +kernel) (fun K hK => ?_); rw [if_pos (by rfl)]; go_wp2_with fail; refine hc.mono ?_; rintro e x1 ⟨rfl, hA1, k1⟩; obtain ⟨ty0, y0, hnd⟩ := ndV_iface n0; rw [hnd]; have HND0 := yh hnd; replace HBX := yh (HBX.out.keep k1 (by simp)); replace HKV := yh (HKV.out.trans k1); have HA2 := yh hA1; clear HAV hA1 k1 hnd hc; refine hK.out _ _ HBX.out ?_; clear hK K; try simp only [Act.put, List.setIfInBounds_toArray, List.set]
       refine pen_stable 6 (getOp rfl) (by decide +kernel) (fun K hK => ?_); rw [if_pos (by rfl)]; apply Exists.intro; refine ⟨fun w' hS' => ?_, hK _ ?_⟩
       · replace hS' := Blk.cell hS'; go_simp; try with_reducible rfl
       clear hK K; simp only [Act.put, List.setIfInBounds_toArray, List.set]; refine pen_active 7 (getOp rfl) (by decide +kernel) (fun K hK => ?_); rw [if_pos (by rfl)]; go_simp; refine hK.out _ _ (HBX.out.alloc _) ?_; clear hK K; try simp only [Act.put, List.setIfInBounds_toArray, List.set]
       have HM := yh (show Mid wr (x1.alloc (.cells #[.int .i64 (p : Int), .string (mkS [105, 100]), .iface ty0 y0, .string ⟨#[]⟩, .string ⟨#[]⟩, .pointer none, .pointer none] 86)) (w.heap.size + 1) p [105, 100] ab ac es tb tc [v0] 1 x1.heap.size [.int .i64 (p : Int), .string (mkS [105, 100]), .iface ty0 y0, .string ⟨#[]⟩, .string ⟨#[]⟩, .pointer none, .pointer none] 86 from ⟨HKV.out.alloc _, HA2.out.keep ((Keep.refl _ _).alloc _), Blk.new x1 _ 86, HKV.out.size, HT.out.arg.lt, .inl rfl⟩); replace HBX := yh (HBX.out.alloc (.cells #[.int .i64 (p : Int), .string (mkS [105, 100]), .iface ty0 y0, .string ⟨#[]⟩, .string ⟨#[]⟩, .pointer none, .pointer none] 86))
       change Pen _ _ _ _ _ _ _ _ (World.alloc x1 (.cells #[.int .i64 (p : Int), .string (mkS [105, 100]), .iface ty0 y0, .string ⟨#[]⟩, .string ⟨#[]⟩, .pointer none, .pointer none] 86)); generalize World.alloc x1 (.cells #[.int .i64 (p : Int), .string (mkS [105, 100]), .iface ty0 y0, .string ⟨#[]⟩, .string ⟨#[]⟩, .pointer none, .pointer none] 86) = V3 at HM HBX ⊢; have HD := yh (show x1.heap.size = x1.heap.size from rfl); generalize x1.heap.size = d at HM HD ⊢; refine pen_list [8, 9] ?_; repeat
        (refine penl_stable (getOp rfl) (by decide +kernel) (fun K hK => ?_)
         rw [if_pos (by rfl)]; apply Exists.intro; refine ⟨fun w' hS' => ?_, hK _ ?_⟩
         · replace hS' := Blk.cell hS'; go_simp; try with_reducible rfl
         clear hK K; simp only [Act.put, List.setIfInBounds_toArray, List.set])
       refine penl_end ?_; refine pen_done (by decide +kernel) ?_; go_wp2_with fail; go_ret; have hRe : R = .ok (.canon (.leaf false p n0)) := by rw [← HRE.out]; simp [mkCallL, mkCall1, mkCall2, mkCall3, needNode, needText, needCanon, needLens, andThen, hq0]
       subst hRe; have hdd := HM.out.hd; exact ⟨_, rfl, ⟨d, rfl, (by have h := HM.out.blk; simp only [CnV, cnB, LnV, lnB, HND0.out]; exact h)⟩, HT.out.k.trans_new HM.out.k (by omega)⟩
    · obtain ⟨t0, rfl⟩ : ∃ t0, ts = [t0] := by
       have h := HTL.out; rw [show k = 1 by omega] at h; exact List.length_eq_one_iff.1 h
      obtain ⟨v0, rfl⟩ : ∃ v0, vs = [v0] := by
       have h := HVL.out; rw [hn] at h; exact List.length_eq_one_iff.1 h.symm
      obtain ⟨hv0, _⟩ := HT.out.tms; have HV0 := yh hv0; have HS0 := yh (HTS.out t0 (by simp)); clear hv0; have hcb2 := (HT.out.box.alloc (.cells #[.int .i64 (p : Int), .string (mkS [102, 111, 108, 100]), .nilIface, .string ⟨#[]⟩, .pointer none, .pointer none, .pointer none] 89)).cell; go_wp2_with fail; have HN0 := yh (HV0.out.keep ((Keep.refl none wr).alloc (.cells #[.int .i64 (p : Int), .string (mkS [102, 111, 108, 100]), .nilIface, .string ⟨#[]⟩, .pointer none, .pointer none, .pointer none] 89))); have HAV := yh (HA.out.keep ((Keep.refl none wr).alloc (.cells #[.int .i64 (p : Int), .string (mkS [102, 111, 108, 100]), .nilIface, .string ⟨#[]⟩, .pointer none, .pointer none, .pointer none] 89)))
      have HBX := yh (HT.out.box.alloc (.cells #[.int .i64 (p : Int), .string (mkS [102, 111, 108, 100]), .nilIface, .string ⟨#[]⟩, .pointer none, .pointer none, .pointer none] 89)); have HKV := yh ((Keep.refl (some (w.heap.size + 1)) wr).alloc (.cells #[.int .i64 (p : Int), .string (mkS [102, 111, 108, 100]), .nilIface, .string ⟨#[]⟩, .pointer none, .pointer none, .pointer none] 89)); clear hcb hcb2; generalize World.alloc wr (.cells #[.int .i64 (p : Int), .string (mkS [102, 111, 108, 100]), .nilIface, .string ⟨#[]⟩, .pointer none, .pointer none, .pointer none] 89) = V1 at HN0 HAV HBX HKV ⊢
      refine wp_region_pen (fun w' => Blk w' w.heap.size [.int .i64 (p : Int), .string (mkS [102, 111, 108, 100]), .slice (some ⟨ab, 0, none⟩) xs.length ac] 114) 99 (by kernel_rfl) (by kernel_rfl) (fun c a d v w h => by cases d <;> exact h) (by exact HBX.out.drew) ?_; simp only [List.length_cons, List.length_nil]; replace HN0 := yh (HN0.out.keep ((Keep.refl none _).drew)); replace HAV := yh (HAV.out.keep ((Keep.refl none _).drew)); replace HBX := yh HBX.out.drew; replace HKV := yh HKV.out.drew; generalize V1.drew = V2 at HN0 HAV HBX HKV ⊢; refine pen_list [0, 1, 2, 3, 4] ?_; repeat
       (refine penl_stable (getOp rfl) (by decide +kernel) (fun K hK => ?_)
        rw [if_pos (by rfl)]; apply Exists.intro; refine ⟨fun w' hS' => ?_, hK _ ?_⟩
        · replace hS' := Blk.cell hS'; go_simp; try with_reducible rfl
        clear hK K; simp only [Act.put, List.setIfInBounds_toArray, List.set])
      refine penl_end ?_; have hc := ag_node (w.heap.size + 1) p [102, 111, 108, 100] ab ac es tb tc [v0] 0 (by simp) HPL.out t0 v0 rfl V2 HAV.out HN0.out HS0.out; cases hq0 : t0.node? with
      | none =>
       rw [hq0] at hc; refine pen_active 5 (getOp rfl) (by decide +kernel) (fun K hK => ?_); rw [if_pos (by rfl)]; go_wp2_with fail; refine hc.mono ?_; rintro e x1 ⟨⟨pl, rfl⟩, k1⟩; have hRe : R = .error 72 := by rw [← HRE.out]; simp [mkCallL, mkCall1, mkCall2, mkCall3, needNode, needText, needCanon, needLens, andThen, hq0]
       subst hRe; exact ⟨rfl, pl, rfl, HT.out.k.trans_new (HKV.out.trans k1) (by omega)⟩
      | some n0 =>
       rw [hq0] at hc; refine pen_active 5 (getOp rfl) (by decide +kernel) (fun K hK => ?_); rw [if_pos (by rfl)]; go_wp2_with fail; refine hc.mono ?_; rintro e x1 ⟨rfl, hA1, k1⟩; obtain ⟨ty0, y0, hnd⟩ := ndV_iface n0; rw [hnd]; have HND0 := yh hnd; replace HBX := yh (HBX.out.keep k1 (by simp)); replace HKV := yh (HKV.out.trans k1); have HA2 := yh hA1; clear HAV hA1 k1 hnd hc; refine hK.out _ _ HBX.out ?_; clear hK K; try simp only [Act.put, List.setIfInBounds_toArray, List.set]
       refine pen_stable 6 (getOp rfl) (by decide +kernel) (fun K hK => ?_); rw [if_pos (by rfl)]; apply Exists.intro; refine ⟨fun w' hS' => ?_, hK _ ?_⟩
       · replace hS' := Blk.cell hS'; go_simp; try with_reducible rfl
       clear hK K; simp only [Act.put, List.setIfInBounds_toArray, List.set]; refine pen_active 7 (getOp rfl) (by decide +kernel) (fun K hK => ?_); rw [if_pos (by rfl)]; go_simp; refine hK.out _ _ (HBX.out.alloc _) ?_; clear hK K; try simp only [Act.put, List.setIfInBounds_toArray, List.set]
       have HM := yh (show Mid wr (x1.alloc (.cells #[.int .i64 (p : Int), .string (mkS [102, 111, 108, 100]), .iface ty0 y0, .string ⟨#[]⟩, .string ⟨#[]⟩, .pointer none, .pointer none] 86)) (w.heap.size + 1) p [102, 111, 108, 100] ab ac es tb tc [v0] 1 x1.heap.size [.int .i64 (p : Int), .string (mkS [102, 111, 108, 100]), .iface ty0 y0, .string ⟨#[]⟩, .string ⟨#[]⟩, .pointer none, .pointer none] 86 from ⟨HKV.out.alloc _, HA2.out.keep ((Keep.refl _ _).alloc _), Blk.new x1 _ 86, HKV.out.size, HT.out.arg.lt, .inl rfl⟩); replace HBX := yh (HBX.out.alloc (.cells #[.int .i64 (p : Int), .string (mkS [102, 111, 108, 100]), .iface ty0 y0, .string ⟨#[]⟩, .string ⟨#[]⟩, .pointer none, .pointer none] 86))
       change Pen _ _ _ _ _ _ _ _ (World.alloc x1 (.cells #[.int .i64 (p : Int), .string (mkS [102, 111, 108, 100]), .iface ty0 y0, .string ⟨#[]⟩, .string ⟨#[]⟩, .pointer none, .pointer none] 86)); generalize World.alloc x1 (.cells #[.int .i64 (p : Int), .string (mkS [102, 111, 108, 100]), .iface ty0 y0, .string ⟨#[]⟩, .string ⟨#[]⟩, .pointer none, .pointer none] 86) = V3 at HM HBX ⊢; have HD := yh (show x1.heap.size = x1.heap.size from rfl); generalize x1.heap.size = d at HM HD ⊢; refine pen_list [8, 9] ?_; repeat
        (refine penl_stable (getOp rfl) (by decide +kernel) (fun K hK => ?_)
         rw [if_pos (by rfl)]; apply Exists.intro; refine ⟨fun w' hS' => ?_, hK _ ?_⟩
         · replace hS' := Blk.cell hS'; go_simp; try with_reducible rfl
         clear hK K; simp only [Act.put, List.setIfInBounds_toArray, List.set])
       refine penl_end ?_; refine pen_done (by decide +kernel) ?_; go_wp2_with fail; go_ret; have hRe : R = .ok (.canon (.leaf true p n0)) := by rw [← HRE.out]; simp [mkCallL, mkCall1, mkCall2, mkCall3, needNode, needText, needCanon, needLens, andThen, hq0]
       subst hRe; have hdd := HM.out.hd; exact ⟨_, rfl, ⟨d, rfl, (by have h := HM.out.blk; simp only [CnV, cnB, LnV, lnB, HND0.out]; exact h)⟩, HT.out.k.trans_new HM.out.k (by omega)⟩
    · obtain ⟨t0, t1, t2, rfl⟩ : ∃ t0 t1 t2, ts = [t0, t1, t2] := by
       have h := HTL.out; rw [show k = 3 by omega] at h; exact list3 h
      obtain ⟨v0, v1, v2, rfl⟩ : ∃ v0 v1 v2, vs = [v0, v1, v2] := by
       have h := HVL.out; rw [hn] at h; exact list3 h.symm
      obtain ⟨hv0, hv1, hv2, _⟩ := HT.out.tms; have HV0 := yh hv0; have HS0 := yh (HTS.out t0 (by simp)); have HV1 := yh hv1; have HS1 := yh (HTS.out t1 (by simp)); have HV2 := yh hv2; have HS2 := yh (HTS.out t2 (by simp)); clear hv0 hv1 hv2; have hcb2 := (HT.out.box.alloc (.cells #[.int .i64 (p : Int), .string (mkS [110, 111, 114, 109]), .nilIface, .string ⟨#[]⟩, .pointer none, .pointer none, .pointer none] 89)).cell; go_wp2_with fail; have HN0 := yh (HV0.out.keep ((Keep.refl none wr).alloc (.cells #[.int .i64 (p : Int), .string (mkS [110, 111, 114, 109]), .nilIface, .string ⟨#[]⟩, .pointer none, .pointer none, .pointer none] 89)))
      have HAV := yh (HA.out.keep ((Keep.refl none wr).alloc (.cells #[.int .i64 (p : Int), .string (mkS [110, 111, 114, 109]), .nilIface, .string ⟨#[]⟩, .pointer none, .pointer none, .pointer none] 89))); have HBX := yh (HT.out.box.alloc (.cells #[.int .i64 (p : Int), .string (mkS [110, 111, 114, 109]), .nilIface, .string ⟨#[]⟩, .pointer none, .pointer none, .pointer none] 89)); have HKV := yh ((Keep.refl (some (w.heap.size + 1)) wr).alloc (.cells #[.int .i64 (p : Int), .string (mkS [110, 111, 114, 109]), .nilIface, .string ⟨#[]⟩, .pointer none, .pointer none, .pointer none] 89))
      clear hcb hcb2; generalize World.alloc wr (.cells #[.int .i64 (p : Int), .string (mkS [110, 111, 114, 109]), .nilIface, .string ⟨#[]⟩, .pointer none, .pointer none, .pointer none] 89) = V1 at HN0 HAV HBX HKV ⊢; refine wp_region_pen (fun w' => Blk w' w.heap.size [.int .i64 (p : Int), .string (mkS [110, 111, 114, 109]), .slice (some ⟨ab, 0, none⟩) xs.length ac] 114) 99 (by kernel_rfl) (by kernel_rfl) (fun c a d v w h => by cases d <;> exact h) (by exact HBX.out.drew) ?_; simp only [List.length_cons, List.length_nil]; replace HN0 := yh (HN0.out.keep ((Keep.refl none _).drew)); replace HAV := yh (HAV.out.keep ((Keep.refl none _).drew))
      replace HBX := yh HBX.out.drew; replace HKV := yh HKV.out.drew; generalize V1.drew = V2 at HN0 HAV HBX HKV ⊢; refine pen_list [0, 1, 2, 3, 4] ?_; repeat
       (refine penl_stable (getOp rfl) (by decide +kernel) (fun K hK => ?_)
        rw [if_pos (by rfl)]; apply Exists.intro; refine ⟨fun w' hS' => ?_, hK _ ?_⟩
        · replace hS' := Blk.cell hS'; go_simp; try with_reducible rfl
        clear hK K; simp only [Act.put, List.setIfInBounds_toArray, List.set])
      refine penl_end ?_; have hc := ag_node (w.heap.size + 1) p [110, 111, 114, 109] ab ac es tb tc [v0, v1, v2] 0 (by simp) HPL.out t0 v0 rfl V2 HAV.out HN0.out HS0.out; cases hq0 : t0.node? with
      | none =>
       rw [hq0] at hc; refine pen_active 5 (getOp rfl) (by decide +kernel) (fun K hK => ?_); rw [if_pos (by rfl)]; go_wp2_with fail; refine hc.mono ?_; rintro e x1 ⟨⟨pl, rfl⟩, k1⟩; have hRe : R = .error 72 := by rw [← HRE.out]; simp [mkCallL, mkCall1, mkCall2, mkCall3, needNode, needText, needCanon, needLens, andThen, hq0]
       subst hRe; exact ⟨rfl, pl, rfl, HT.out.k.trans_new (HKV.out.trans k1) (by omega)⟩
      | some n0 =>
       rw [hq0] at hc; refine pen_active 5 (getOp rfl) (by decide +kernel) (fun K hK => ?_); rw [if_pos (by rfl)]; go_wp2_with fail; refine hc.mono ?_; rintro e x1 ⟨rfl, hA1, k1⟩; obtain ⟨ty0, y0, hnd⟩ := ndV_iface n0; rw [hnd]; have HND0 := yh hnd; replace HBX := yh (HBX.out.keep k1 (by simp)); replace HKV := yh (HKV.out.trans k1); have HA2 := yh hA1; clear HAV hA1 k1 hnd hc; refine hK.out _ _ HBX.out ?_; clear hK K; try simp only [Act.put, List.setIfInBounds_toArray, List.set]
       refine pen_stable 6 (getOp rfl) (by decide +kernel) (fun K hK => ?_); rw [if_pos (by rfl)]; apply Exists.intro; refine ⟨fun w' hS' => ?_, hK _ ?_⟩
       · replace hS' := Blk.cell hS'; go_simp; try with_reducible rfl
       clear hK K; simp only [Act.put, List.setIfInBounds_toArray, List.set]; refine pen_active 7 (getOp rfl) (by decide +kernel) (fun K hK => ?_); rw [if_pos (by rfl)]; go_simp; refine hK.out _ _ (HBX.out.alloc _) ?_; clear hK K; try simp only [Act.put, List.setIfInBounds_toArray, List.set]
       have HM := yh (show Mid wr (x1.alloc (.cells #[.int .i64 (p : Int), .string (mkS [110, 111, 114, 109]), .iface ty0 y0, .string ⟨#[]⟩, .string ⟨#[]⟩, .pointer none, .pointer none] 86)) (w.heap.size + 1) p [110, 111, 114, 109] ab ac es tb tc [v0, v1, v2] 1 x1.heap.size [.int .i64 (p : Int), .string (mkS [110, 111, 114, 109]), .iface ty0 y0, .string ⟨#[]⟩, .string ⟨#[]⟩, .pointer none, .pointer none] 86 from ⟨HKV.out.alloc _, HA2.out.keep ((Keep.refl _ _).alloc _), Blk.new x1 _ 86, HKV.out.size, HT.out.arg.lt, .inl rfl⟩); replace HBX := yh (HBX.out.alloc (.cells #[.int .i64 (p : Int), .string (mkS [110, 111, 114, 109]), .iface ty0 y0, .string ⟨#[]⟩, .string ⟨#[]⟩, .pointer none, .pointer none] 86))
       change Pen _ _ _ _ _ _ _ _ (World.alloc x1 (.cells #[.int .i64 (p : Int), .string (mkS [110, 111, 114, 109]), .iface ty0 y0, .string ⟨#[]⟩, .string ⟨#[]⟩, .pointer none, .pointer none] 86)); generalize World.alloc x1 (.cells #[.int .i64 (p : Int), .string (mkS [110, 111, 114, 109]), .iface ty0 y0, .string ⟨#[]⟩, .string ⟨#[]⟩, .pointer none, .pointer none] 86) = V3 at HM HBX ⊢; have HD := yh (show x1.heap.size = x1.heap.size from rfl); generalize x1.heap.size = d at HM HD ⊢; refine pen_stable 8 (getOp rfl) (by decide +kernel) (fun K hK => ?_); rw [if_pos (by rfl)]; apply Exists.intro
       refine ⟨fun w' hS' => ?_, hK _ ?_⟩
       · replace hS' := Blk.cell hS'; go_simp; try with_reducible rfl
       clear hK K; simp only [Act.put, List.setIfInBounds_toArray, List.set]; refine pen_done (by decide +kernel) ?_; go_wp2_with fail; have hc := ag_text (w.heap.size + 1) p [110, 111, 114, 109] ab ac es tb tc [v0, v1, v2] 1 (by simp) HPL.out t1 v1 rfl wr V3 HM.out.arg HV1.out; cases hq1 : t1.text? with
       | none =>
        rw [hq1] at hc; refine hc.mono ?_; rintro e x2 ⟨⟨pl, rfl⟩, k1⟩; have hRe : R = .error 72 := by rw [← HRE.out]; simp [mkCallL, mkCall1, mkCall2, mkCall3, needNode, needText, needCanon, needLens, andThen, hq0, hq1]
        subst hRe; have hdd := HM.out.hd; exact ⟨rfl, pl, rfl, HT.out.k.trans_new (HM.out.k.trans k1) (by omega)⟩
       | some n1 =>
        rw [hq1] at hc; refine hc.mono ?_; rintro e x2 ⟨rfl, hA1, k1⟩; replace HM := yh (HM.out.call hA1 k1); clear hA1 k1; have hcd := HM.out.blk.cell; have hfd := HM.out.blk.frozen; go_wp2_with fail; clear hcd hfd; replace HM := yh (HM.out.put 3 (.string (mkS n1))); try generalize World.setCell x2 ⟨d, 3, none⟩ (.string (mkS n1)) = V3 at HM ⊢
        have hc := ag_text (w.heap.size + 1) p [110, 111, 114, 109] ab ac es tb tc [v0, v1, v2] 2 (by simp) HPL.out t2 v2 rfl wr V3 HM.out.arg HV2.out; cases hq2 : t2.text? with
        | none =>
         rw [hq2] at hc; refine hc.mono ?_; rintro e x3 ⟨⟨pl, rfl⟩, k1⟩; have hRe : R = .error 72 := by rw [← HRE.out]; simp [mkCallL, mkCall1, mkCall2, mkCall3, needNode, needText, needCanon, needLens, andThen, hq0, hq1, hq2]
         subst hRe; have hdd := HM.out.hd; exact ⟨rfl, pl, rfl, HT.out.k.trans_new (HM.out.k.trans k1) (by omega)⟩
        | some n2 =>
         rw [hq2] at hc; refine hc.mono ?_; rintro e x3 ⟨rfl, hA1, k1⟩; replace HM := yh (HM.out.call hA1 k1); clear hA1 k1; have hcd := HM.out.blk.cell; have hfd := HM.out.blk.frozen; go_wp2_with fail; clear hcd hfd; replace HM := yh (HM.out.put 4 (.string (mkS n2))); try generalize World.setCell x3 ⟨d, 4, none⟩ (.string (mkS n2)) = V4 at HM ⊢
         go_ret; have hRe : R = .ok (.canon (.norm p n0 n1 n2)) := by rw [← HRE.out]; simp [mkCallL, mkCall1, mkCall2, mkCall3, needNode, needText, needCanon, needLens, andThen, hq0, hq1, hq2]
         subst hRe; have hdd := HM.out.hd; exact ⟨_, rfl, ⟨d, rfl, (by have h := HM.out.blk; simp only [CnV, cnB, LnV, lnB, HND0.out]; exact h)⟩, HT.out.k.trans_new HM.out.k (by omega)⟩
    · obtain ⟨t0, t1, rfl⟩ : ∃ t0 t1, ts = [t0, t1] := by
       have h := HTL.out; rw [show k = 2 by omega] at h; exact list2 h
      obtain ⟨v0, v1, rfl⟩ : ∃ v0 v1, vs = [v0, v1] := by
       have h := HVL.out; rw [hn] at h; exact list2 h.symm
      obtain ⟨hv0, hv1, _⟩ := HT.out.tms; have HV0 := yh hv0; have HS0 := yh (HTS.out t0 (by simp)); have HV1 := yh hv1; have HS1 := yh (HTS.out t1 (by simp)); clear hv0 hv1; have hcb2 := (HT.out.box.alloc (.cells #[.int .i64 (p : Int), .string (mkS [100, 101, 108]), .nilIface, .string ⟨#[]⟩, .pointer none, .pointer none, .pointer none] 89)).cell; go_wp2_with fail; have HM := yh (show Mid wr (wr.alloc (.cells #[.int .i64 (p : Int), .string (mkS [100, 101, 108]), .nilIface, .string ⟨#[]⟩, .pointer none, .pointer none, .pointer none] 89)) (w.heap.size + 1) p [100, 101, 108] ab ac es tb tc [v0, v1] 0 wr.heap.size [.int .i64 (p : Int), .string (mkS [100, 101, 108]), .nilIface, .string ⟨#[]⟩, .pointer none, .pointer none, .pointer none] 89 from ⟨(Keep.refl _ _).alloc _, HA.out.keep ((Keep.refl _ _).alloc _), Blk.new wr _ 89, Nat.le_refl _, HT.out.arg.lt, .inr rfl⟩)
      have HN0 := yh (HV0.out.keep ((Keep.refl none wr).alloc (.cells #[.int .i64 (p : Int), .string (mkS [100, 101, 108]), .nilIface, .string ⟨#[]⟩, .pointer none, .pointer none, .pointer none] 89))); clear hcb hcb2; generalize World.alloc wr (.cells #[.int .i64 (p : Int), .string (mkS [100, 101, 108]), .nilIface, .string ⟨#[]⟩, .pointer none, .pointer none, .pointer none] 89) = V1 at HM HN0 ⊢; have HD := yh (show wr.heap.size = wr.heap.size from rfl); generalize wr.heap.size = d at HM HD ⊢; have hc := ag_node (w.heap.size + 1) p [100, 101, 108] ab ac es tb tc [v0, v1] 0 (by simp) HPL.out t0 v0 rfl V1 HM.out.arg HN0.out HS0.out
      cases hq0 : t0.node? with
      | none =>
       rw [hq0] at hc; refine hc.mono ?_; rintro e x1 ⟨⟨pl, rfl⟩, k1⟩; have hRe : R = .error 72 := by rw [← HRE.out]; simp [mkCallL, mkCall1, mkCall2, mkCall3, needNode, needText, needCanon, needLens, andThen, hq0]
       subst hRe; have hdd := HM.out.hd; exact ⟨rfl, pl, rfl, HT.out.k.trans_new (HM.out.k.trans k1) (by omega)⟩
      | some n0 =>
       rw [hq0] at hc; refine hc.mono ?_; rintro e x1 ⟨rfl, hA1, k1⟩; replace HM := yh (HM.out.call hA1 k1); clear hA1 k1; obtain ⟨ty0, y0, hnd⟩ := ndV_iface n0; rw [hnd]; have HND0 := yh hnd; clear hnd; have hcd := HM.out.blk.cell; have hfd := HM.out.blk.frozen; go_wp2_with fail; clear hcd hfd; replace HM := yh (HM.out.put 2 (.iface ty0 y0)); try generalize World.setCell x1 ⟨d, 2, none⟩ (.iface ty0 y0) = V2 at HM ⊢
       have hc := ag_text (w.heap.size + 1) p [100, 101, 108] ab ac es tb tc [v0, v1] 1 (by simp) HPL.out t1 v1 rfl wr V2 HM.out.arg HV1.out; cases hq1 : t1.text? with
       | none =>
        rw [hq1] at hc; refine hc.mono ?_; rintro e x2 ⟨⟨pl, rfl⟩, k1⟩; have hRe : R = .error 72 := by rw [← HRE.out]; simp [mkCallL, mkCall1, mkCall2, mkCall3, needNode, needText, needCanon, needLens, andThen, hq0, hq1]
        subst hRe; have hdd := HM.out.hd; exact ⟨rfl, pl, rfl, HT.out.k.trans_new (HM.out.k.trans k1) (by omega)⟩
       | some n1 =>
        rw [hq1] at hc; refine hc.mono ?_; rintro e x2 ⟨rfl, hA1, k1⟩; replace HM := yh (HM.out.call hA1 k1); clear hA1 k1; have hcd := HM.out.blk.cell; have hfd := HM.out.blk.frozen; go_wp2_with fail; clear hcd hfd; replace HM := yh (HM.out.put 3 (.string (mkS n1))); try generalize World.setCell x2 ⟨d, 3, none⟩ (.string (mkS n1)) = V3 at HM ⊢
        go_ret; have hRe : R = .ok (.lens (.del p n0 n1)) := by rw [← HRE.out]; simp [mkCallL, mkCall1, mkCall2, mkCall3, needNode, needText, needCanon, needLens, andThen, hq0, hq1]
        subst hRe; have hdd := HM.out.hd; exact ⟨_, rfl, ⟨d, rfl, (by have h := HM.out.blk; simp only [CnV, cnB, LnV, lnB, HND0.out]; exact h)⟩, HT.out.k.trans_new HM.out.k (by omega)⟩
    · obtain ⟨t0, rfl⟩ : ∃ t0, ts = [t0] := by
       have h := HTL.out; rw [show k = 1 by omega] at h; exact List.length_eq_one_iff.1 h
      obtain ⟨v0, rfl⟩ : ∃ v0, vs = [v0] := by
       have h := HVL.out; rw [hn] at h; exact List.length_eq_one_iff.1 h.symm
      obtain ⟨hv0, _⟩ := HT.out.tms; have HV0 := yh hv0; have HS0 := yh (HTS.out t0 (by simp)); clear hv0; have hcb2 := (HT.out.box.alloc (.cells #[.int .i64 (p : Int), .string (mkS [105, 110, 115]), .nilIface, .string ⟨#[]⟩, .pointer none, .pointer none, .pointer none] 89)).cell; go_wp2_with fail; have HM := yh (show Mid wr (wr.alloc (.cells #[.int .i64 (p : Int), .string (mkS [105, 110, 115]), .nilIface, .string ⟨#[]⟩, .pointer none, .pointer none, .pointer none] 89)) (w.heap.size + 1) p [105, 110, 115] ab ac es tb tc [v0] 0 wr.heap.size [.int .i64 (p : Int), .string (mkS [105, 110, 115]), .nilIface, .string ⟨#[]⟩, .pointer none, .pointer none, .pointer none] 89 from ⟨(Keep.refl _ _).alloc _, HA.out.keep ((Keep.refl _ _).alloc _), Blk.new wr _ 89, Nat.le_refl _, HT.out.arg.lt, .inr rfl⟩)
      clear hcb hcb2; generalize World.alloc wr (.cells #[.int .i64 (p : Int), .string (mkS [105, 110, 115]), .nilIface, .string ⟨#[]⟩, .pointer none, .pointer none, .pointer none] 89) = V1 at HM ⊢; have HD := yh (show wr.heap.size = wr.heap.size from rfl); generalize wr.heap.size = d at HM HD ⊢; have hc := ag_text (w.heap.size + 1) p [105, 110, 115] ab ac es tb tc [v0] 0 (by simp) HPL.out t0 v0 rfl wr V1 HM.out.arg HV0.out; cases hq0 : t0.text? with
      | none =>
       rw [hq0] at hc; refine hc.mono ?_; rintro e x1 ⟨⟨pl, rfl⟩, k1⟩; have hRe : R = .error 72 := by rw [← HRE.out]; simp [mkCallL, mkCall1, mkCall2, mkCall3, needNode, needText, needCanon, needLens, andThen, hq0]
       subst hRe; have hdd := HM.out.hd; exact ⟨rfl, pl, rfl, HT.out.k.trans_new (HM.out.k.trans k1) (by omega)⟩
      | some n0 =>
       rw [hq0] at hc; refine hc.mono ?_; rintro e x1 ⟨rfl, hA1, k1⟩; replace HM := yh (HM.out.call hA1 k1); clear hA1 k1; have hcd := HM.out.blk.cell; have hfd := HM.out.blk.frozen; go_wp2_with fail; clear hcd hfd; replace HM := yh (HM.out.put 3 (.string (mkS n0))); try generalize World.setCell x1 ⟨d, 3, none⟩ (.string (mkS n0)) = V2 at HM ⊢
       go_ret; have hRe : R = .ok (.lens (.ins p n0)) := by rw [← HRE.out]; simp [mkCallL, mkCall1, mkCall2, mkCall3, needNode, needText, needCanon, needLens, andThen, hq0]
       subst hRe; have hdd := HM.out.hd; exact ⟨_, rfl, ⟨d, rfl, (by have h := HM.out.blk; simp only [CnV, cnB, LnV, lnB]; exact h)⟩, HT.out.k.trans_new HM.out.k (by omega)⟩
    · obtain ⟨t0, rfl⟩ : ∃ t0, ts = [t0] := by
       have h := HTL.out; rw [show k = 1 by omega] at h; exact List.length_eq_one_iff.1 h
      obtain ⟨v0, rfl⟩ : ∃ v0, vs = [v0] := by
       have h := HVL.out; rw [hn] at h; exact List.length_eq_one_iff.1 h.symm
      obtain ⟨hv0, _⟩ := HT.out.tms; have HV0 := yh hv0; have HS0 := yh (HTS.out t0 (by simp)); clear hv0; have hcb2 := (HT.out.box.alloc (.cells #[.int .i64 (p : Int), .string (mkS [99, 111, 112, 121]), .nilIface, .string ⟨#[]⟩, .pointer none, .pointer none, .pointer none] 89)).cell; go_wp2_with fail; have HM := yh (show Mid wr (wr.alloc (.cells #[.int .i64 (p : Int), .string (mkS [99, 111, 112, 121]), .nilIface, .string ⟨#[]⟩, .pointer none, .pointer none, .pointer none] 89)) (w.heap.size + 1) p [99, 111, 112, 121] ab ac es tb tc [v0] 0 wr.heap.size [.int .i64 (p : Int), .string (mkS [99, 111, 112, 121]), .nilIface, .string ⟨#[]⟩, .pointer none, .pointer none, .pointer none] 89 from ⟨(Keep.refl _ _).alloc _, HA.out.keep ((Keep.refl _ _).alloc _), Blk.new wr _ 89, Nat.le_refl _, HT.out.arg.lt, .inr rfl⟩)
      have HN0 := yh (HV0.out.keep ((Keep.refl none wr).alloc (.cells #[.int .i64 (p : Int), .string (mkS [99, 111, 112, 121]), .nilIface, .string ⟨#[]⟩, .pointer none, .pointer none, .pointer none] 89))); clear hcb hcb2; generalize World.alloc wr (.cells #[.int .i64 (p : Int), .string (mkS [99, 111, 112, 121]), .nilIface, .string ⟨#[]⟩, .pointer none, .pointer none, .pointer none] 89) = V1 at HM HN0 ⊢; have HD := yh (show wr.heap.size = wr.heap.size from rfl); generalize wr.heap.size = d at HM HD ⊢; have hc := ag_node (w.heap.size + 1) p [99, 111, 112, 121] ab ac es tb tc [v0] 0 (by simp) HPL.out t0 v0 rfl V1 HM.out.arg HN0.out HS0.out
      cases hq0 : t0.node? with
      | none =>
       rw [hq0] at hc; refine hc.mono ?_; rintro e x1 ⟨⟨pl, rfl⟩, k1⟩; have hRe : R = .error 72 := by rw [← HRE.out]; simp [mkCallL, mkCall1, mkCall2, mkCall3, needNode, needText, needCanon, needLens, andThen, hq0]
       subst hRe; have hdd := HM.out.hd; exact ⟨rfl, pl, rfl, HT.out.k.trans_new (HM.out.k.trans k1) (by omega)⟩
      | some n0 =>
       rw [hq0] at hc; refine hc.mono ?_; rintro e x1 ⟨rfl, hA1, k1⟩; replace HM := yh (HM.out.call hA1 k1); clear hA1 k1; obtain ⟨ty0, y0, hnd⟩ := ndV_iface n0; rw [hnd]; have HND0 := yh hnd; clear hnd; have hcd := HM.out.blk.cell; have hfd := HM.out.blk.frozen; go_wp2_with fail; clear hcd hfd; replace HM := yh (HM.out.put 2 (.iface ty0 y0)); try generalize World.setCell x1 ⟨d, 2, none⟩ (.iface ty0 y0) = V2 at HM ⊢
       go_ret; have hRe : R = .ok (.lens (.copy false p n0)) := by rw [← HRE.out]; simp [mkCallL, mkCall1, mkCall2, mkCall3, needNode, needText, needCanon, needLens, andThen, hq0]
       subst hRe; have hdd := HM.out.hd; exact ⟨_, rfl, ⟨d, rfl, (by have h := HM.out.blk; simp only [CnV, cnB, LnV, lnB, HND0.out]; exact h)⟩, HT.out.k.trans_new HM.out.k (by omega)⟩
    · obtain ⟨t0, rfl⟩ : ∃ t0, ts = [t0] := by
       have h := HTL.out; rw [show k = 1 by omega] at h; exact List.length_eq_one_iff.1 h
      obtain ⟨v0, rfl⟩ : ∃ v0, vs = [v0] := by
       have h := HVL.out; rw [hn] at h; exact List.length_eq_one_iff.1 h.symm
      obtain ⟨hv0, _⟩ := HT.out.tms; have HV0 := yh hv0; have HS0 := yh (HTS.out t0 (by simp)); clear hv0; have hcb2 := (HT.out.box.alloc (.cells #[.int .i64 (p : Int), .string (mkS [107, 101, 121]), .nilIface, .string ⟨#[]⟩, .pointer none, .pointer none, .pointer none] 89)).cell; go_wp2_with fail; have HM := yh (show Mid wr (wr.alloc (.cells #[.int .i64 (p : Int), .string (mkS [107, 101, 121]), .nilIface, .string ⟨#[]⟩, .pointer none, .pointer none, .pointer none] 89)) (w.heap.size + 1) p [107, 101, 121] ab ac es tb tc [v0] 0 wr.heap.size [.int .i64 (p : Int), .string (mkS [107, 101, 121]), .nilIface, .string ⟨#[]⟩, .pointer none, .pointer none, .pointer none] 89 from ⟨(Keep.refl _ _).alloc _, HA.out.keep ((Keep.refl _ _).alloc _), Blk.new wr _ 89, Nat.le_refl _, HT.out.arg.lt, .inr rfl⟩)
      have HN0 := yh (HV0.out.keep ((Keep.refl none wr).alloc (.cells #[.int .i64 (p : Int), .string (mkS [107, 101, 121]), .nilIface, .string ⟨#[]⟩, .pointer none, .pointer none, .pointer none] 89))); clear hcb hcb2; generalize World.alloc wr (.cells #[.int .i64 (p : Int), .string (mkS [107, 101, 121]), .nilIface, .string ⟨#[]⟩, .pointer none, .pointer none, .pointer none] 89) = V1 at HM HN0 ⊢; have HD := yh (show wr.heap.size = wr.heap.size from rfl); generalize wr.heap.size = d at HM HD ⊢; have hc := ag_node (w.heap.size + 1) p [107, 101, 121] ab ac es tb tc [v0] 0 (by simp) HPL.out t0 v0 rfl V1 HM.out.arg HN0.out HS0.out
      cases hq0 : t0.node? with
      | none =>
       rw [hq0] at hc; refine hc.mono ?_; rintro e x1 ⟨⟨pl, rfl⟩, k1⟩; have hRe : R = .error 72 := by rw [← HRE.out]; simp [mkCallL, mkCall1, mkCall2, mkCall3, needNode, needText, needCanon, needLens, andThen, hq0]
       subst hRe; have hdd := HM.out.hd; exact ⟨rfl, pl, rfl, HT.out.k.trans_new (HM.out.k.trans k1) (by omega)⟩
      | some n0 =>
       rw [hq0] at hc; refine hc.mono ?_; rintro e x1 ⟨rfl, hA1, k1⟩; replace HM := yh (HM.out.call hA1 k1); clear hA1 k1; obtain ⟨ty0, y0, hnd⟩ := ndV_iface n0; rw [hnd]; have HND0 := yh hnd; clear hnd; have hcd := HM.out.blk.cell; have hfd := HM.out.blk.frozen; go_wp2_with fail; clear hcd hfd; replace HM := yh (HM.out.put 2 (.iface ty0 y0)); try generalize World.setCell x1 ⟨d, 2, none⟩ (.iface ty0 y0) = V2 at HM ⊢
       go_ret; have hRe : R = .ok (.lens (.copy true p n0)) := by rw [← HRE.out]; simp [mkCallL, mkCall1, mkCall2, mkCall3, needNode, needText, needCanon, needLens, andThen, hq0]
       subst hRe; have hdd := HM.out.hd; exact ⟨_, rfl, ⟨d, rfl, (by have h := HM.out.blk; simp only [CnV, cnB, LnV, lnB, HND0.out]; exact h)⟩, HT.out.k.trans_new HM.out.k (by omega)⟩
    · obtain ⟨t0, t1, rfl⟩ : ∃ t0 t1, ts = [t0, t1] := by
       have h := HTL.out; rw [show k = 2 by omega] at h; exact list2 h
      obtain ⟨v0, v1, rfl⟩ : ∃ v0 v1, vs = [v0, v1] := by
       have h := HVL.out; rw [hn] at h; exact list2 h.symm
      obtain ⟨hv0, hv1, _⟩ := HT.out.tms; have HV0 := yh hv0; have HS0 := yh (HTS.out t0 (by simp)); have HV1 := yh hv1; have HS1 := yh (HTS.out t1 (by simp)); clear hv0 hv1; have hcb2 := (HT.out.box.alloc (.cells #[.int .i64 (p : Int), .string (mkS [108, 101, 102, 116]), .nilIface, .string ⟨#[]⟩, .pointer none, .pointer none, .pointer none] 89)).cell; go_wp2_with fail; have HM := yh (show Mid wr (wr.alloc (.cells #[.int .i64 (p : Int), .string (mkS [108, 101, 102, 116]), .nilIface, .string ⟨#[]⟩, .pointer none, .pointer none, .pointer none] 89)) (w.heap.size + 1) p [108, 101, 102, 116] ab ac es tb tc [v0, v1] 0 wr.heap.size [.int .i64 (p : Int), .string (mkS [108, 101, 102, 116]), .nilIface, .string ⟨#[]⟩, .pointer none, .pointer none, .pointer none] 89 from ⟨(Keep.refl _ _).alloc _, HA.out.keep ((Keep.refl _ _).alloc _), Blk.new wr _ 89, Nat.le_refl _, HT.out.arg.lt, .inr rfl⟩)
      clear hcb hcb2; generalize World.alloc wr (.cells #[.int .i64 (p : Int), .string (mkS [108, 101, 102, 116]), .nilIface, .string ⟨#[]⟩, .pointer none, .pointer none, .pointer none] 89) = V1 at HM ⊢; have HD := yh (show wr.heap.size = wr.heap.size from rfl); generalize wr.heap.size = d at HM HD ⊢; have hc := ag_canon (w.heap.size + 1) p [108, 101, 102, 116] ab ac es tb tc [v0, v1] 0 (by simp) HPL.out t0 v0 rfl wr V1 HM.out.arg HV0.out; rcases canon_cases t0 v0 wr HV0.out with ⟨hp0, hq0⟩ | ⟨n0, q0, hp0, hq0, hv0⟩
      · rw [hp0] at hc; refine hc.mono ?_; rintro e x1 ⟨⟨pl, rfl⟩, k1⟩; have hRe : R = .error 72 := by rw [← HRE.out]; simp [mkCallL, mkCall1, mkCall2, mkCall3, needNode, needText, needCanon, needLens, andThen, hq0]
        subst hRe; have hdd := HM.out.hd; exact ⟨rfl, pl, rfl, HT.out.k.trans_new (HM.out.k.trans k1) (by omega)⟩
      · rw [hp0] at hc; refine hc.mono ?_; rintro e x1 ⟨rfl, hA1, k1⟩; replace HM := yh (HM.out.call hA1 k1); clear hA1 k1; have HC0 := yh hv0; clear hv0; unfold ptr; have hcd := HM.out.blk.cell; have hfd := HM.out.blk.frozen; go_wp2_with fail; clear hcd hfd; replace HM := yh (HM.out.put 4 (.pointer (some ⟨q0, 0, none⟩))); try generalize World.setCell x1 ⟨d, 4, none⟩ (.pointer (some ⟨q0, 0, none⟩)) = V2 at HM ⊢
        have hc := ag_lens (w.heap.size + 1) p [108, 101, 102, 116] ab ac es tb tc [v0, v1] 1 (by simp) HPL.out t1 v1 rfl wr V2 HM.out.arg HV1.out; rcases lens_cases t1 v1 wr HV1.out with ⟨hp1, hq1⟩ | ⟨n1, q1, hp1, hq1, hv1⟩
        · rw [hp1] at hc; refine hc.mono ?_; rintro e x2 ⟨⟨pl, rfl⟩, k1⟩; have hRe : R = .error 72 := by rw [← HRE.out]; simp [mkCallL, mkCall1, mkCall2, mkCall3, needNode, needText, needCanon, needLens, andThen, hq0, hq1]
          subst hRe; have hdd := HM.out.hd; exact ⟨rfl, pl, rfl, HT.out.k.trans_new (HM.out.k.trans k1) (by omega)⟩
        · rw [hp1] at hc; refine hc.mono ?_; rintro e x2 ⟨rfl, hA1, k1⟩; replace HM := yh (HM.out.call hA1 k1); clear hA1 k1; have HC1 := yh hv1; clear hv1; unfold ptr; have hcd := HM.out.blk.cell; have hfd := HM.out.blk.frozen; go_wp2_with fail; clear hcd hfd; replace HM := yh (HM.out.put 5 (.pointer (some ⟨q1, 0, none⟩))); try generalize World.setCell x2 ⟨d, 5, none⟩ (.pointer (some ⟨q1, 0, none⟩)) = V3 at HM ⊢
          go_ret; have hRe : R = .ok (.lens (.left p n0 n1)) := by rw [← HRE.out]; simp [mkCallL, mkCall1, mkCall2, mkCall3, needNode, needText, needCanon, needLens, andThen, hq0, hq1]
          subst hRe; have hdd := HM.out.hd; exact ⟨_, rfl, ⟨d, rfl, ⟨q0, q1, (by have h := HM.out.blk; simp only [CnV, cnB, LnV, lnB]; exact h), HM.out.cn (Keep.refl none wr) HA.out.blk HC0.out, HM.out.ln (Keep.refl none wr) HA.out.blk HC1.out⟩⟩, HT.out.k.trans_new HM.out.k (by omega)⟩
    · obtain ⟨t0, t1, rfl⟩ : ∃ t0 t1, ts = [t0, t1] := by
       have h := HTL.out; rw [show k = 2 by omega] at h; exact list2 h
      obtain ⟨v0, v1, rfl⟩ : ∃ v0 v1, vs = [v0, v1] := by
       have h := HVL.out; rw [hn] at h; exact list2 h.symm
      obtain ⟨hv0, hv1, _⟩ := HT.out.tms; have HV0 := yh hv0; have HS0 := yh (HTS.out t0 (by simp)); have HV1 := yh hv1; have HS1 := yh (HTS.out t1 (by simp)); clear hv0 hv1; have hcb2 := (HT.out.box.alloc (.cells #[.int .i64 (p : Int), .string (mkS [114, 105, 103, 104, 116]), .nilIface, .string ⟨#[]⟩, .pointer none, .pointer none, .pointer none] 89)).cell; go_wp2_with fail; have HM := yh (show Mid wr (wr.alloc (.cells #[.int .i64 (p : Int), .string (mkS [114, 105, 103, 104, 116]), .nilIface, .string ⟨#[]⟩, .pointer none, .pointer none, .pointer none] 89)) (w.heap.size + 1) p [114, 105, 103, 104, 116] ab ac es tb tc [v0, v1] 0 wr.heap.size [.int .i64 (p : Int), .string (mkS [114, 105, 103, 104, 116]), .nilIface, .string ⟨#[]⟩, .pointer none, .pointer none, .pointer none] 89 from ⟨(Keep.refl _ _).alloc _, HA.out.keep ((Keep.refl _ _).alloc _), Blk.new wr _ 89, Nat.le_refl _, HT.out.arg.lt, .inr rfl⟩)
      clear hcb hcb2; generalize World.alloc wr (.cells #[.int .i64 (p : Int), .string (mkS [114, 105, 103, 104, 116]), .nilIface, .string ⟨#[]⟩, .pointer none, .pointer none, .pointer none] 89) = V1 at HM ⊢; have HD := yh (show wr.heap.size = wr.heap.size from rfl); generalize wr.heap.size = d at HM HD ⊢; have hc := ag_lens (w.heap.size + 1) p [114, 105, 103, 104, 116] ab ac es tb tc [v0, v1] 0 (by simp) HPL.out t0 v0 rfl wr V1 HM.out.arg HV0.out; rcases lens_cases t0 v0 wr HV0.out with ⟨hp0, hq0⟩ | ⟨n0, q0, hp0, hq0, hv0⟩
      · rw [hp0] at hc; refine hc.mono ?_; rintro e x1 ⟨⟨pl, rfl⟩, k1⟩; have hRe : R = .error 72 := by rw [← HRE.out]; simp [mkCallL, mkCall1, mkCall2, mkCall3, needNode, needText, needCanon, needLens, andThen, hq0]
        subst hRe; have hdd := HM.out.hd; exact ⟨rfl, pl, rfl, HT.out.k.trans_new (HM.out.k.trans k1) (by omega)⟩
      · rw [hp0] at hc; refine hc.mono ?_; rintro e x1 ⟨rfl, hA1, k1⟩; replace HM := yh (HM.out.call hA1 k1); clear hA1 k1; have HC0 := yh hv0; clear hv0; unfold ptr; have hcd := HM.out.blk.cell; have hfd := HM.out.blk.frozen; go_wp2_with fail; clear hcd hfd; replace HM := yh (HM.out.put 5 (.pointer (some ⟨q0, 0, none⟩))); try generalize World.setCell x1 ⟨d, 5, none⟩ (.pointer (some ⟨q0, 0, none⟩)) = V2 at HM ⊢
        have hc := ag_canon (w.heap.size + 1) p [114, 105, 103, 104, 116] ab ac es tb tc [v0, v1] 1 (by simp) HPL.out t1 v1 rfl wr V2 HM.out.arg HV1.out; rcases canon_cases t1 v1 wr HV1.out with ⟨hp1, hq1⟩ | ⟨n1, q1, hp1, hq1, hv1⟩
        · rw [hp1] at hc; refine hc.mono ?_; rintro e x2 ⟨⟨pl, rfl⟩, k1⟩; have hRe : R = .error 72 := by rw [← HRE.out]; simp [mkCallL, mkCall1, mkCall2, mkCall3, needNode, needText, needCanon, needLens, andThen, hq0, hq1]
          subst hRe; have hdd := HM.out.hd; exact ⟨rfl, pl, rfl, HT.out.k.trans_new (HM.out.k.trans k1) (by omega)⟩
        · rw [hp1] at hc; refine hc.mono ?_; rintro e x2 ⟨rfl, hA1, k1⟩; replace HM := yh (HM.out.call hA1 k1); clear hA1 k1; have HC1 := yh hv1; clear hv1; unfold ptr; have hcd := HM.out.blk.cell; have hfd := HM.out.blk.frozen; go_wp2_with fail; clear hcd hfd; replace HM := yh (HM.out.put 4 (.pointer (some ⟨q1, 0, none⟩))); try generalize World.setCell x2 ⟨d, 4, none⟩ (.pointer (some ⟨q1, 0, none⟩)) = V3 at HM ⊢
          go_ret; have hRe : R = .ok (.lens (.right p n0 n1)) := by rw [← HRE.out]; simp [mkCallL, mkCall1, mkCall2, mkCall3, needNode, needText, needCanon, needLens, andThen, hq0, hq1]
          subst hRe; have hdd := HM.out.hd; exact ⟨_, rfl, ⟨d, rfl, ⟨q1, q0, (by have h := HM.out.blk; simp only [CnV, cnB, LnV, lnB]; exact h), HM.out.cn (Keep.refl none wr) HA.out.blk HC1.out, HM.out.ln (Keep.refl none wr) HA.out.blk HC0.out⟩⟩, HT.out.k.trans_new HM.out.k (by omega)⟩
    · obtain ⟨t0, t1, rfl⟩ : ∃ t0 t1, ts = [t0, t1] := by
       have h := HTL.out; rw [show k = 2 by omega] at h; exact list2 h
      obtain ⟨v0, v1, rfl⟩ : ∃ v0 v1, vs = [v0, v1] := by
       have h := HVL.out; rw [hn] at h; exact list2 h.symm
      obtain ⟨hv0, hv1, _⟩ := HT.out.tms; have HV0 := yh hv0; have HS0 := yh (HTS.out t0 (by simp)); have HV1 := yh hv1; have HS1 := yh (HTS.out t1 (by simp)); clear hv0 hv1; have hcb2 := (HT.out.box.alloc (.cells #[.int .i64 (p : Int), .string (mkS [100, 101, 102, 97, 117, 108, 116]), .nilIface, .string ⟨#[]⟩, .pointer none, .pointer none, .pointer none] 89)).cell; go_wp2_with fail; have HM := yh (show Mid wr (wr.alloc (.cells #[.int .i64 (p : Int), .string (mkS [100, 101, 102, 97, 117, 108, 116]), .nilIface, .string ⟨#[]⟩, .pointer none, .pointer none, .pointer none] 89)) (w.heap.size + 1) p [100, 101, 102, 97, 117, 108, 116] ab ac es tb tc [v0, v1] 0 wr.heap.size [.int .i64 (p : Int), .string (mkS [100, 101, 102, 97, 117, 108, 116]), .nilIface, .string ⟨#[]⟩, .pointer none, .pointer none, .pointer none] 89 from ⟨(Keep.refl _ _).alloc _, HA.out.keep ((Keep.refl _ _).alloc _), Blk.new wr _ 89, Nat.le_refl _, HT.out.arg.lt, .inr rfl⟩)
      clear hcb hcb2; generalize World.alloc wr (.cells #[.int .i64 (p : Int), .string (mkS [100, 101, 102, 97, 117, 108, 116]), .nilIface, .string ⟨#[]⟩, .pointer none, .pointer none, .pointer none] 89) = V1 at HM ⊢; have HD := yh (show wr.heap.size = wr.heap.size from rfl); generalize wr.heap.size = d at HM HD ⊢; have hc := ag_lens (w.heap.size + 1) p [100, 101, 102, 97, 117, 108, 116] ab ac es tb tc [v0, v1] 0 (by simp) HPL.out t0 v0 rfl wr V1 HM.out.arg HV0.out; rcases lens_cases t0 v0 wr HV0.out with ⟨hp0, hq0⟩ | ⟨n0, q0, hp0, hq0, hv0⟩
      · rw [hp0] at hc; refine hc.mono ?_; rintro e x1 ⟨⟨pl, rfl⟩, k1⟩; have hRe : R = .error 72 := by rw [← HRE.out]; simp [mkCallL, mkCall1, mkCall2, mkCall3, needNode, needText, needCanon, needLens, andThen, hq0]
        subst hRe; have hdd := HM.out.hd; exact ⟨rfl, pl, rfl, HT.out.k.trans_new (HM.out.k.trans k1) (by omega)⟩
      · rw [hp0] at hc; refine hc.mono ?_; rintro e x1 ⟨rfl, hA1, k1⟩; replace HM := yh (HM.out.call hA1 k1); clear hA1 k1; have HC0 := yh hv0; clear hv0; unfold ptr; have hcd := HM.out.blk.cell; have hfd := HM.out.blk.frozen; go_wp2_with fail; clear hcd hfd; replace HM := yh (HM.out.put 5 (.pointer (some ⟨q0, 0, none⟩))); try generalize World.setCell x1 ⟨d, 5, none⟩ (.pointer (some ⟨q0, 0, none⟩)) = V2 at HM ⊢
        have hc := ag_text (w.heap.size + 1) p [100, 101, 102, 97, 117, 108, 116] ab ac es tb tc [v0, v1] 1 (by simp) HPL.out t1 v1 rfl wr V2 HM.out.arg HV1.out; cases hq1 : t1.text? with
        | none =>
         rw [hq1] at hc; refine hc.mono ?_; rintro e x2 ⟨⟨pl, rfl⟩, k1⟩; have hRe : R = .error 72 := by rw [← HRE.out]; simp [mkCallL, mkCall1, mkCall2, mkCall3, needNode, needText, needCanon, needLens, andThen, hq0, hq1]
         subst hRe; have hdd := HM.out.hd; exact ⟨rfl, pl, rfl, HT.out.k.trans_new (HM.out.k.trans k1) (by omega)⟩
        | some n1 =>
         rw [hq1] at hc; refine hc.mono ?_; rintro e x2 ⟨rfl, hA1, k1⟩; replace HM := yh (HM.out.call hA1 k1); clear hA1 k1; have hcd := HM.out.blk.cell; have hfd := HM.out.blk.frozen; go_wp2_with fail; clear hcd hfd; replace HM := yh (HM.out.put 3 (.string (mkS n1))); try generalize World.setCell x2 ⟨d, 3, none⟩ (.string (mkS n1)) = V3 at HM ⊢
         go_ret; have hRe : R = .ok (.lens (.deflt p n0 n1)) := by rw [← HRE.out]; simp [mkCallL, mkCall1, mkCall2, mkCall3, needNode, needText, needCanon, needLens, andThen, hq0, hq1]
         subst hRe; have hdd := HM.out.hd; exact ⟨_, rfl, ⟨d, rfl, ⟨q0, (by have h := HM.out.blk; simp only [CnV, cnB, LnV, lnB]; exact h), HM.out.ln (Keep.refl none wr) HA.out.blk HC0.out⟩⟩, HT.out.k.trans_new HM.out.k (by omega)⟩
end Go.Proofs.YtmfabihndpidnaaGreatDoor
