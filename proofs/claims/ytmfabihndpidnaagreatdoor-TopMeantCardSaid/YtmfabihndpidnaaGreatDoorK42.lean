/-
  Terms: Elaborate.
-/
import Derived.Test.YtmfabihndpidnaaGreatDoorK41
import Derived.Test.YtmfabihndpidnaaGreatDoorK29
import Derived.Test.YtmfabihndpidnaaGreatDoorK15
import Derived.Test.YtmfabihndpidnaaGreatDoorK03
import Derived.BigQuiet
namespace Go.Proofs.YtmfabihndpidnaaGreatDoor
set_option maxHeartbeats 8000000
open Go.RowKit
set_option maxRecDepth 100000
set_option linter.unusedVariables false
set_option linter.unusedSimpArgs false
attribute [local go_sem ↓] run_assert26r
theorem el_catch (bo bf : Nat) (x a b d : Value) (c p : Int) (w : World) (ho : Blk w bo [x] 23) (hf : Blk w bf [a, b, d] 26) (hne : bo ≠ bf) :
 CallsD Tryz.prog 19 #[.pointer (some ⟨bo, 0, none⟩), .pointer (some ⟨bf, 0, none⟩)] (.panicking (flt c p)) w fun e u' w' =>
  e = .returned (.tuple #[]) ∧ u' = recovered c p ∧ Blk w' bo [.nilIface] 23 ∧ Blk w' bf [.int .i64 c, .int .i64 p, .string ⟨#[]⟩] 26 ∧ Below (min bo bf) w w' := by
 have h1 := ho.cell; have h2 := ho.frozen; have h3 := hf.cell; have h4 := hf.frozen; refine callsD_of_wpS Tryz.func19 rfl fun c₀ cs hu => ?_
 apply wpS_seq; apply wpS_region; simp [wpOpsS, go_sem, recoverD, hu, flt, Tryz.ntmps19, Exit.thenS]; refine wpS_of_wp ?_; change Code.wp _ _ _ { tmps := #[.pointer (some ⟨bo, 0, none⟩), .pointer (some ⟨bf, 0, none⟩), .iface 26 (faultV c p), .iface 26 (faultV c p), undef, undef, undef, undef], defers := [] } _; unfold faultV; go_wp2_with fail; go_region
 all_goals
  refine ⟨rfl, _, rfl, .tuple #[], by simp [results, Tryz.results19, go_sem], rfl, rfl, ?_, ?_, ?_⟩
 · exact ((((((ho.set 0 .nilIface).far _ _ hne).far _ _ hne).far _ _ hne)).drew)
 · exact (((((hf.far ⟨bo, 0, none⟩ .nilIface hne.symm).set 0 (.int .i64 c)).set 1 (.int .i64 p)).set 2 (.string ⟨#[]⟩)).drew)
 · have k1 := (Below.refl (min bo bf) w).setCell (p := ⟨bo, 0, none⟩) (Nat.min_le_left _ _) .nilIface; have k2 := k1.setCell (p := ⟨bf, 0, none⟩) (Nat.min_le_right _ _) (.int .i64 c); have k3 := k2.setCell (p := ⟨bf, 1, none⟩) (Nat.min_le_right _ _) (.int .i64 p); exact (k3.setCell (p := ⟨bf, 2, none⟩) (Nat.min_le_right _ _) (.string ⟨#[]⟩)).drew
theorem el_idle (p q : Addr) (w : World) :
 CallsD Tryz.prog 19 #[.pointer (some p), .pointer (some q)] .returning w fun e u' w' => e = .returned (.tuple #[]) ∧ u' = .returning ∧ w' = w := by
 refine callsD_of_wpS Tryz.func19 rfl fun c₀ cs hu => ?_
 apply wpS_seq; apply wpS_region; simp [wpOpsS, go_sem, recoverD, hu, Tryz.ntmps19, Exit.thenS]; refine wpS_of_wp ?_; change Code.wp _ _ _ { tmps := #[.pointer (some p), .pointer (some q), .nilIface, .nilIface, undef, undef, undef, undef], defers := [] } _; go_wp2_with fail; cases c₀; simp_all [bodyPostS, results, Tryz.results19, go_sem]
theorem run_load23 (g : Nat) (v : Value) (w : World) (h : Blk w g [v] 23) : (loadVar 23 ⟨g, 0, none⟩).run Tryz.prog w = .ok v w := by
 have hc := h.cell 0; simp only [List.getElem?_cons_zero] at hc; simp [go_sem, hc]
theorem results_ef {fn : Func} {p q : Tmp} (h : fn.results = #[.cell p 23, .cell q 26]) (tmps : Array Value) (w : World) (g k : Nat) (v a b c : Value)
 (hp : tmps.getD p undef = .pointer (some ⟨g, 0, none⟩)) (hq : tmps.getD q undef = .pointer (some ⟨k, 0, none⟩)) (hg : Blk w g [v] 23) (hk : Blk w k [a, b, c] 26) :
 (results fn tmps).run Tryz.prog w = .ok (.tuple #[v, .agg #[a, b, c]]) w := by
 have hp' : tmps[p]?.getD undef = .pointer (some ⟨g, 0, none⟩) := by simpa using hp
 have hq' : tmps[q]?.getD undef = .pointer (some ⟨k, 0, none⟩) := by simpa using hq
 simp [results, h, hp', hq', asAddr, run_load23 g v w hg, run_loadVar_row w k 26 26 #[a, b, c] (0, 0) _ hk Tryz.underlying26 rfl (by kernel_rfl)]
def ElOut (w : World) (r : Except Nat Tm) (e : Ending) (w' : World) : Prop :=
 match r with
 | .ok t => ∃ v, e = .returned (.tuple #[v, faultV 0 0]) ∧ TmV w' t v ∧ Keep none w w'
 | .error c => ∃ pl : Int, e = .returned (.tuple #[.nilIface, faultV c pl]) ∧ Keep none w w'
structure ElI (w V : World) (env : Env) : Prop where
 bo : Blk V w.heap.size [.nilIface] 23
 bf : Blk V (w.heap.size + 1) [.int .i64 0, .int .i64 0, .string ⟨#[]⟩] 26
 bm : Blk V (w.heap.size + 3) [.map (some (w.heap.size + 2))] 69
 ev : EnvV V (w.heap.size + 2) env
 k : Keep none w V
theorem ElI.keep {w V X : World} {env : Env} (h : ElI w V env) (k : Keep none V X) : ElI w X env :=
 ⟨h.bo.keep k (by simp), h.bf.keep k (by simp), h.bm.keep k (by simp), h.ev.keep k, h.k.trans k⟩
theorem ElI.mk' {w V : World} {env : Env} (h : ElI w V env) : MkV V (w.heap.size + 3) env := ⟨_, h.bm, h.ev⟩
theorem ElI.put {w V X : World} {env env' : Env} (h : ElI w V env) (k : Keep (some (w.heap.size + 2)) V X) (he : EnvV X (w.heap.size + 2) env') : ElI w X env' :=
 ⟨h.bo.keep k (by simp), h.bf.keep k (by simp), h.bm.keep k (by simp), he, h.k.trans_new k (by omega)⟩
theorem elab_walk (base bp : Nat) (p : Prog) (w : World) (hp : ProgV w base bp p) (hE : Escs w) (hw : ∀ d ∈ p.defs, Wf d.body ∧ d.body.trim ∧ d.name.length ≤ 100000) (hm : Wf p.main ∧ p.main.trim) (hn : p.defs.length ≤ 100000) (R : Except Nat Tm) (hR : elabT p = R) :
 Calls Tryz.prog 10 #[.pointer (some ⟨bp, 0, none⟩)] w (ElOut w R) := by
 have hmf : ∀ (fn : Fn) (first cap : Array Value) (w : World), (Instr.makeFunc fn first cap).run Tryz.prog w = .ok (.func fn first cap) w := fun _ _ _ _ => rfl
 obtain ⟨sv, mv, vs, h1, h2, h3, h4⟩ := hp; obtain ⟨tm, ym, rfl⟩ := h4.iface; have hlt := h1.lt; obtain ⟨ao, cap, rfl⟩ : ∃ ao cap, sv = .slice ao p.defs.length cap := by
  rcases h2.2 with ⟨hv, h0⟩ | ⟨g, cap, cur, hv, _⟩
  · exact ⟨none, 0, by rw [hv, h0]⟩
  · exact ⟨_, _, hv⟩
 have hvl : p.defs.length = vs.length := by have := h3.len; simpa using this
 have HP1 := yh h1; have HP2 := yh h2; have HP3 := yh h3; have HP4 := yh h4; have HE := yh hE; have HW := yh hw; have HM := yh hm; have HVL := yh hvl; have HR := yh hR; have hc := h1.cell; clear h1 h2 h3 h4 hE hw hm hvl hR; go_enter_defers Tryz.func10, Tryz.ntmps10; have hmm : ∀ w : World, (Instr.makeMap 67 none).run Tryz.prog w = .ok (.map (some w.heap.size)) (w.alloc (.map #[] 0)) := fun w => by kernel_rfl
 have hc4 := ((((HP1.out.alloc (.cells #[.nilIface] 23)).alloc (.cells #[.int .i64 0, .int .i64 0, .string ⟨#[]⟩] 26)).alloc (.map #[] 0)).alloc (.cells #[.map (some (w.heap.size + 1 + 1))] 69)).cell; go_wp2_with fail; have HT := yh (show ElI w ((((w.alloc (.cells #[.nilIface] 23)).alloc (.cells #[.int .i64 0, .int .i64 0, .string ⟨#[]⟩] 26)).alloc (.map #[] 0)).alloc (.cells #[.map (some (w.heap.size + 1 + 1))] 69)) [] from by
  have e1 : (w.alloc (.cells #[.nilIface] 23)).heap.size = w.heap.size + 1 := by simp
  have e2 : ((w.alloc (.cells #[.nilIface] 23)).alloc (.cells #[.int .i64 0, .int .i64 0, .string ⟨#[]⟩] 26)).heap.size = w.heap.size + 1 + 1 := by simp
  have e3 : (((w.alloc (.cells #[.nilIface] 23)).alloc (.cells #[.int .i64 0, .int .i64 0, .string ⟨#[]⟩] 26)).alloc (.map #[] 0)).heap.size = w.heap.size + 1 + 1 + 1 := by simp
  refine ⟨(((Blk.new w [.nilIface] 23).alloc _).alloc _).alloc _, ?_, ?_, ?_, ((((Keep.refl none w).alloc _).alloc _).alloc _).alloc _⟩
  · have := Blk.new (w.alloc (.cells #[.nilIface] 23)) [.int .i64 0, .int .i64 0, .string ⟨#[]⟩] 26; rw [e1] at this; exact (this.alloc _).alloc _
  · have := Blk.new (((w.alloc (.cells #[.nilIface] 23)).alloc (.cells #[.int .i64 0, .int .i64 0, .string ⟨#[]⟩] 26)).alloc (.map #[] 0)) [.map (some (w.heap.size + 1 + 1))] 69; rw [e3] at this; exact this
  · have := EnvV.made ((w.alloc (.cells #[.nilIface] 23)).alloc (.cells #[.int .i64 0, .int .i64 0, .string ⟨#[]⟩] 26)); rw [e2] at this; exact this.keep ((Keep.refl none _).alloc _))
 clear hc hc4; generalize World.alloc (World.alloc (World.alloc (World.alloc w _) _) _) _ = W at HT ⊢; go_loopw [21] (fun kv wr => ∃ (k : Nat) (env : Env), kv = .int .i64 (k : Int) ∧ k ≤ p.defs.length ∧ andThen (mkDefs env (p.defs.drop k)) (fun env => mk env p.main) = R ∧ env.good ∧ env.length ≤ k ∧ ElI w wr env) (fun kv _ => p.defs.length - (intOf kv).toNat)
 case atStart =>
  exact ⟨0, [], rfl, by omega, (by rw [List.drop_zero]; exact HR.out), (fun s t h => by cases h), (by simp), HT.out⟩
 case round =>
  clear HT HR; obtain ⟨k, env, rfl, hk, hR, hg, hel, hT⟩ := hrel; have HT := yh hT; have HR := yh hR; have HG := yh hg; clear hT hR hg; have hwk : IntKind.i64.wrap ((k : Int) + 1) = (k : Int) + 1 := IntWalk.i64_in _ (by omega); by_cases hlt2 : k < p.defs.length
  · have b0 : ((k : Int) < (p.defs.length : Int)) := by omega
    have b1 : (0 : Int) ≤ (k : Int) := by omega
    obtain ⟨d, hd⟩ : ∃ d, p.defs[k]? = some d := ⟨p.defs[k], List.getElem?_eq_getElem hlt2⟩; obtain ⟨gd, rfl⟩ : ∃ gd, ao = some ⟨gd, 0, none⟩ := by
     rcases HP2.out.2 with ⟨hv, h0⟩ | ⟨g, cap', cur, hv, _⟩
     · omega
     · cases hv; exact ⟨g, rfl⟩
    obtain ⟨v, hv, g0, g1, g2⟩ := defCells_get p.defs vs k d HVL.out hd; have HX := yh (show ExV wr (fun b => base ≤ b) d.body v from (HP3.out.get (by simp [hd]) hv).keep HT.out.k (NotRow.none _ _)); obtain ⟨tv, yv, rfl⟩ := HX.out.iface; have cells : ∀ j u, (defCells p.defs vs)[j]? = some u → wr.cell? ⟨gd, j, none⟩ = some u := by
     intro j u hj; have := HP2.out.cells (g := gd) rfl j u hj; have ha : (⟨gd, 0, none⟩ : Addr).add j = ⟨gd, j, none⟩ := by unfold Addr.add; split <;> simp_all
     rw [ha] at this; exact Keep.cellN HT.out.k this
    have k0 := cells _ _ g0; have k1 := cells _ _ g1; have k2 := cells _ _ g2; have HWD := yh (HW.out d (List.mem_of_getElem? hd)); have HRD := yh (show (match env.get d.name with
     | some _ => .error 71
     | none => andThen (mk env d.body) fun t => andThen (mkDefs ((d.name, t) :: env) (p.defs.drop (k + 1))) fun env => mk env p.main) = R from by
     rw [← HR.out, List.drop_eq_getElem_cons hlt2, mkDefs]; rw [List.getElem?_eq_getElem hlt2] at hd; rw [Option.some.inj hd]; cases env.get d.name with
     | some t => rfl
     | none => cases mk env d.body <;> rfl)
    clear cells g0 g1 g2 hv hd HR; go_wp2_with fail; have HD := yh (Blk.new wr [.int .i64 (d.p : Int), .string (mkS d.name), .iface tv yv] 59); have HI := yh (HT.out.keep ((Keep.refl none wr).alloc (.cells #[.int .i64 (d.p : Int), .string (mkS d.name), .iface tv yv] 59))); replace HX := yh (HX.out.keep ((Keep.refl none wr).alloc (.cells #[.int .i64 (d.p : Int), .string (mkS d.name), .iface tv yv] 59)) (NotRow.none _ _)); have hdl : w.heap.size + 3 < wr.heap.size := HT.out.bm.lt; clear k0 k1 k2 HT; generalize World.alloc wr _ = V at HD HI HX ⊢; generalize wr.heap.size = dd at HD hdl ⊢
    have hcd := HD.out.cell; have hcm : ∀ o, V.cell? ⟨w.heap.size + 1 + 1 + 1, o, none⟩ = [Value.map (some (w.heap.size + 1 + 1))][o]? := HI.out.bm.cell; have hl := HI.out.ev.lookup d.name HWD.out.2.2; cases hg : env.get d.name with
    | some t =>
     simp only [hg] at hl; obtain ⟨u, htu, hlx⟩ := hl; obtain ⟨tu, yu, rfl⟩ := htu.iface; have hl1 := hlx V (Keep.refl _ _); have hl2 := hlx V.drew (Keep.refl none _).drew; have hl3 (q : Nat) := hlx (V.drewN q) ((Keep.refl none _).drewN q); have hRe : R = .error 71 := by have h0 := HRD.out; rw [hg] at h0; exact h0.symm
     subst hRe; clear hlx hg htu; go_quiet (fail); clear hl1 hl2 hl3 hcd hcm; replace HI := yh (HI.out.keep ((Keep.refl none _).drewN nq)); have hcd := (HD.out.drewN nq).cell; go_wp2_with fail; clear hcd; refine (tm_fail _ _ _).mono ?_; rintro e x7 ⟨rfl, rfl⟩; dsimp only; refine leaves_cons (f := 19) (args := #[.pointer (some ⟨w.heap.size, 0, none⟩), .pointer (some ⟨w.heap.size + 1, 0, none⟩)]) (by simp) (by simp [go_sem]) ?_; refine (el_catch w.heap.size (w.heap.size + 1) _ _ _ _ _ _ _ HI.out.bo HI.out.bf (by omega)).mono ?_; rintro e u' w4 ⟨rfl, rfl, ho4, hf4, hbl⟩; refine ⟨_, results_ef (by rfl) _ _ w.heap.size (w.heap.size + 1) _ _ _ _ rfl rfl ho4 hf4, _, rfl, ?_⟩
     exact HI.out.k.below_trans hbl (by omega)
    | none =>
     simp only [hg] at hl; have hl1 := hl V (Keep.refl _ _); have hl2 := hl V.drew (Keep.refl none _).drew; have hl3 (q : Nat) := hl (V.drewN q) ((Keep.refl none _).drewN q); replace HRD := yh (show (andThen (mk env d.body) fun t => andThen (mkDefs ((d.name, t) :: env) (p.defs.drop (k + 1))) fun env => mk env p.main) = R from by have h0 := HRD.out; rw [hg] at h0; exact h0); clear hl; go_quiet (fail); clear hl1 hl2 hl3 hcd hcm; replace HI := yh (HI.out.keep ((Keep.refl none _).drewN nq)); replace HD := yh (HD.out.drewN nq); replace HX := yh (HX.out.keep ((Keep.refl none _).drewN nq) (NotRow.none _ _))
     generalize World.drewN V nq = V1 at HI HD HX ⊢; go_wp2_with fail; refine wp_region_penD (fun w' => Blk w' (w.heap.size + 1 + 1 + 1) [.map (some (w.heap.size + 1 + 1))] 69 ∧ Blk w' dd [.int .i64 (d.p : Int), .string (mkS d.name), .iface tv yv] 59) 10 (by kernel_rfl) (by kernel_rfl) (fun i o ho c a v w h => leaves_put (fn := Tryz.f10) rfl (by decide +kernel) ho a v _ w h) (by exact ⟨HI.out.bm.drew, HD.out.drew⟩) ?_; simp only [List.length_cons, List.length_nil]; replace HI := yh (HI.out.keep ((Keep.refl none _).drew)); replace HD := yh HD.out.drew; replace HX := yh (HX.out.keep ((Keep.refl none _).drew) (NotRow.none _ _))
     generalize V1.drew = V2 at HI HD HX ⊢; refine pen_stableD 0 (getOp rfl) (by decide +kernel) (fun K hK => ?_); rw [if_pos (by rfl)]; apply Exists.intro; refine ⟨fun w' hS' => ?_, hK _ ?_⟩
     · obtain ⟨hS1, hS2⟩ := hS'; replace hS1 := Blk.cell hS1; replace hS2 := Blk.cell hS2; go_simp; try with_reducible rfl
     clear hK K; simp only [Act.put, List.setIfInBounds_toArray, List.set]; refine pen_stableD 1 (getOp rfl) (by decide +kernel) (fun K hK => ?_); rw [if_pos (by rfl)]; apply Exists.intro; refine ⟨fun w' hS' => ?_, hK _ ?_⟩
     · obtain ⟨hS1, hS2⟩ := hS'; replace hS1 := Blk.cell hS1; replace hS2 := Blk.cell hS2; go_simp; try with_reducible rfl
     clear hK K; simp only [Act.put, List.setIfInBounds_toArray, List.set]; refine pen_stableD 2 (getOp rfl) (by decide +kernel) (fun K hK => ?_); rw [if_pos (by rfl)]; apply Exists.intro; refine ⟨fun w' hS' => ?_, hK _ ?_⟩
     · obtain ⟨hS1, hS2⟩ := hS'; replace hS1 := Blk.cell hS1; replace hS2 := Blk.cell hS2; go_simp; try with_reducible rfl
     clear hK K; simp only [Act.put, List.setIfInBounds_toArray, List.set]; refine pen_stableD 3 (getOp rfl) (by decide +kernel) (fun K hK => ?_); rw [if_pos (by rfl)]; apply Exists.intro; refine ⟨fun w' hS' => ?_, hK _ ?_⟩
     · obtain ⟨hS1, hS2⟩ := hS'; replace hS1 := Blk.cell hS1; replace hS2 := Blk.cell hS2; go_simp; try with_reducible rfl
     clear hK K; simp only [Act.put, List.setIfInBounds_toArray, List.set]; refine pen_stableD 4 (getOp rfl) (by decide +kernel) (fun K hK => ?_); rw [if_pos (by rfl)]; apply Exists.intro; refine ⟨fun w' hS' => ?_, hK _ ?_⟩
     · obtain ⟨hS1, hS2⟩ := hS'; replace hS1 := Blk.cell hS1; replace hS2 := Blk.cell hS2; go_simp; try with_reducible rfl
     clear hK K; simp only [Act.put, List.setIfInBounds_toArray, List.set]; refine pen_stableD 5 (getOp rfl) (by decide +kernel) (fun K hK => ?_); rw [if_pos (by rfl)]; apply Exists.intro; refine ⟨fun w' hS' => ?_, hK _ ?_⟩
     · obtain ⟨hS1, hS2⟩ := hS'; replace hS1 := Blk.cell hS1; replace hS2 := Blk.cell hS2; go_simp; try with_reducible rfl
     clear hK K; simp only [Act.put, List.setIfInBounds_toArray, List.set]; refine pen_stableD 6 (getOp rfl) (by decide +kernel) (fun K hK => ?_); rw [if_pos (by rfl)]; apply Exists.intro; refine ⟨fun w' hS' => ?_, hK _ ?_⟩
     · obtain ⟨hS1, hS2⟩ := hS'; replace hS1 := Blk.cell hS1; replace hS2 := Blk.cell hS2; go_simp; try with_reducible rfl
     clear hK K; simp only [Act.put, List.setIfInBounds_toArray, List.set]; refine pen_stableD 7 (getOp rfl) (by decide +kernel) (fun K hK => ?_); rw [if_pos (by rfl)]; apply Exists.intro; refine ⟨fun w' hS' => ?_, hK _ ?_⟩
     · obtain ⟨hS1, hS2⟩ := hS'; replace hS1 := Blk.cell hS1; replace hS2 := Blk.cell hS2; go_simp; try with_reducible rfl
     clear hK K; simp only [Act.put, List.setIfInBounds_toArray, List.set]; refine pen_stableD 8 (getOp rfl) (by decide +kernel) (fun K hK => ?_); rw [if_pos (by rfl)]; apply Exists.intro; refine ⟨fun w' hS' => ?_, hK _ ?_⟩
     · obtain ⟨hS1, hS2⟩ := hS'; replace hS1 := Blk.cell hS1; replace hS2 := Blk.cell hS2; go_simp; try with_reducible rfl
     clear hK K; simp only [Act.put, List.setIfInBounds_toArray, List.set]; have hmk := make_any (w.heap.size + 3) env HG.out d.body HWD.out.1 HWD.out.2.1 _ V2 _ HX.out HI.out.mk' (HE.out.keep HI.out.k); refine pen_activeD 9 (getOp rfl) (by decide +kernel) (fun K hK => ?_); rw [if_pos (by rfl)]; go_wp2_with fail; cases hx : mk env d.body with
     | error c =>
      rw [hx] at hmk; have hRe : R = .error c := by have h0 := HRD.out; rw [hx] at h0; exact h0.symm
      subst hRe; refine hmk.mono ?_; rintro e x7 ⟨pl, rfl, k7⟩; replace HI := yh (HI.out.keep k7); dsimp only; refine leaves_cons (f := 19) (args := #[.pointer (some ⟨w.heap.size, 0, none⟩), .pointer (some ⟨w.heap.size + 1, 0, none⟩)]) (by simp) (by simp [go_sem]) ?_; refine (el_catch w.heap.size (w.heap.size + 1) _ _ _ _ _ _ _ HI.out.bo HI.out.bf (by omega)).mono ?_; rintro e u' w4 ⟨rfl, rfl, ho4, hf4, hbl⟩; refine ⟨_, results_ef (by rfl) _ _ w.heap.size (w.heap.size + 1) _ _ _ _ rfl rfl ho4 hf4, _, rfl, ?_⟩; exact HI.out.k.below_trans hbl (by omega)
     | ok t =>
      rw [hx] at hmk; have HGT := yh (mk_good HG.out HWD.out.2.1 hx); replace HRD := yh (show andThen (mkDefs ((d.name, t) :: env) (p.defs.drop (k + 1))) (fun env => mk env p.main) = R from by have h0 := HRD.out; rw [hx] at h0; exact h0); refine hmk.mono ?_; rintro e x7 ⟨vt, rfl, hvt, k7⟩; replace HI := yh (HI.out.keep k7); replace HD := yh (HD.out.keep k7 (by simp)); obtain ⟨X, hrun, hev, hkx⟩ := HI.out.ev.update d.name HWD.out.2.2 t vt hvt (by unfold maxLen; omega); obtain ⟨tt, yt, rfl⟩ := hvt.iface; have HI2 := yh (HI.out.put hkx hev); clear hmk hvt k7 hx hev hkx; refine hK.out _ _ ⟨HI.out.bm, HD.out⟩ ?_
      clear hK K; try simp only [Act.put, List.setIfInBounds_toArray, List.set]
      refine pen_lastD 10 (getOp rfl) (by decide +kernel) (by decide +kernel) (by decide +kernel) (fun K hK => ?_); rw [if_pos (by rfl)]; go_simp; refine hK.out _ _ ?_; clear hrun; go_wp2_with fail; go_roundw; case rel =>
       refine ⟨k + 1, (d.name, t) :: env, rfl, by omega, HRD.out, ?_, by simp; omega, HI2.out⟩; intro u t' hu; simp only [Env.get] at hu; split at hu
       · cases hu; exact HGT.out
       · exact HG.out u t' hu
      case measure =>
       simp only [intOf, Int.toNat_natCast]; omega
  · have b0 : ¬ ((k : Int) < (p.defs.length : Int)) := by omega
    have HRE := yh (show mk env p.main = R from by
     have h0 := HR.out; rw [show p.defs.drop k = [] from List.drop_eq_nil_of_le (by omega)] at h0; exact h0)
    have HI := yh HT.out; have hcp := (HP1.out.keep HT.out.k (by simp)).cell; clear HR HT; go_wp2_with fail; clear hcp; have hmk := make_any (w.heap.size + 3) env HG.out p.main HM.out.1 HM.out.2 _ wr _ (HP4.out.keep HI.out.k (NotRow.none _ _)) HI.out.mk' (HE.out.keep HI.out.k); rw [HRE.out] at hmk; cases R with
    | error c =>
     refine hmk.mono ?_; rintro e x7 ⟨pl, rfl, k7⟩; replace HI := yh (HI.out.keep k7); dsimp only; refine leaves_cons (f := 19) (args := #[.pointer (some ⟨w.heap.size, 0, none⟩), .pointer (some ⟨w.heap.size + 1, 0, none⟩)]) (by simp) (by simp [go_sem]) ?_; refine (el_catch w.heap.size (w.heap.size + 1) _ _ _ _ _ _ _ HI.out.bo HI.out.bf (by omega)).mono ?_; rintro e u' w4 ⟨rfl, rfl, ho4, hf4, hbl⟩; refine ⟨_, results_ef (by rfl) _ _ w.heap.size (w.heap.size + 1) _ _ _ _ rfl rfl ho4 hf4, _, rfl, ?_⟩; exact HI.out.k.below_trans hbl (by omega)
    | ok t =>
     refine hmk.mono ?_; rintro e x7 ⟨vt, rfl, hvt, k7⟩; replace HI := yh (HI.out.keep k7); obtain ⟨tt, yt, rfl⟩ := hvt.iface; have HVT := yh hvt; have hcO := HI.out.bo.cell; have hfO := HI.out.bo.frozen; have hcF := HI.out.bf.cell; have hfF := HI.out.bf.frozen; have hne1 : w.heap.size ≠ w.heap.size + 1 := by omega
     clear hvt k7 hmk; go_wp2_with fail; clear hcO hfO hcF hfF; refine leaves_cons (f := 19) (args := #[.pointer (some ⟨w.heap.size, 0, none⟩), .pointer (some ⟨w.heap.size + 1, 0, none⟩)]) (by simp) (by simp [go_sem]) ?_; refine (el_idle _ _ _).mono ?_; rintro e u' w6 ⟨rfl, rfl, rfl⟩; refine ⟨_, results_ef (by rfl) _ _ w.heap.size (w.heap.size + 1) (.iface tt yt) (.int .i64 0) (.int .i64 0) (.string ⟨#[]⟩) rfl rfl ?_ ?_, ?_⟩
     · exact ((HI.out.bo.set 0 _).far3 _ _ _ hne1)
     · exact ((HI.out.bf.far _ _ hne1.symm).three _ _ _)
     · refine ⟨_, rfl, ?_, (HI.out.k.set _ _ (.inr (Nat.le_refl _))).three _ _ _ (by omega)⟩; have kk := (Keep.refl (some w.heap.size) x7).set ⟨w.heap.size, 0, none⟩ (.iface tt yt) (.inl rfl); have h1 := HVT.out.keepA kk (NotRow.blk HI.out.bo (by decide)) (NotRow.blk HI.out.bo (by decide)); have bf1 := HI.out.bf.far ⟨w.heap.size, 0, none⟩ (.iface tt yt) hne1.symm; exact h1.keepA (Keep.three' (Keep.refl _ _) _ _ _) (NotRow.blk bf1 (by decide)) (NotRow.blk bf1 (by decide))
end Go.Proofs.YtmfabihndpidnaaGreatDoor
