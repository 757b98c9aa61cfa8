/-
  Terms: Read.
-/
import Derived.Test.YtmfabihndpidnaaGreatDoorK42
import Derived.Test.YtmfabihndpidnaaGreatDoorK03
namespace Go.Proofs.YtmfabihndpidnaaGreatDoor
open Go.RowKit
set_option maxRecDepth 100000
set_option linter.unusedVariables false
set_option linter.unusedSimpArgs false
def Prog.trim (p : Prog) : Prop := (∀ d ∈ p.defs, Wf d.body ∧ d.body.trim ∧ d.name.length ≤ 100000) ∧ (Wf p.main ∧ p.main.trim) ∧ p.defs.length ≤ 100000
theorem Ranks.keepN {w w' : World} (h : Ranks w) (k : Keep none w w') : Ranks w' := fun o => by
 have hlt : 0 < w.heap.size := World.block_lt_of_cell? w ⟨0, 0, none⟩ (h 0); rw [← h o]; simp only [World.cell?]; rw [k.block 0 hlt (by simp)]
theorem ProgV.keepN {w w' : World} {base b : Nat} {p : Prog} (h : ProgV w base b p) (k : Keep none w w') : ProgV w' base b p := by
 obtain ⟨sv, mv, vs, h1, h2, h3, h4⟩ := h; exact ⟨sv, mv, vs, h1.keep k (by simp), own_keep h2 k (NotRow.none _ _), ExsV.far (fun b cs fr _ hb => k.block b (lt_of_block hb) (by simp)) h3, h4.keep k (NotRow.none _ _)⟩
theorem results_mix {fn : Func} (h : fn.results = #[.tmp 2, .cell 3 26]) (tmps : Array Value) (w : World) (k : Nat) (v a b c : Value)
 (hp : tmps.getD 2 undef = v) (hq : tmps.getD 3 undef = .pointer (some ⟨k, 0, none⟩)) (hk : Blk w k [a, b, c] 26) :
 (results fn tmps).run Tryz.prog w = .ok (.tuple #[v, .agg #[a, b, c]]) w := by
 have hp' : tmps[2]?.getD undef = v := by simpa using hp
 have hq' : tmps[3]?.getD undef = .pointer (some ⟨k, 0, none⟩) := by simpa using hq
 simp [results, h, hp', hq', asAddr, run_loadVar_row w k 26 26 #[a, b, c] (0, 0) _ hk Tryz.underlying26 rfl (by kernel_rfl)]
theorem read_term (s : ByteArray) (w : World) (hr : Ranks w) (hE : Escs w) (hP : ∀ p, parse s.data.toList = .ok p → p.trim) (hF : ∀ f, parse s.data.toList = .error f → f.code ≠ 0) (R : Except Nat Tm) (hR : readT s.data.toList = R) :
 Calls Tryz.prog 4 #[.string s] w (ElOut w R) := by
 have HRK := yh hr; have HE := yh hE; have HP := yh hP; have HF := yh hF; have HR := yh hR; clear hr hE hP hF hR; go_enter Tryz.func4, Tryz.ntmps4; go_wp2_with fail; have HB := yh (Blk.new w [.int .i64 0, .int .i64 0, .string ⟨#[]⟩] 26); have HK := yh ((Keep.refl none w).alloc (.cells #[.int .i64 0, .int .i64 0, .string ⟨#[]⟩] 26)); generalize World.alloc w _ = V at HB HK ⊢; cases hx : parse s.data.toList with
 | error f =>
  have hRe : R = .error f.code := by rw [← HR.out]; simp [readT, hx]
  subst hRe; refine (parse_walk s V (HRK.out.keepN HK.out) _ hx).mono ?_; rintro e x1 ⟨rfl, k1⟩; have hcz : ¬ ((f.code : Int) = 0) := by have := HF.out f hx; omega
  have HB1 := yh ((HB.out.keep k1 (by simp)).alloc (.cells #[.int .i64 (f.code : Int), .int .i64 f.pl, .string ⟨#[]⟩] 26)); have HB2 := yh (Blk.new x1 [.int .i64 (f.code : Int), .int .i64 f.pl, .string ⟨#[]⟩] 26); have HK1 := yh ((HK.out.trans k1).alloc (.cells #[.int .i64 (f.code : Int), .int .i64 f.pl, .string ⟨#[]⟩] 26)); unfold faultV; clear k1 hx; go_wp2_with fail; refine wp_region_pen (fun w' => Blk w' x1.heap.size [.int .i64 (f.code : Int), .int .i64 f.pl, .string ⟨#[]⟩] 26) 2 (by kernel_rfl) (by kernel_rfl) (fun c a d v w h => by cases d <;> exact h) (by exact HB2.out.drew) ?_
  simp only [List.length_cons, List.length_nil]; replace HB1 := yh HB1.out.drew; replace HK1 := yh HK1.out.drew; generalize World.drew _ = X at HB1 HK1 ⊢; refine pen_list [0, 1] ?_; repeat
   (refine penl_stable (getOp rfl) (by decide +kernel) (fun K hK => ?_)
    rw [if_pos (by rfl)]; apply Exists.intro; refine ⟨fun w' hS' => ?_, hK _ ?_⟩
    · replace hS' := Blk.cell hS'; go_simp; try with_reducible rfl
    clear hK K; simp only [Act.put, List.setIfInBounds_toArray, List.set])
  refine penl_end ?_; have hc := HB1.out.cell; have hf := HB1.out.frozen; refine pen_last 2 (getOp rfl) (by decide +kernel) (by decide +kernel) (by decide +kernel) (fun K hK => ?_); rw [if_pos (by rfl)]; go_simp; refine hK.out _ _ ?_; clear hc hf; go_wp2_with fail; exact ⟨rfl, _, results_mix (by rfl) _ _ w.heap.size .nilIface (.int .i64 (f.code : Int)) (.int .i64 f.pl) (.string ⟨#[]⟩) rfl rfl (HB1.out.three _ _ _), _, rfl, HK1.out.three _ _ _ (Nat.le_refl _)⟩
 | ok p =>
  have hRe : elabT p = R := by rw [← HR.out]; simp [readT, hx]
  have HPT := yh (HP.out p hx); have HRE := yh hRe; refine (parse_walk s V (HRK.out.keepN HK.out) _ hx).mono ?_; rintro e x1 ⟨b, base, rfl, hb0, hb1, hpv, k1⟩; have HB1 := yh ((HB.out.keep k1 (by simp)).alloc (.cells #[.int .i64 0, .int .i64 0, .string ⟨#[]⟩] 26)); have HK1 := yh ((HK.out.trans k1).alloc (.cells #[.int .i64 0, .int .i64 0, .string ⟨#[]⟩] 26)); unfold faultV; clear hx hRe; go_wp2_with fail; refine (elab_walk base b p _ (hpv.keepN ((Keep.refl none x1).alloc (.cells #[.int .i64 0, .int .i64 0, .string ⟨#[]⟩] 26))) (HE.out.keep HK1.out) HPT.out.1 HPT.out.2.1 HPT.out.2.2 _ HRE.out).mono ?_
  have HOK := yh hb0; cases R with
  | error c =>
   rintro e x2 ⟨pl, rfl, k2⟩; have HB2 := yh (HB1.out.keep k2 (by simp)); have HK2 := yh (HK1.out.trans k2); have hc := HB2.out.cell; have hf := HB2.out.frozen; unfold faultV; go_wp2_with fail; clear hc hf; exact ⟨rfl, _, results_mix (by rfl) _ _ w.heap.size .nilIface (.int .i64 (c : Int)) (.int .i64 pl) (.string ⟨#[]⟩) rfl rfl (HB2.out.three _ _ _), _, rfl, HK2.out.three _ _ _ (Nat.le_refl _)⟩
  | ok t =>
   rintro e x2 ⟨v, rfl, hv, k2⟩; obtain ⟨tv, yv, rfl⟩ := hv.iface; have HB2 := yh (HB1.out.keep k2 (by simp)); have HK2 := yh (HK1.out.trans k2); have hc := HB2.out.cell; have hf := HB2.out.frozen; unfold faultV; go_wp2_with fail; clear hc hf; exact ⟨rfl, _, results_mix (by rfl) _ _ w.heap.size (.iface tv yv) (.int .i64 0) (.int .i64 0) (.string ⟨#[]⟩) rfl rfl (HB2.out.three _ _ _), _, rfl, hv.keepA (Keep.three' (Keep.refl _ _) _ _ _) (NotRow.blk HB2.out (by decide)) (NotRow.blk HB2.out (by decide)), HK2.out.three _ _ _ (Nat.le_refl _)⟩
end Go.Proofs.YtmfabihndpidnaaGreatDoor
