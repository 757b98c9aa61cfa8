/-
  Terms: how large they are.
-/
import Derived.Test.YtmfabihndpidnaaGreatDoorK33
import Derived.Test.YtmfabihndpidnaaGreatDoorK03
namespace Go.Proofs.YtmfabihndpidnaaGreatDoor
set_option maxHeartbeats 4000000
open Go.RowKit
set_option maxRecDepth 100000
set_option linter.unusedVariables false
set_option linter.unusedSimpArgs false
attribute [local go_sem ↓] run_tm_78_78 run_tm_82_78 run_tm_82_82 run_tm_84_78 run_tm_84_82 run_tm_84_84 run_tm_87_78 run_tm_87_82 run_tm_87_84 run_tm_87_87
def SizeOf (w : World) (v : Value) (z : Nat) : Prop := ∀ V, Keep none w V → Calls Tryz.prog 18 #[v] V fun e w' => e = .returned (.int .i64 (z : Int)) ∧ Keep none V w'
theorem size_nil84 (w : World) : SizeOf w (.iface 84 nop) 0 := fun V k => by
 unfold nop; go_enter Tryz.func18, Tryz.ntmps18; go_wp2_with fail; go_ret; exact ⟨rfl, Keep.refl _ _⟩
theorem size_nil87 (w : World) : SizeOf w (.iface 87 nop) 0 := fun V k => by
 unfold nop; go_enter Tryz.func18, Tryz.ntmps18; go_wp2_with fail; go_ret; exact ⟨rfl, Keep.refl _ _⟩
theorem size_text (w : World) (p : Nat) (s : Bs) (hs : s.length ≤ 1000000) : SizeOf w (.iface 78 (.agg #[.int .i64 (p : Int), .string (mkS s)])) (textSize s) := fun V k => by
 have HT := yh (fun V => textSize_any (mkS s) (by rw [mkS_size]; omega) V); rw [show (mkS s).data.toList = s from by simp] at HT; go_enter Tryz.func18, Tryz.ntmps18; go_wp2_with fail; refine (HT.out _).mono ?_; rintro e x1 ⟨rfl, rfl⟩; go_wp2_with fail; go_ret; exact ⟨rfl, (Keep.refl _ _).alloc _⟩
theorem size_rx (w : World) (p : Nat) (n : Nd) (hn : n.size ≤ 1000000000) : SizeOf w (.iface 82 (.agg #[.int .i64 (p : Int), ndV n])) n.size := fun V k => by
 obtain ⟨ty, y, KS, hn, hm, hc, hk⟩ := size_at n hn; have HK := yh hk; rw [hn]; clear hk hn; go_enter Tryz.func18, Tryz.ntmps18; go_wp2_with fail; refine (HK.out _).mono ?_; rintro e x1 ⟨rfl, k1⟩; go_wp2_with fail; go_ret; exact ⟨rfl, ((Keep.refl _ _).alloc _).trans k1⟩
def NodeSz (v : Value) (z : Nat) : Prop := (∀ V, Calls Tryz.prog 40 #[v] V fun e w' => e = .returned (.int .i64 (z : Int)) ∧ Keep none V w') ∧ v.oneCell' = true
theorem nodeSz_nil : NodeSz .nilIface 0 := ⟨fun V => (nodeSize_nil V).mono fun _ _ ⟨h1, h2⟩ => ⟨h1, by rw [h2]; exact Keep.refl _ _⟩, rfl⟩
theorem nodeSz_some (n : Nd) (hn : n.size ≤ 1000000000) : NodeSz (ndV n) n.size := ⟨fun V => nodeSize_some n hn V, by obtain ⟨t, y, h⟩ := ndV_iface n; rw [h]; rfl⟩
theorem size_canon_gen (w : World) (g p : Nat) (op : Bs) (nv : Value) (fw bw : Bs) (va vb : Value) (z za zb : Nat) (hnv : NodeSz nv z) (hva : SizeOf w (.iface 84 va) za) (ova : va.oneCell' = true) (hvb : SizeOf w (.iface 84 vb) zb) (ovb : vb.oneCell' = true) (hf : fw.length ≤ 1000000) (Z : Nat) (hZ : Z = 1 + z + za + zb + (if op = [110, 111, 114, 109] then textSize fw else 0)) (hz : z + za + zb ≤ 1000000000)
 (hb : Blk w g [.int .i64 (p : Int), .string (mkS op), nv, .string (mkS fw), .string (mkS bw), va, vb] 86) : SizeOf w (.iface 84 (ptr g)) Z := fun V k => by
 have HB := yh (hb.keep k (by simp)); have HN := yh hnv.1; have HZZ := yh hZ; have Hva := yh (fun X (kx : Keep none V X) => hva X (k.trans kx)); have Hvb := yh (fun X (kx : Keep none V X) => hvb X (k.trans kx)); have HT := yh (fun V => textSize_any (mkS fw) (by rw [mkS_size]; omega) V); rw [show (mkS fw).data.toList = fw from by simp] at HT; have on := hnv.2; have HKK := yh (Keep.refl none V); have w0 : IntKind.i64.wrap (1 + (z : Int)) = 1 + (z : Int) := IntWalk.i64_in _ (by omega); have w1 : IntKind.i64.wrap (1 + (z : Int) + (za : Int)) = 1 + (z : Int) + (za : Int) := IntWalk.i64_in _ (by omega)
 have w2 : IntKind.i64.wrap (1 + (z : Int) + (za : Int) + (zb : Int)) = 1 + (z : Int) + (za : Int) + (zb : Int) := IntWalk.i64_in _ (by omega); unfold ptr; clear hnv hb hZ hva hvb; go_enter Tryz.func18, Tryz.ntmps18; have hc := HB.out.cell; go_wp2_with fail; clear hc; refine wp_region_pen (fun w' => Blk w' g [.int .i64 (p : Int), .string (mkS op), nv, .string (mkS fw), .string (mkS bw), va, vb] 86) 99 (by kernel_rfl) (by kernel_rfl) (fun c a d v w h => by cases d <;> exact h) (by exact HB.out.drew) ?_; simp only [List.length_cons, List.length_nil]; replace HB := yh HB.out.drew; replace HKK := yh HKK.out.drew
 generalize hV0 : V.drew = V0 at HB HKK ⊢; clear hV0; refine pen_list [0, 1, 2, 3, 6, 7, 8, 9, 10, 13, 14, 15, 16, 17] ?_; repeat
  (refine penl_stable (getOp rfl) (by decide +kernel) (fun K hK => ?_)
   rw [if_pos (by rfl)]; apply Exists.intro; refine ⟨fun w' hS' => ?_, hK _ ?_⟩
   · replace hS' := Blk.cell hS'; go_simp; try with_reducible rfl
   clear hK K; simp only [Act.put, List.setIfInBounds_toArray, List.set])
 refine penl_end ?_; refine pen_active 4 (getOp rfl) (by decide +kernel) (fun K hK => ?_); rw [if_pos (by rfl)]; go_wp2_with fail; refine (HN.out _).mono ?_; rintro e x4 ⟨rfl, kx⟩; replace HB := yh (HB.out.keep kx (by simp)); replace HKK := yh (HKK.out.trans kx); clear kx; refine hK.out _ _ (HB.out) ?_; clear hK K; try simp only [Act.put, List.setIfInBounds_toArray, List.set]
 refine pen_stable 5 (getOp rfl) (by decide +kernel) (fun K hK => ?_); rw [if_pos (by rfl)]; apply Exists.intro; refine ⟨fun w' hS' => ?_, hK _ ?_⟩
 · replace hS' := Blk.cell hS'; go_simp; try with_reducible rfl
 clear hK K; simp only [Act.put, List.setIfInBounds_toArray, List.set]; refine pen_active 11 (getOp rfl) (by decide +kernel) (fun K hK => ?_); rw [if_pos (by rfl)]; go_wp2_with fail; refine (Hva.out _ HKK.out).mono ?_; rintro e x11 ⟨rfl, kx⟩; replace HB := yh (HB.out.keep kx (by simp)); replace HKK := yh (HKK.out.trans kx); clear kx; refine hK.out _ _ (HB.out) ?_; clear hK K; try simp only [Act.put, List.setIfInBounds_toArray, List.set]
 refine pen_stable 12 (getOp rfl) (by decide +kernel) (fun K hK => ?_); rw [if_pos (by rfl)]; apply Exists.intro; refine ⟨fun w' hS' => ?_, hK _ ?_⟩
 · replace hS' := Blk.cell hS'; go_simp; try with_reducible rfl
 clear hK K; simp only [Act.put, List.setIfInBounds_toArray, List.set]; refine pen_active 18 (getOp rfl) (by decide +kernel) (fun K hK => ?_); rw [if_pos (by rfl)]; go_wp2_with fail; refine (Hvb.out _ HKK.out).mono ?_; rintro e x18 ⟨rfl, kx⟩; replace HB := yh (HB.out.keep kx (by simp)); replace HKK := yh (HKK.out.trans kx); clear kx; refine hK.out _ _ (HB.out) ?_; clear hK K; try simp only [Act.put, List.setIfInBounds_toArray, List.set]
 refine pen_list [19, 20] ?_; repeat
  (refine penl_stable (getOp rfl) (by decide +kernel) (fun K hK => ?_)
   rw [if_pos (by rfl)]; apply Exists.intro; refine ⟨fun w' hS' => ?_, hK _ ?_⟩
   · replace hS' := Blk.cell hS'; go_simp; try with_reducible rfl
   clear hK K; simp only [Act.put, List.setIfInBounds_toArray, List.set])
 refine penl_end ?_; refine pen_done (by decide +kernel) ?_; have hc := HB.out.cell; by_cases hop : op = [110, 111, 114, 109]
 · have e1 : (op == [110, 111, 114, 109]) = true := by rw [hop]; rfl
   have HZ2 := yh (show Z = 1 + z + za + zb + textSize fw from by rw [HZZ.out, if_pos hop]); have htz : textSize fw ≤ 2000001 := by unfold textSize; omega
   have wt : IntKind.i64.wrap (1 + (z : Int) + (za : Int) + (zb : Int) + (textSize fw : Int)) = 1 + (z : Int) + (za : Int) + (zb : Int) + (textSize fw : Int) := IntWalk.i64_in _ (by omega); clear hop; go_wp2_with fail; clear hc; refine (HT.out _).mono ?_; rintro e x3 ⟨rfl, rfl⟩; go_wp2_with fail; go_ret; refine ⟨?_, HKK.out⟩; rw [HZ2.out]; simp [go_sem]
 · have e1 : (op == [110, 111, 114, 109]) = false := by simpa using hop
   have HZ2 := yh (show Z = 1 + z + za + zb from by rw [HZZ.out, if_neg hop, Nat.add_zero]); clear hop; go_wp2_with fail; clear hc; go_ret; refine ⟨?_, HKK.out⟩; rw [HZ2.out]; simp [go_sem]
theorem size_lens_gen (w : World) (g p : Nat) (op : Bs) (nv : Value) (fw : Bs) (vq va vb : Value) (z zq za zb : Nat) (hnv : NodeSz nv z) (hvq : SizeOf w (.iface 84 vq) zq) (ovq : vq.oneCell' = true) (hva : SizeOf w (.iface 87 va) za) (ova : va.oneCell' = true) (hvb : SizeOf w (.iface 87 vb) zb) (ovb : vb.oneCell' = true) (hf : fw.length ≤ 1000000) (Z : Nat) (hZ : Z = 1 + z + zq + za + zb + (if op = [105, 110, 115] then textSize fw else 0)) (hz : z + zq + za + zb ≤ 1000000000)
 (hb : Blk w g [.int .i64 (p : Int), .string (mkS op), nv, .string (mkS fw), vq, va, vb] 89) : SizeOf w (.iface 87 (ptr g)) Z := fun V k => by
 have HB := yh (hb.keep k (by simp)); have HN := yh hnv.1; have HZZ := yh hZ; have Hvq := yh (fun X (kx : Keep none V X) => hvq X (k.trans kx)); have Hva := yh (fun X (kx : Keep none V X) => hva X (k.trans kx)); have Hvb := yh (fun X (kx : Keep none V X) => hvb X (k.trans kx)); have HT := yh (fun V => textSize_any (mkS fw) (by rw [mkS_size]; omega) V); rw [show (mkS fw).data.toList = fw from by simp] at HT; have on := hnv.2; have HKK := yh (Keep.refl none V); have w0 : IntKind.i64.wrap (1 + (z : Int)) = 1 + (z : Int) := IntWalk.i64_in _ (by omega); have w1 : IntKind.i64.wrap (1 + (z : Int) + (zq : Int)) = 1 + (z : Int) + (zq : Int) := IntWalk.i64_in _ (by omega)
 have w2 : IntKind.i64.wrap (1 + (z : Int) + (zq : Int) + (za : Int)) = 1 + (z : Int) + (zq : Int) + (za : Int) := IntWalk.i64_in _ (by omega); have w3 : IntKind.i64.wrap (1 + (z : Int) + (zq : Int) + (za : Int) + (zb : Int)) = 1 + (z : Int) + (zq : Int) + (za : Int) + (zb : Int) := IntWalk.i64_in _ (by omega); unfold ptr; clear hnv hb hZ hvq hva hvb; go_enter Tryz.func18, Tryz.ntmps18; have hc := HB.out.cell; go_wp2_with fail; clear hc; refine wp_region_pen (fun w' => Blk w' g [.int .i64 (p : Int), .string (mkS op), nv, .string (mkS fw), vq, va, vb] 89) 99 (by kernel_rfl) (by kernel_rfl) (fun c a d v w h => by cases d <;> exact h) (by exact HB.out.drew) ?_
 simp only [List.length_cons, List.length_nil]; replace HB := yh HB.out.drew; replace HKK := yh HKK.out.drew; generalize hV0 : V.drew = V0 at HB HKK ⊢; clear hV0; refine pen_list [0, 1, 2, 3, 6, 7, 8, 9, 10, 13, 14, 15, 16, 17, 20, 21, 22, 23, 24] ?_; repeat
  (refine penl_stable (getOp rfl) (by decide +kernel) (fun K hK => ?_)
   rw [if_pos (by rfl)]; apply Exists.intro; refine ⟨fun w' hS' => ?_, hK _ ?_⟩
   · replace hS' := Blk.cell hS'; go_simp; try with_reducible rfl
   clear hK K; simp only [Act.put, List.setIfInBounds_toArray, List.set])
 refine penl_end ?_; refine pen_active 4 (getOp rfl) (by decide +kernel) (fun K hK => ?_); rw [if_pos (by rfl)]; go_wp2_with fail; refine (HN.out _).mono ?_; rintro e x4 ⟨rfl, kx⟩; replace HB := yh (HB.out.keep kx (by simp)); replace HKK := yh (HKK.out.trans kx); clear kx; refine hK.out _ _ (HB.out) ?_; clear hK K; try simp only [Act.put, List.setIfInBounds_toArray, List.set]
 refine pen_stable 5 (getOp rfl) (by decide +kernel) (fun K hK => ?_); rw [if_pos (by rfl)]; apply Exists.intro; refine ⟨fun w' hS' => ?_, hK _ ?_⟩
 · replace hS' := Blk.cell hS'; go_simp; try with_reducible rfl
 clear hK K; simp only [Act.put, List.setIfInBounds_toArray, List.set]; refine pen_active 11 (getOp rfl) (by decide +kernel) (fun K hK => ?_); rw [if_pos (by rfl)]; go_wp2_with fail; refine (Hvq.out _ HKK.out).mono ?_; rintro e x11 ⟨rfl, kx⟩; replace HB := yh (HB.out.keep kx (by simp)); replace HKK := yh (HKK.out.trans kx); clear kx; refine hK.out _ _ (HB.out) ?_; clear hK K; try simp only [Act.put, List.setIfInBounds_toArray, List.set]
 refine pen_stable 12 (getOp rfl) (by decide +kernel) (fun K hK => ?_); rw [if_pos (by rfl)]; apply Exists.intro; refine ⟨fun w' hS' => ?_, hK _ ?_⟩
 · replace hS' := Blk.cell hS'; go_simp; try with_reducible rfl
 clear hK K; simp only [Act.put, List.setIfInBounds_toArray, List.set]; refine pen_active 18 (getOp rfl) (by decide +kernel) (fun K hK => ?_); rw [if_pos (by rfl)]; go_wp2_with fail; refine (Hva.out _ HKK.out).mono ?_; rintro e x18 ⟨rfl, kx⟩; replace HB := yh (HB.out.keep kx (by simp)); replace HKK := yh (HKK.out.trans kx); clear kx; refine hK.out _ _ (HB.out) ?_; clear hK K; try simp only [Act.put, List.setIfInBounds_toArray, List.set]
 refine pen_stable 19 (getOp rfl) (by decide +kernel) (fun K hK => ?_); rw [if_pos (by rfl)]; apply Exists.intro; refine ⟨fun w' hS' => ?_, hK _ ?_⟩
 · replace hS' := Blk.cell hS'; go_simp; try with_reducible rfl
 clear hK K; simp only [Act.put, List.setIfInBounds_toArray, List.set]; refine pen_active 25 (getOp rfl) (by decide +kernel) (fun K hK => ?_); rw [if_pos (by rfl)]; go_wp2_with fail; refine (Hvb.out _ HKK.out).mono ?_; rintro e x25 ⟨rfl, kx⟩; replace HB := yh (HB.out.keep kx (by simp)); replace HKK := yh (HKK.out.trans kx); clear kx; refine hK.out _ _ (HB.out) ?_; clear hK K; try simp only [Act.put, List.setIfInBounds_toArray, List.set]
 refine pen_list [26, 27] ?_; repeat
  (refine penl_stable (getOp rfl) (by decide +kernel) (fun K hK => ?_)
   rw [if_pos (by rfl)]; apply Exists.intro; refine ⟨fun w' hS' => ?_, hK _ ?_⟩
   · replace hS' := Blk.cell hS'; go_simp; try with_reducible rfl
   clear hK K; simp only [Act.put, List.setIfInBounds_toArray, List.set])
 refine penl_end ?_; refine pen_done (by decide +kernel) ?_; have hc := HB.out.cell; by_cases hop : op = [105, 110, 115]
 · have e1 : (op == [105, 110, 115]) = true := by rw [hop]; rfl
   have HZ2 := yh (show Z = 1 + z + zq + za + zb + textSize fw from by rw [HZZ.out, if_pos hop]); have htz : textSize fw ≤ 2000001 := by unfold textSize; omega
   have wt : IntKind.i64.wrap (1 + (z : Int) + (zq : Int) + (za : Int) + (zb : Int) + (textSize fw : Int)) = 1 + (z : Int) + (zq : Int) + (za : Int) + (zb : Int) + (textSize fw : Int) := IntWalk.i64_in _ (by omega); clear hop; go_wp2_with fail; clear hc; refine (HT.out _).mono ?_; rintro e x3 ⟨rfl, rfl⟩; go_wp2_with fail; go_ret; refine ⟨?_, HKK.out⟩; rw [HZ2.out]; simp [go_sem]
 · have e1 : (op == [105, 110, 115]) = false := by simpa using hop
   have HZ2 := yh (show Z = 1 + z + zq + za + zb from by rw [HZZ.out, if_neg hop, Nat.add_zero]); clear hop; go_wp2_with fail; clear hc; go_ret; refine ⟨?_, HKK.out⟩; rw [HZ2.out]; simp [go_sem]
def Cn.txt : Cn → Prop
 | .leaf _ _ _ => True
 | .norm _ _ fw bw => fw.length ≤ 100000 ∧ bw.length ≤ 100000
 | .star _ a => a.txt
 | .two _ _ a b => a.txt ∧ b.txt
def Ln.txt : Ln → Prop
 | .copy _ _ _ => True
 | .del _ _ t => t.length ≤ 100000
 | .ins _ t => t.length ≤ 100000
 | .keyed _ a => a.txt
 | .star _ a => a.txt
 | .left _ q a => q.txt ∧ a.txt
 | .right _ a q => q.txt ∧ a.txt
 | .deflt _ a t => a.txt ∧ t.length ≤ 100000
 | .two _ _ a b => a.txt ∧ b.txt
def Tm.txt : Tm → Prop
 | .text _ s => s.length ≤ 100000
 | .rx _ _ => True
 | .canon c => c.txt
 | .lens l => l.txt
theorem CnV.sized {w : World} : ∀ {c : Cn} {g : Nat}, CnV w c g → c.txt → c.size ≤ 1000000000 → SizeOf w (.iface 84 (ptr g)) c.size := by
 intro c; induction c with
 | leaf f p n =>
  intro g h ht hs; have hs' : 1 + n.size ≤ 1000000000 := hs; exact size_canon_gen w g p _ _ [] [] nop nop n.size 0 0 (nodeSz_some n (by omega)) (size_nil84 w) rfl (size_nil84 w) rfl (by simp) _ (by cases f <;> rfl) (by omega) h
 | norm p n fw bw =>
  intro g h ht hs; have hs' : 1 + n.size + textSize fw ≤ 1000000000 := hs; exact size_canon_gen w g p _ _ fw bw nop nop n.size 0 0 (nodeSz_some n (by omega)) (size_nil84 w) rfl (size_nil84 w) rfl (by have := ht.1; omega) _ rfl (by omega) h
 | star p a ih =>
  intro g h ht hs; obtain ⟨ga, h1, h2⟩ := h; have hs' : 1 + a.size ≤ 1000000000 := hs; exact size_canon_gen w g p _ _ [] [] (ptr ga) nop 0 a.size 0 nodeSz_nil (ih h2 ht (by omega)) rfl (size_nil84 w) rfl (by simp) _ (by show 1 + a.size = _; rw [if_neg (by decide)]; omega) (by omega) h1
 | two c p a b iha ihb =>
  intro g h ht hs; obtain ⟨ga, gb, h1, h2, h3⟩ := h; have hs' : 1 + a.size + b.size ≤ 1000000000 := hs; exact size_canon_gen w g p _ _ [] [] (ptr ga) (ptr gb) 0 a.size b.size nodeSz_nil (iha h2 ht.1 (by omega)) rfl (ihb h3 ht.2 (by omega)) rfl (by simp) _ (by show 1 + a.size + b.size = _; rw [if_neg (by cases c <;> decide)]; omega) (by omega) h1
theorem LnV.sized {w : World} : ∀ {c : Ln} {g : Nat}, LnV w c g → c.txt → c.size ≤ 1000000000 → SizeOf w (.iface 87 (ptr g)) c.size := by
 intro c; induction c with
 | copy f p n =>
  intro g h ht hs; have hs' : 1 + n.size ≤ 1000000000 := hs; exact size_lens_gen w g p _ _ [] nop nop nop n.size 0 0 0 (nodeSz_some n (by omega)) (size_nil84 w) rfl (size_nil87 w) rfl (size_nil87 w) rfl (by simp) _ (by show 1 + n.size = _; rw [if_neg (by cases f <;> decide)]; omega) (by omega) h
 | del p n t =>
  intro g h ht hs; have hs' : 1 + n.size ≤ 1000000000 := hs; have ht' : t.length ≤ 100000 := ht; exact size_lens_gen w g p _ _ t nop nop nop n.size 0 0 0 (nodeSz_some n (by omega)) (size_nil84 w) rfl (size_nil87 w) rfl (size_nil87 w) rfl (by omega) _ (by show 1 + n.size = _; rw [if_neg (by decide)]; omega) (by omega) h
 | ins p t =>
  intro g h ht hs; have hs' : 1 + textSize t ≤ 1000000000 := hs; have ht' : t.length ≤ 100000 := ht; exact size_lens_gen w g p _ _ t nop nop nop 0 0 0 0 nodeSz_nil (size_nil84 w) rfl (size_nil87 w) rfl (size_nil87 w) rfl (by omega) _ (by show 1 + textSize t = _; rw [if_pos rfl]) (by omega) h
 | keyed p a ih =>
  intro g h ht hs; obtain ⟨ga, h1, h2⟩ := h; have hs' : 1 + a.size ≤ 1000000000 := hs; exact size_lens_gen w g p _ _ [] nop (ptr ga) nop 0 0 a.size 0 nodeSz_nil (size_nil84 w) rfl (ih h2 ht (by omega)) rfl (size_nil87 w) rfl (by simp) _ (by show 1 + a.size = _; rw [if_neg (by decide)]; omega) (by omega) h1
 | star p a ih =>
  intro g h ht hs; obtain ⟨ga, h1, h2⟩ := h; have hs' : 1 + a.size ≤ 1000000000 := hs; exact size_lens_gen w g p _ _ [] nop (ptr ga) nop 0 0 a.size 0 nodeSz_nil (size_nil84 w) rfl (ih h2 ht (by omega)) rfl (size_nil87 w) rfl (by simp) _ (by show 1 + a.size = _; rw [if_neg (by decide)]; omega) (by omega) h1
 | left p q a ih =>
  intro g h ht hs; obtain ⟨gq, ga, h1, h2, h3⟩ := h; have hs' : 1 + q.size + a.size ≤ 1000000000 := hs; exact size_lens_gen w g p _ _ [] (ptr gq) (ptr ga) nop 0 q.size a.size 0 nodeSz_nil (h2.sized ht.1 (by omega)) rfl (ih h3 ht.2 (by omega)) rfl (size_nil87 w) rfl (by simp) _ (by show 1 + q.size + a.size = _; rw [if_neg (by decide)]; omega) (by omega) h1
 | right p a q ih =>
  intro g h ht hs; obtain ⟨gq, ga, h1, h2, h3⟩ := h; have hs' : 1 + q.size + a.size ≤ 1000000000 := hs; exact size_lens_gen w g p _ _ [] (ptr gq) (ptr ga) nop 0 q.size a.size 0 nodeSz_nil (h2.sized ht.1 (by omega)) rfl (ih h3 ht.2 (by omega)) rfl (size_nil87 w) rfl (by simp) _ (by show 1 + q.size + a.size = _; rw [if_neg (by decide)]; omega) (by omega) h1
 | deflt p a t ih =>
  intro g h ht hs; obtain ⟨ga, h1, h2⟩ := h; have hs' : 1 + a.size ≤ 1000000000 := hs; have ht' : t.length ≤ 100000 := ht.2; exact size_lens_gen w g p _ _ t nop (ptr ga) nop 0 0 a.size 0 nodeSz_nil (size_nil84 w) rfl (ih h2 ht.1 (by omega)) rfl (size_nil87 w) rfl (by omega) _ (by show 1 + a.size = _; rw [if_neg (by decide)]; omega) (by omega) h1
 | two c p a b iha ihb =>
  intro g h ht hs; obtain ⟨ga, gb, h1, h2, h3⟩ := h; have hs' : 1 + a.size + b.size ≤ 1000000000 := hs; exact size_lens_gen w g p _ _ [] nop (ptr ga) (ptr gb) 0 0 a.size b.size nodeSz_nil (size_nil84 w) rfl (iha h2 ht.1 (by omega)) rfl (ihb h3 ht.2 (by omega)) rfl (by simp) _ (by show 1 + a.size + b.size = _; rw [if_neg (by cases c <;> decide)]; omega) (by omega) h1
theorem TmV.sized {w : World} {t : Tm} {v : Value} (h : TmV w t v) (ht : t.txt) (hs : t.size ≤ 1000000000) : SizeOf w v t.size := by
 cases t with
 | text p s =>
  obtain rfl : v = _ := h; have ht' : s.length ≤ 100000 := ht; exact size_text w p s (by omega)
 | rx p n =>
  obtain rfl : v = _ := h; exact size_rx w p n hs
 | canon c =>
  obtain ⟨g, rfl, h⟩ := h; exact h.sized ht hs
 | lens l =>
  obtain ⟨g, rfl, h⟩ := h; exact h.sized ht hs
theorem size_any (t : Tm) (v : Value) (w : World) (h : TmV w t v) (ht : t.txt) (hs : t.size ≤ 1000000000) : Calls Tryz.prog 9 #[v] w fun e w' => e = .returned (.int .i64 (t.size : Int)) ∧ Keep none w w' := by
 have HS := yh (h.sized ht hs); obtain ⟨ty, y, rfl⟩ := h.iface; clear h ht hs; go_enter Tryz.func9, Tryz.ntmps9; go_wp2_with fail; refine (HS.out _ (Keep.refl _ _)).mono ?_; rintro e x1 ⟨rfl, k1⟩; go_wp2_with fail; go_ret; exact ⟨rfl, k1⟩
end Go.Proofs.YtmfabihndpidnaaGreatDoor
