/-
  Terms: a call's arguments, one by one.
-/
import Derived.Test.YtmfabihndpidnaaGreatDoorK33
import Derived.Test.YtmfabihndpidnaaGreatDoorK05
import Derived.Test.YtmfabihndpidnaaGreatDoorK03
namespace Go.Proofs.YtmfabihndpidnaaGreatDoor
set_option maxHeartbeats 4000000
open Go.RowKit
set_option maxRecDepth 100000
set_option linter.unusedVariables false
set_option linter.unusedSimpArgs false
theorem CnV.keepA {w w' : World} {a : Option Nat} (k : Keep a w w') (h86 : NotRow 86 a w) : ∀ {c : Cn} {g : Nat}, CnV w c g → CnV w' c g := by
 have hb : ∀ {g cs}, Blk w g cs 86 → Blk w' g cs 86 := fun h => h.keep k (h86 _ _ _ h)
 intro c; induction c with
 | leaf f p n => exact fun h => hb h
 | norm p n fw bw => exact fun h => hb h
 | star p a ih => exact fun ⟨ga, h1, h2⟩ => ⟨ga, hb h1, ih h2⟩
 | two c p a b iha ihb => exact fun ⟨ga, gb, h1, h2, h3⟩ => ⟨ga, gb, hb h1, iha h2, ihb h3⟩
theorem LnV.keepA {w w' : World} {a : Option Nat} (k : Keep a w w') (h86 : NotRow 86 a w) (h89 : NotRow 89 a w) : ∀ {c : Ln} {g : Nat}, LnV w c g → LnV w' c g := by
 have hb : ∀ {g cs}, Blk w g cs 89 → Blk w' g cs 89 := fun h => h.keep k (h89 _ _ _ h)
 intro c; induction c with
 | copy f p n => exact fun h => hb h
 | del p n t => exact fun h => hb h
 | ins p t => exact fun h => hb h
 | keyed p a ih => exact fun ⟨ga, h1, h2⟩ => ⟨ga, hb h1, ih h2⟩
 | star p a ih => exact fun ⟨ga, h1, h2⟩ => ⟨ga, hb h1, ih h2⟩
 | left p q a ih => exact fun ⟨gq, ga, h1, h2, h3⟩ => ⟨gq, ga, hb h1, h2.keepA k h86, ih h3⟩
 | right p a q ih => exact fun ⟨gq, ga, h1, h2, h3⟩ => ⟨gq, ga, hb h1, h2.keepA k h86, ih h3⟩
 | deflt p a t ih => exact fun ⟨ga, h1, h2⟩ => ⟨ga, hb h1, ih h2⟩
 | two c p a b iha ihb => exact fun ⟨ga, gb, h1, h2, h3⟩ => ⟨ga, gb, hb h1, iha h2, ihb h3⟩
theorem TmV.keepA {w w' : World} {a : Option Nat} (k : Keep a w w') (h86 : NotRow 86 a w) (h89 : NotRow 89 a w) {t : Tm} {v : Value} (h : TmV w t v) : TmV w' t v := by
 cases t with
 | text p s => exact h
 | rx p n => exact h
 | canon c =>
  obtain ⟨g, h1, h2⟩ := h; exact ⟨g, h1, h2.keepA k h86⟩
 | lens l =>
  obtain ⟨g, h1, h2⟩ := h; exact ⟨g, h1, h2.keepA k h86 h89⟩
theorem Keep.cellN {w w' : World} (k : Keep none w w') {b j : Nat} {v : Value} (h : w.cell? ⟨b, j, none⟩ = some v) : w'.cell? ⟨b, j, none⟩ = some v := by
 have := World.block_lt_of_cell? w ⟨b, j, none⟩ h; simp only [World.cell?] at *; rw [k.block b this (by simp)]; exact h
def PlaceAt (v : Value) : Prop := ∃ (ty : TypeId) (y : Value) (K : Nat) (p : Int), v = .iface ty y ∧ (∀ w, (method 329 ty y "Place").run Tryz.prog w = .ok (K, y) w) ∧ (∀ args w, (callFunc K args).run Tryz.prog w = .ok (.enter K args) w) ∧
 ∀ w, Calls Tryz.prog K #[y] w fun e w' => e = .returned (.int .i64 p) ∧ Keep none w w'
structure ArgS (w : World) (g : Nat) (p : Nat) (wd : Bs) (ab ac : Nat) (es : List Value) (tb tc : Nat) (vs : List Value) (i : Nat) : Prop where
 blk : Blk w g [.int .i64 (p : Int), .string (mkS wd), .slice (some ⟨ab, 0, none⟩) vs.length ac, .slice (some ⟨tb, 0, none⟩) vs.length tc, .int .i64 (i : Int)] 157
 row : ∃ cs fr, w.heap[tb]? = some (.cells cs 23 fr) ∧ ∀ j, j < vs.length → cs[j]? = vs[j]?
 ex : ExRow w ab es
 len : es.length = vs.length
 le : vs.length ≤ 3
theorem ArgS.keep {w w' : World} {g p : Nat} {wd : Bs} {ab ac : Nat} {es : List Value} {tb tc : Nat} {vs : List Value} {i : Nat} (h : ArgS w g p wd ab ac es tb tc vs i) (k : Keep none w w') : ArgS w' g p wd ab ac es tb tc vs i := by
 obtain ⟨cs, fr, h1, h2⟩ := h.row; exact ⟨h.blk.keep k (by simp), ⟨cs, fr, (k.block tb (lt_of_block h1) (by simp)).trans h1, h2⟩, h.ex.keep k (NotRow.none _ _), h.len, h.le⟩
theorem ArgS.notRow {w : World} {g p : Nat} {wd : Bs} {ab ac : Nat} {es : List Value} {tb tc : Nat} {vs : List Value} {i : Nat} (h : ArgS w g p wd ab ac es tb tc vs i) {t : TypeId} (ht : (157 : TypeId) ≠ t) : NotRow t (some g) w := NotRow.blk h.blk ht
theorem ArgS.next {w : World} {g p : Nat} {wd : Bs} {ab ac : Nat} {es : List Value} {tb tc : Nat} {vs : List Value} {i : Nat} (h : ArgS w g p wd ab ac es tb tc vs i) : ArgS (w.setCell ⟨g, 4, none⟩ (.int .i64 ((i : Int) + 1))) g p wd ab ac es tb tc vs (i + 1) := by
 have k := (Keep.refl (some g) w).set ⟨g, 4, none⟩ (.int .i64 ((i : Int) + 1)) (.inl rfl); obtain ⟨cs, fr, h1, h2⟩ := h.row; refine ⟨?_, ⟨cs, fr, (k.block tb (lt_of_block h1) (h.notRow (by decide) _ _ _ h1)).trans h1, h2⟩, h.ex.keep k (h.notRow (by decide)), h.len, h.le⟩; rw [show ((i + 1 : Nat) : Int) = (i : Int) + 1 by omega]; exact h.blk.set 4 _
theorem ArgS.ne {w : World} {g p : Nat} {wd : Bs} {ab ac : Nat} {es : List Value} {tb tc : Nat} {vs : List Value} {i : Nat} (h : ArgS w g p wd ab ac es tb tc vs i) : tb ≠ w.heap.size ∧ ab ≠ w.heap.size := by
 obtain ⟨cs, fr, h1, h2⟩ := h.row; obtain ⟨cs', fr', h3, h4⟩ := h.ex; have := lt_of_block h1; have := lt_of_block h3; omega
theorem ArgS.other {w : World} {g p : Nat} {wd : Bs} {ab ac : Nat} {es : List Value} {tb tc : Nat} {vs : List Value} {i d : Nat} {a b : Value} {t : TypeId} (h : ArgS w g p wd ab ac es tb tc vs i) (hd : Blk w d [a, b] t) (h1 : t ≠ 157) (h2 : t ≠ 23) (h3 : t ≠ 55) (hne : g ≠ d) (x y : Value) :
 ArgS ((w.setCell ⟨d, 0, none⟩ x).setCell ⟨d, 1, none⟩ y) g p wd ab ac es tb tc vs i := by
 have k := ((Keep.refl (some d) w).set ⟨d, 0, none⟩ x (.inl rfl)).set ⟨d, 1, none⟩ y (.inl rfl); obtain ⟨cs, fr, r1, r2⟩ := h.row; exact ⟨h.blk.keep k (by simpa using hne), ⟨cs, fr, (k.block tb (lt_of_block r1) (NotRow.blk hd h2 _ _ _ r1)).trans r1, r2⟩, h.ex.keep k (NotRow.blk hd h3), h.len, h.le⟩
theorem cell_far2 {w : World} {d b j : Nat} (x y : Value) (hne : b ≠ d) : ((w.setCell ⟨d, 0, none⟩ x).setCell ⟨d, 1, none⟩ y).cell? ⟨b, j, none⟩ = w.cell? ⟨b, j, none⟩ := by
 simp only [World.cell?]; rw [Below.heap_setCell _ _ _ _ hne, Below.heap_setCell _ _ _ _ hne]
theorem ArgS.cell {w : World} {g p : Nat} {wd : Bs} {ab ac : Nat} {es : List Value} {tb tc : Nat} {vs : List Value} {i j : Nat} {v : Value} (h : ArgS w g p wd ab ac es tb tc vs i) (hv : vs[j]? = some v) : w.cell? ⟨tb, j, none⟩ = some v := by
 obtain ⟨cs, fr, h1, h2⟩ := h.row; have hj : j < vs.length := by
  rcases Nat.lt_or_ge j vs.length with h | h
  · exact h
  · rw [List.getElem?_eq_none_iff.2 h] at hv; cases hv
 simp [World.cell?, h1, h2 j hj, hv]
theorem ArgS.exCell {w : World} {g p : Nat} {wd : Bs} {ab ac : Nat} {es : List Value} {tb tc : Nat} {vs : List Value} {i j : Nat} {v : Value} (h : ArgS w g p wd ab ac es tb tc vs i) (hv : es[j]? = some v) : w.cell? ⟨ab, j, none⟩ = some v := by
 obtain ⟨cs, fr, h1, h2⟩ := h.ex; have hj : j < es.length := by
  rcases Nat.lt_or_ge j es.length with h | h
  · exact h
  · rw [List.getElem?_eq_none_iff.2 h] at hv; cases hv
 simp [World.cell?, h1, h2 j hj, hv]
theorem ag_refuse (g p : Nat) (wd : Bs) (ab ac : Nat) (es : List Value) (tb tc : Nat) (vs : List Value) (i : Nat) (hi : i < vs.length) (hp : ∀ v ∈ es, PlaceAt v) (w : World) (h : ArgS w g p wd ab ac es tb tc vs i) :
 Calls Tryz.prog 82 #[.pointer (some ⟨g, 0, none⟩)] w fun e w' => (∃ pl : Int, e = .panicked (flt 72 pl)) ∧ Keep none w w' := by
 have hlen := h.len; have hle := h.le; obtain ⟨v, hv⟩ : ∃ v, es[i]? = some v := ⟨_, List.getElem?_eq_getElem (by omega)⟩; obtain ⟨ty, y, KP, pl, rfl, hm, hcl, hk⟩ := hp v (List.mem_of_getElem? hv); have hcx := yh (h.exCell hv); have HB := yh h.blk; have HK := yh hk; have i0 : (0 : Int) ≤ (i : Int) := by omega
 have i1 : (i : Int) < (vs.length : Int) := by omega
 clear h hv hp hk hlen; go_enter Tryz.func82, Tryz.ntmps82; refine wp_region_pen (fun w' => (∀ q, w'.cell? ⟨g, q, none⟩ = [Value.int .i64 (p : Int), .string (mkS wd), .slice (some ⟨ab, 0, none⟩) vs.length ac, .slice (some ⟨tb, 0, none⟩) vs.length tc, .int .i64 (i : Int)][q]?) ∧ w'.cell? ⟨ab, i, none⟩ = some (.iface ty y)) 99 (by kernel_rfl) (by kernel_rfl) (fun c a d v w h => by cases d <;> exact h) (by exact ⟨HB.out.drew.cell, hcx.out⟩) ?_; simp only [List.length_cons, List.length_nil]; refine pen_list [0, 1, 2, 3, 4, 5, 6, 7, 8, 9, 10] ?_; repeat
  (refine penl_stable (getOp rfl) (by decide +kernel) (fun K hK => ?_)
   rw [if_pos (by rfl)]; apply Exists.intro; refine ⟨fun w' hS' => ?_, hK _ ?_⟩
   · obtain ⟨hS1, hS2⟩ := hS'; go_simp; try with_reducible rfl
   clear hK K; simp only [Act.put, List.setIfInBounds_toArray, List.set])
 refine penl_end ?_; refine pen_active 11 (getOp rfl) (by decide +kernel) (fun K hK => ?_); rw [if_pos (by rfl)]; go_wp2_with fail; refine (HK.out _).mono ?_; rintro e x1 ⟨rfl, k1⟩; have k2 := (Keep.refl none w).drew.trans k1; refine hK.out _ _ ⟨(HB.out.keep k2 (by simp)).cell, (by have := World.block_lt_of_cell? w ⟨ab, i, none⟩ hcx.out; simp only [World.cell?] at *; rw [k2.block ab this (by simp)]; exact hcx.out)⟩ ?_; clear hK K; try simp only [Act.put, List.setIfInBounds_toArray, List.set]
 refine pen_active 12 (getOp rfl) (by decide +kernel) (fun K hK => ?_); rw [if_pos (by rfl)]; go_wp2_with fail; refine (tm_fail _ _ _).mono ?_; rintro e x2 ⟨rfl, rfl⟩; exact ⟨rfl, ⟨_, rfl⟩, k2⟩
def AOut (g p : Nat) (wd : Bs) (ab ac : Nat) (es : List Value) (tb tc : Nat) (vs : List Value) (i : Nat) (w : World) (r : Option Value) (e : Ending) (w' : World) : Prop :=
 match r with
 | some v => e = .returned v ∧ ArgS w' g p wd ab ac es tb tc vs (i + 1) ∧ Keep (some g) w w'
 | none => (∃ pl : Int, e = .panicked (flt 72 pl)) ∧ Keep (some g) w w'
theorem ag_node_ok (g p : Nat) (wd : Bs) (ab ac : Nat) (es : List Value) (tb tc : Nat) (vs : List Value) (i : Nat) (hi : i < vs.length) (hp : ∀ v ∈ es, PlaceAt v) (t : Tm) (n : Nd) (tv : TypeId) (yv : Value) (hv : vs[i]? = some (.iface tv yv)) (w : World) (h : ArgS w g p wd ab ac es tb tc vs i) (ht : TmV w t (.iface tv yv)) (hn : t.node? = some n) (hs : t.small) :
 Calls Tryz.prog 64 #[.pointer (some ⟨g, 0, none⟩)] w (AOut g p wd ab ac es tb tc vs i w (some (ndV n))) := by
 have hle := h.le; have HA := yh h; have HB := yh h.blk; have hwi : IntKind.i64.wrap ((i : Int) + 1) = (i : Int) + 1 := IntWalk.i64_in _ (by omega); have i0 : (0 : Int) ≤ (i : Int) := by omega
 have i1 : (i : Int) < (vs.length : Int) := by omega
 have hcx := yh (h.cell hv); have HT := yh (fun V (k : Keep none w V) => asNode_some t n hn hs _ V (ht.keep k)); have HK1 := yh (Keep.refl none w); clear h hv hp hn ht hs; go_enter Tryz.func64, Tryz.ntmps64; go_wp2_with fail; refine wp_region_pen (fun w' => (∀ q, w'.cell? ⟨g, q, none⟩ = [Value.int .i64 (p : Int), .string (mkS wd), .slice (some ⟨ab, 0, none⟩) vs.length ac, .slice (some ⟨tb, 0, none⟩) vs.length tc, .int .i64 (i : Int)][q]?) ∧ w'.cell? ⟨tb, i, none⟩ = some (.iface tv yv)) 99 (by kernel_rfl) (by kernel_rfl) (fun c a d v w h => by cases d <;> exact h) (by exact ⟨HB.out.drew.cell, hcx.out⟩) ?_
 simp only [List.length_cons, List.length_nil]; refine pen_list [0, 1, 2, 3, 4, 5, 6, 7, 8, 9] ?_; repeat
  (refine penl_stable (getOp rfl) (by decide +kernel) (fun K hK => ?_)
   rw [if_pos (by rfl)]; apply Exists.intro; refine ⟨fun w' hS' => ?_, hK _ ?_⟩
   · obtain ⟨hS1, hS2⟩ := hS'; go_simp; try with_reducible rfl
   clear hK K; simp only [Act.put, List.setIfInBounds_toArray, List.set])
 refine penl_end ?_; refine pen_active 10 (getOp rfl) (by decide +kernel) (fun K hK => ?_); rw [if_pos (by rfl)]; go_wp2_with fail; refine (HT.out _ HK1.out.drew).mono ?_; rintro e x1 ⟨rfl, k1⟩; replace HK1 := yh (HK1.out.drew.trans k1); replace HA := yh (HA.out.keep HK1.out); replace HB := yh HA.out.blk; obtain ⟨tn, yn, hnd⟩ := ndV_iface n; rw [hnd]; have HN := yh hnd; clear hnd; refine hK.out _ _ ⟨HB.out.cell, (by have := World.block_lt_of_cell? w ⟨tb, i, none⟩ hcx.out; simp only [World.cell?] at *; rw [HK1.out.block tb this (by simp)]; exact hcx.out)⟩ ?_; clear hK K; try simp only [Act.put, List.setIfInBounds_toArray, List.set]
 refine pen_list [11, 12, 13, 14, 15] ?_; repeat
  (refine penl_stable (getOp rfl) (by decide +kernel) (fun K hK => ?_)
   rw [if_pos (by rfl)]; apply Exists.intro; refine ⟨fun w' hS' => ?_, hK _ ?_⟩
   · obtain ⟨hS1, hS2⟩ := hS'; go_simp; try with_reducible rfl
   clear hK K; simp only [Act.put, List.setIfInBounds_toArray, List.set])
 refine penl_end ?_; refine pen_done (by decide +kernel) ?_; have hc := HB.out.cell; have hf := HB.out.frozen; go_wp2_with fail; clear hc hf; go_ret; exact ⟨by rw [HN.out]; rfl, HA.out.next, HK1.out.of_none.set _ _ (.inl rfl)⟩
theorem ag_node_no (g p : Nat) (wd : Bs) (ab ac : Nat) (es : List Value) (tb tc : Nat) (vs : List Value) (i : Nat) (hi : i < vs.length) (hp : ∀ v ∈ es, PlaceAt v) (t : Tm) (tv : TypeId) (yv : Value) (hv : vs[i]? = some (.iface tv yv)) (w : World) (h : ArgS w g p wd ab ac es tb tc vs i) (ht : TmV w t (.iface tv yv)) (hn : t.node? = none) :
 Calls Tryz.prog 64 #[.pointer (some ⟨g, 0, none⟩)] w (AOut g p wd ab ac es tb tc vs i w none) := by
 have hle := h.le; have HA := yh h; have HB := yh h.blk; have hwi : IntKind.i64.wrap ((i : Int) + 1) = (i : Int) + 1 := IntWalk.i64_in _ (by omega); have i0 : (0 : Int) ≤ (i : Int) := by omega
 have i1 : (i : Int) < (vs.length : Int) := by omega
 have hcx := yh (h.cell hv); have HT := yh (fun V (k : Keep none w V) => asNode_none t hn _ V (ht.keep k)); have HK1 := yh (Keep.refl none w); have HPL := yh hp; clear h hv hp hn ht; go_enter Tryz.func64, Tryz.ntmps64; go_wp2_with fail; refine wp_region_pen (fun w' => (∀ q, w'.cell? ⟨g, q, none⟩ = [Value.int .i64 (p : Int), .string (mkS wd), .slice (some ⟨ab, 0, none⟩) vs.length ac, .slice (some ⟨tb, 0, none⟩) vs.length tc, .int .i64 (i : Int)][q]?) ∧ w'.cell? ⟨tb, i, none⟩ = some (.iface tv yv)) 99 (by kernel_rfl) (by kernel_rfl) (fun c a d v w h => by cases d <;> exact h) (by exact ⟨HB.out.drew.cell, hcx.out⟩) ?_
 simp only [List.length_cons, List.length_nil]; refine pen_list [0, 1, 2, 3, 4, 5, 6, 7, 8, 9] ?_; repeat
  (refine penl_stable (getOp rfl) (by decide +kernel) (fun K hK => ?_)
   rw [if_pos (by rfl)]; apply Exists.intro; refine ⟨fun w' hS' => ?_, hK _ ?_⟩
   · obtain ⟨hS1, hS2⟩ := hS'; go_simp; try with_reducible rfl
   clear hK K; simp only [Act.put, List.setIfInBounds_toArray, List.set])
 refine penl_end ?_; refine pen_active 10 (getOp rfl) (by decide +kernel) (fun K hK => ?_); rw [if_pos (by rfl)]; go_wp2_with fail; refine (HT.out _ HK1.out.drew).mono ?_; rintro e x1 ⟨rfl, rfl⟩; replace HK1 := yh HK1.out.drew; replace HA := yh (HA.out.keep HK1.out); refine hK.out _ _ ⟨HB.out.cell, hcx.out⟩ ?_; clear hK K; try simp only [Act.put, List.setIfInBounds_toArray, List.set]
 refine pen_list [11, 12, 13, 14, 15] ?_; repeat
  (refine penl_stable (getOp rfl) (by decide +kernel) (fun K hK => ?_)
   rw [if_pos (by rfl)]; apply Exists.intro; refine ⟨fun w' hS' => ?_, hK _ ?_⟩
   · obtain ⟨hS1, hS2⟩ := hS'; go_simp; try with_reducible rfl
   clear hK K; simp only [Act.put, List.setIfInBounds_toArray, List.set])
 refine penl_end ?_; refine pen_done (by decide +kernel) ?_; go_wp2_with fail; refine (ag_refuse g p wd ab ac es tb tc vs i hi HPL.out _ HA.out).mono ?_; rintro e x2 ⟨⟨pl, rfl⟩, k2⟩; exact ⟨rfl, ⟨pl, rfl⟩, (HK1.out.trans k2).of_none⟩
attribute [local go_sem ↓] run_tm_84_84
theorem ag_canon_ok (g p : Nat) (wd : Bs) (ab ac : Nat) (es : List Value) (tb tc : Nat) (vs : List Value) (i : Nat) (hi : i < vs.length) (hp : ∀ v ∈ es, PlaceAt v) (q : Nat) (hv : vs[i]? = some (.iface 84 (ptr q))) (w : World) (h : ArgS w g p wd ab ac es tb tc vs i) :
 Calls Tryz.prog 66 #[.pointer (some ⟨g, 0, none⟩)] w (AOut g p wd ab ac es tb tc vs i w (some (ptr q))) := by
 have hle := h.le; have HA := yh h; have HB := yh h.blk; have hwi : IntKind.i64.wrap ((i : Int) + 1) = (i : Int) + 1 := IntWalk.i64_in _ (by omega); have i0 : (0 : Int) ≤ (i : Int) := by omega
 have i1 : (i : Int) < (vs.length : Int) := by omega
 have hcx := yh (h.cell hv); have HK1 := yh (Keep.refl none w); clear h hv hp; unfold ptr at *; go_enter Tryz.func66, Tryz.ntmps66; go_wp2_with fail; refine wp_region_pen (fun w' => (∀ q, w'.cell? ⟨g, q, none⟩ = [Value.int .i64 (p : Int), .string (mkS wd), .slice (some ⟨ab, 0, none⟩) vs.length ac, .slice (some ⟨tb, 0, none⟩) vs.length tc, .int .i64 (i : Int)][q]?) ∧ w'.cell? ⟨tb, i, none⟩ = some (.iface 84 (.pointer (some ⟨q, 0, none⟩)))) 99 (by kernel_rfl) (by kernel_rfl) (fun c a d v w h => by cases d <;> exact h) (by exact ⟨HB.out.drew.cell, hcx.out⟩) ?_; simp only [List.length_cons, List.length_nil]
 refine pen_list [0, 1, 2, 3, 4, 5, 6, 7, 8, 9, 10, 11, 12, 13, 14, 15] ?_; repeat
  (refine penl_stable (getOp rfl) (by decide +kernel) (fun K hK => ?_)
   rw [if_pos (by rfl)]; apply Exists.intro; refine ⟨fun w' hS' => ?_, hK _ ?_⟩
   · obtain ⟨hS1, hS2⟩ := hS'; go_simp; try with_reducible rfl
   clear hK K; simp only [Act.put, List.setIfInBounds_toArray, List.set])
 refine penl_end ?_; refine pen_done (by decide +kernel) ?_; have hc := HB.out.cell; have hf := HB.out.frozen; go_wp2_with fail; clear hc hf; go_ret; exact ⟨rfl, (HA.out.keep HK1.out.drew).next, HK1.out.drew.of_none.set _ _ (.inl rfl)⟩
theorem ag_canon_no (g p : Nat) (wd : Bs) (ab ac : Nat) (es : List Value) (tb tc : Nat) (vs : List Value) (i : Nat) (hi : i < vs.length) (hp : ∀ v ∈ es, PlaceAt v) (tv : TypeId) (yv : Value) (hv : vs[i]? = some (.iface tv yv)) (w : World) (h : ArgS w g p wd ab ac es tb tc vs i) (hno : ∀ w, (Instr.typeAssert (.iface tv yv) 23 84 true).run Tryz.prog w = .ok (.tuple #[nop, .bool false]) w) :
 Calls Tryz.prog 66 #[.pointer (some ⟨g, 0, none⟩)] w (AOut g p wd ab ac es tb tc vs i w none) := by
 have hle := h.le; have HA := yh h; have HB := yh h.blk; have hwi : IntKind.i64.wrap ((i : Int) + 1) = (i : Int) + 1 := IntWalk.i64_in _ (by omega); have i0 : (0 : Int) ≤ (i : Int) := by omega
 have i1 : (i : Int) < (vs.length : Int) := by omega
 have hcx := yh (h.cell hv); have HK1 := yh (Keep.refl none w); have HPL := yh hp; clear h hv hp; unfold nop at *; go_enter Tryz.func66, Tryz.ntmps66; go_wp2_with fail; refine wp_region_pen (fun w' => (∀ q, w'.cell? ⟨g, q, none⟩ = [Value.int .i64 (p : Int), .string (mkS wd), .slice (some ⟨ab, 0, none⟩) vs.length ac, .slice (some ⟨tb, 0, none⟩) vs.length tc, .int .i64 (i : Int)][q]?) ∧ w'.cell? ⟨tb, i, none⟩ = some (.iface tv yv)) 99 (by kernel_rfl) (by kernel_rfl) (fun c a d v w h => by cases d <;> exact h) (by exact ⟨HB.out.drew.cell, hcx.out⟩) ?_; simp only [List.length_cons, List.length_nil]
 refine pen_list [0, 1, 2, 3, 4, 5, 6, 7, 8, 9, 10, 11, 12, 13, 14, 15] ?_; repeat
  (refine penl_stable (getOp rfl) (by decide +kernel) (fun K hK => ?_)
   rw [if_pos (by rfl)]; apply Exists.intro; refine ⟨fun w' hS' => ?_, hK _ ?_⟩
   · obtain ⟨hS1, hS2⟩ := hS'; go_simp; try with_reducible rfl
   clear hK K; simp only [Act.put, List.setIfInBounds_toArray, List.set])
 refine penl_end ?_; refine pen_done (by decide +kernel) ?_; replace HK1 := yh HK1.out.drew; replace HA := yh (HA.out.keep HK1.out); go_wp2_with fail; refine (ag_refuse g p wd ab ac es tb tc vs i hi HPL.out _ HA.out).mono ?_; rintro e x2 ⟨⟨pl, rfl⟩, k2⟩; exact ⟨rfl, ⟨pl, rfl⟩, (HK1.out.trans k2).of_none⟩
attribute [local go_sem ↓] run_tm_87_87
theorem ag_lens_ok (g p : Nat) (wd : Bs) (ab ac : Nat) (es : List Value) (tb tc : Nat) (vs : List Value) (i : Nat) (hi : i < vs.length) (hp : ∀ v ∈ es, PlaceAt v) (q : Nat) (hv : vs[i]? = some (.iface 87 (ptr q))) (w : World) (h : ArgS w g p wd ab ac es tb tc vs i) :
 Calls Tryz.prog 67 #[.pointer (some ⟨g, 0, none⟩)] w (AOut g p wd ab ac es tb tc vs i w (some (ptr q))) := by
 have hle := h.le; have HA := yh h; have HB := yh h.blk; have hwi : IntKind.i64.wrap ((i : Int) + 1) = (i : Int) + 1 := IntWalk.i64_in _ (by omega); have i0 : (0 : Int) ≤ (i : Int) := by omega
 have i1 : (i : Int) < (vs.length : Int) := by omega
 have hcx := yh (h.cell hv); have HK1 := yh (Keep.refl none w); clear h hv hp; unfold ptr at *; go_enter Tryz.func67, Tryz.ntmps67; go_wp2_with fail; refine wp_region_pen (fun w' => (∀ q, w'.cell? ⟨g, q, none⟩ = [Value.int .i64 (p : Int), .string (mkS wd), .slice (some ⟨ab, 0, none⟩) vs.length ac, .slice (some ⟨tb, 0, none⟩) vs.length tc, .int .i64 (i : Int)][q]?) ∧ w'.cell? ⟨tb, i, none⟩ = some (.iface 87 (.pointer (some ⟨q, 0, none⟩)))) 99 (by kernel_rfl) (by kernel_rfl) (fun c a d v w h => by cases d <;> exact h) (by exact ⟨HB.out.drew.cell, hcx.out⟩) ?_; simp only [List.length_cons, List.length_nil]
 refine pen_list [0, 1, 2, 3, 4, 5, 6, 7, 8, 9, 10, 11, 12, 13, 14, 15] ?_; repeat
  (refine penl_stable (getOp rfl) (by decide +kernel) (fun K hK => ?_)
   rw [if_pos (by rfl)]; apply Exists.intro; refine ⟨fun w' hS' => ?_, hK _ ?_⟩
   · obtain ⟨hS1, hS2⟩ := hS'; go_simp; try with_reducible rfl
   clear hK K; simp only [Act.put, List.setIfInBounds_toArray, List.set])
 refine penl_end ?_; refine pen_done (by decide +kernel) ?_; have hc := HB.out.cell; have hf := HB.out.frozen; go_wp2_with fail; clear hc hf; go_ret; exact ⟨rfl, (HA.out.keep HK1.out.drew).next, HK1.out.drew.of_none.set _ _ (.inl rfl)⟩
theorem ag_lens_no (g p : Nat) (wd : Bs) (ab ac : Nat) (es : List Value) (tb tc : Nat) (vs : List Value) (i : Nat) (hi : i < vs.length) (hp : ∀ v ∈ es, PlaceAt v) (tv : TypeId) (yv : Value) (hv : vs[i]? = some (.iface tv yv)) (w : World) (h : ArgS w g p wd ab ac es tb tc vs i) (hno : ∀ w, (Instr.typeAssert (.iface tv yv) 23 87 true).run Tryz.prog w = .ok (.tuple #[nop, .bool false]) w) :
 Calls Tryz.prog 67 #[.pointer (some ⟨g, 0, none⟩)] w (AOut g p wd ab ac es tb tc vs i w none) := by
 have hle := h.le; have HA := yh h; have HB := yh h.blk; have hwi : IntKind.i64.wrap ((i : Int) + 1) = (i : Int) + 1 := IntWalk.i64_in _ (by omega); have i0 : (0 : Int) ≤ (i : Int) := by omega
 have i1 : (i : Int) < (vs.length : Int) := by omega
 have hcx := yh (h.cell hv); have HK1 := yh (Keep.refl none w); have HPL := yh hp; clear h hv hp; unfold nop at *; go_enter Tryz.func67, Tryz.ntmps67; go_wp2_with fail; refine wp_region_pen (fun w' => (∀ q, w'.cell? ⟨g, q, none⟩ = [Value.int .i64 (p : Int), .string (mkS wd), .slice (some ⟨ab, 0, none⟩) vs.length ac, .slice (some ⟨tb, 0, none⟩) vs.length tc, .int .i64 (i : Int)][q]?) ∧ w'.cell? ⟨tb, i, none⟩ = some (.iface tv yv)) 99 (by kernel_rfl) (by kernel_rfl) (fun c a d v w h => by cases d <;> exact h) (by exact ⟨HB.out.drew.cell, hcx.out⟩) ?_; simp only [List.length_cons, List.length_nil]
 refine pen_list [0, 1, 2, 3, 4, 5, 6, 7, 8, 9, 10, 11, 12, 13, 14, 15] ?_; repeat
  (refine penl_stable (getOp rfl) (by decide +kernel) (fun K hK => ?_)
   rw [if_pos (by rfl)]; apply Exists.intro; refine ⟨fun w' hS' => ?_, hK _ ?_⟩
   · obtain ⟨hS1, hS2⟩ := hS'; go_simp; try with_reducible rfl
   clear hK K; simp only [Act.put, List.setIfInBounds_toArray, List.set])
 refine penl_end ?_; refine pen_done (by decide +kernel) ?_; replace HK1 := yh HK1.out.drew; replace HA := yh (HA.out.keep HK1.out); go_wp2_with fail; refine (ag_refuse g p wd ab ac es tb tc vs i hi HPL.out _ HA.out).mono ?_; rintro e x2 ⟨⟨pl, rfl⟩, k2⟩; exact ⟨rfl, ⟨pl, rfl⟩, (HK1.out.trans k2).of_none⟩
attribute [local go_sem ↓] run_tm_78_78
theorem ag_text_ok (g p : Nat) (wd : Bs) (ab ac : Nat) (es : List Value) (tb tc : Nat) (vs : List Value) (i : Nat) (hi : i < vs.length) (hp : ∀ v ∈ es, PlaceAt v) (tp : Nat) (s : Bs) (hv : vs[i]? = some (.iface 78 (.agg #[.int .i64 (tp : Int), .string (mkS s)]))) (w : World) (h : ArgS w g p wd ab ac es tb tc vs i) :
 Calls Tryz.prog 65 #[.pointer (some ⟨g, 0, none⟩)] w (AOut g p wd ab ac es tb tc vs i w (some (.string (mkS s)))) := by
 have hle := h.le; have HA := yh h; have HB := yh h.blk; have hwi : IntKind.i64.wrap ((i : Int) + 1) = (i : Int) + 1 := IntWalk.i64_in _ (by omega); have i0 : (0 : Int) ≤ (i : Int) := by omega
 have i1 : (i : Int) < (vs.length : Int) := by omega
 have hcx := yh (h.cell hv); have HK1 := yh (Keep.refl none w); clear h hv hp; go_enter Tryz.func65, Tryz.ntmps65; go_wp2_with fail; refine wp_region_pen (fun w' => (∀ q, w'.cell? ⟨g, q, none⟩ = [Value.int .i64 (p : Int), .string (mkS wd), .slice (some ⟨ab, 0, none⟩) vs.length ac, .slice (some ⟨tb, 0, none⟩) vs.length tc, .int .i64 (i : Int)][q]?) ∧ w'.cell? ⟨tb, i, none⟩ = some (.iface 78 (.agg #[.int .i64 (tp : Int), .string (mkS s)]))) 99 (by kernel_rfl) (by kernel_rfl) (fun c a d v w h => by cases d <;> exact h) (by exact ⟨HB.out.drew.cell, hcx.out⟩) ?_; simp only [List.length_cons, List.length_nil]
 have HSZ := yh (show w.heap.size ≤ w.drew.heap.size from Nat.le_refl _); have HDD := yh (HA.out.ne); replace HK1 := yh HK1.out.drew; replace HA := yh (HA.out.keep HK1.out); replace HB := yh HB.out.drew; replace HDD : Hid (tb ≠ w.drew.heap.size ∧ ab ≠ w.drew.heap.size) := yh HDD.out; replace hcx : Hid (w.drew.cell? _ = _) := yh hcx.out; generalize w.drew = V0 at HK1 HA HB hcx HSZ HDD ⊢; refine pen_list [0, 1, 2, 3, 4, 5, 6, 7, 8, 9, 10, 11, 12, 13] ?_; repeat
  (refine penl_stable (getOp rfl) (by decide +kernel) (fun K hK => ?_)
   rw [if_pos (by rfl)]; apply Exists.intro; refine ⟨fun w' hS' => ?_, hK _ ?_⟩
   · obtain ⟨hS1, hS2⟩ := hS'; go_simp; try with_reducible rfl
   clear hK K; simp only [Act.put, List.setIfInBounds_toArray, List.set])
 refine penl_end ?_; refine pen_active 14 (getOp rfl) (by decide +kernel) (fun K hK => ?_); rw [if_pos (by rfl)]; go_simp; refine hK.out _ _ (⟨(HB.out.alloc _).cell, Keep.cellN ((Keep.refl none _).alloc _) hcx.out⟩) ?_; clear hK K; try simp only [Act.put, List.setIfInBounds_toArray, List.set]
 have HD := yh (Blk.new V0 [.int .i64 0, .string ⟨#[]⟩] 78); have HGD := yh HB.out.lt; replace hcx := yh (Keep.cellN ((Keep.refl none V0).alloc (.cells #[.int .i64 0, .string ⟨#[]⟩] 78)) hcx.out); replace HB := yh (HB.out.alloc (.cells #[.int .i64 0, .string ⟨#[]⟩] 78)); replace HK1 := yh (HK1.out.alloc (.cells #[.int .i64 0, .string ⟨#[]⟩] 78)); replace HA := yh (HA.out.keep ((Keep.refl none V0).alloc (.cells #[.int .i64 0, .string ⟨#[]⟩] 78))); have HTB := yh (show w.heap.size ≤ V0.heap.size from HSZ.out); have HTD := yh (show tb ≠ V0.heap.size ∧ ab ≠ V0.heap.size from HDD.out)
 change Pen _ _ _ _ _ _ _ _ (World.alloc V0 (.cells #[.int .i64 0, .string ⟨#[]⟩] 78)); generalize World.alloc V0 (.cells #[.int .i64 0, .string ⟨#[]⟩] 78) = V1 at HD HB HK1 HA hcx ⊢; generalize V0.heap.size = d at HD HGD HTB HTD ⊢; have hcd := HD.out.cell; have hfd := HD.out.frozen; have hgd : g ≠ d := by have := HGD.out; omega
 refine pen_active 15 (getOp rfl) (by decide +kernel) (fun K hK => ?_); rw [if_pos (by rfl)]; go_simp; refine hK.out _ _ (⟨((HB.out.far _ _ (by simpa using hgd)).far _ _ (by simpa using hgd)).cell, by rw [cell_far2 _ _ HTD.out.1]; exact hcx.out⟩) ?_; clear hK K; try simp only [Act.put, List.setIfInBounds_toArray, List.set]
 refine pen_stable 16 (getOp rfl) (by decide +kernel) (fun K hK => ?_); rw [if_pos (by rfl)]; apply Exists.intro; refine ⟨fun w' hS' => ?_, hK _ ?_⟩
 · obtain ⟨hS1, hS2⟩ := hS'; go_simp; try with_reducible rfl
 clear hK K; simp only [Act.put, List.setIfInBounds_toArray, List.set]; refine pen_done (by decide +kernel) ?_; clear hcd hfd; have kk := ((Keep.refl (some d) V1).set ⟨d, 0, none⟩ (.int .i64 (tp : Int)) (.inl rfl)).set ⟨d, 1, none⟩ (.string (mkS s)) (.inl rfl); replace HA := yh (HA.out.other HD.out (by decide) (by decide) (by decide) hgd (.int .i64 (tp : Int)) (.string (mkS s))); replace HB := yh HA.out.blk; replace HK1 := yh ((HK1.out.set ⟨d, 0, none⟩ (.int .i64 (tp : Int)) (.inr HTB.out)).set ⟨d, 1, none⟩ (.string (mkS s)) (.inr HTB.out)); replace HD := yh ((HD.out.set 0 (.int .i64 (tp : Int))).set 1 (.string (mkS s)))
 generalize World.setCell (World.setCell V1 _ _) _ _ = V2 at HA HB HK1 HD ⊢; have hc := HB.out.cell; have hf := HB.out.frozen; have hcd : ∀ o, V2.cell? ⟨d, o, none⟩ = [Value.int .i64 (tp : Int), .string (mkS s)][o]? := HD.out.cell; have hgd2 : d ≠ g := hgd.symm; go_wp2_with fail; clear hc hf hcd; go_ret; exact ⟨rfl, HA.out.next, HK1.out.of_none.set _ _ (.inl rfl)⟩
theorem ag_text_no (g p : Nat) (wd : Bs) (ab ac : Nat) (es : List Value) (tb tc : Nat) (vs : List Value) (i : Nat) (hi : i < vs.length) (hp : ∀ v ∈ es, PlaceAt v) (tv : TypeId) (yv : Value) (hv : vs[i]? = some (.iface tv yv)) (w : World) (h : ArgS w g p wd ab ac es tb tc vs i) (hno : ∀ w, (Instr.typeAssert (.iface tv yv) 23 78 true).run Tryz.prog w = .ok (.tuple #[.agg #[.int .i64 0, .string ⟨#[]⟩], .bool false]) w) :
 Calls Tryz.prog 65 #[.pointer (some ⟨g, 0, none⟩)] w (AOut g p wd ab ac es tb tc vs i w none) := by
 have hle := h.le; have HA := yh h; have HB := yh h.blk; have hwi : IntKind.i64.wrap ((i : Int) + 1) = (i : Int) + 1 := IntWalk.i64_in _ (by omega); have i0 : (0 : Int) ≤ (i : Int) := by omega
 have i1 : (i : Int) < (vs.length : Int) := by omega
 have hcx := yh (h.cell hv); have HK1 := yh (Keep.refl none w); have HPL := yh hp; clear h hv hp; go_enter Tryz.func65, Tryz.ntmps65; go_wp2_with fail; refine wp_region_pen (fun w' => (∀ q, w'.cell? ⟨g, q, none⟩ = [Value.int .i64 (p : Int), .string (mkS wd), .slice (some ⟨ab, 0, none⟩) vs.length ac, .slice (some ⟨tb, 0, none⟩) vs.length tc, .int .i64 (i : Int)][q]?) ∧ w'.cell? ⟨tb, i, none⟩ = some (.iface tv yv)) 99 (by kernel_rfl) (by kernel_rfl) (fun c a d v w h => by cases d <;> exact h) (by exact ⟨HB.out.drew.cell, hcx.out⟩) ?_; simp only [List.length_cons, List.length_nil]; have HSZ := yh (show w.heap.size ≤ w.drew.heap.size from Nat.le_refl _)
 have HDD := yh (HA.out.ne); replace HK1 := yh HK1.out.drew; replace HA := yh (HA.out.keep HK1.out); replace HB := yh HB.out.drew; replace HDD : Hid (tb ≠ w.drew.heap.size ∧ ab ≠ w.drew.heap.size) := yh HDD.out; replace hcx : Hid (w.drew.cell? _ = _) := yh hcx.out; generalize w.drew = V0 at HK1 HA HB hcx HSZ HDD ⊢; refine pen_list [0, 1, 2, 3, 4, 5, 6, 7, 8, 9, 10, 11, 12, 13] ?_; repeat
  (refine penl_stable (getOp rfl) (by decide +kernel) (fun K hK => ?_)
   rw [if_pos (by rfl)]; apply Exists.intro; refine ⟨fun w' hS' => ?_, hK _ ?_⟩
   · obtain ⟨hS1, hS2⟩ := hS'; go_simp; try with_reducible rfl
   clear hK K; simp only [Act.put, List.setIfInBounds_toArray, List.set])
 refine penl_end ?_; refine pen_active 14 (getOp rfl) (by decide +kernel) (fun K hK => ?_); rw [if_pos (by rfl)]; go_simp; refine hK.out _ _ (⟨(HB.out.alloc _).cell, Keep.cellN ((Keep.refl none _).alloc _) hcx.out⟩) ?_; clear hK K; try simp only [Act.put, List.setIfInBounds_toArray, List.set]
 have HD := yh (Blk.new V0 [.int .i64 0, .string ⟨#[]⟩] 78); have HGD := yh HB.out.lt; replace hcx := yh (Keep.cellN ((Keep.refl none V0).alloc (.cells #[.int .i64 0, .string ⟨#[]⟩] 78)) hcx.out); replace HB := yh (HB.out.alloc (.cells #[.int .i64 0, .string ⟨#[]⟩] 78)); replace HK1 := yh (HK1.out.alloc (.cells #[.int .i64 0, .string ⟨#[]⟩] 78)); replace HA := yh (HA.out.keep ((Keep.refl none V0).alloc (.cells #[.int .i64 0, .string ⟨#[]⟩] 78))); have HTB := yh (show w.heap.size ≤ V0.heap.size from HSZ.out); have HTD := yh (show tb ≠ V0.heap.size ∧ ab ≠ V0.heap.size from HDD.out)
 change Pen _ _ _ _ _ _ _ _ (World.alloc V0 (.cells #[.int .i64 0, .string ⟨#[]⟩] 78)); generalize World.alloc V0 (.cells #[.int .i64 0, .string ⟨#[]⟩] 78) = V1 at HD HB HK1 HA hcx ⊢; generalize V0.heap.size = d at HD HGD HTB HTD ⊢; have hcd := HD.out.cell; have hfd := HD.out.frozen; have hgd : g ≠ d := by have := HGD.out; omega
 refine pen_active 15 (getOp rfl) (by decide +kernel) (fun K hK => ?_); rw [if_pos (by rfl)]; go_simp; refine hK.out _ _ (⟨((HB.out.far _ _ (by simpa using hgd)).far _ _ (by simpa using hgd)).cell, by rw [cell_far2 _ _ HTD.out.1]; exact hcx.out⟩) ?_; clear hK K; try simp only [Act.put, List.setIfInBounds_toArray, List.set]
 refine pen_stable 16 (getOp rfl) (by decide +kernel) (fun K hK => ?_); rw [if_pos (by rfl)]; apply Exists.intro; refine ⟨fun w' hS' => ?_, hK _ ?_⟩
 · obtain ⟨hS1, hS2⟩ := hS'; go_simp; try with_reducible rfl
 clear hK K; simp only [Act.put, List.setIfInBounds_toArray, List.set]; refine pen_done (by decide +kernel) ?_; clear hcd hfd; have kk := ((Keep.refl (some d) V1).set ⟨d, 0, none⟩ (.int .i64 0) (.inl rfl)).set ⟨d, 1, none⟩ (.string ⟨#[]⟩) (.inl rfl); replace HA := yh (HA.out.other HD.out (by decide) (by decide) (by decide) hgd (.int .i64 0) (.string ⟨#[]⟩)); replace HB := yh HA.out.blk; replace HK1 := yh ((HK1.out.set ⟨d, 0, none⟩ (.int .i64 0) (.inr HTB.out)).set ⟨d, 1, none⟩ (.string ⟨#[]⟩) (.inr HTB.out)); replace HD := yh ((HD.out.set 0 (.int .i64 0)).set 1 (.string ⟨#[]⟩))
 generalize World.setCell (World.setCell V1 _ _) _ _ = V2 at HA HB HK1 HD ⊢; go_wp2_with fail; refine (ag_refuse g p wd ab ac es tb tc vs i hi HPL.out _ HA.out).mono ?_; rintro e x2 ⟨⟨pl, rfl⟩, k2⟩; exact ⟨rfl, ⟨pl, rfl⟩, (HK1.out.trans k2).of_none⟩
end Go.Proofs.YtmfabihndpidnaaGreatDoor
