/-
  The printer, whole.
-/
import Derived.Test.YtmfabihndpidnaaGreatDoorK14
namespace Go.Proofs.YtmfabihndpidnaaGreatDoor
set_option maxHeartbeats 4000000
open Go.RowKit
set_option maxRecDepth 100000
set_option linter.unusedVariables false
set_option linter.unusedSimpArgs false
theorem ExV.below {w w' : World} {ok : Nat → Prop} {B : Nat} {x : Ex} {y : Value} (h : ExV w ok x y) (k : Below B w w') (hB : w.heap.size ≤ B) : ExV w' ok x y :=
 h.far (fun i cs fr _ hi => k.block i (Nat.lt_of_lt_of_le (lt_of_block hi) hB))
theorem defCells_get : ∀ (ds : List Def) (vs : List Value) (k : Nat) (d : Def), ds.length = vs.length → ds[k]? = some d → ∃ v, vs[k]? = some v ∧ (defCells ds vs)[k * 3]? = some (.int .i64 d.p) ∧ (defCells ds vs)[k * 3 + 1]? = some (.string (mkS d.name)) ∧ (defCells ds vs)[k * 3 + 2]? = some v
 | [], _, k, d, _, h => by simp at h
 | _ :: _, [], _, _, h, _ => by simp at h
 | e :: ds, v :: vs, 0, d, _, h => by simp at h; subst h; exact ⟨v, rfl, rfl, rfl, rfl⟩
 | e :: ds, v :: vs, k + 1, d, hl, h => by
  obtain ⟨u, h0, h1, h2, h3⟩ := defCells_get ds vs k d (by simpa using hl) (by simpa using h); rw [show (k + 1) * 3 = k * 3 + 3 by omega]; exact ⟨u, by simpa using h0, h1, h2, h3⟩
theorem ExsV.get {w : World} {ok : Nat → Prop} : ∀ {xs : List Ex} {vs : List Value} {k : Nat} {x : Ex} {v : Value}, ExsV w ok xs vs → xs[k]? = some x → vs[k]? = some v → ExV w ok x v
 | [], _, _, _, _, _, h, _ => by simp at h
 | _ :: _, [], _, _, _, h, _, _ => h.elim
 | _ :: _, _ :: _, 0, _, _, h, h1, h2 => by simp at h1 h2; subst h1; subst h2; exact h.1
 | _ :: xs, _ :: vs, k + 1, _, _, h, h1, h2 => ExsV.get (xs := xs) (vs := vs) (k := k) h.2 (by simpa using h1) (by simpa using h2)
theorem print_walk (base bp : Nat) (p : Prog) (w : World) (hp : ProgV w base bp p) (hr : Ranks w) (hw : ∀ d ∈ p.defs, Wf d.body) (hm : Wf p.main) (hlen : (print p).length ≤ 140737488355328) (hn : p.defs.length ≤ 100000) :
 Calls Tryz.prog 7 #[.pointer (some ⟨bp, 0, none⟩)] w fun e w' => e = .returned (.string (mkS (print p))) ∧ Keep none w w' := by
 obtain ⟨sv, mv, vs, h1, h2, h3, h4⟩ := hp; obtain ⟨tm, ym, rfl⟩ := h4.iface; have hlt := h1.lt; obtain ⟨ao, cap, rfl⟩ : ∃ ao cap, sv = .slice ao p.defs.length cap := by
  rcases h2.2 with ⟨hv, h0⟩ | ⟨g, cap, cur, hv, _⟩
  · exact ⟨none, 0, by rw [hv, h0]⟩
  · exact ⟨_, _, hv⟩
 have hvl : p.defs.length = vs.length := by have := h3.len; simpa using this
 have HP1 := yh h1; have HP2 := yh h2; have HP3 := yh h3; have HP4 := yh h4; have HR := yh hr; have HW := yh hw; have HM := yh hm; have HL := yh hlen; have HVL := yh hvl; have hc := h1.cell; clear h1 h2 h3 h4 hr hw hm hlen hvl; go_enter Tryz.func7, Tryz.ntmps7; go_wp2_with fail; have HB0 := yh (show Bld (w.alloc (.cells #[.pointer none, .slice none 0 0] 52)) w.heap.size w.heap.size [] from ⟨_, _, .inl rfl, Blk.new w _ 52, ⟨rfl, .inl ⟨rfl, rfl⟩⟩⟩); clear hc; go_loopw [15] (fun kv wr => ∃ (k : Nat), kv = .int .i64 (k : Int) ∧ k ≤ p.defs.length ∧ Bld wr w.heap.size w.heap.size ((p.defs.take k).flatMap printDef) ∧ Below w.heap.size w wr) (fun kv _ => p.defs.length - (intOf kv).toNat)
 case atStart => exact ⟨0, rfl, by omega, by simpa using HB0.out, (Below.refl _ _).alloc (Nat.le_refl _) _⟩
 case round =>
  obtain ⟨k, rfl, hk, hb, hbl⟩ := hrel; have HB := yh hb; have HBL := yh hbl; clear hb hbl; by_cases hlt2 : k < p.defs.length
  · have b0 : ((k : Int) < (p.defs.length : Int)) := by omega
    have b1 : (0 : Int) ≤ (k : Int) := by omega
    have hwk : IntKind.i64.wrap ((k : Int) + 1) = (k : Int) + 1 := IntWalk.i64_in _ (by omega); obtain ⟨d, hd⟩ : ∃ d, p.defs[k]? = some d := ⟨p.defs[k], List.getElem?_eq_getElem hlt2⟩; obtain ⟨gd, rfl⟩ : ∃ gd, ao = some ⟨gd, 0, none⟩ := by
     rcases HP2.out.2 with ⟨hv, h0⟩ | ⟨g, cap', cur, hv, _⟩
     · omega
     · cases hv; exact ⟨g, rfl⟩
    obtain ⟨v, hv, g0, g1, g2⟩ := defCells_get p.defs vs k d HVL.out hd; have HX := yh (show ExV wr (fun b => base ≤ b) d.body v from (HP3.out.get (by simp [hd]) hv).below HBL.out (Nat.le_refl _)); obtain ⟨tv, yv, rfl⟩ := HX.out.iface; have cells : ∀ j u, (defCells p.defs vs)[j]? = some u → wr.cell? ⟨gd, j, none⟩ = some u := by
     intro j u hj; have := HP2.out.cells (g := gd) rfl j u hj; have ha : (⟨gd, 0, none⟩ : Addr).add j = ⟨gd, j, none⟩ := by unfold Addr.add; split <;> simp_all
     rw [ha] at this; rw [← this]; exact HBL.out.cell (World.block_lt_of_cell? _ _ this)
    have k0 := cells _ _ g0; have k1 := cells _ _ g1; have k2 := cells _ _ g2; clear cells; go_wp2_with fail; have HKB := yh (show wr.heap.size ≠ w.heap.size from Nat.ne_of_gt HB.out.lt); generalize hA : World.alloc wr _ = A; have HBK := yh (show Blk A wr.heap.size [.int .i64 d.p, .string (mkS d.name), .iface tv yv] 59 from by rw [← hA]; exact Blk.new _ _ _); have HXA := yh (show ExV A (fun b => base ≤ b) d.body (.iface tv yv) from by rw [← hA]; exact HX.out.keep ((Keep.refl none _).alloc _) (NotRow.none _ _)); have HBLA := yh (show Below w.heap.size w A from by rw [← hA]; exact HBL.out.alloc (by have := HB.out.lt; omega) _)
    have HBA := yh (show Bld A w.heap.size w.heap.size ((p.defs.take k).flatMap printDef) from by rw [← hA]; exact HB.out.alloc _); clear hA k0 k1 k2; have HPL := yh (show ((p.defs.take k).flatMap printDef).length + (printDef d).length ≤ 140737488355328 from by
     have e1 : (p.defs.take k).flatMap printDef ++ printDef d = (p.defs.take (k + 1)).flatMap printDef := by
      rw [List.take_add_one, hd]; simp
     have e2 : (p.defs.take (k + 1)).flatMap printDef ++ (p.defs.drop (k + 1)).flatMap printDef = p.defs.flatMap printDef := by
      rw [← List.flatMap_append, List.take_append_drop]
     have := HL.out; unfold print at this; rw [← e2, ← e1] at this; simp only [List.length_append] at this; omega)
    have hpd : (printDef d).length = d.name.length + (part d.body 0).length + 9 := by simp [printDef]; omega
    have c1 : ¬ 9223372036854775807 < 4 + d.name.length := by have := HPL.out; omega
    have c2 : (ByteArray.mk #[108, 101, 116, 32]) ++ mkS d.name = mkS (108 :: 101 :: 116 :: 32 :: d.name) := cat_l [108, 101, 116, 32] d.name; have c3 : ¬ 9223372036854775807 < d.name.length + 1 + 1 + 1 + 1 + 3 := by have := HPL.out; omega
    have c4 : mkS (108 :: 101 :: 116 :: 32 :: d.name) ++ (ByteArray.mk #[32, 61, 32]) = mkS (108 :: 101 :: 116 :: 32 :: (d.name ++ [32, 61, 32])) := cat_l (108 :: 101 :: 116 :: 32 :: d.name) [32, 61, 32]; refine wp_region_pend (fun w' => w'.cell? ⟨wr.heap.size, 1, none⟩ = some (.string (mkS d.name))) 99 (by kernel_rfl) (by kernel_rfl) (fun c a d v w h => by cases d <;> exact h) (by exact HBK.out.drew.cell 1) ?_; simp only [num, List.length_cons, List.length_nil]; repeat
     (refine pend_stable (by decide +kernel) (fun K hK => ?_)
      rw [if_pos (by rfl)]; apply Exists.intro; refine ⟨fun w' hS' => ?_, hK _ ?_⟩
      · (try dsimp only at hS')
        go_simp; try with_reducible rfl
      clear hK K; simp only [Act.put, List.setIfInBounds_toArray, List.set])
    clear c1 c2 c3 c4; refine pend_active (by decide +kernel) (fun K hK => ?_); rw [if_pos (by rfl)]; go_wp2_with fail; refine (write_any w.heap.size w.heap.size ((p.defs.take k).flatMap printDef) (108 :: 101 :: 116 :: 32 :: (d.name ++ [32, 61, 32])) _ (Nat.le_refl _) HBA.out.drew (by have := HPL.out; rw [hpd] at this; simp only [List.length_append, List.length_cons, List.length_nil]; omega)).mono ?_; rintro e v1 ⟨rfl, hb1, hbl1, hwr1⟩; have HBK1 := yh (HBK.out.drew.wr hwr1 (by decide) HKB.out); have HX1 := yh ((HXA.out.keep ((Keep.refl none _).drew) (NotRow.none _ _)).wrb hwr1 HBA.out.drew)
    have HBL1 := yh (HBLA.out.drew.trans hbl1); have HB1 := yh hb1; clear hb1 hbl1 hwr1; refine hK.out _ _ (HBK1.out.cell 1) ?_; clear hK K; try simp only [Act.put, List.setIfInBounds_toArray, List.set]
    refine pend_done (by kernel_rfl) ?_; have hc := HBK1.out.cell; go_wp2_with fail; clear hc; refine (part_walk w.heap.size w.heap.size (Nat.le_refl _) (by omega) (fun b => base ≤ b) d.body (HW.out d (List.mem_of_getElem? hd)) _ _ 0 _ HB1.out HX1.out (HR.out.below HBL1.out (by omega)) (by have := HPL.out; rw [hpd] at this; simp only [List.length_append, List.length_cons, List.length_nil]; omega) (by omega) (by omega)).mono ?_; rintro e v2 ⟨rfl, hb2, hbl2, hwr2⟩; go_wp2_with fail; refine (write_any w.heap.size w.heap.size _ [59, 10] _ (Nat.le_refl _) hb2 (by have := HPL.out; rw [hpd] at this; simp only [List.length_append, List.length_cons, List.length_nil]; omega)).mono ?_
    rintro e v3 ⟨rfl, hb3, hbl3, hwr3⟩; go_wp2_with fail; go_roundw; case rel =>
     refine ⟨k + 1, rfl, by omega, ?_, (HBL1.out.trans hbl2).trans hbl3⟩; have e1 : (p.defs.take (k + 1)).flatMap printDef = (p.defs.take k).flatMap printDef ++ (108 :: 101 :: 116 :: 32 :: (d.name ++ [32, 61, 32])) ++ part d.body 0 ++ [59, 10] := by
      rw [List.take_add_one, hd]; simp [printDef]
     rw [e1]; exact hb3
    case measure =>
     simp only [intOf, Int.toNat_natCast]; omega
  · have b0 : ¬ ((k : Int) < (p.defs.length : Int)) := by omega
    have hke : (p.defs.take k) = p.defs := List.take_of_length_le (by omega); rw [hke] at HB; have HP1R := yh (show Blk wr bp [.slice ao p.defs.length cap, .iface tm ym] 57 from (HBL.out.block bp hlt).trans HP1.out); have hc := HP1R.out.cell; have hpr : (print p).length = (p.defs.flatMap printDef).length + (part p.main 0).length + 1 := by simp [print]; omega
    go_wp2_with fail; clear hc; refine (part_walk w.heap.size w.heap.size (Nat.le_refl _) (by omega) (fun b => base ≤ b) p.main HM.out _ _ 0 _ HB.out (HP4.out.below HBL.out (Nat.le_refl _)) (HR.out.below HBL.out (by omega)) (by have := HL.out; omega) (by omega) (by omega)).mono ?_; rintro e v2 ⟨rfl, hb2, hbl2, hwr2⟩; go_wp2_with fail; refine (write_any w.heap.size w.heap.size _ [10] _ (Nat.le_refl _) hb2 (by have := HL.out; rw [hpr] at this; simp only [List.length_append, List.length_cons, List.length_nil]; omega)).mono ?_; rintro e v3 ⟨rfl, hb3, hbl3, hwr3⟩; go_wp2_with fail; refine (string_any w.heap.size w.heap.size _ _ (Nat.le_refl _) hb3 (by simp)).mono ?_
    rintro e v4 ⟨rfl, hbl4⟩; go_wp2_with fail; go_ret; refine ⟨?_, Keep.of_below (((HBL.out.trans hbl2).trans hbl3).trans hbl4)⟩; simp [print, go_sem]
end Go.Proofs.YtmfabihndpidnaaGreatDoor
