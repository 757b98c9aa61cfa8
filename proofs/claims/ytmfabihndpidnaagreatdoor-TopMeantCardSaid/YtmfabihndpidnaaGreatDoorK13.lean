/-
  The printer's own builder: what is written stands behind what was written. A text in quotes.
-/
import Derived.Test.YtmfabihndpidnaaGreatDoorK12
import Derived.Lib.Builder
import Derived.Lib.AppendStr
import Derived.Lib.UnsafeStr
import Derived.Lib.MakeNoZero
import Derived.Lib.FrozenHead2
import Derived.Laws.Externs
namespace Go.Proofs.YtmfabihndpidnaaGreatDoor
set_option maxHeartbeats 2000000
open Go.RowKit
set_option maxRecDepth 100000
set_option linter.unusedVariables false
set_option linter.unusedSimpArgs false
def Bld (w : World) (B b : Nat) (l : Bs) : Prop :=
 ∃ p v, (p = .pointer none ∨ p = .pointer (some ⟨b, 0, none⟩)) ∧ Blk w b [p, v] 52 ∧ w.ownsRow B 5 1 v l.length (Lib.byteCells l)
theorem Bld.keep {w w' : World} {B b : Nat} {l : Bs} (h : Bld w B b l) (k : Keep none w w') : Bld w' B b l := by
 obtain ⟨p, v, h1, h2, h3⟩ := h; exact ⟨p, v, h1, h2.keep k (by simp), own_keep h3 k (NotRow.none _ _)⟩
theorem Bld.lt {w : World} {B b : Nat} {l : Bs} (h : Bld w B b l) : b < w.heap.size := by
 obtain ⟨p, v, h1, h2, h3⟩ := h; exact h2.lt
structure Wr (b : Nat) (w w' : World) : Prop where
 size : w.heap.size ≤ w'.heap.size
 keep : ∀ k cs t fr, w.heap[k]? = some (.cells cs t fr) → t ≠ 5 → k ≠ b → w'.heap[k]? = w.heap[k]?
theorem Wr.refl (b : Nat) (w : World) : Wr b w w := ⟨Nat.le_refl _, fun _ _ _ _ _ _ _ => rfl⟩
theorem Wr.trans {b : Nat} {u v w : World} (h : Wr b u v) (k : Wr b v w) : Wr b u w :=
 ⟨Nat.le_trans h.size k.size, fun i cs t fr hi ht hb => by
  have h1 := h.keep i cs t fr hi ht hb; exact (k.keep i cs t fr (h1.trans hi) ht hb).trans h1⟩
theorem Wr.of_keep {b : Nat} {u v : World} (h : Keep none u v) : Wr b u v := ⟨h.size, fun i cs t fr hi _ _ => h.block i (lt_of_block hi) (by simp)⟩
theorem Wr.set {b : Nat} {u v : World} (h : Wr b u v) (o : Nat) (x : Value) : Wr b u (v.setCell ⟨b, o, none⟩ x) :=
 ⟨by have := h.size; simp [World.setCell]; omega, fun i cs t fr hi ht hb => by
  rw [Below.heap_setCell _ _ _ _ hb]; exact h.keep i cs t fr hi ht hb⟩
theorem Wr.grown {b : Nat} {u v w : World} {base n : Nat} {x : Value} {xs : List Value} (h : Wr b u v) (ho : v.ownsRow base 5 1 x n xs) (hg : v.grownBy w x.ownBlock) : Wr b u w :=
 ⟨Nat.le_trans h.size hg.size, fun i cs t fr hi ht hb => by
  have h1 := h.keep i cs t fr hi ht hb; exact (hg.block i (lt_of_block (h1.trans hi)) (own_ne_row ho (h1.trans hi) ht)).trans h1⟩
theorem Blk.wr {w w' : World} {k b : Nat} {cs : List Value} {t : TypeId} (h : Blk w k cs t) (hw : Wr b w w') (ht : t ≠ 5) (hk : k ≠ b) : Blk w' k cs t := (hw.keep k _ t _ h ht hk).trans h
theorem ExV.wr {w w' : World} {ok : Nat → Prop} {b : Nat} {p v : Value} {x : Ex} {y : Value} (h : ExV w ok x y) (hw : Wr b w w') (hb : Blk w b [p, v] 52) : ExV w' ok x y :=
 h.far (fun k cs fr _ hk => hw.keep k cs 55 fr hk (by decide) (by
  intro e; subst e; rw [show w.heap[k]? = _ from hb] at hk; simp at hk))
theorem info50 : (Tryz.prog.info? 50).map (fun i => i.size) = some 2 := by kernel_rfl
theorem copyCheck_used (b : Nat) (w : World) (h0 : w.cell? ⟨b, 0, none⟩ = some (.pointer (some ⟨b, 0, none⟩))) :
 Calls Tryz.prog 37 #[.pointer (some ⟨b, 0, none⟩)] w fun e w' => e = .returned (.tuple #[]) ∧ w' = w := by
 obtain ⟨j, hj, hjs⟩ := Option.map_eq_some_iff.1 info50; go_enter Tryz.func37, Tryz.ntmps37
 go_wp2
 rw [Lib.run_neq_ptr_same w _ Tryz.underlying47 hj]
 go_wp2
 go_end0
 exact ⟨rfl, rfl⟩
theorem copyCheck_fresh (b : Nat) (v : Value) (w : World) (h : Blk w b [.pointer none, v] 52) :
 Calls Tryz.prog 37 #[.pointer (some ⟨b, 0, none⟩)] w fun e w' => e = .returned (.tuple #[]) ∧ w' = w.setCell ⟨b, 0, none⟩ (.pointer (some ⟨b, 0, none⟩)) := by
 obtain ⟨j, hj, hjs⟩ := Option.map_eq_some_iff.1 info50; have hc := h.cell; have hf := h.frozen; have hsh : w.shape? b = some (52, 2) := by
  unfold Blk at h; simp [World.shape?, h]
 clear h; go_enter Tryz.func37, Tryz.ntmps37
 go_wp2
 rw [Lib.run_to_unsafe w ⟨b, 0, none⟩ Tryz.underlying47 Tryz.underlying130 hj (by rw [hjs]; decide) hsh (Nat.zero_lt_succ 1)]; simp only [Result.andThen]; rw [Oper.upon_value]
 go_wp2
 rw [run_callFunc_extern Tryz.func57 (by kernel_rfl) (by kernel_rfl) (by kernel_rfl) (e := Extern.AbiNoEscape.same) (by kernel_rfl)]; rw [Lib.run_noEscape]; simp only [Result.andThen]; rw [Oper.upon_value]
 go_wp2
 rw [Lib.run_from_unsafe w ⟨b, 0, none⟩ Tryz.underlying130 Tryz.underlying47 hj hsh (by kernel_rfl)]; simp only [Result.andThen]; rw [Oper.upon_value]
 go_wp2
 go_end0
 exact ⟨rfl, rfl⟩
theorem copyCheck_any (B b : Nat) (l : Bs) (w : World) (hB : B ≤ b) (h : Bld w B b l) :
 Calls Tryz.prog 37 #[.pointer (some ⟨b, 0, none⟩)] w fun e w' => e = .returned (.tuple #[]) ∧ (∃ v, Blk w' b [.pointer (some ⟨b, 0, none⟩), v] 52 ∧ w'.ownsRow B 5 1 v l.length (Lib.byteCells l)) ∧ Below B w w' ∧ w'.heap.size = w.heap.size ∧ Wr b w w' := by
 obtain ⟨p, v, hp, h1, h2⟩ := h; rcases hp with rfl | rfl
 · refine (copyCheck_fresh b v w h1).mono ?_; rintro e w' ⟨rfl, rfl⟩; exact ⟨rfl, ⟨v, h1.set 0 _, own_keep h2 ((Keep.refl (some b) w).set ⟨b, 0, none⟩ _ (.inl rfl)) (NotRow.blk h1 (by decide))⟩, (Below.refl B w).setCell (p := ⟨b, 0, none⟩) hB _, by simp, (Wr.refl b w).set _ _⟩
 · refine (copyCheck_used b w (by have := h1.cell 0; simpa using this)).mono ?_; rintro e w' ⟨rfl, rfl⟩; exact ⟨rfl, ⟨v, h1, h2⟩, Below.refl B _, rfl, Wr.refl _ _⟩
theorem write_any (B b : Nat) (l m : Bs) (w : World) (hB : B ≤ b) (h : Bld w B b l) (hlen : l.length + m.length ≤ 140737488355328) :
 Calls Tryz.prog 15 #[.pointer (some ⟨b, 0, none⟩), .string (mkS m)] w fun e w' => e = .returned (.tuple #[.int .i64 m.length, .nilIface]) ∧ Bld w' B b (l ++ m) ∧ Below B w w' ∧ Wr b w w' := by
 obtain ⟨i0, hi, hz0, hz1, hz2⟩ := info_parts info5; have hlt := h.lt; go_enter Tryz.func15, Tryz.ntmps15; go_wp2_with fail; refine (copyCheck_any B b l w hB h).mono ?_; rintro e w1 ⟨rfl, ⟨v, h1, h2⟩, hbl, hsz, hwr⟩; have hc := h1.cell; have HO := yh h2; have H1 := yh h1; go_wp2_with (at_builtin; refine Lib.wpList_append_own_string _ rfl _ _ 48 9 rfl B 5 i0 Tryz.underlying48 Tryz.underlying9 hi hz0 hz1 hz2 v l.length (Lib.byteCells l) rfl HO.out (mkS m) rfl ?c3 ?c4 ?c5 ?_); case c3 => simp; unfold maxLen; omega
 case c4 => simp; omega
 case c5 => omega
 intro v' w2 hown' hgrow _; have HB2 := yh (show Blk w2 b [.pointer (some ⟨b, 0, none⟩), v] 52 from Blk.grown H1.out hgrow (own_ne HO.out H1.out (by decide))); clear hc; have hc := HB2.out.cell; have hf := HB2.out.frozen; obtain ⟨ao, n', cap, rfl⟩ : ∃ ao n' cap, v' = .slice ao n' cap := by
  rcases hown'.2 with ⟨hv, _⟩ | ⟨g, cap, cur, hv, _⟩
  · exact ⟨_, _, _, hv⟩
  · exact ⟨_, _, _, hv⟩
 have HO2 := yh hown'; have HGR := yh hgrow; clear hown'
 go_wp2
 go_ret2
 refine ⟨by simp [go_sem], ⟨_, _, .inr rfl, HB2.out.set 1 _, ?_⟩, ?_, (hwr.grown HO.out HGR.out).set _ _⟩
 · have := own_keep HO2.out ((Keep.refl (some b) w2).set ⟨b, 1, none⟩ (.slice ao n' cap) (.inl rfl)) (NotRow.blk HB2.out (by decide)); have e1 : Lib.byteCells (l ++ m) = Lib.byteCells l ++ Lib.strCells (mkS m) := by simp [Lib.byteCells, Lib.strCells, mkS]
   rw [e1, List.length_append]; simpa using this
 · exact (hbl.grown hgrow (by omega) (own_base HO.out)).setCell (p := ⟨b, 1, none⟩) hB _
theorem write_deferred (B b : Nat) (l m : Bs) (w : World) (hB : B ≤ b) (h : Bld w B b l) (hlen : l.length + m.length ≤ 140737488355328) :
 CallsD Tryz.prog 15 #[.pointer (some ⟨b, 0, none⟩), .string (mkS m)] .returning w fun e u' w' => u' = .returning ∧ e = .returned (.tuple #[.int .i64 m.length, .nilIface]) ∧ Bld w' B b (l ++ m) ∧ Below B w w' ∧ Wr b w w' := by
 obtain ⟨i0, hi, hz0, hz1, hz2⟩ := info_parts info5; have hlt := h.lt
 go_enter_d Tryz.func15, Tryz.ntmps15
 go_wp2_with fail; refine (copyCheck_any B b l w hB h).mono ?_; rintro e w1 ⟨rfl, ⟨v, h1, h2⟩, hbl, hsz, hwr⟩; have hc := h1.cell; have HO := yh h2; have H1 := yh h1; go_wp2_with (at_builtin; refine Lib.wpList_append_own_string _ rfl _ _ 48 9 rfl B 5 i0 Tryz.underlying48 Tryz.underlying9 hi hz0 hz1 hz2 v l.length (Lib.byteCells l) rfl HO.out (mkS m) rfl ?c3 ?c4 ?c5 ?_); case c3 => simp; unfold maxLen; omega
 case c4 => simp; omega
 case c5 => omega
 intro v' w2 hown' hgrow _; have HB2 := yh (show Blk w2 b [.pointer (some ⟨b, 0, none⟩), v] 52 from Blk.grown H1.out hgrow (own_ne HO.out H1.out (by decide))); clear hc; have hc := HB2.out.cell; have hf := HB2.out.frozen; obtain ⟨ao, n', cap, rfl⟩ : ∃ ao n' cap, v' = .slice ao n' cap := by
  rcases hown'.2 with ⟨hv, _⟩ | ⟨g, cap, cur, hv, _⟩
  · exact ⟨_, _, _, hv⟩
  · exact ⟨_, _, _, hv⟩
 have HO2 := yh hown'; have HGR := yh hgrow; clear hown'
 go_wp2
 go_ret2
 refine ⟨by simp [go_sem], ⟨_, _, .inr rfl, HB2.out.set 1 _, ?_⟩, ?_, (hwr.grown HO.out HGR.out).set _ _⟩
 · have := own_keep HO2.out ((Keep.refl (some b) w2).set ⟨b, 1, none⟩ (.slice ao n' cap) (.inl rfl)) (NotRow.blk HB2.out (by decide)); have e1 : Lib.byteCells (l ++ m) = Lib.byteCells l ++ Lib.strCells (mkS m) := by simp [Lib.byteCells, Lib.strCells, mkS]
   rw [e1, List.length_append]; simpa using this
 · exact (hbl.grown hgrow (by omega) (own_base HO.out)).setCell (p := ⟨b, 1, none⟩) hB _
theorem string_any (B b : Nat) (l : Bs) (w : World) (hB : B ≤ b) (h : Bld w B b l) (h0 : l ≠ []) :
 Calls Tryz.prog 17 #[.pointer (some ⟨b, 0, none⟩)] w fun e w' => e = .returned (.string (mkS l)) ∧ Below B w w' := by
 obtain ⟨p, v, hp, hbk, hown⟩ := h; have hl0 : l.length ≠ 0 := by simpa using h0
 obtain ⟨g, cap, cur, rfl, hbg, hg, hnc, hcm, hcs, htake⟩ : ∃ g cap cur, v = .slice (some ⟨g, 0, none⟩) l.length cap ∧ B ≤ g ∧ w.heap[g]? = some (.cells cur 5 (0, 0)) ∧ l.length ≤ cap ∧ cap ≤ maxLen ∧ cur.size = cap * 1 ∧ cur.toList.take (l.length * 1) = Lib.byteCells l := by
  rcases hown.2 with ⟨_, hz⟩ | ⟨g, cap, cur, hv, r⟩
  · exact absurd hz hl0
  · exact ⟨g, cap, cur, hv, r⟩
 have c1 : w.drew.cell? ⟨b, 1, none⟩ = some (.slice (some ⟨g, 0, none⟩) l.length cap) := by
  have := hbk.drew.cell 1; simpa using this
 have hSD : (Builtin.unsafeSliceData_ #[48] 115 #[.slice (some ⟨g, 0, none⟩) l.length cap]).run Tryz.prog w.drew = .ok (.pointer (some ⟨g, 0, none⟩)) w.drew :=
  Lib.run_unsafeSliceData_row _ _ _ _ _ _ (by omega)
 have hUS : (Builtin.unsafeString_ #[115, 3] 9 #[.pointer (some ⟨g, 0, none⟩), .int .i64 l.length]).run Tryz.prog w.drew = .ok (.string ⟨l.toArray⟩) (w.drew.freeze ⟨g, 0, none⟩ l.length) := by
  refine Lib.run_unsafeString_row w.drew 115 3 9 5 Tryz.underlying115 (by kernel_rfl) g cur.size (by have hg' : w.drew.heap[g]? = some (.cells cur 5 (0, 0)) := hg; simp [World.shape?, hg']) l h0 (by omega) (by unfold maxLen at hcm; omega) ?_; intro j x hx; have := hown.cells (g := g) rfl j (.int .u8 x.toNat) (by simp [Lib.byteCells, hx]); exact this
 clear hbk hown htake hg; go_enter Tryz.func17, Tryz.ntmps17
 go_wp2
 go_region
 all_goals (go_wp2; go_ret; exact ⟨rfl, Lib.below_freeze (Below.drew (Below.refl B w)) (p := ⟨g, 0, none⟩) hbg _⟩)
end Go.Proofs.YtmfabihndpidnaaGreatDoor
namespace Go.Proofs.YtmfabihndpidnaaGreatDoor
set_option maxHeartbeats 8000000
open Go.RowKit
set_option maxRecDepth 100000
set_option linter.unusedVariables false
set_option linter.unusedSimpArgs false
theorem hexd_get : ∀ m : Fin 16, (ByteArray.mk #[48, 49, 50, 51, 52, 53, 54, 55, 56, 57, 97, 98, 99, 100, 101, 102])[m.val]'(by show m.val < 16; exact m.isLt) = hexd m.val := by decide +kernel
theorem and15_0 : ∀ n : Fin 256, bits BinOp.and IntKind.u8 (n.val : Int) 15 = ((n.val % 16 : Nat) : Int) := by decide +kernel
theorem and15 (c : UInt8) : bits BinOp.and IntKind.u8 (c.toNat : Int) 15 = ((c.toNat % 16 : Nat) : Int) := and15_0 ⟨c.toNat, c.toNat_lt⟩
theorem quote_walk (s : ByteArray) (w : World) (hl : s.size ≤ 100000) : Calls Tryz.prog 25 #[.string s] w fun e w' => e = .returned (.string (mkS (quote s.data.toList))) ∧ Keep none w w' := by
 obtain ⟨i0, hi5, hz0, hz1, hz2⟩ := info_parts info5; have HI := yh hi5; have HZ0 := yh hz0; have HZ1 := yh hz1; have HZ2 := yh hz2; have HLEN := yh (show s.data.toList.length = s.size by show s.data.toList.length = s.data.size; simp); clear hi5 hz0 hz1 hz2; go_enter Tryz.func25, Tryz.ntmps25; go_wp2_with fail; go_loopw [3, 9] (fun ov kv wr => ∃ (k : Nat) (acc : Bs), kv = .int .i64 (k : Int) ∧ k ≤ s.size ∧ acc.length ≤ 4 * k + 1 ∧ acc = 34 :: (s.data.toList.take k).flatMap quote1 ∧ wr.ownsRow w.heap.size 5 1 ov acc.length (Lib.byteCells acc) ∧ Keep none w wr) (fun _ kv _ => s.size - (intOf kv).toNat)
 case atStart =>
  refine ⟨0, [34], rfl, by omega, by simp, by simp, ⟨rfl, .inr ⟨w.heap.size, 1, _, rfl, Nat.le_refl _, Blk.new w [.int .u8 34] 5, by simp, by simp [maxLen], rfl, rfl⟩⟩, (Keep.refl _ _).alloc _⟩
 case round =>
  obtain ⟨k, acc, rfl, hk, hal, hacc, hov, hkp⟩ := hrel; have HK := yh hkp; have HV := yh hov; have HACC := yh hacc; clear hkp hov hacc; by_cases hlt : k < s.size
  · have b0 : ((k : Int) < (s.size : Int)) := by omega
    have b1 : (0 : Int) ≤ (k : Int) := by omega
    have hwk : IntKind.i64.wrap ((k : Int) + 1) = (k : Int) + 1 := IntWalk.i64_in _ (by omega); have HT := yh (show s.data.toList.take (k + 1) = s.data.toList.take k ++ [s[k]] from by
     rw [List.take_add_one]; have : s.data.toList[k]? = some s[k] := by rw [List.getElem?_eq_getElem (by rw [HLEN.out]; exact hlt)]; rfl
     rw [this]; rfl)
    by_cases h34 : (s[k] == 34) = true
    · have c34 : ((s[k].toNat : Int) == 34) = true := byte_eq _ 34 true (by omega) h34; have HQ : quote1 s[k] = [92, s[k]] := by simp [quote1, h34]
      have NB := yh (Blk.new wr [.int .u8 92, .int .u8 (s[k].toNat : Int)] 5); have OWA := yh (own_keep HV.out ((Keep.refl none _).alloc (.cells #[.int .u8 92, .int .u8 (s[k].toNat : Int)] 5)) (NotRow.none _ _)); go_wp2_with (at_builtin; refine wpList_append_lies _ (by rfl) _ _ _ (by rfl) w.heap.size 5 i0 _ 1 1 Tryz.underlying48 HI.out HZ0.out HZ1.out HZ2.out rfl (by omega) u3 acc.length (Lib.byteCells acc) (by rfl) OWA.out ⟨wr.heap.size, 0, none⟩ 2 2 [.int .u8 92, .int .u8 (s[k].toNat : Int)] (by rfl) (by rfl) (World.news_of_block NB.out) (by simp [Value.oneCell']) (by omega) (by unfold maxLen; omega) (by omega) (by have := HK.out.size; simp; omega) (wr.heap.size + 1) (by simp) ?_)
      intro gg cap w7 hown7 hgrow7 hat7 hlt7; have HK7 := yh (show Keep none w w7 from (HK.out.alloc _).grown hgrow7 (fun k hk => .inr (own_base OWA.out k hk))); have OW7 := yh hown7; clear hown7 hgrow7 hat7 hlt7; go_wp2_with fail; go_roundw; case rel =>
       refine ⟨k + 1, acc ++ [92, s[k]], rfl, by omega, by simp; omega, ?_, ?_, HK7.out⟩
       · rw [HT.out, List.flatMap_append, HACC.out]; simp [HQ]
       · have := OW7.out; simpa [Lib.byteCells, Lib.strCells, mkS] using this
      case measure =>
       simp only [intOf, Int.toNat_natCast]; omega
    have h34' : (s[k] == 34) = false := by simpa using h34
    have c34 : ((s[k].toNat : Int) == 34) = false := byte_eq _ 34 false (by omega) h34'; clear h34; by_cases h92 : (s[k] == 92) = true
    · have c92 : ((s[k].toNat : Int) == 92) = true := byte_eq _ 92 true (by omega) h92; have HQ : quote1 s[k] = [92, s[k]] := by simp [quote1, h92]
      have NB := yh (Blk.new wr [.int .u8 92, .int .u8 (s[k].toNat : Int)] 5); have OWA := yh (own_keep HV.out ((Keep.refl none _).alloc (.cells #[.int .u8 92, .int .u8 (s[k].toNat : Int)] 5)) (NotRow.none _ _)); go_wp2_with (at_builtin; refine wpList_append_lies _ (by rfl) _ _ _ (by rfl) w.heap.size 5 i0 _ 1 1 Tryz.underlying48 HI.out HZ0.out HZ1.out HZ2.out rfl (by omega) u3 acc.length (Lib.byteCells acc) (by rfl) OWA.out ⟨wr.heap.size, 0, none⟩ 2 2 [.int .u8 92, .int .u8 (s[k].toNat : Int)] (by rfl) (by rfl) (World.news_of_block NB.out) (by simp [Value.oneCell']) (by omega) (by unfold maxLen; omega) (by omega) (by have := HK.out.size; simp; omega) (wr.heap.size + 1) (by simp) ?_)
      intro gg cap w7 hown7 hgrow7 hat7 hlt7; have HK7 := yh (show Keep none w w7 from (HK.out.alloc _).grown hgrow7 (fun k hk => .inr (own_base OWA.out k hk))); have OW7 := yh hown7; clear hown7 hgrow7 hat7 hlt7; go_wp2_with fail; go_roundw; case rel =>
       refine ⟨k + 1, acc ++ [92, s[k]], rfl, by omega, by simp; omega, ?_, ?_, HK7.out⟩
       · rw [HT.out, List.flatMap_append, HACC.out]; simp [HQ]
       · have := OW7.out; simpa [Lib.byteCells, Lib.strCells, mkS] using this
      case measure =>
       simp only [intOf, Int.toNat_natCast]; omega
    have h92' : (s[k] == 92) = false := by simpa using h92
    have c92 : ((s[k].toNat : Int) == 92) = false := byte_eq _ 92 false (by omega) h92'; clear h92; by_cases hp : printable s[k] = true
    · have hp1 : ((32 : Int) ≤ (s[k].toNat : Int)) ∧ ((s[k].toNat : Int) ≤ 126) := by
       unfold printable at hp; simp only [u8_le, Bool.and_eq_true, decide_eq_true_eq] at hp; exact hp
      obtain ⟨hp1, hp2⟩ := hp1; have HQ : quote1 s[k] = [s[k]] := by simp [quote1, h34', h92', hp]
      have NB := yh (Blk.new wr [.int .u8 (s[k].toNat : Int)] 5); have OWA := yh (own_keep HV.out ((Keep.refl none _).alloc (.cells #[.int .u8 (s[k].toNat : Int)] 5)) (NotRow.none _ _)); go_wp2_with (at_builtin; refine wpList_append_lies _ (by rfl) _ _ _ (by rfl) w.heap.size 5 i0 _ 1 1 Tryz.underlying48 HI.out HZ0.out HZ1.out HZ2.out rfl (by omega) u3 acc.length (Lib.byteCells acc) (by rfl) OWA.out ⟨wr.heap.size, 0, none⟩ 1 1 [.int .u8 (s[k].toNat : Int)] (by rfl) (by rfl) (World.news_of_block NB.out) (by simp [Value.oneCell']) (by omega) (by unfold maxLen; omega) (by omega) (by have := HK.out.size; simp; omega) (wr.heap.size + 1) (by simp) ?_)
      intro gg cap w7 hown7 hgrow7 hat7 hlt7; have HK7 := yh (show Keep none w w7 from (HK.out.alloc _).grown hgrow7 (fun k hk => .inr (own_base OWA.out k hk))); have OW7 := yh hown7; clear hown7 hgrow7 hat7 hlt7; go_wp2_with fail; go_roundw; case rel =>
       refine ⟨k + 1, acc ++ [s[k]], rfl, by omega, by simp; omega, ?_, ?_, HK7.out⟩
       · rw [HT.out, List.flatMap_append, HACC.out]; simp [HQ]
       · have := OW7.out; simpa [Lib.byteCells, Lib.strCells, mkS] using this
      case measure =>
       simp only [intOf, Int.toNat_natCast]; omega
    have hp' : printable s[k] = false := by simpa using hp
    have hp3 : (decide ((32 : Int) ≤ (s[k].toNat : Int)) && decide ((s[k].toNat : Int) ≤ 126)) = false := by
     unfold printable at hp'; simp only [u8_le] at hp'; exact hp'
    by_cases hlo : ((32 : Int) ≤ (s[k].toNat : Int))
    · have hlo2 : ¬ ((s[k].toNat : Int) ≤ 126) := by
       intro h; have : decide ((32 : Int) ≤ (s[k].toNat : Int)) = true := by simpa using hlo
       rw [this] at hp3; have : decide ((s[k].toNat : Int) ≤ 126) = true := by simpa using h
       rw [this] at hp3; cases hp3
      clear hp3; by_cases h10 : (s[k] == 10) = true
      · have c10 : ((s[k].toNat : Int) == 10) = true := byte_eq _ 10 true (by omega) h10; have HQ : quote1 s[k] = [92, 110] := by rw [quote1, if_neg (by simp [h34', h92']), if_neg (by simp [hp'])]; simp [h10]
        go_wp2_with (at_builtin; refine Lib.wpList_append_own_string _ rfl _ _ 48 9 rfl w.heap.size 5 i0 Tryz.underlying48 Tryz.underlying9 HI.out HZ0.out HZ1.out HZ2.out u3 acc.length (Lib.byteCells acc) rfl HV.out (mkS [92, 110]) rfl (by simp; unfold maxLen; omega) (by simp; omega) (by have := HK.out.size; omega) ?_); intro v7 w7 hown7 hgrow7 _; have HK7 := yh (show Keep none w w7 from HK.out.grown hgrow7 (fun k hk => .inr (own_base HV.out k hk))); have OW7 := yh hown7; clear hown7 hgrow7; go_wp2_with fail; go_roundw; case rel =>
         refine ⟨k + 1, acc ++ [92, 110], rfl, by omega, by simp; omega, ?_, ?_, HK7.out⟩
         · rw [HT.out, List.flatMap_append, HACC.out]; simp [HQ]
         · have := OW7.out; simpa [Lib.byteCells, Lib.strCells, mkS] using this
        case measure =>
         simp only [intOf, Int.toNat_natCast]; omega
      have h10' : (s[k] == 10) = false := by simpa using h10
      have c10 : ((s[k].toNat : Int) == 10) = false := byte_eq _ 10 false (by omega) h10'; clear h10; by_cases h13 : (s[k] == 13) = true
      · have c13 : ((s[k].toNat : Int) == 13) = true := byte_eq _ 13 true (by omega) h13; have HQ : quote1 s[k] = [92, 114] := by rw [quote1, if_neg (by simp [h34', h92']), if_neg (by simp [hp'])]; simp [h10', h13]
        go_wp2_with (at_builtin; refine Lib.wpList_append_own_string _ rfl _ _ 48 9 rfl w.heap.size 5 i0 Tryz.underlying48 Tryz.underlying9 HI.out HZ0.out HZ1.out HZ2.out u3 acc.length (Lib.byteCells acc) rfl HV.out (mkS [92, 114]) rfl (by simp; unfold maxLen; omega) (by simp; omega) (by have := HK.out.size; omega) ?_); intro v7 w7 hown7 hgrow7 _; have HK7 := yh (show Keep none w w7 from HK.out.grown hgrow7 (fun k hk => .inr (own_base HV.out k hk))); have OW7 := yh hown7; clear hown7 hgrow7; go_wp2_with fail; go_roundw; case rel =>
         refine ⟨k + 1, acc ++ [92, 114], rfl, by omega, by simp; omega, ?_, ?_, HK7.out⟩
         · rw [HT.out, List.flatMap_append, HACC.out]; simp [HQ]
         · have := OW7.out; simpa [Lib.byteCells, Lib.strCells, mkS] using this
        case measure =>
         simp only [intOf, Int.toNat_natCast]; omega
      have h13' : (s[k] == 13) = false := by simpa using h13
      have c13 : ((s[k].toNat : Int) == 13) = false := byte_eq _ 13 false (by omega) h13'; clear h13; by_cases h9 : (s[k] == 9) = true
      · have c9 : ((s[k].toNat : Int) == 9) = true := byte_eq _ 9 true (by omega) h9; have HQ : quote1 s[k] = [92, 116] := by rw [quote1, if_neg (by simp [h34', h92']), if_neg (by simp [hp'])]; simp [h10', h13', h9]
        go_wp2_with (at_builtin; refine Lib.wpList_append_own_string _ rfl _ _ 48 9 rfl w.heap.size 5 i0 Tryz.underlying48 Tryz.underlying9 HI.out HZ0.out HZ1.out HZ2.out u3 acc.length (Lib.byteCells acc) rfl HV.out (mkS [92, 116]) rfl (by simp; unfold maxLen; omega) (by simp; omega) (by have := HK.out.size; omega) ?_); intro v7 w7 hown7 hgrow7 _; have HK7 := yh (show Keep none w w7 from HK.out.grown hgrow7 (fun k hk => .inr (own_base HV.out k hk))); have OW7 := yh hown7; clear hown7 hgrow7; go_wp2_with fail; go_roundw; case rel =>
         refine ⟨k + 1, acc ++ [92, 116], rfl, by omega, by simp; omega, ?_, ?_, HK7.out⟩
         · rw [HT.out, List.flatMap_append, HACC.out]; simp [HQ]
         · have := OW7.out; simpa [Lib.byteCells, Lib.strCells, mkS] using this
        case measure =>
         simp only [intOf, Int.toNat_natCast]; omega
      have h9' : (s[k] == 9) = false := by simpa using h9
      have c9 : ((s[k].toNat : Int) == 9) = false := byte_eq _ 9 false (by omega) h9'; clear h9; have HQ : quote1 s[k] = [92, 120, hexd (s[k].toNat / 16), hexd (s[k].toNat % 16)] := by rw [quote1, if_neg (by simp [h34', h92']), if_neg (by simp [hp'])]; simp [h10', h13', h9']
      go_wp2_with fail; obtain ⟨m1, hm1⟩ : ∃ m : Nat, s[k].toNat / 16 = m := ⟨_, rfl⟩; obtain ⟨m2, hm2⟩ : ∃ m : Nat, s[k].toNat % 16 = m := ⟨_, rfl⟩; rw [hm1, hm2] at HQ; have hb1 : m1 < 16 := by have := s[k].toNat_lt; omega
      have hb2 : m2 < 16 := by omega
      have e1 : (s[k].toNat : Int) / 16 = (m1 : Int) := by omega
      have e2 : bits BinOp.and IntKind.u8 (s[k].toNat : Int) 15 = (m2 : Int) := by rw [and15, hm2]
      have g1 : (0 : Int) ≤ (m1 : Int) := by omega
      have g2 : (m1 : Int) < 16 := by omega
      have g3 : (0 : Int) ≤ (m2 : Int) := by omega
      have g4 : (m2 : Int) < 16 := by omega
      have x1 := hexd_get ⟨m1, hb1⟩; have x2 := hexd_get ⟨m2, hb2⟩; dsimp only at x1 x2; clear hm1 hm2; refine wp_region_pend (fun w' => True) 99 (by kernel_rfl) (by kernel_rfl) (fun c a d v w h => by cases d <;> exact h) trivial ?_; simp only [num, List.length_cons, List.length_nil]; repeat
       (refine pend_stable (by decide +kernel) (fun K hK => ?_)
        rw [if_pos (by rfl)]; apply Exists.intro; refine ⟨fun w' hS' => ?_, hK _ ?_⟩
        · (try dsimp only at hS')
          go_simp; try with_reducible rfl
        clear hK K; simp only [Act.put, List.setIfInBounds_toArray, List.set])
      refine pend_active (by decide +kernel) (fun K hK => ?_); rw [if_pos (by rfl)]; go_simp; refine hK.out _ _ trivial ?_; clear hK K; try simp only [Act.put, List.setIfInBounds_toArray, List.set]
      have HV5 := yh (own_keep HV.out ((Keep.refl none wr).drew) (NotRow.none _ _)); have HK5 := yh (HK.out.drew); have NB := yh (Blk.new wr.drew [.int .u8 92, .int .u8 120, .int .u8 ((hexd m1).toNat : Int), .int .u8 ((hexd m2).toNat : Int)] 5); have OWA := yh (own_keep HV5.out ((Keep.refl none _).alloc (.cells #[.int .u8 92, .int .u8 120, .int .u8 ((hexd m1).toNat : Int), .int .u8 ((hexd m2).toNat : Int)] 5)) (NotRow.none _ _)); refine pend_active (by decide +kernel) (fun K hK => ?_); refine step_append_lies _ (by rfl) _ _ _ (by rfl) w.heap.size 5 i0 _ 1 1 Tryz.underlying48 HI.out HZ0.out HZ1.out HZ2.out rfl (by omega) u3 acc.length (Lib.byteCells acc) (by rfl) OWA.out ⟨wr.heap.size, 0, none⟩ 4 4 [.int .u8 92, .int .u8 120, .int .u8 ((hexd m1).toNat : Int), .int .u8 ((hexd m2).toNat : Int)] (by rfl) (by rfl) (World.news_of_block NB.out) (by simp [Value.oneCell']) (by omega) (by unfold maxLen; omega) (by omega) (by have := HK.out.size; simp; omega) (wr.heap.size + 1) (by simp) ?_
      intro gg cap w7 hown7 hgrow7 hat7 hlt7; have HK7 := yh (show Keep none w w7 from (HK5.out.alloc _).grown hgrow7 (fun k hk => .inr (own_base OWA.out k hk))); have OW7 := yh hown7; clear hown7 hgrow7 hat7 hlt7; refine hK.out _ _ trivial ?_; clear hK K; try simp only [Act.put, List.setIfInBounds_toArray, List.set]
      repeat
       (refine pend_stable (by decide +kernel) (fun K hK => ?_)
        rw [if_pos (by rfl)]; apply Exists.intro; refine ⟨fun w' hS' => ?_, hK _ ?_⟩
        · (try dsimp only at hS')
          go_simp; try with_reducible rfl
        clear hK K; simp only [Act.put, List.setIfInBounds_toArray, List.set])
      refine pend_done (by kernel_rfl) ?_; go_wp2_with fail; go_roundw; case rel =>
       refine ⟨k + 1, acc ++ [92, 120, hexd m1, hexd m2], rfl, by omega, by simp; omega, ?_, ?_, HK7.out⟩
       · rw [HT.out, List.flatMap_append, HACC.out]; simp [HQ]
       · have := OW7.out; simpa [Lib.byteCells, Lib.strCells, mkS] using this
      case measure =>
       simp only [intOf, Int.toNat_natCast]; omega
    · clear hp3; by_cases h10 : (s[k] == 10) = true
      · have c10 : ((s[k].toNat : Int) == 10) = true := byte_eq _ 10 true (by omega) h10; have HQ : quote1 s[k] = [92, 110] := by rw [quote1, if_neg (by simp [h34', h92']), if_neg (by simp [hp'])]; simp [h10]
        go_wp2_with (at_builtin; refine Lib.wpList_append_own_string _ rfl _ _ 48 9 rfl w.heap.size 5 i0 Tryz.underlying48 Tryz.underlying9 HI.out HZ0.out HZ1.out HZ2.out u3 acc.length (Lib.byteCells acc) rfl HV.out (mkS [92, 110]) rfl (by simp; unfold maxLen; omega) (by simp; omega) (by have := HK.out.size; omega) ?_); intro v7 w7 hown7 hgrow7 _; have HK7 := yh (show Keep none w w7 from HK.out.grown hgrow7 (fun k hk => .inr (own_base HV.out k hk))); have OW7 := yh hown7; clear hown7 hgrow7; go_wp2_with fail; go_roundw; case rel =>
         refine ⟨k + 1, acc ++ [92, 110], rfl, by omega, by simp; omega, ?_, ?_, HK7.out⟩
         · rw [HT.out, List.flatMap_append, HACC.out]; simp [HQ]
         · have := OW7.out; simpa [Lib.byteCells, Lib.strCells, mkS] using this
        case measure =>
         simp only [intOf, Int.toNat_natCast]; omega
      have h10' : (s[k] == 10) = false := by simpa using h10
      have c10 : ((s[k].toNat : Int) == 10) = false := byte_eq _ 10 false (by omega) h10'; clear h10; by_cases h13 : (s[k] == 13) = true
      · have c13 : ((s[k].toNat : Int) == 13) = true := byte_eq _ 13 true (by omega) h13; have HQ : quote1 s[k] = [92, 114] := by rw [quote1, if_neg (by simp [h34', h92']), if_neg (by simp [hp'])]; simp [h10', h13]
        go_wp2_with (at_builtin; refine Lib.wpList_append_own_string _ rfl _ _ 48 9 rfl w.heap.size 5 i0 Tryz.underlying48 Tryz.underlying9 HI.out HZ0.out HZ1.out HZ2.out u3 acc.length (Lib.byteCells acc) rfl HV.out (mkS [92, 114]) rfl (by simp; unfold maxLen; omega) (by simp; omega) (by have := HK.out.size; omega) ?_); intro v7 w7 hown7 hgrow7 _; have HK7 := yh (show Keep none w w7 from HK.out.grown hgrow7 (fun k hk => .inr (own_base HV.out k hk))); have OW7 := yh hown7; clear hown7 hgrow7; go_wp2_with fail; go_roundw; case rel =>
         refine ⟨k + 1, acc ++ [92, 114], rfl, by omega, by simp; omega, ?_, ?_, HK7.out⟩
         · rw [HT.out, List.flatMap_append, HACC.out]; simp [HQ]
         · have := OW7.out; simpa [Lib.byteCells, Lib.strCells, mkS] using this
        case measure =>
         simp only [intOf, Int.toNat_natCast]; omega
      have h13' : (s[k] == 13) = false := by simpa using h13
      have c13 : ((s[k].toNat : Int) == 13) = false := byte_eq _ 13 false (by omega) h13'; clear h13; by_cases h9 : (s[k] == 9) = true
      · have c9 : ((s[k].toNat : Int) == 9) = true := byte_eq _ 9 true (by omega) h9; have HQ : quote1 s[k] = [92, 116] := by rw [quote1, if_neg (by simp [h34', h92']), if_neg (by simp [hp'])]; simp [h10', h13', h9]
        go_wp2_with (at_builtin; refine Lib.wpList_append_own_string _ rfl _ _ 48 9 rfl w.heap.size 5 i0 Tryz.underlying48 Tryz.underlying9 HI.out HZ0.out HZ1.out HZ2.out u3 acc.length (Lib.byteCells acc) rfl HV.out (mkS [92, 116]) rfl (by simp; unfold maxLen; omega) (by simp; omega) (by have := HK.out.size; omega) ?_); intro v7 w7 hown7 hgrow7 _; have HK7 := yh (show Keep none w w7 from HK.out.grown hgrow7 (fun k hk => .inr (own_base HV.out k hk))); have OW7 := yh hown7; clear hown7 hgrow7; go_wp2_with fail; go_roundw; case rel =>
         refine ⟨k + 1, acc ++ [92, 116], rfl, by omega, by simp; omega, ?_, ?_, HK7.out⟩
         · rw [HT.out, List.flatMap_append, HACC.out]; simp [HQ]
         · have := OW7.out; simpa [Lib.byteCells, Lib.strCells, mkS] using this
        case measure =>
         simp only [intOf, Int.toNat_natCast]; omega
      have h9' : (s[k] == 9) = false := by simpa using h9
      have c9 : ((s[k].toNat : Int) == 9) = false := byte_eq _ 9 false (by omega) h9'; clear h9; have HQ : quote1 s[k] = [92, 120, hexd (s[k].toNat / 16), hexd (s[k].toNat % 16)] := by rw [quote1, if_neg (by simp [h34', h92']), if_neg (by simp [hp'])]; simp [h10', h13', h9']
      go_wp2_with fail; obtain ⟨m1, hm1⟩ : ∃ m : Nat, s[k].toNat / 16 = m := ⟨_, rfl⟩; obtain ⟨m2, hm2⟩ : ∃ m : Nat, s[k].toNat % 16 = m := ⟨_, rfl⟩; rw [hm1, hm2] at HQ; have hb1 : m1 < 16 := by have := s[k].toNat_lt; omega
      have hb2 : m2 < 16 := by omega
      have e1 : (s[k].toNat : Int) / 16 = (m1 : Int) := by omega
      have e2 : bits BinOp.and IntKind.u8 (s[k].toNat : Int) 15 = (m2 : Int) := by rw [and15, hm2]
      have g1 : (0 : Int) ≤ (m1 : Int) := by omega
      have g2 : (m1 : Int) < 16 := by omega
      have g3 : (0 : Int) ≤ (m2 : Int) := by omega
      have g4 : (m2 : Int) < 16 := by omega
      have x1 := hexd_get ⟨m1, hb1⟩; have x2 := hexd_get ⟨m2, hb2⟩; dsimp only at x1 x2; clear hm1 hm2; refine wp_region_pend (fun w' => True) 99 (by kernel_rfl) (by kernel_rfl) (fun c a d v w h => by cases d <;> exact h) trivial ?_; simp only [num, List.length_cons, List.length_nil]; repeat
       (refine pend_stable (by decide +kernel) (fun K hK => ?_)
        rw [if_pos (by rfl)]; apply Exists.intro; refine ⟨fun w' hS' => ?_, hK _ ?_⟩
        · (try dsimp only at hS')
          go_simp; try with_reducible rfl
        clear hK K; simp only [Act.put, List.setIfInBounds_toArray, List.set])
      refine pend_active (by decide +kernel) (fun K hK => ?_); rw [if_pos (by rfl)]; go_simp; refine hK.out _ _ trivial ?_; clear hK K; try simp only [Act.put, List.setIfInBounds_toArray, List.set]
      have HV5 := yh (own_keep HV.out ((Keep.refl none wr).drew) (NotRow.none _ _)); have HK5 := yh (HK.out.drew); have NB := yh (Blk.new wr.drew [.int .u8 92, .int .u8 120, .int .u8 ((hexd m1).toNat : Int), .int .u8 ((hexd m2).toNat : Int)] 5); have OWA := yh (own_keep HV5.out ((Keep.refl none _).alloc (.cells #[.int .u8 92, .int .u8 120, .int .u8 ((hexd m1).toNat : Int), .int .u8 ((hexd m2).toNat : Int)] 5)) (NotRow.none _ _)); refine pend_active (by decide +kernel) (fun K hK => ?_); refine step_append_lies _ (by rfl) _ _ _ (by rfl) w.heap.size 5 i0 _ 1 1 Tryz.underlying48 HI.out HZ0.out HZ1.out HZ2.out rfl (by omega) u3 acc.length (Lib.byteCells acc) (by rfl) OWA.out ⟨wr.heap.size, 0, none⟩ 4 4 [.int .u8 92, .int .u8 120, .int .u8 ((hexd m1).toNat : Int), .int .u8 ((hexd m2).toNat : Int)] (by rfl) (by rfl) (World.news_of_block NB.out) (by simp [Value.oneCell']) (by omega) (by unfold maxLen; omega) (by omega) (by have := HK.out.size; simp; omega) (wr.heap.size + 1) (by simp) ?_
      intro gg cap w7 hown7 hgrow7 hat7 hlt7; have HK7 := yh (show Keep none w w7 from (HK5.out.alloc _).grown hgrow7 (fun k hk => .inr (own_base OWA.out k hk))); have OW7 := yh hown7; clear hown7 hgrow7 hat7 hlt7; refine hK.out _ _ trivial ?_; clear hK K; try simp only [Act.put, List.setIfInBounds_toArray, List.set]
      repeat
       (refine pend_stable (by decide +kernel) (fun K hK => ?_)
        rw [if_pos (by rfl)]; apply Exists.intro; refine ⟨fun w' hS' => ?_, hK _ ?_⟩
        · (try dsimp only at hS')
          go_simp; try with_reducible rfl
        clear hK K; simp only [Act.put, List.setIfInBounds_toArray, List.set])
      refine pend_done (by kernel_rfl) ?_; go_wp2_with fail; go_roundw; case rel =>
       refine ⟨k + 1, acc ++ [92, 120, hexd m1, hexd m2], rfl, by omega, by simp; omega, ?_, ?_, HK7.out⟩
       · rw [HT.out, List.flatMap_append, HACC.out]; simp [HQ]
       · have := OW7.out; simpa [Lib.byteCells, Lib.strCells, mkS] using this
      case measure =>
       simp only [intOf, Int.toNat_natCast]; omega
  · have b0 : ¬ ((k : Int) < (s.size : Int)) := by omega
    have HKE := yh (show k = s.size by omega); have NB := yh (Blk.new wr [.int .u8 34] 5); have OWA := yh (own_keep HV.out ((Keep.refl none _).alloc (.cells #[.int .u8 34] 5)) (NotRow.none _ _)); go_wp2_with (at_builtin; refine wpList_append_lies _ (by rfl) _ _ _ (by rfl) w.heap.size 5 i0 _ 1 1 Tryz.underlying48 HI.out HZ0.out HZ1.out HZ2.out rfl (by omega) u3 acc.length (Lib.byteCells acc) (by rfl) OWA.out ⟨wr.heap.size, 0, none⟩ 1 1 [.int .u8 34] (by rfl) (by rfl) (World.news_of_block NB.out) (by simp [Value.oneCell']) (by omega) (by unfold maxLen; omega) (by omega) (by have := HK.out.size; simp; omega) (wr.heap.size + 1) (by simp) ?_)
    intro gg cap w7 hown7 hgrow7 hat7 hlt7; have HK7 := yh (show Keep none w w7 from (HK.out.alloc _).grown hgrow7 (fun k hk => .inr (own_base OWA.out k hk))); have OW7 := yh hown7; clear hown7 hgrow7 hat7 hlt7; have hcv : (convert 48 9 (.slice (some ⟨gg, 0, none⟩) (acc.length + 1) cap)).run Tryz.prog w7 = .ok (.string (mkS (acc ++ [34]))) w7 := own_string_bytes (by
     have := OW7.out; simpa [Lib.byteCells] using this)
    go_wp2_with fail; go_ret; refine ⟨?_, HK7.out⟩; rw [HACC.out, HKE.out, List.take_of_length_le (by rw [HLEN.out]; omega)]; rfl
end Go.Proofs.YtmfabihndpidnaaGreatDoor
