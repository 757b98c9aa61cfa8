/-
  The reader of a set: the inside of brackets.
-/
import Derived.Test.YtmfabihndpidnaaGreatDoorK18
namespace Go.Proofs.YtmfabihndpidnaaGreatDoor
set_option maxHeartbeats 8000000
open Go.RowKit
set_option maxRecDepth 100000
set_option linter.unusedVariables false
set_option linter.unusedSimpArgs false
def rdMem (l : Bs) : Nat → Nat → Set4 → Except Flt (Set4 × Nat)
 | 0, p, _ => .error ⟨10, p⟩
 | k + 1, p, acc =>
  if l[p]? = some 93 then .ok (acc, p + 1)
  else match rdOne l classSpecials p with
   | .error f => .error f
   | .ok (lo, q) =>
    if l[q]? = some 45 then
     match rdOne l classSpecials (q + 1) with
     | .error f => .error f
     | .ok (hi, r) => if hi < lo then .error ⟨10, q + 1⟩ else rdMem l k r (acc.union (Set4.span lo.toNat hi.toNat))
    else rdMem l k q (acc.union (Set4.span lo.toNat lo.toNat))
def rdSet (l : Bs) (p : Nat) : Except Flt (Set4 × Nat) :=
 if l[p]? = some 94 then
  match rdMem l (l.length + 1) (p + 1) .zero with
  | .error f => .error f
  | .ok (s, q) => .ok (s.not, q)
 else rdMem l (l.length + 1) p .zero
theorem rdHex_adv {l : Bs} {p : Nat} {h : UInt8} {q : Nat} (e : rdHex l p = .ok (h, q)) : p < q ∧ q ≤ l.length := by
 have := rdHex_ok e; omega
theorem rdEsc_adv {l : Bs} {p : Nat} {h : UInt8} {q : Nat} (e : rdEsc l p = .ok (h, q)) : p < q ∧ q ≤ l.length := by
 unfold rdEsc at e; split at e
 · cases e
 · rename_i c hc; have hpl : p < l.length := by
    rcases Nat.lt_or_ge p l.length with h | h
    · exact h
    · rw [List.getElem?_eq_none_iff.2 h] at hc; cases hc
   split at e
   · cases e; omega
   split at e
   · cases e; omega
   split at e
   · cases e; omega
   split at e
   · split at e
     · cases e
     · rename_i h1; have a1 := rdHex_adv h1; split at e
       · cases e
       · rename_i h2; have a2 := rdHex_adv h2; cases e; omega
   split at e
   · cases e
   · cases e; omega
theorem rdOne_adv {l b : Bs} {p : Nat} {h : UInt8} {q : Nat} (e : rdOne l b p = .ok (h, q)) : p < q ∧ q ≤ l.length := by
 unfold rdOne at e; split at e
 · cases e
 · rename_i c hc; have hpl : p < l.length := by
    rcases Nat.lt_or_ge p l.length with h | h
    · exact h
    · rw [List.getElem?_eq_none_iff.2 h] at hc; cases hc
   split at e
   · have := rdEsc_adv e; omega
   split at e
   · cases e
   · cases e; omega
def SetOut (g : Nat) (s : ByteArray) (w : World) (r : Except Flt (Set4 × Nat)) (e : Ending) (w' : World) : Prop :=
 match r with
 | .ok (t, q) => e = .returned t.val ∧ RdB w' g s q ∧ q ≤ s.size ∧ Keep (some g) w w'
 | .error f => e = .panicked (flt f.code f.pl) ∧ Keep (some g) w w'
theorem Escs.keepG {w w' : World} {g : Nat} (h : Escs w) (k : Keep (some g) w w') (hg : g ≠ 3) : Escs w' := fun o => by
 have hlt : 3 < w.heap.size := World.block_lt_of_cell? w ⟨3, 0, none⟩ (h 0); have := k.block 3 hlt (by simpa using hg.symm); rw [← h o]; simp only [World.cell?, this]
def rdAt (w : World) (g : Nat) : Nat := match w.cell? ⟨g, 1, none⟩ with | some (.int _ n) => n.toNat | _ => 0
theorem RdB.at_ {w : World} {g : Nat} {s : ByteArray} {i : Nat} (h : RdB w g s i) : rdAt w g = i := by
 simp [rdAt, Blk.cell h]
def rdMemN (l : Bs) (k p : Nat) (acc : Set4) : Except Flt (Set4 × Nat) :=
 match rdOne l classSpecials p with
 | .error f => .error f
 | .ok (lo, q) =>
  if l[q]? = some 45 then
   match rdOne l classSpecials (q + 1) with
   | .error f => .error f
   | .ok (hi, r) => if hi < lo then .error ⟨10, q + 1⟩ else rdMem l k r (acc.union (Set4.span lo.toNat hi.toNat))
  else rdMem l k q (acc.union (Set4.span lo.toNat lo.toNat))
theorem rdMem_succ (l : Bs) (k p : Nat) (acc : Set4) : rdMem l (k + 1) p acc = if l[p]? = some 93 then .ok (acc, p + 1) else rdMemN l k p acc := rfl
def rdNeg : Except Flt (Set4 × Nat) → Except Flt (Set4 × Nat)
 | .error f => .error f
 | .ok (s, q) => .ok (s.not, q)
theorem rdSet_neg (l : Bs) (p : Nat) : rdSet l p = if l[p]? = some 94 then rdNeg (rdMem l (l.length + 1) (p + 1) .zero) else rdMem l (l.length + 1) p .zero := rfl
theorem rd_peek_c (g : Nat) (s : ByteArray) (i : Nat) (m : UInt8) (mi : Int) (hmi : mi = (m.toNat : Int)) (hs : s.size ≤ 2000000) (hi : i ≤ s.size) :
 ∃ (z : Int) (b : Bool), ((s.data.toList[i]? = some m ∧ b = true ∧ (z == mi) = true) ∨ (s.data.toList[i]? ≠ some m ∧ ((b = true ∧ (z == mi) = false) ∨ b = false))) ∧
  ∀ w, RdB w g s i → Calls Tryz.prog 134 #[.pointer (some ⟨g, 0, none⟩)] w fun e w' => e = .returned (.tuple #[.int .u8 z, .bool b]) ∧ ∃ n, w' = w.drewN n := by
 subst hmi; by_cases hlt : i < s.size
 · refine ⟨_, _, ?_, fun w h => rd_peek g s i hlt hs w h⟩; rw [get_byte s i hlt]; by_cases e : s[i] = m
   · exact .inl ⟨by rw [e], rfl, by rw [e]; simp⟩
   · refine .inr ⟨by simpa using e, .inl ⟨rfl, ?_⟩⟩; rw [beq_eq_false_iff_ne]; intro h; apply e; apply UInt8.toNat_inj.1; omega
 · refine ⟨_, _, ?_, fun w h => rd_peek_end g s i (by omega) hs w h⟩; rw [get_none s i (by omega)]; exact .inr ⟨by simp, .inr rfl⟩
theorem Blk.far4 {w : World} {g k : Nat} {cs : List Value} {t : TypeId} (h : Blk w k cs t) (a b c d : Value) (hne : k ≠ g) :
 Blk ((((w.setCell ⟨g, 0, none⟩ a).setCell ⟨g, 1, none⟩ b).setCell ⟨g, 2, none⟩ c).setCell ⟨g, 3, none⟩ d) k cs t := (((h.far _ _ hne).far _ _ hne).far _ _ hne).far _ _ hne
theorem Keep.four {r : Option Nat} {u w : World} {g : Nat} (h : Keep r u w) (a b c d : Value) (hg : u.heap.size ≤ g) :
 Keep r u ((((w.setCell ⟨g, 0, none⟩ a).setCell ⟨g, 1, none⟩ b).setCell ⟨g, 2, none⟩ c).setCell ⟨g, 3, none⟩ d) :=
 (((h.set ⟨g, 0, none⟩ a (.inr hg)).set ⟨g, 1, none⟩ b (.inr hg)).set ⟨g, 2, none⟩ c (.inr hg)).set ⟨g, 3, none⟩ d (.inr hg)
theorem Escs.setG {w : World} (h : Escs w) (p : Addr) (x : Value) (hg : p.block ≠ 3) : Escs (w.setCell p x) := fun o => by
 rw [← h o]; have := Below.heap_setCell w p x 3 hg.symm; simp only [World.cell?, this]
theorem Escs.lt {w : World} (h : Escs w) : 3 < w.heap.size := World.block_lt_of_cell? w ⟨3, 0, none⟩ (h 0)
theorem Escs.set4 {w : World} {g : Nat} (h : Escs w) (a b c d : Value) (hg : g ≠ 3) :
 Escs ((((w.setCell ⟨g, 0, none⟩ a).setCell ⟨g, 1, none⟩ b).setCell ⟨g, 2, none⟩ c).setCell ⟨g, 3, none⟩ d) :=
 (((h.setG _ _ hg).setG _ _ hg).setG _ _ hg).setG _ _ hg
theorem rd_members_neg (g : Nat) (s : ByteArray) (i : Nat) (hs : s.size ≤ 2000000) (hi : i ≤ s.size) (w : World) (hE : Escs w) (h : RdB w g s i) (hg3 : g ≠ 3) (R : Except Flt (Set4 × Nat)) (hR : rdSet s.data.toList i = R) (hm : s.data.toList[i]? = some 94) :
 Calls Tryz.prog 131 #[.pointer (some ⟨g, 0, none⟩)] w (SetOut g s w R) := by
 have HLEN := yh (show s.data.toList.length = s.size by show s.data.toList.length = s.data.size; simp); have HB := yh h; have HE := yh hE; have HGL := yh (show g < w.heap.size from Blk.lt h); have his : i < s.size := by
  rcases Nat.lt_or_ge i s.size with h | h
  · exact h
  · rw [get_none s i h] at hm; cases hm
 obtain ⟨R0, hR0⟩ : ∃ R0, rdMem s.data.toList (s.size + 1) (i + 1) .zero = R0 := ⟨_, rfl⟩; have HRN := yh (show R = rdNeg R0 from by
  rw [← hR, rdSet_neg, if_pos hm, HLEN.out, hR0])
 have HR0 := yh hR0; clear hR0; obtain ⟨z0, b0, hz0, hcall0⟩ := rd_peek_c g s i 94 94 rfl hs hi; have hwr : IntKind.i64.wrap ((i : Int) + 1) = (i : Int) + 1 := IntWalk.i64_in _ (by omega); clear h hE hR; go_enter Tryz.func131, Tryz.ntmps131; go_wp2_with fail; generalize hW : World.alloc (World.alloc w _) _ = W; have HA := yh (show Blk W (w.heap.size + 1) Set4.zero.cells 178 from by
  rw [← hW]; have := Blk.new (w.alloc (.cells Set4.zero.cells.toArray 178)) Set4.zero.cells 178; rw [show (w.alloc (.cells Set4.zero.cells.toArray 178)).heap.size = w.heap.size + 1 by simp] at this; exact this)
 have HZ := yh (show Blk W w.heap.size Set4.zero.cells 178 from by rw [← hW]; exact (Blk.new w _ 178).alloc _); have HB1 := yh (show RdB W g s i from by rw [← hW]; exact Blk.alloc (Blk.alloc HB.out _) _); have HE1 := yh (show Escs W from by rw [← hW]; exact HE.out.keep (((Keep.refl _ _).alloc _).alloc _)); have HK := yh (show Keep (some g) w W from by rw [← hW]; exact ((Keep.refl _ _).alloc _).alloc _); clear hW; refine (hcall0 _ HB1.out).mono ?_; clear hcall0; rintro e w1 ⟨rfl, w1n, rfl⟩; have HA := yh (HA.out.drewN w1n); have HZ := yh (HZ.out.drewN w1n); have HB1 := yh (HB1.out.drewN w1n)
 have HE1 := yh (HE1.out.keep ((Keep.refl none W).drewN w1n)); have HK := yh (HK.out.drewN w1n); generalize World.drewN W w1n = W1 at HA HZ HB1 HE1 HK ⊢; obtain ⟨rfl, hz0⟩ : b0 = true ∧ (z0 == 94) = true := by
  rcases hz0 with h | h
  · exact h.2
  · exact absurd hm h.1
 clear hm; have hc := Blk.cell HB1.out; have hf := Blk.frozen HB1.out; go_wp2_with fail; clear hc hf; have HB1 := yh HB1.out.step; have HA := yh (HA.out.far ⟨g, 1, none⟩ (.int .i64 ((i : Int) + 1)) (by simp; have := HGL.out; omega)); have HZ := yh (HZ.out.far ⟨g, 1, none⟩ (.int .i64 ((i : Int) + 1)) (by simp; have := HGL.out; omega)); have HE1 := yh (HE1.out.setG ⟨g, 1, none⟩ (.int .i64 ((i : Int) + 1)) hg3); have HK := yh (HK.out.set ⟨g, 1, none⟩ (.int .i64 ((i : Int) + 1)) (.inl rfl)); generalize World.setCell W1 ⟨g, 1, none⟩ (.int .i64 ((i : Int) + 1)) = W2 at HA HZ HB1 HE1 HK ⊢
 go_loopw [] (fun wr => ∃ (k p : Nat) (acc : Set4), p ≤ s.size ∧ s.size < k + p ∧ rdMem s.data.toList k p acc = R0 ∧ Blk wr (w.heap.size + 1) acc.cells 178 ∧ Blk wr w.heap.size Set4.zero.cells 178 ∧ RdB wr g s p ∧ Escs wr ∧ Keep (some g) w wr) (fun wr => s.size - rdAt wr g)
 case atStart => exact ⟨s.size + 1, (i + 1), .zero, by omega, by omega, HR0.out, HA.out, HZ.out, HB1.out, HE1.out, HK.out⟩
 case round =>
  obtain ⟨k, p, acc, hp, hkp, hmem, hA, hZ, hB, hE1, hK⟩ := hrel; have HA := yh hA; have HZ := yh hZ; have HB1 := yh hB; have HE1 := yh hE1; have HK := yh hK; have HM := yh hmem; have HMP := yh (RdB.at_ hB); clear hA hZ hB hE1 hK hmem; cases k with
  | zero => omega
  | succ k =>
  have hwp : IntKind.i64.wrap ((p : Int) + 1) = (p : Int) + 1 := IntWalk.i64_in _ (by omega); obtain ⟨z, b, hz, hcall⟩ := rd_peek_c g s p 93 93 rfl hs hp; go_wp2_with fail; refine (hcall _ HB1.out).mono ?_; clear hcall; rintro e w2 ⟨rfl, w2n, rfl⟩; have HA := yh (HA.out.drewN w2n); have HZ := yh (HZ.out.drewN w2n); have HB1 := yh (HB1.out.drewN w2n); have HE1 := yh (HE1.out.keep ((Keep.refl none wr).drewN w2n)); have HK := yh (HK.out.drewN w2n); generalize World.drewN wr w2n = V at HA HZ HB1 HE1 HK ⊢; rcases hz with ⟨hl, rfl, hz⟩ | ⟨hl, hz⟩
  · have HL := yh hl; clear hl; have hps : p < s.size := by
     have := HL.out; rcases Nat.lt_or_ge p s.size with h | h
     · exact h
     · rw [get_none s p h] at this; cases this
    have hc := Blk.cell HB1.out; have hf := Blk.frozen HB1.out; have hcA := HA.out.cell; have hcZ := HZ.out.cell; have hfZ := HZ.out.frozen; have hg0 : g ≠ w.heap.size := by have := HGL.out; omega
    have hg1 : g ≠ w.heap.size + 1 := by have := HGL.out; omega
    unfold Set4.cells at hcA hcZ; go_wp2_with fail; clear hc hf hcA hcZ hfZ; have HB1 := yh HB1.out.step; have HA := yh (HA.out.far ⟨g, 1, none⟩ (.int .i64 ((p : Int) + 1)) (by simp; have := HGL.out; omega)); have HZ := yh (HZ.out.far ⟨g, 1, none⟩ (.int .i64 ((p : Int) + 1)) (by simp; have := HGL.out; omega)); have HE1 := yh (HE1.out.setG ⟨g, 1, none⟩ (.int .i64 ((p : Int) + 1)) hg3); have HK := yh (HK.out.set ⟨g, 1, none⟩ (.int .i64 ((p : Int) + 1)) (.inl rfl)); have hRe : R = .ok (acc.not, p + 1) := by
     rw [HRN.out, ← HM.out, rdMem, if_pos HL.out, rdNeg]
    refine (not_any acc _).mono ?_; rintro e y1 ⟨rfl, ky1⟩; have HZ := yh (HZ.out.keep ky1 (by simp)); have HB1 := yh (show RdB y1 g s (p + 1) from Blk.keep HB1.out ky1 (by simp)); have HK := yh (HK.out.trans ky1.of_none); have hcZ := HZ.out.cell; have hfZ := HZ.out.frozen; unfold Set4.cells at hcZ; generalize hU : acc.not = U at hRe; unfold Set4.val; go_wp2_with fail; subst hRe; refine bodyPost_ret (results_set rfl _ _ w.heap.size _ _ _ _ rfl ((((HZ.out.set 0 _).set 1 _).set 2 _).set 3 _)) rfl ?_; exact ⟨rfl, Blk.far4 HB1.out _ _ _ _ (by have := HGL.out; omega), by omega, HK.out.four _ _ _ _ (Nat.le_refl _)⟩
  · have HM2 := yh (show rdMemN s.data.toList k p acc = R0 from by rw [← HM.out, rdMem_succ, if_neg hl]); clear hl; rcases hz with ⟨rfl, hz⟩ | rfl
    all_goals
     go_wp2_with fail; cases hx : rdOne s.data.toList classSpecials p with
     | error f =>
      refine (rd_one g s p classSpecials hs hp _ HE1.out HB1.out hg3 _ hx).mono ?_; rintro e w5 ⟨rfl, hk5⟩; have hRe : R = .error f := by
       rw [HRN.out, ← HM2.out, rdMemN, hx, rdNeg]
      subst hRe; exact ⟨rfl, rfl, HK.out.trans hk5⟩
     | ok x =>
      obtain ⟨lo, q⟩ := x; have hq := rdOne_adv hx; rw [HLEN.out] at hq; refine (rd_one g s p classSpecials hs hp _ HE1.out HB1.out hg3 _ hx).mono ?_; rintro e w5 ⟨rfl, hb5, hk5⟩; have HM3 := yh (show (if s.data.toList[q]? = some 45 then (match rdOne s.data.toList classSpecials (q + 1) with | .error f => .error f | .ok (hi, r) => if hi < lo then .error ⟨10, q + 1⟩ else rdMem s.data.toList k r (acc.union (Set4.span lo.toNat hi.toNat))) else rdMem s.data.toList k q (acc.union (Set4.span lo.toNat lo.toNat))) = R0 from by
       rw [← HM2.out, rdMemN, hx])
      have HA := yh (HA.out.keep hk5 (by simp; have := HGL.out; omega)); have HZ := yh (HZ.out.keep hk5 (by simp; have := HGL.out; omega)); have HE1 := yh (HE1.out.keepG hk5 hg3); have HK := yh (HK.out.trans hk5); have HB1 := yh hb5; clear hk5 hb5; have hwq : IntKind.i64.wrap ((q : Int) + 1) = (q : Int) + 1 := IntWalk.i64_in _ (by omega); obtain ⟨z2, b2, hz2, hcall2⟩ := rd_peek_c g s q 45 45 rfl hs hq.2; go_wp2_with fail; refine (hcall2 _ HB1.out).mono ?_; clear hcall2; rintro e w6 ⟨rfl, w6n, rfl⟩; have HA := yh (HA.out.drewN w6n); have HZ := yh (HZ.out.drewN w6n)
      have HB1 := yh (HB1.out.drewN w6n); have HE1 := yh (HE1.out.keep ((Keep.refl none w5).drewN w6n)); have HK := yh (HK.out.drewN w6n); generalize World.drewN w5 w6n = V6 at HA HZ HB1 HE1 HK ⊢; rcases hz2 with ⟨hl2, rfl, hz2⟩ | ⟨hl2, hz2⟩
      · have HL2 := yh hl2; clear hl2; have hqs : q < s.size := by
         have := HL2.out; rcases Nat.lt_or_ge q s.size with h | h
         · exact h
         · rw [get_none s q h] at this; cases this
        have hc := Blk.cell HB1.out; have hf := Blk.frozen HB1.out; go_wp2_with fail; clear hc hf; have HB1 := yh HB1.out.step; have HA := yh (HA.out.far ⟨g, 1, none⟩ (.int .i64 ((q : Int) + 1)) (by simp; have := HGL.out; omega)); have HZ := yh (HZ.out.far ⟨g, 1, none⟩ (.int .i64 ((q : Int) + 1)) (by simp; have := HGL.out; omega)); have HE1 := yh (HE1.out.setG ⟨g, 1, none⟩ (.int .i64 ((q : Int) + 1)) hg3); have HK := yh (HK.out.set ⟨g, 1, none⟩ (.int .i64 ((q : Int) + 1)) (.inl rfl)); generalize World.setCell V6 ⟨g, 1, none⟩ (.int .i64 ((q : Int) + 1)) = V7 at HA HZ HB1 HE1 HK ⊢
        cases hy : rdOne s.data.toList classSpecials (q + 1) with
        | error f =>
         refine (rd_one g s (q + 1) classSpecials hs (by omega) _ HE1.out HB1.out hg3 _ hy).mono ?_; rintro e w8 ⟨rfl, hk8⟩; have hRe : R = .error f := by
          rw [HRN.out, ← HM3.out, if_pos HL2.out, hy, rdNeg]
         subst hRe; exact ⟨rfl, rfl, HK.out.trans hk8⟩
        | ok y =>
         obtain ⟨hi, r⟩ := y; have hr := rdOne_adv hy; rw [HLEN.out] at hr; refine (rd_one g s (q + 1) classSpecials hs (by omega) _ HE1.out HB1.out hg3 _ hy).mono ?_; rintro e w8 ⟨rfl, hb8, hk8⟩; have HM4 := yh (show (if hi < lo then .error ⟨10, q + 1⟩ else rdMem s.data.toList k r (acc.union (Set4.span lo.toNat hi.toNat))) = R0 from by
          rw [← HM3.out, if_pos HL2.out, hy])
         have HA := yh (HA.out.keep hk8 (by simp; have := HGL.out; omega)); have HZ := yh (HZ.out.keep hk8 (by simp; have := HGL.out; omega)); have HE1 := yh (HE1.out.keepG hk8 hg3); have HK := yh (HK.out.trans hk8); have HB1 := yh hb8; clear hk8 hb8; by_cases hlt : hi < lo
         · have hlt2 : ((hi.toNat : Int) < (lo.toNat : Int)) := by
            rw [UInt8.lt_iff_toNat_lt] at hlt; omega
           go_wp2_with fail; refine (rd_fail g _ _).mono ?_; rintro e w9 ⟨rfl, rfl⟩; have hRe : R = .error ⟨10, q + 1⟩ := by
            rw [HRN.out, ← HM4.out, if_pos hlt, rdNeg]
           subst hRe; exact ⟨rfl, rfl, HK.out⟩
         · have hlt2 : ¬ ((hi.toNat : Int) < (lo.toNat : Int)) := by
            rw [UInt8.lt_iff_toNat_lt] at hlt; omega
           have HM5 := yh (show rdMem s.data.toList k r (acc.union (Set4.span lo.toNat hi.toNat)) = R0 from by
            rw [← HM4.out, if_neg hlt])
           clear hlt; go_wp2_with fail; have hlo256 := lo.toNat_lt; have hhi256 := hi.toNat_lt; have hcA := HA.out.cell; unfold Set4.cells at hcA; refine wp_region_pend (fun w' => ∀ o, w'.cell? ⟨w.heap.size + 1, o, none⟩ = [Value.int .u64 acc.a, .int .u64 acc.b, .int .u64 acc.c, .int .u64 acc.d][o]?) 5 (by kernel_rfl) (by kernel_rfl) (fun c a d v w h => by cases d <;> exact h) (by exact hcA) ?_; simp only [num, List.length_cons, List.length_nil]; clear hcA; repeat
            (refine pend_stable (by decide +kernel) (fun K hK => ?_)
             rw [if_pos (by rfl)]; apply Exists.intro; refine ⟨fun w' hS' => ?_, hK _ ?_⟩
             · (try dsimp only at hS')
               go_simp; try with_reducible rfl
             clear hK K; simp only [Act.put, List.setIfInBounds_toArray, List.set])
           refine pend_active (by decide +kernel) (fun K hK => ?_); rw [if_pos (by rfl)]; go_wp2_with fail; refine (span_any lo.toNat hi.toNat (by omega) (by omega) _).mono ?_; rintro e x1 ⟨rfl, kx1⟩; have HA := yh (HA.out.drew.keep kx1 (by simp)); have HZ := yh (HZ.out.drew.keep kx1 (by simp)); have HB1 := yh (show RdB x1 g s r from Blk.keep (Blk.drew HB1.out) kx1 (by simp)); have HE1 := yh ((HE1.out.keep ((Keep.refl none _).drew)).keep kx1); have HK := yh (HK.out.drew.trans kx1.of_none); refine hK.out _ _ (HA.out.cell) ?_; clear hK K; try simp only [Act.put, List.setIfInBounds_toArray, List.set]
           refine pend_active (by decide +kernel) (fun K hK => ?_); rw [if_pos (by rfl)]; go_wp2_with fail; refine (union_any acc (Set4.span lo.toNat hi.toNat) _).mono ?_; rintro e x2 ⟨rfl, kx2⟩; have HA := yh (HA.out.keep kx2 (by simp)); have HZ := yh (HZ.out.keep kx2 (by simp)); have HB1 := yh (show RdB x2 g s r from Blk.keep HB1.out kx2 (by simp)); have HE1 := yh (HE1.out.keep kx2); have HK := yh (HK.out.trans kx2.of_none); refine hK.out _ _ (HA.out.cell) ?_; clear hK K; try simp only [Act.put, List.setIfInBounds_toArray, List.set]
           generalize hU : acc.union (Set4.span lo.toNat hi.toNat) = U; have HU := yh hU; clear hU; have hcA := HA.out.cell; have hfA := HA.out.frozen; unfold Set4.cells at hcA; unfold Set4.val; refine pend_last (by decide +kernel) (by decide +kernel) (by decide +kernel) (fun K hK => ?_); rw [if_pos (by rfl)]; go_simp; refine hK.out _ _ ?_; clear hcA hfA; go_wp2_with fail; go_roundw; case rel =>
            refine ⟨k, r, U, by omega, by omega, ?_, (((HA.out.set 0 _).set 1 _).set 2 _).set 3 _, Blk.far4 HZ.out _ _ _ _ (by omega), Blk.far4 HB1.out _ _ _ _ (by have := HGL.out; omega), HE1.out.set4 _ _ _ _ (by have := HE.out.lt; omega), HK.out.four _ _ _ _ (by omega)⟩; rw [← HU.out]; exact HM5.out
           case measure =>
            rw [RdB.at_ (s := s) (i := r) (Blk.far4 HB1.out _ _ _ _ (by have := HGL.out; omega)), HMP.out]; omega
      · have HM5 := yh (show rdMem s.data.toList k q (acc.union (Set4.span lo.toNat lo.toNat)) = R0 from by
         rw [← HM3.out, if_neg hl2])
        clear hl2; rcases hz2 with ⟨rfl, hz2⟩ | rfl
        all_goals
         go_wp2_with fail; have hlo256 := lo.toNat_lt; have hhi256 := lo.toNat_lt; have hcA := HA.out.cell; unfold Set4.cells at hcA; refine wp_region_pend (fun w' => ∀ o, w'.cell? ⟨w.heap.size + 1, o, none⟩ = [Value.int .u64 acc.a, .int .u64 acc.b, .int .u64 acc.c, .int .u64 acc.d][o]?) 5 (by kernel_rfl) (by kernel_rfl) (fun c a d v w h => by cases d <;> exact h) (by exact hcA) ?_; simp only [num, List.length_cons, List.length_nil]; clear hcA; repeat
          (refine pend_stable (by decide +kernel) (fun K hK => ?_)
           rw [if_pos (by rfl)]; apply Exists.intro; refine ⟨fun w' hS' => ?_, hK _ ?_⟩
           · (try dsimp only at hS')
             go_simp; try with_reducible rfl
           clear hK K; simp only [Act.put, List.setIfInBounds_toArray, List.set])
         refine pend_active (by decide +kernel) (fun K hK => ?_); rw [if_pos (by rfl)]; go_wp2_with fail; refine (span_any lo.toNat lo.toNat (by omega) (by omega) _).mono ?_; rintro e x1 ⟨rfl, kx1⟩; have HA := yh (HA.out.drew.keep kx1 (by simp)); have HZ := yh (HZ.out.drew.keep kx1 (by simp)); have HB1 := yh (show RdB x1 g s q from Blk.keep (Blk.drew HB1.out) kx1 (by simp)); have HE1 := yh ((HE1.out.keep ((Keep.refl none _).drew)).keep kx1); have HK := yh (HK.out.drew.trans kx1.of_none); refine hK.out _ _ (HA.out.cell) ?_; clear hK K; try simp only [Act.put, List.setIfInBounds_toArray, List.set]
         refine pend_active (by decide +kernel) (fun K hK => ?_); rw [if_pos (by rfl)]; go_wp2_with fail; refine (union_any acc (Set4.span lo.toNat lo.toNat) _).mono ?_; rintro e x2 ⟨rfl, kx2⟩; have HA := yh (HA.out.keep kx2 (by simp)); have HZ := yh (HZ.out.keep kx2 (by simp)); have HB1 := yh (show RdB x2 g s q from Blk.keep HB1.out kx2 (by simp)); have HE1 := yh (HE1.out.keep kx2); have HK := yh (HK.out.trans kx2.of_none); refine hK.out _ _ (HA.out.cell) ?_; clear hK K; try simp only [Act.put, List.setIfInBounds_toArray, List.set]
         generalize hU : acc.union (Set4.span lo.toNat lo.toNat) = U; have HU := yh hU; clear hU; have hcA := HA.out.cell; have hfA := HA.out.frozen; unfold Set4.cells at hcA; unfold Set4.val; refine pend_last (by decide +kernel) (by decide +kernel) (by decide +kernel) (fun K hK => ?_); rw [if_pos (by rfl)]; go_simp; refine hK.out _ _ ?_; clear hcA hfA; go_wp2_with fail; go_roundw; case rel =>
          refine ⟨k, q, U, by omega, by omega, ?_, (((HA.out.set 0 _).set 1 _).set 2 _).set 3 _, Blk.far4 HZ.out _ _ _ _ (by omega), Blk.far4 HB1.out _ _ _ _ (by have := HGL.out; omega), HE1.out.set4 _ _ _ _ (by have := HE.out.lt; omega), HK.out.four _ _ _ _ (by omega)⟩; rw [← HU.out]; exact HM5.out
         case measure =>
          rw [RdB.at_ (s := s) (i := q) (Blk.far4 HB1.out _ _ _ _ (by have := HGL.out; omega)), HMP.out]; omega
theorem rd_members_pos (g : Nat) (s : ByteArray) (i : Nat) (hs : s.size ≤ 2000000) (hi : i ≤ s.size) (w : World) (hE : Escs w) (h : RdB w g s i) (hg3 : g ≠ 3) (R : Except Flt (Set4 × Nat)) (hR : rdSet s.data.toList i = R) (hm : s.data.toList[i]? ≠ some 94) :
 Calls Tryz.prog 131 #[.pointer (some ⟨g, 0, none⟩)] w (SetOut g s w R) := by
 have HLEN := yh (show s.data.toList.length = s.size by show s.data.toList.length = s.data.size; simp); have HB := yh h; have HE := yh hE; have HGL := yh (show g < w.heap.size from Blk.lt h); have HR0 := yh (show rdMem s.data.toList (s.size + 1) i .zero = R from by
  rw [← hR, rdSet_neg, if_neg hm, HLEN.out])
 obtain ⟨z0, b0, hz0, hcall0⟩ := rd_peek_c g s i 94 94 rfl hs hi; have hwr : IntKind.i64.wrap ((i : Int) + 1) = (i : Int) + 1 := IntWalk.i64_in _ (by omega); clear h hE hR; go_enter Tryz.func131, Tryz.ntmps131; go_wp2_with fail; generalize hW : World.alloc (World.alloc w _) _ = W; have HA := yh (show Blk W (w.heap.size + 1) Set4.zero.cells 178 from by
  rw [← hW]; have := Blk.new (w.alloc (.cells Set4.zero.cells.toArray 178)) Set4.zero.cells 178; rw [show (w.alloc (.cells Set4.zero.cells.toArray 178)).heap.size = w.heap.size + 1 by simp] at this; exact this)
 have HZ := yh (show Blk W w.heap.size Set4.zero.cells 178 from by rw [← hW]; exact (Blk.new w _ 178).alloc _); have HB1 := yh (show RdB W g s i from by rw [← hW]; exact Blk.alloc (Blk.alloc HB.out _) _); have HE1 := yh (show Escs W from by rw [← hW]; exact HE.out.keep (((Keep.refl _ _).alloc _).alloc _)); have HK := yh (show Keep (some g) w W from by rw [← hW]; exact ((Keep.refl _ _).alloc _).alloc _); clear hW; refine (hcall0 _ HB1.out).mono ?_; clear hcall0; rintro e w1 ⟨rfl, w1n, rfl⟩; have HA := yh (HA.out.drewN w1n); have HZ := yh (HZ.out.drewN w1n); have HB1 := yh (HB1.out.drewN w1n)
 have HE1 := yh (HE1.out.keep ((Keep.refl none W).drewN w1n)); have HK := yh (HK.out.drewN w1n); generalize World.drewN W w1n = W1 at HA HZ HB1 HE1 HK ⊢; rcases hz0 with ⟨h, _⟩ | ⟨_, hz0⟩
 · exact absurd h hm
 clear hm; rcases hz0 with ⟨rfl, hz0⟩ | rfl
 all_goals
  go_wp2_with fail; go_loopw [] (fun wr => ∃ (k p : Nat) (acc : Set4), p ≤ s.size ∧ s.size < k + p ∧ rdMem s.data.toList k p acc = R ∧ Blk wr (w.heap.size + 1) acc.cells 178 ∧ Blk wr w.heap.size Set4.zero.cells 178 ∧ RdB wr g s p ∧ Escs wr ∧ Keep (some g) w wr) (fun wr => s.size - rdAt wr g)
  case atStart => exact ⟨s.size + 1, i, .zero, by omega, by omega, HR0.out, HA.out, HZ.out, HB1.out, HE1.out, HK.out⟩
  case round =>
   obtain ⟨k, p, acc, hp, hkp, hmem, hA, hZ, hB, hE1, hK⟩ := hrel; have HA := yh hA; have HZ := yh hZ; have HB1 := yh hB; have HE1 := yh hE1; have HK := yh hK; have HM := yh hmem; have HMP := yh (RdB.at_ hB); clear hA hZ hB hE1 hK hmem; cases k with
   | zero => omega
   | succ k =>
   have hwp : IntKind.i64.wrap ((p : Int) + 1) = (p : Int) + 1 := IntWalk.i64_in _ (by omega); obtain ⟨z, b, hz, hcall⟩ := rd_peek_c g s p 93 93 rfl hs hp; go_wp2_with fail; refine (hcall _ HB1.out).mono ?_; clear hcall; rintro e w2 ⟨rfl, w2n, rfl⟩; have HA := yh (HA.out.drewN w2n); have HZ := yh (HZ.out.drewN w2n); have HB1 := yh (HB1.out.drewN w2n); have HE1 := yh (HE1.out.keep ((Keep.refl none wr).drewN w2n)); have HK := yh (HK.out.drewN w2n); generalize World.drewN wr w2n = V at HA HZ HB1 HE1 HK ⊢; rcases hz with ⟨hl, rfl, hz⟩ | ⟨hl, hz⟩
   · have HL := yh hl; clear hl; have hps : p < s.size := by
      have := HL.out; rcases Nat.lt_or_ge p s.size with h | h
      · exact h
      · rw [get_none s p h] at this; cases this
     have hc := Blk.cell HB1.out; have hf := Blk.frozen HB1.out; have hcA := HA.out.cell; have hcZ := HZ.out.cell; have hfZ := HZ.out.frozen; have hg0 : g ≠ w.heap.size := by have := HGL.out; omega
     have hg1 : g ≠ w.heap.size + 1 := by have := HGL.out; omega
     unfold Set4.cells at hcA hcZ; go_wp2_with fail; clear hc hf hcA hcZ hfZ; have HB1 := yh HB1.out.step; have HA := yh (HA.out.far ⟨g, 1, none⟩ (.int .i64 ((p : Int) + 1)) (by simp; have := HGL.out; omega)); have HZ := yh (HZ.out.far ⟨g, 1, none⟩ (.int .i64 ((p : Int) + 1)) (by simp; have := HGL.out; omega)); have HE1 := yh (HE1.out.setG ⟨g, 1, none⟩ (.int .i64 ((p : Int) + 1)) hg3); have HK := yh (HK.out.set ⟨g, 1, none⟩ (.int .i64 ((p : Int) + 1)) (.inl rfl)); have hRe : R = .ok (acc, p + 1) := by
      rw [← HM.out, rdMem, if_pos HL.out]
     subst hRe; refine bodyPost_ret (results_set rfl _ _ w.heap.size _ _ _ _ rfl ((((HZ.out.set 0 _).set 1 _).set 2 _).set 3 _)) rfl ?_; exact ⟨rfl, Blk.far4 HB1.out _ _ _ _ (by have := HGL.out; omega), by omega, HK.out.four _ _ _ _ (Nat.le_refl _)⟩
   · have HM2 := yh (show rdMemN s.data.toList k p acc = R from by rw [← HM.out, rdMem_succ, if_neg hl]); clear hl; rcases hz with ⟨rfl, hz⟩ | rfl
     all_goals
      go_wp2_with fail; cases hx : rdOne s.data.toList classSpecials p with
      | error f =>
       refine (rd_one g s p classSpecials hs hp _ HE1.out HB1.out hg3 _ hx).mono ?_; rintro e w5 ⟨rfl, hk5⟩; have hRe : R = .error f := by
        rw [← HM2.out, rdMemN, hx]
       subst hRe; exact ⟨rfl, rfl, HK.out.trans hk5⟩
      | ok x =>
       obtain ⟨lo, q⟩ := x; have hq := rdOne_adv hx; rw [HLEN.out] at hq; refine (rd_one g s p classSpecials hs hp _ HE1.out HB1.out hg3 _ hx).mono ?_; rintro e w5 ⟨rfl, hb5, hk5⟩; have HM3 := yh (show (if s.data.toList[q]? = some 45 then (match rdOne s.data.toList classSpecials (q + 1) with | .error f => .error f | .ok (hi, r) => if hi < lo then .error ⟨10, q + 1⟩ else rdMem s.data.toList k r (acc.union (Set4.span lo.toNat hi.toNat))) else rdMem s.data.toList k q (acc.union (Set4.span lo.toNat lo.toNat))) = R from by
        rw [← HM2.out, rdMemN, hx])
       have HA := yh (HA.out.keep hk5 (by simp; have := HGL.out; omega)); have HZ := yh (HZ.out.keep hk5 (by simp; have := HGL.out; omega)); have HE1 := yh (HE1.out.keepG hk5 hg3); have HK := yh (HK.out.trans hk5); have HB1 := yh hb5; clear hk5 hb5; have hwq : IntKind.i64.wrap ((q : Int) + 1) = (q : Int) + 1 := IntWalk.i64_in _ (by omega); obtain ⟨z2, b2, hz2, hcall2⟩ := rd_peek_c g s q 45 45 rfl hs hq.2; go_wp2_with fail; refine (hcall2 _ HB1.out).mono ?_; clear hcall2; rintro e w6 ⟨rfl, w6n, rfl⟩; have HA := yh (HA.out.drewN w6n); have HZ := yh (HZ.out.drewN w6n)
       have HB1 := yh (HB1.out.drewN w6n); have HE1 := yh (HE1.out.keep ((Keep.refl none w5).drewN w6n)); have HK := yh (HK.out.drewN w6n); generalize World.drewN w5 w6n = V6 at HA HZ HB1 HE1 HK ⊢; rcases hz2 with ⟨hl2, rfl, hz2⟩ | ⟨hl2, hz2⟩
       · have HL2 := yh hl2; clear hl2; have hqs : q < s.size := by
          have := HL2.out; rcases Nat.lt_or_ge q s.size with h | h
          · exact h
          · rw [get_none s q h] at this; cases this
         have hc := Blk.cell HB1.out; have hf := Blk.frozen HB1.out; go_wp2_with fail; clear hc hf; have HB1 := yh HB1.out.step; have HA := yh (HA.out.far ⟨g, 1, none⟩ (.int .i64 ((q : Int) + 1)) (by simp; have := HGL.out; omega)); have HZ := yh (HZ.out.far ⟨g, 1, none⟩ (.int .i64 ((q : Int) + 1)) (by simp; have := HGL.out; omega)); have HE1 := yh (HE1.out.setG ⟨g, 1, none⟩ (.int .i64 ((q : Int) + 1)) hg3); have HK := yh (HK.out.set ⟨g, 1, none⟩ (.int .i64 ((q : Int) + 1)) (.inl rfl)); generalize World.setCell V6 ⟨g, 1, none⟩ (.int .i64 ((q : Int) + 1)) = V7 at HA HZ HB1 HE1 HK ⊢
         cases hy : rdOne s.data.toList classSpecials (q + 1) with
         | error f =>
          refine (rd_one g s (q + 1) classSpecials hs (by omega) _ HE1.out HB1.out hg3 _ hy).mono ?_; rintro e w8 ⟨rfl, hk8⟩; have hRe : R = .error f := by
           rw [← HM3.out, if_pos HL2.out, hy]
          subst hRe; exact ⟨rfl, rfl, HK.out.trans hk8⟩
         | ok y =>
          obtain ⟨hi, r⟩ := y; have hr := rdOne_adv hy; rw [HLEN.out] at hr; refine (rd_one g s (q + 1) classSpecials hs (by omega) _ HE1.out HB1.out hg3 _ hy).mono ?_; rintro e w8 ⟨rfl, hb8, hk8⟩; have HM4 := yh (show (if hi < lo then .error ⟨10, q + 1⟩ else rdMem s.data.toList k r (acc.union (Set4.span lo.toNat hi.toNat))) = R from by
           rw [← HM3.out, if_pos HL2.out, hy])
          have HA := yh (HA.out.keep hk8 (by simp; have := HGL.out; omega)); have HZ := yh (HZ.out.keep hk8 (by simp; have := HGL.out; omega)); have HE1 := yh (HE1.out.keepG hk8 hg3); have HK := yh (HK.out.trans hk8); have HB1 := yh hb8; clear hk8 hb8; by_cases hlt : hi < lo
          · have hlt2 : ((hi.toNat : Int) < (lo.toNat : Int)) := by
             rw [UInt8.lt_iff_toNat_lt] at hlt; omega
            go_wp2_with fail; refine (rd_fail g _ _).mono ?_; rintro e w9 ⟨rfl, rfl⟩; have hRe : R = .error ⟨10, q + 1⟩ := by
             rw [← HM4.out, if_pos hlt]
            subst hRe; exact ⟨rfl, rfl, HK.out⟩
          · have hlt2 : ¬ ((hi.toNat : Int) < (lo.toNat : Int)) := by
             rw [UInt8.lt_iff_toNat_lt] at hlt; omega
            have HM5 := yh (show rdMem s.data.toList k r (acc.union (Set4.span lo.toNat hi.toNat)) = R from by
             rw [← HM4.out, if_neg hlt])
            clear hlt; go_wp2_with fail; have hlo256 := lo.toNat_lt; have hhi256 := hi.toNat_lt; have hcA := HA.out.cell; unfold Set4.cells at hcA; refine wp_region_pend (fun w' => ∀ o, w'.cell? ⟨w.heap.size + 1, o, none⟩ = [Value.int .u64 acc.a, .int .u64 acc.b, .int .u64 acc.c, .int .u64 acc.d][o]?) 5 (by kernel_rfl) (by kernel_rfl) (fun c a d v w h => by cases d <;> exact h) (by exact hcA) ?_; simp only [num, List.length_cons, List.length_nil]; clear hcA; repeat
             (refine pend_stable (by decide +kernel) (fun K hK => ?_)
              rw [if_pos (by rfl)]; apply Exists.intro; refine ⟨fun w' hS' => ?_, hK _ ?_⟩
              · (try dsimp only at hS')
                go_simp; try with_reducible rfl
              clear hK K; simp only [Act.put, List.setIfInBounds_toArray, List.set])
            refine pend_active (by decide +kernel) (fun K hK => ?_); rw [if_pos (by rfl)]; go_wp2_with fail; refine (span_any lo.toNat hi.toNat (by omega) (by omega) _).mono ?_; rintro e x1 ⟨rfl, kx1⟩; have HA := yh (HA.out.drew.keep kx1 (by simp)); have HZ := yh (HZ.out.drew.keep kx1 (by simp)); have HB1 := yh (show RdB x1 g s r from Blk.keep (Blk.drew HB1.out) kx1 (by simp)); have HE1 := yh ((HE1.out.keep ((Keep.refl none _).drew)).keep kx1); have HK := yh (HK.out.drew.trans kx1.of_none); refine hK.out _ _ (HA.out.cell) ?_; clear hK K; try simp only [Act.put, List.setIfInBounds_toArray, List.set]
            refine pend_active (by decide +kernel) (fun K hK => ?_); rw [if_pos (by rfl)]; go_wp2_with fail; refine (union_any acc (Set4.span lo.toNat hi.toNat) _).mono ?_; rintro e x2 ⟨rfl, kx2⟩; have HA := yh (HA.out.keep kx2 (by simp)); have HZ := yh (HZ.out.keep kx2 (by simp)); have HB1 := yh (show RdB x2 g s r from Blk.keep HB1.out kx2 (by simp)); have HE1 := yh (HE1.out.keep kx2); have HK := yh (HK.out.trans kx2.of_none); refine hK.out _ _ (HA.out.cell) ?_; clear hK K; try simp only [Act.put, List.setIfInBounds_toArray, List.set]
            generalize hU : acc.union (Set4.span lo.toNat hi.toNat) = U; have HU := yh hU; clear hU; have hcA := HA.out.cell; have hfA := HA.out.frozen; unfold Set4.cells at hcA; unfold Set4.val; refine pend_last (by decide +kernel) (by decide +kernel) (by decide +kernel) (fun K hK => ?_); rw [if_pos (by rfl)]; go_simp; refine hK.out _ _ ?_; clear hcA hfA; go_wp2_with fail; go_roundw; case rel =>
             refine ⟨k, r, U, by omega, by omega, ?_, (((HA.out.set 0 _).set 1 _).set 2 _).set 3 _, Blk.far4 HZ.out _ _ _ _ (by omega), Blk.far4 HB1.out _ _ _ _ (by have := HGL.out; omega), HE1.out.set4 _ _ _ _ (by have := HE.out.lt; omega), HK.out.four _ _ _ _ (by omega)⟩; rw [← HU.out]; exact HM5.out
            case measure =>
             rw [RdB.at_ (s := s) (i := r) (Blk.far4 HB1.out _ _ _ _ (by have := HGL.out; omega)), HMP.out]; omega
       · have HM5 := yh (show rdMem s.data.toList k q (acc.union (Set4.span lo.toNat lo.toNat)) = R from by
          rw [← HM3.out, if_neg hl2])
         clear hl2; rcases hz2 with ⟨rfl, hz2⟩ | rfl
         all_goals
          go_wp2_with fail; have hlo256 := lo.toNat_lt; have hhi256 := lo.toNat_lt; have hcA := HA.out.cell; unfold Set4.cells at hcA; refine wp_region_pend (fun w' => ∀ o, w'.cell? ⟨w.heap.size + 1, o, none⟩ = [Value.int .u64 acc.a, .int .u64 acc.b, .int .u64 acc.c, .int .u64 acc.d][o]?) 5 (by kernel_rfl) (by kernel_rfl) (fun c a d v w h => by cases d <;> exact h) (by exact hcA) ?_; simp only [num, List.length_cons, List.length_nil]; clear hcA; repeat
           (refine pend_stable (by decide +kernel) (fun K hK => ?_)
            rw [if_pos (by rfl)]; apply Exists.intro; refine ⟨fun w' hS' => ?_, hK _ ?_⟩
            · (try dsimp only at hS')
              go_simp; try with_reducible rfl
            clear hK K; simp only [Act.put, List.setIfInBounds_toArray, List.set])
          refine pend_active (by decide +kernel) (fun K hK => ?_); rw [if_pos (by rfl)]; go_wp2_with fail; refine (span_any lo.toNat lo.toNat (by omega) (by omega) _).mono ?_; rintro e x1 ⟨rfl, kx1⟩; have HA := yh (HA.out.drew.keep kx1 (by simp)); have HZ := yh (HZ.out.drew.keep kx1 (by simp)); have HB1 := yh (show RdB x1 g s q from Blk.keep (Blk.drew HB1.out) kx1 (by simp)); have HE1 := yh ((HE1.out.keep ((Keep.refl none _).drew)).keep kx1); have HK := yh (HK.out.drew.trans kx1.of_none); refine hK.out _ _ (HA.out.cell) ?_; clear hK K; try simp only [Act.put, List.setIfInBounds_toArray, List.set]
          refine pend_active (by decide +kernel) (fun K hK => ?_); rw [if_pos (by rfl)]; go_wp2_with fail; refine (union_any acc (Set4.span lo.toNat lo.toNat) _).mono ?_; rintro e x2 ⟨rfl, kx2⟩; have HA := yh (HA.out.keep kx2 (by simp)); have HZ := yh (HZ.out.keep kx2 (by simp)); have HB1 := yh (show RdB x2 g s q from Blk.keep HB1.out kx2 (by simp)); have HE1 := yh (HE1.out.keep kx2); have HK := yh (HK.out.trans kx2.of_none); refine hK.out _ _ (HA.out.cell) ?_; clear hK K; try simp only [Act.put, List.setIfInBounds_toArray, List.set]
          generalize hU : acc.union (Set4.span lo.toNat lo.toNat) = U; have HU := yh hU; clear hU; have hcA := HA.out.cell; have hfA := HA.out.frozen; unfold Set4.cells at hcA; unfold Set4.val; refine pend_last (by decide +kernel) (by decide +kernel) (by decide +kernel) (fun K hK => ?_); rw [if_pos (by rfl)]; go_simp; refine hK.out _ _ ?_; clear hcA hfA; go_wp2_with fail; go_roundw; case rel =>
           refine ⟨k, q, U, by omega, by omega, ?_, (((HA.out.set 0 _).set 1 _).set 2 _).set 3 _, Blk.far4 HZ.out _ _ _ _ (by omega), Blk.far4 HB1.out _ _ _ _ (by have := HGL.out; omega), HE1.out.set4 _ _ _ _ (by have := HE.out.lt; omega), HK.out.four _ _ _ _ (by omega)⟩; rw [← HU.out]; exact HM5.out
          case measure =>
           rw [RdB.at_ (s := s) (i := q) (Blk.far4 HB1.out _ _ _ _ (by have := HGL.out; omega)), HMP.out]; omega
theorem rd_members (g : Nat) (s : ByteArray) (i : Nat) (hs : s.size ≤ 2000000) (hi : i ≤ s.size) (w : World) (hE : Escs w) (h : RdB w g s i) (hg3 : g ≠ 3) (R : Except Flt (Set4 × Nat)) (hR : rdSet s.data.toList i = R) :
 Calls Tryz.prog 131 #[.pointer (some ⟨g, 0, none⟩)] w (SetOut g s w R) := by
 by_cases hm : s.data.toList[i]? = some 94
 · exact rd_members_neg g s i hs hi w hE h hg3 R hR hm
 · exact rd_members_pos g s i hs hi w hE h hg3 R hR hm
end Go.Proofs.YtmfabihndpidnaaGreatDoor
