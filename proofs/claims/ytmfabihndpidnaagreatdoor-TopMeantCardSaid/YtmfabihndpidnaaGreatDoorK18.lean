/-
  The reader of a set: its small methods. The reader of a set: an escape. The reader of a set: one byte.
-/
import Derived.Test.YtmfabihndpidnaaGreatDoorK17
namespace Go.Proofs.YtmfabihndpidnaaGreatDoor
set_option maxHeartbeats 4000000
open Go.RowKit
set_option maxRecDepth 100000
set_option linter.unusedVariables false
set_option linter.unusedSimpArgs false
def RdB (w : World) (g : Nat) (s : ByteArray) (i : Nat) : Prop := Blk w g [.string s, .int .i64 i] 209
theorem RdB.step {w : World} {g : Nat} {s : ByteArray} {i : Nat} (h : RdB w g s i) : RdB (w.setCell ⟨g, 1, none⟩ (.int .i64 ((i : Int) + 1))) g s (i + 1) := by
 have := Blk.set h 1 (.int .i64 ((i : Int) + 1)); unfold RdB; rw [show ((i + 1 : Nat) : Int) = (i : Int) + 1 from by omega]; exact this
theorem RdB.drewN {w : World} {g : Nat} {s : ByteArray} {i : Nat} (h : RdB w g s i) (n : Nat) : RdB (w.drewN n) g s i := h
theorem rd_peek (g : Nat) (s : ByteArray) (i : Nat) (hi : i < s.size) (hs : s.size ≤ 2000000) (w : World) (h : RdB w g s i) :
 Calls Tryz.prog 134 #[.pointer (some ⟨g, 0, none⟩)] w fun e w' => e = .returned (.tuple #[.int .u8 (s[i].toNat : Int), .bool true]) ∧ ∃ n, w' = w.drewN n := by
 have hc := Blk.cell h; have b0 : ((i : Int) < (s.size : Int)) := by omega
 have b1 : (0 : Int) ≤ (i : Int) := by omega
 clear h; go_enter Tryz.func134, Tryz.ntmps134; go_wp2_with fail; go_quiet (fail); go_wp2_with fail; go_quiet (fail); go_wp2_with fail
 go_ret2
 exact ⟨rfl, _, World.drewN_drewN _ _ _⟩
theorem rd_peek_end (g : Nat) (s : ByteArray) (i : Nat) (hi : s.size ≤ i) (hs : s.size ≤ 2000000) (w : World) (h : RdB w g s i) :
 Calls Tryz.prog 134 #[.pointer (some ⟨g, 0, none⟩)] w fun e w' => e = .returned (.tuple #[.int .u8 0, .bool false]) ∧ ∃ n, w' = w.drewN n := by
 have hc := Blk.cell h; have b0 : ¬ ((i : Int) < (s.size : Int)) := by omega
 clear h; go_enter Tryz.func134, Tryz.ntmps134; go_wp2_with fail; go_quiet (fail); go_wp2_with fail
 go_ret2
 exact ⟨rfl, _, rfl⟩
theorem rd_fail (g : Nat) (p : Int) (w : World) : Calls Tryz.prog 135 #[.pointer (some ⟨g, 0, none⟩), .int .i64 p] w fun e w' => e = .panicked (flt 10 p) ∧ w' = w := by
 go_enter Tryz.func135, Tryz.ntmps135; go_wp2_with fail; exact ⟨rfl, rfl, rfl⟩
def ROut (g : Nat) (s : ByteArray) (w : World) (r : Except Flt (UInt8 × Nat)) (e : Ending) (w' : World) : Prop :=
 match r with
 | .ok (b, q) => e = .returned (.int .u8 (b.toNat : Int)) ∧ RdB w' g s q ∧ Keep (some g) w w'
 | .error f => e = .panicked (flt f.code f.pl) ∧ Keep (some g) w w'
def rdHex (l : Bs) (p : Nat) : Except Flt (UInt8 × Nat) :=
 match l[p]? with
 | none => .error ⟨10, p⟩
 | some c => match hexv c with
  | none => .error ⟨10, p⟩
  | some k => .ok (UInt8.ofNat k, p + 1)
theorem get_byte (s : ByteArray) (i : Nat) (h : i < s.size) : s.data.toList[i]? = some s[i] := by
 rw [List.getElem?_eq_getElem (by show i < s.data.toList.length; simpa using h)]; rfl
theorem get_none (s : ByteArray) (i : Nat) (h : s.size ≤ i) : s.data.toList[i]? = none := by
 rw [List.getElem?_eq_none_iff]; show s.data.toList.length ≤ i
 simpa using h
theorem rd_hex (g : Nat) (s : ByteArray) (i : Nat) (hs : s.size ≤ 2000000) (hi : i ≤ s.size) (w : World) (h : RdB w g s i) (R : Except Flt (UInt8 × Nat)) (hR : rdHex s.data.toList i = R) :
 Calls Tryz.prog 138 #[.pointer (some ⟨g, 0, none⟩)] w (ROut g s w R) := by
 have HB := yh h; have hc := Blk.cell h; have hf := Blk.frozen h; have hwr : IntKind.i64.wrap ((i : Int) + 1) = (i : Int) + 1 := IntWalk.i64_in _ (by omega); clear h; unfold rdHex at hR; by_cases hlt : i < s.size
 · rw [get_byte s i hlt] at hR; dsimp only at hR; cases hh : hexv s[i] with
   | none =>
    rw [hh] at hR; subst hR; have n0 : ((-1 : Int) < 0) := by omega
    go_enter Tryz.func138, Tryz.ntmps138; go_wp2_with fail; refine (rd_peek g s i hlt hs _ HB.out).mono ?_; rintro e w1 ⟨rfl, n1, rfl⟩; go_wp2_with fail; refine (index_hex_none s[i] hh _).mono ?_; rintro e w2 ⟨rfl, n2, rfl⟩; go_wp2_with fail; refine (rd_fail g _ _).mono ?_; rintro e w3 ⟨rfl, rfl⟩; exact ⟨rfl, rfl, (Keep.refl _ _).drewN _⟩
   | some k =>
    rw [hh] at hR; subst hR; have hk := hexv_lt hh; have n0 : ¬ ((k : Int) < 0) := by omega
    have hu : IntKind.u8.wrap (k : Int) = (k : Int) := IntWalk.u8_in _ (by omega); go_enter Tryz.func138, Tryz.ntmps138; go_wp2_with fail; refine (rd_peek g s i hlt hs _ HB.out).mono ?_; rintro e w1 ⟨rfl, n1, rfl⟩; go_wp2_with fail; refine (index_hex_some s[i] k hh _).mono ?_; rintro e w2 ⟨rfl, n2, rfl⟩; go_wp2_with fail; go_ret; refine ⟨?_, (HB.out.drewN _).step, ((Keep.refl _ _).drewN _).set _ _ (.inl rfl)⟩; rw [UInt8.toNat_ofNat', Nat.mod_eq_of_lt (by simp; omega)]; rfl
 · rw [get_none s i (by omega)] at hR; dsimp only at hR; subst hR; go_enter Tryz.func138, Tryz.ntmps138; go_wp2_with fail; refine (rd_peek_end g s i (by omega) hs _ HB.out).mono ?_; rintro e w1 ⟨rfl, n1, rfl⟩; go_wp2_with fail; refine (Tryz.strings_IndexByte _ _ _).mono ?_; rintro e w2 ⟨rfl, hw2⟩; obtain rfl := hw2.symm; go_wp2_with fail; refine (rd_fail g _ _).mono ?_; rintro e w3 ⟨rfl, rfl⟩; exact ⟨rfl, rfl, (Keep.refl _ _).drewN _⟩
end Go.Proofs.YtmfabihndpidnaaGreatDoor
namespace Go.Proofs.YtmfabihndpidnaaGreatDoor
set_option maxHeartbeats 8000000
open Go.RowKit
set_option maxRecDepth 100000
set_option linter.unusedVariables false
set_option linter.unusedSimpArgs false
attribute [local go_sem ↓] run_ix199_0 run_ix199_1 run_ix199_2
def escBad (c : UInt8) : Bool := !printable c || digit c || (decide (97 ≤ c) && decide (c ≤ 122)) || (decide (65 ≤ c) && decide (c ≤ 90))
def rdEsc (l : Bs) (p : Nat) : Except Flt (UInt8 × Nat) :=
 match l[p]? with
 | none => .error ⟨10, p⟩
 | some c =>
  if c == 110 then .ok (10, p + 1) else if c == 114 then .ok (13, p + 1) else if c == 116 then .ok (9, p + 1)
  else if c == 120 then
   match rdHex l (p + 1) with
   | .error f => .error f
   | .ok (h, q) => match rdHex l q with
    | .error f => .error f
    | .ok (k, r) => .ok (UInt8.ofNat (16 * h.toNat + k.toNat), r)
  else if escBad c then .error ⟨10, p⟩ else .ok (c, p + 1)
theorem rdHex_ok {l : Bs} {p : Nat} {h : UInt8} {q : Nat} (e : rdHex l p = .ok (h, q)) : q = p + 1 ∧ p < l.length ∧ h.toNat < 16 := by
 unfold rdHex at e; split at e
 · cases e
 · rename_i c hc; split at e
   · cases e
   · rename_i k hk; cases e; have := hexv_lt hk; refine ⟨rfl, ?_, ?_⟩
     · rcases Nat.lt_or_ge p l.length with h | h
       · exact h
       · rw [List.getElem?_eq_none_iff.2 h] at hc; cases hc
     · rw [UInt8.toNat_ofNat', Nat.mod_eq_of_lt (by simp; omega)]; exact this
theorem or_nibbles0 : ∀ a b : Fin 16, bits BinOp.or IntKind.u8 ((a.val : Int) * 16) (b.val : Int) = ((16 * a.val + b.val : Nat) : Int) := by decide +kernel
theorem rd_escape (g : Nat) (s : ByteArray) (i : Nat) (hs : s.size ≤ 2000000) (hi : i ≤ s.size) (w : World) (hE : Escs w) (h : RdB w g s i) (R : Except Flt (UInt8 × Nat)) (hR : rdEsc s.data.toList i = R) :
 Calls Tryz.prog 137 #[.pointer (some ⟨g, 0, none⟩)] w (ROut g s w R) := by
 have HB := yh h; have hwr : IntKind.i64.wrap ((i : Int) + 1) = (i : Int) + 1 := IntWalk.i64_in _ (by omega); unfold rdEsc at hR; by_cases hlt : i < s.size
 · rw [get_byte s i hlt] at hR; dsimp only at hR; have HR := yh hR; clear hR; have HE := yh hE; have HGL := yh (show g < w.heap.size from Blk.lt h); clear h hE; go_enter Tryz.func137, Tryz.ntmps137; go_wp2_with fail; refine (rd_peek g s i hlt hs _ HB.out).mono ?_; rintro e w1 ⟨rfl, n1, rfl⟩; have HB1 := yh (HB.out.drewN n1); have K1 := yh ((Keep.refl (some g) w).drewN n1); have hcE := HE.out.keep ((Keep.refl none w).drewN n1); unfold Escs escV at hcE; have HGL := yh (show g < (w.drewN n1).heap.size from HGL.out); generalize w.drewN n1 = W at HB1 K1 hcE HGL ⊢; go_wp2_with fail
   refine wp_loop_rounds 4 ?_; rw [rounds_succ]; by_cases h110 : (s[i] == 110) = true
   · have c110 : ((110 : Int) == (s[i].toNat : Int)) = true := by rw [beq_iff_eq.1 h110]; rfl
     have hc := Blk.cell HB1.out; have hf := Blk.frozen HB1.out; have hgl := HGL.out; have hg0 : g ≠ W.heap.size := by omega
     have hg1 : g ≠ W.heap.size + 1 := by omega
     have hg2 : g ≠ W.heap.size + 1 + 1 := by omega
     have hg3 : g < W.heap.size + 1 := by omega
     have hg4 : g < W.heap.size + 1 + 1 := by omega
     go_wp2_with fail; go_ret; have hr := HR.out; rw [if_pos h110] at hr; subst hr; exact ⟨rfl, Blk.alloc (HB1.out.step) _, (K1.out.set ⟨g, 1, none⟩ (.int .i64 ((i : Int) + 1)) (.inl rfl)).alloc _⟩
   have h110' : (s[i] == 110) = false := by simpa using h110
   have c110 : ((110 : Int) == (s[i].toNat : Int)) = false := by
    rw [Bool.eq_false_iff] at h110' ⊢; intro e; apply h110'; rw [beq_iff_eq] at e ⊢; apply UInt8.toNat_inj.1; have : s[i].toNat = 110 := by omega
    simpa using this
   clear h110; go_wp2_with fail; rw [rounds_succ]; by_cases h114 : (s[i] == 114) = true
   · have c114 : ((114 : Int) == (s[i].toNat : Int)) = true := by rw [beq_iff_eq.1 h114]; rfl
     have hc := Blk.cell HB1.out; have hf := Blk.frozen HB1.out; have hgl := HGL.out; have hg0 : g ≠ W.heap.size := by omega
     have hg1 : g ≠ W.heap.size + 1 := by omega
     have hg2 : g ≠ W.heap.size + 1 + 1 := by omega
     have hg3 : g < W.heap.size + 1 := by omega
     have hg4 : g < W.heap.size + 1 + 1 := by omega
     go_wp2_with fail; go_ret; have hr := HR.out; rw [if_neg (by simp [h110'])] at hr; rw [if_pos h114] at hr; subst hr; exact ⟨rfl, Blk.alloc (Blk.alloc (HB1.out.step) _) _, ((K1.out.set ⟨g, 1, none⟩ (.int .i64 ((i : Int) + 1)) (.inl rfl)).alloc _).alloc _⟩
   have h114' : (s[i] == 114) = false := by simpa using h114
   have c114 : ((114 : Int) == (s[i].toNat : Int)) = false := by
    rw [Bool.eq_false_iff] at h114' ⊢; intro e; apply h114'; rw [beq_iff_eq] at e ⊢; apply UInt8.toNat_inj.1; have : s[i].toNat = 114 := by omega
    simpa using this
   clear h114; go_wp2_with fail; rw [rounds_succ]; by_cases h116 : (s[i] == 116) = true
   · have c116 : ((116 : Int) == (s[i].toNat : Int)) = true := by rw [beq_iff_eq.1 h116]; rfl
     have hc := Blk.cell HB1.out; have hf := Blk.frozen HB1.out; have hgl := HGL.out; have hg0 : g ≠ W.heap.size := by omega
     have hg1 : g ≠ W.heap.size + 1 := by omega
     have hg2 : g ≠ W.heap.size + 1 + 1 := by omega
     have hg3 : g < W.heap.size + 1 := by omega
     have hg4 : g < W.heap.size + 1 + 1 := by omega
     go_wp2_with fail; go_ret; have hr := HR.out; rw [if_neg (by simp [h110'])] at hr; rw [if_neg (by simp [h114'])] at hr; rw [if_pos h116] at hr; subst hr; exact ⟨rfl, Blk.alloc (Blk.alloc (Blk.alloc (HB1.out.step) _) _) _, (((K1.out.set ⟨g, 1, none⟩ (.int .i64 ((i : Int) + 1)) (.inl rfl)).alloc _).alloc _).alloc _⟩
   have h116' : (s[i] == 116) = false := by simpa using h116
   have c116 : ((116 : Int) == (s[i].toNat : Int)) = false := by
    rw [Bool.eq_false_iff] at h116' ⊢; intro e; apply h116'; rw [beq_iff_eq] at e ⊢; apply UInt8.toNat_inj.1; have : s[i].toNat = 116 := by omega
    simpa using this
   clear h116; go_wp2_with fail; rw [rounds_succ]; generalize hW3 : World.alloc (World.alloc (World.alloc W _) _) _ = W3; have HB3 := yh (show RdB W3 g s i from by rw [← hW3]; exact Blk.alloc (Blk.alloc (Blk.alloc HB1.out _) _) _); have K3 := yh (show Keep (some g) w W3 from by rw [← hW3]; exact ((K1.out.alloc _).alloc _).alloc _); clear hW3 hcE c110 c114 c116; have hr := HR.out; rw [if_neg (by simp [h110']), if_neg (by simp [h114']), if_neg (by simp [h116'])] at hr; have hc := Blk.cell HB3.out; have hf := Blk.frozen HB3.out; by_cases h120 : (s[i] == 120) = true
   · have c120 : ((s[i].toNat : Int) == 120) = true := byte_eq _ 120 true (by omega) h120; rw [if_pos h120] at hr; have HR2 := yh hr; clear hr; have HLEN := yh (show s.data.toList.length = s.size by show s.data.toList.length = s.data.size; simp); go_wp2_with fail; clear hc hf; have HB4 := yh HB3.out.step; have K4 := yh (K3.out.set ⟨g, 1, none⟩ (.int .i64 ((i : Int) + 1)) (.inl rfl)); cases hx : rdHex s.data.toList (i + 1) with
     | error f =>
      refine (rd_hex g s (i + 1) hs (by omega) _ HB4.out _ hx).mono ?_; rintro e w5 ⟨rfl, hk5⟩; have hr := HR2.out; rw [hx] at hr; dsimp only at hr; subst hr; exact ⟨rfl, rfl, K4.out.trans hk5⟩
     | ok x =>
      obtain ⟨h, q⟩ := x; have hok := rdHex_ok hx; rw [HLEN.out] at hok; refine (rd_hex g s (i + 1) hs (by omega) _ HB4.out _ hx).mono ?_; rintro e w5 ⟨rfl, hb5, hk5⟩; have u1 : IntKind.u8.wrap ((h.toNat : Int) * 16) = (h.toNat : Int) * 16 := IntWalk.u8_in _ (by omega); have HB5 := yh hb5; have K5 := yh (K4.out.trans hk5); clear hb5 hk5; go_wp2_with fail; cases hy : rdHex s.data.toList q with
      | error f =>
       refine (rd_hex g s q hs (by omega) _ HB5.out _ hy).mono ?_; rintro e w6 ⟨rfl, hk6⟩; have hr := HR2.out; rw [hx] at hr; dsimp only at hr; rw [hy] at hr; dsimp only at hr; subst hr; exact ⟨rfl, rfl, K5.out.trans hk6⟩
      | ok y =>
       obtain ⟨k, r⟩ := y; have hok2 := rdHex_ok hy; refine (rd_hex g s q hs (by omega) _ HB5.out _ hy).mono ?_; rintro e w6 ⟨rfl, hb6, hk6⟩; have u2 := or_nibbles0 ⟨h.toNat, hok.2.2⟩ ⟨k.toNat, hok2.2.2⟩; dsimp only at u2; go_wp2_with fail; go_ret; have hr := HR2.out; rw [hx] at hr; dsimp only at hr; rw [hy] at hr; dsimp only at hr; subst hr; refine ⟨?_, hb6, K5.out.trans hk6⟩; have : (UInt8.ofNat (16 * h.toNat + k.toNat)).toNat = 16 * h.toNat + k.toNat := by
        rw [UInt8.toNat_ofNat', Nat.mod_eq_of_lt (by simp; omega)]
       rw [this]; simp [go_sem]
   have h120' : (s[i] == 120) = false := by simpa using h120
   have c120 : ((s[i].toNat : Int) == 120) = false := byte_eq _ 120 false (by omega) h120'; rw [if_neg h120] at hr; clear h120; have HR2 := yh hr; clear hr; have hlt256 := s[i].toNat_lt; have hbad : escBad s[i] = (!(decide ((32 : Int) ≤ (s[i].toNat : Int)) && decide ((s[i].toNat : Int) ≤ 126)) || (decide ((48 : Int) ≤ (s[i].toNat : Int)) && decide ((s[i].toNat : Int) ≤ 57)) || (decide ((97 : Int) ≤ (s[i].toNat : Int)) && decide ((s[i].toNat : Int) ≤ 122)) || (decide ((65 : Int) ≤ (s[i].toNat : Int)) && decide ((s[i].toNat : Int) ≤ 90))) := by
    unfold escBad printable digit; simp only [u8_le]; rfl
   have HBAD := yh hbad; clear hbad; by_cases r0 : s[i].toNat ≤ 31
   · have t0 : ((s[i].toNat : Int) < 32) := by omega
     have t1 : ¬ ((126 : Int) < (s[i].toNat : Int)) := by omega
     have t2 : ¬ ((48 : Int) ≤ (s[i].toNat : Int)) := by omega
     have t3 : ((s[i].toNat : Int) ≤ 57) := by omega
     have t4 : ¬ ((97 : Int) ≤ (s[i].toNat : Int)) := by omega
     have t5 : ((s[i].toNat : Int) ≤ 122) := by omega
     have t6 : ¬ ((65 : Int) ≤ (s[i].toNat : Int)) := by omega
     have t7 : ((s[i].toNat : Int) ≤ 90) := by omega
     have hb : escBad s[i] = true := by rw [HBAD.out]; simp; omega
     clear hlt256 r0; go_wp2_with fail; refine (rd_fail g _ _).mono ?_; rintro e w5 ⟨rfl, rfl⟩; have hr := HR2.out; rw [if_pos hb] at hr; subst hr; exact ⟨rfl, rfl, K3.out⟩
   by_cases r1 : s[i].toNat ≤ 47
   · have t0 : ¬ ((s[i].toNat : Int) < 32) := by omega
     have t1 : ¬ ((126 : Int) < (s[i].toNat : Int)) := by omega
     have t2 : ¬ ((48 : Int) ≤ (s[i].toNat : Int)) := by omega
     have t3 : ((s[i].toNat : Int) ≤ 57) := by omega
     have t4 : ¬ ((97 : Int) ≤ (s[i].toNat : Int)) := by omega
     have t5 : ((s[i].toNat : Int) ≤ 122) := by omega
     have t6 : ¬ ((65 : Int) ≤ (s[i].toNat : Int)) := by omega
     have t7 : ((s[i].toNat : Int) ≤ 90) := by omega
     have hb : ¬ escBad s[i] = true := by rw [HBAD.out]; simp; omega
     clear hlt256 r0 r1; go_wp2_with fail; go_ret; have hr := HR2.out; rw [if_neg hb] at hr; subst hr; exact ⟨rfl, HB3.out.step, K3.out.set _ _ (.inl rfl)⟩
   by_cases r2 : s[i].toNat ≤ 57
   · have t0 : ¬ ((s[i].toNat : Int) < 32) := by omega
     have t1 : ¬ ((126 : Int) < (s[i].toNat : Int)) := by omega
     have t2 : ((48 : Int) ≤ (s[i].toNat : Int)) := by omega
     have t3 : ((s[i].toNat : Int) ≤ 57) := by omega
     have t4 : ¬ ((97 : Int) ≤ (s[i].toNat : Int)) := by omega
     have t5 : ((s[i].toNat : Int) ≤ 122) := by omega
     have t6 : ¬ ((65 : Int) ≤ (s[i].toNat : Int)) := by omega
     have t7 : ((s[i].toNat : Int) ≤ 90) := by omega
     have hb : escBad s[i] = true := by rw [HBAD.out]; simp; omega
     clear hlt256 r0 r1 r2; go_wp2_with fail; refine (rd_fail g _ _).mono ?_; rintro e w5 ⟨rfl, rfl⟩; have hr := HR2.out; rw [if_pos hb] at hr; subst hr; exact ⟨rfl, rfl, K3.out⟩
   by_cases r3 : s[i].toNat ≤ 64
   · have t0 : ¬ ((s[i].toNat : Int) < 32) := by omega
     have t1 : ¬ ((126 : Int) < (s[i].toNat : Int)) := by omega
     have t2 : ((48 : Int) ≤ (s[i].toNat : Int)) := by omega
     have t3 : ¬ ((s[i].toNat : Int) ≤ 57) := by omega
     have t4 : ¬ ((97 : Int) ≤ (s[i].toNat : Int)) := by omega
     have t5 : ((s[i].toNat : Int) ≤ 122) := by omega
     have t6 : ¬ ((65 : Int) ≤ (s[i].toNat : Int)) := by omega
     have t7 : ((s[i].toNat : Int) ≤ 90) := by omega
     have hb : ¬ escBad s[i] = true := by rw [HBAD.out]; simp; omega
     clear hlt256 r0 r1 r2 r3; go_wp2_with fail; go_ret; have hr := HR2.out; rw [if_neg hb] at hr; subst hr; exact ⟨rfl, HB3.out.step, K3.out.set _ _ (.inl rfl)⟩
   by_cases r4 : s[i].toNat ≤ 90
   · have t0 : ¬ ((s[i].toNat : Int) < 32) := by omega
     have t1 : ¬ ((126 : Int) < (s[i].toNat : Int)) := by omega
     have t2 : ((48 : Int) ≤ (s[i].toNat : Int)) := by omega
     have t3 : ¬ ((s[i].toNat : Int) ≤ 57) := by omega
     have t4 : ¬ ((97 : Int) ≤ (s[i].toNat : Int)) := by omega
     have t5 : ((s[i].toNat : Int) ≤ 122) := by omega
     have t6 : ((65 : Int) ≤ (s[i].toNat : Int)) := by omega
     have t7 : ((s[i].toNat : Int) ≤ 90) := by omega
     have hb : escBad s[i] = true := by rw [HBAD.out]; simp; omega
     clear hlt256 r0 r1 r2 r3 r4; go_wp2_with fail; refine (rd_fail g _ _).mono ?_; rintro e w5 ⟨rfl, rfl⟩; have hr := HR2.out; rw [if_pos hb] at hr; subst hr; exact ⟨rfl, rfl, K3.out⟩
   by_cases r5 : s[i].toNat ≤ 96
   · have t0 : ¬ ((s[i].toNat : Int) < 32) := by omega
     have t1 : ¬ ((126 : Int) < (s[i].toNat : Int)) := by omega
     have t2 : ((48 : Int) ≤ (s[i].toNat : Int)) := by omega
     have t3 : ¬ ((s[i].toNat : Int) ≤ 57) := by omega
     have t4 : ¬ ((97 : Int) ≤ (s[i].toNat : Int)) := by omega
     have t5 : ((s[i].toNat : Int) ≤ 122) := by omega
     have t6 : ((65 : Int) ≤ (s[i].toNat : Int)) := by omega
     have t7 : ¬ ((s[i].toNat : Int) ≤ 90) := by omega
     have hb : ¬ escBad s[i] = true := by rw [HBAD.out]; simp; omega
     clear hlt256 r0 r1 r2 r3 r4 r5; go_wp2_with fail; go_ret; have hr := HR2.out; rw [if_neg hb] at hr; subst hr; exact ⟨rfl, HB3.out.step, K3.out.set _ _ (.inl rfl)⟩
   by_cases r6 : s[i].toNat ≤ 122
   · have t0 : ¬ ((s[i].toNat : Int) < 32) := by omega
     have t1 : ¬ ((126 : Int) < (s[i].toNat : Int)) := by omega
     have t2 : ((48 : Int) ≤ (s[i].toNat : Int)) := by omega
     have t3 : ¬ ((s[i].toNat : Int) ≤ 57) := by omega
     have t4 : ((97 : Int) ≤ (s[i].toNat : Int)) := by omega
     have t5 : ((s[i].toNat : Int) ≤ 122) := by omega
     have t6 : ((65 : Int) ≤ (s[i].toNat : Int)) := by omega
     have t7 : ¬ ((s[i].toNat : Int) ≤ 90) := by omega
     have hb : escBad s[i] = true := by rw [HBAD.out]; simp; omega
     clear hlt256 r0 r1 r2 r3 r4 r5 r6; go_wp2_with fail; refine (rd_fail g _ _).mono ?_; rintro e w5 ⟨rfl, rfl⟩; have hr := HR2.out; rw [if_pos hb] at hr; subst hr; exact ⟨rfl, rfl, K3.out⟩
   by_cases r7 : s[i].toNat ≤ 126
   · have t0 : ¬ ((s[i].toNat : Int) < 32) := by omega
     have t1 : ¬ ((126 : Int) < (s[i].toNat : Int)) := by omega
     have t2 : ((48 : Int) ≤ (s[i].toNat : Int)) := by omega
     have t3 : ¬ ((s[i].toNat : Int) ≤ 57) := by omega
     have t4 : ((97 : Int) ≤ (s[i].toNat : Int)) := by omega
     have t5 : ¬ ((s[i].toNat : Int) ≤ 122) := by omega
     have t6 : ((65 : Int) ≤ (s[i].toNat : Int)) := by omega
     have t7 : ¬ ((s[i].toNat : Int) ≤ 90) := by omega
     have hb : ¬ escBad s[i] = true := by rw [HBAD.out]; simp; omega
     clear hlt256 r0 r1 r2 r3 r4 r5 r6 r7; go_wp2_with fail; go_ret; have hr := HR2.out; rw [if_neg hb] at hr; subst hr; exact ⟨rfl, HB3.out.step, K3.out.set _ _ (.inl rfl)⟩
   have t0 : ¬ ((s[i].toNat : Int) < 32) := by omega
   have t1 : ((126 : Int) < (s[i].toNat : Int)) := by omega
   have t2 : ((48 : Int) ≤ (s[i].toNat : Int)) := by omega
   have t3 : ¬ ((s[i].toNat : Int) ≤ 57) := by omega
   have t4 : ((97 : Int) ≤ (s[i].toNat : Int)) := by omega
   have t5 : ¬ ((s[i].toNat : Int) ≤ 122) := by omega
   have t6 : ((65 : Int) ≤ (s[i].toNat : Int)) := by omega
   have t7 : ¬ ((s[i].toNat : Int) ≤ 90) := by omega
   have hb : escBad s[i] = true := by rw [HBAD.out]; simp; omega
   clear hlt256 r0 r1 r2 r3 r4 r5 r6 r7; go_wp2_with fail; refine (rd_fail g _ _).mono ?_; rintro e w5 ⟨rfl, rfl⟩; have hr := HR2.out; rw [if_pos hb] at hr; subst hr; exact ⟨rfl, rfl, K3.out⟩
 · rw [get_none s i (by omega)] at hR; dsimp only at hR; subst hR; have hc := Blk.cell h; clear h hE; go_enter Tryz.func137, Tryz.ntmps137; go_wp2_with fail; refine (rd_peek_end g s i (by omega) hs _ HB.out).mono ?_; rintro e w1 ⟨rfl, n1, rfl⟩; go_wp2_with fail; refine (rd_fail g _ _).mono ?_; rintro e w3 ⟨rfl, rfl⟩; exact ⟨rfl, rfl, (Keep.refl _ _).drewN _⟩
end Go.Proofs.YtmfabihndpidnaaGreatDoor
namespace Go.Proofs.YtmfabihndpidnaaGreatDoor
set_option maxHeartbeats 8000000
open Go.RowKit
set_option maxRecDepth 100000
set_option linter.unusedVariables false
set_option linter.unusedSimpArgs false
def rdOne (l barred : Bs) (p : Nat) : Except Flt (UInt8 × Nat) :=
 match l[p]? with
 | none => .error ⟨10, p⟩
 | some c => if c == 92 then rdEsc l (p + 1) else if !printable c || barred.contains c then .error ⟨10, p⟩ else .ok (c, p + 1)
theorem index_nat (barred : Bs) (c : UInt8) (w : World) : Calls Tryz.prog 53 #[.string (mkS barred), .int .u8 (c.toNat : Int)] w fun e w' => e = .returned (.int .i64 (Lib.indexByte barred c)) ∧ w = w' := by
 refine (Tryz.strings_IndexByte _ _ w).mono ?_; rintro e w' ⟨rfl, rfl⟩; refine ⟨?_, rfl⟩; simp only [Int.toNat_natCast, Nat.toUInt8_eq, UInt8.ofNat_toNat]
theorem rd_one (g : Nat) (s : ByteArray) (i : Nat) (barred : Bs) (hs : s.size ≤ 2000000) (hi : i ≤ s.size) (w : World) (hE : Escs w) (h : RdB w g s i) (hg3 : g ≠ 3) (R : Except Flt (UInt8 × Nat)) (hR : rdOne s.data.toList barred i = R) :
 Calls Tryz.prog 132 #[.pointer (some ⟨g, 0, none⟩), .string (mkS barred)] w (ROut g s w R) := by
 have HB := yh h; have hwr : IntKind.i64.wrap ((i : Int) + 1) = (i : Int) + 1 := IntWalk.i64_in _ (by omega); unfold rdOne at hR; by_cases hlt : i < s.size
 · rw [get_byte s i hlt] at hR; dsimp only at hR; have HR := yh hR; have HE := yh hE; clear hR hE h; go_enter Tryz.func132, Tryz.ntmps132; go_wp2_with fail; refine (rd_peek g s i hlt hs _ HB.out).mono ?_; rintro e w1 ⟨rfl, n1, rfl⟩; have HB1 := yh (HB.out.drewN n1); have K1 := yh ((Keep.refl (some g) w).drewN n1); have HE1 := yh (HE.out.keep ((Keep.refl none w).drewN n1)); generalize w.drewN n1 = W at HB1 K1 HE1 ⊢; have hc := Blk.cell HB1.out; have hf := Blk.frozen HB1.out; by_cases h92 : (s[i] == 92) = true
   · have c92 : ((s[i].toNat : Int) == 92) = true := byte_eq _ 92 true (by omega) h92; have hr := HR.out; rw [if_pos h92] at hr; have HR2 := yh hr; clear hr; go_wp2_with fail; clear hc hf; have HE2 := yh (show Escs (W.setCell ⟨g, 1, none⟩ (.int .i64 ((i : Int) + 1))) from fun o => by
      rw [← HE1.out o]; have := Below.heap_setCell W ⟨g, 1, none⟩ (.int .i64 ((i : Int) + 1)) 3 hg3.symm; simp only [World.cell?, this])
     have hcall := rd_escape g s (i + 1) hs (by omega) _ HE2.out HB1.out.step R HR2.out; cases R with
     | error f =>
      refine hcall.mono ?_; rintro e w5 ⟨rfl, hk5⟩; exact ⟨rfl, rfl, (K1.out.set _ _ (.inl rfl)).trans hk5⟩
     | ok x =>
      refine hcall.mono ?_; rintro e w5 ⟨rfl, hb5, hk5⟩; go_wp2_with fail; go_ret; exact ⟨rfl, hb5, (K1.out.set _ _ (.inl rfl)).trans hk5⟩
   · have h92' : (s[i] == 92) = false := by simpa using h92
     have c92 : ((s[i].toNat : Int) == 92) = false := byte_eq _ 92 false (by omega) h92'; have hr := HR.out; rw [if_neg h92] at hr; have HR2 := yh hr; clear hr h92; by_cases hp : printable s[i] = true
     · have hp1 : ((32 : Int) ≤ (s[i].toNat : Int)) ∧ ((s[i].toNat : Int) ≤ 126) := by
        unfold printable at hp; simp only [u8_le, Bool.and_eq_true, decide_eq_true_eq] at hp; exact hp
       have q1 : ¬ ((s[i].toNat : Int) < 32) := by omega
       have q2 : ¬ ((126 : Int) < (s[i].toNat : Int)) := by omega
       clear hp1; have hcon := Lib.contains_iff_indexByte barred s[i]; by_cases hb : barred.contains s[i] = true
       · have hb0 : (0 : Int) ≤ Lib.indexByte barred s[i] := by rw [hb] at hcon; simpa using hcon.symm
         go_wp2_with fail; refine (index_nat barred s[i] _).mono ?_; rintro e wx ⟨rfl, rfl⟩; go_wp2_with fail; refine (rd_fail g _ _).mono ?_; rintro e w5 ⟨rfl, rfl⟩; have hr := HR2.out; rw [if_pos (by simp [hp] at *; first | exact hb | simpa using hb)] at hr; subst hr; exact ⟨rfl, rfl, K1.out⟩
       · have hb' : barred.contains s[i] = false := by simpa using hb
         have hb0 : ¬ ((0 : Int) ≤ Lib.indexByte barred s[i]) := by rw [hb'] at hcon; simpa using hcon.symm
         go_wp2_with fail; refine (index_nat barred s[i] _).mono ?_; rintro e wx ⟨rfl, rfl⟩; go_wp2_with fail; go_ret; have hr := HR2.out; rw [if_neg (by rw [hp, hb']; decide)] at hr; subst hr; exact ⟨rfl, HB1.out.step, K1.out.set _ _ (.inl rfl)⟩
     · have hp' : printable s[i] = false := by simpa using hp
       have hp3 : (decide ((32 : Int) ≤ (s[i].toNat : Int)) && decide ((s[i].toNat : Int) ≤ 126)) = false := by
        unfold printable at hp'; simp only [u8_le] at hp'; exact hp'
       have HRE := yh (show R = .error ⟨10, i⟩ from by
        have hr := HR2.out; rw [if_pos (by rw [hp']; rfl)] at hr; exact hr.symm)
       by_cases q1 : ((s[i].toNat : Int) < 32)
       · clear hp3; go_wp2_with fail; refine (rd_fail g _ _).mono ?_; rintro e w5 ⟨rfl, rfl⟩; have hr := HRE.out; subst hr; exact ⟨rfl, rfl, K1.out⟩
       · have q2 : ((126 : Int) < (s[i].toNat : Int)) := by
          have : decide ((32 : Int) ≤ (s[i].toNat : Int)) = true := by simp; omega
          rw [this] at hp3; simp at hp3; omega
         clear hp3; go_wp2_with fail; refine (rd_fail g _ _).mono ?_; rintro e w5 ⟨rfl, rfl⟩; have hr := HRE.out; subst hr; exact ⟨rfl, rfl, K1.out⟩
 · rw [get_none s i (by omega)] at hR; dsimp only at hR; subst hR; have hc := Blk.cell h; clear h hE; go_enter Tryz.func132, Tryz.ntmps132; go_wp2_with fail; refine (rd_peek_end g s i (by omega) hs _ HB.out).mono ?_; rintro e w1 ⟨rfl, n1, rfl⟩; go_wp2_with fail; refine (rd_fail g _ _).mono ?_; rintro e w3 ⟨rfl, rfl⟩; exact ⟨rfl, rfl, (Keep.refl _ _).drewN _⟩
end Go.Proofs.YtmfabihndpidnaaGreatDoor
