/-
  The scanner of lens texts: an escape. The scanner of lens texts: a quoted text.
-/
import Derived.Test.YtmfabihndpidnaaGreatDoorK09
import Derived.Laws.BytesArg
namespace Go.Proofs.YtmfabihndpidnaaGreatDoor
set_option maxHeartbeats 8000000
open Go.RowKit
set_option maxRecDepth 100000
set_option linter.unusedVariables false
set_option linter.unusedSimpArgs false
def XOut (g : Nat) (s : ByteArray) (sv : Value) (w : World) (r : Esc) (e : Ending) (w' : World) : Prop :=
 match r with
 | .byte b q => e = .returned (.tuple #[.int .u8 b.toNat, .bool true]) ∧ q < s.size ∧ ScB w' g s q sv 0 0 ∧ Keep (some g) w w'
 | .bad q => e = .returned (.tuple #[.int .u8 0, .bool false]) ∧ q < s.size ∧ ScB w' g s q sv 0 0 ∧ Keep (some g) w w'
 | .ended => e = .returned (.tuple #[.int .u8 0, .bool false]) ∧ ScB w' g s s.size sv 0 0 ∧ Keep (some g) w w'
def hexTail (q : Nat) (t : Bs) : Esc := (match t with | [] => .ended | e :: t2 => match hexv e with | none => .bad (q + 2) | some h => match t2 with | [] => .ended | f :: _ => match hexv f with | none => .bad (q + 3) | some l => .byte (UInt8.ofNat (16 * h + l)) (q + 3))
theorem escape_cons (q : Nat) (d : UInt8) (t : Bs) : escape q (d :: t) = if d == 110 then .byte 10 (q + 1) else if d == 114 then .byte 13 (q + 1) else if d == 116 then .byte 9 (q + 1) else if d == 34 || d == 92 then .byte d (q + 1) else if d == 120 then hexTail q t else .bad (q + 1) := rfl
theorem hexv_index0 : ∀ n : Fin 256, Lib.indexByte hexDigits (UInt8.ofNat n.val) = (match hexv (UInt8.ofNat n.val) with | none => -1 | some k => (k : Int)) := by decide +kernel
theorem hexv_index (c : UInt8) : Lib.indexByte hexDigits c = (match hexv c with | none => -1 | some k => (k : Int)) := by
 have := hexv_index0 ⟨c.toNat, c.toNat_lt⟩; simpa using this
theorem hexv_lt0 : ∀ n : Fin 256, ∀ k, hexv (UInt8.ofNat n.val) = some k → k < 16 := by decide +kernel
theorem hexv_lt {c : UInt8} {k : Nat} (h : hexv c = some k) : k < 16 := by
 have := hexv_lt0 ⟨c.toNat, c.toNat_lt⟩ k; simp only [UInt8.ofNat_toNat] at this; exact this h
theorem index_hex_none (c : UInt8) (h : hexv c = none) (w : World) : Calls Tryz.prog 53 #[.string ⟨#[48, 49, 50, 51, 52, 53, 54, 55, 56, 57, 97, 98, 99, 100, 101, 102]⟩, .int .u8 (c.toNat : Int)] w fun e w' => e = .returned (.int .i64 (-1)) ∧ ∃ n, w' = w.drewN n := by
 refine (Tryz.strings_IndexByte _ _ w).mono ?_; rintro e w' ⟨rfl, rfl⟩; refine ⟨?_, 0, rfl⟩; have := hexv_index c; rw [h] at this; simp only [Int.toNat_natCast, Nat.toUInt8_eq, UInt8.ofNat_toNat]; exact congrArg (fun n => Ending.returned (.int .i64 n)) this
theorem index_hex_some (c : UInt8) (k : Nat) (h : hexv c = some k) (w : World) : Calls Tryz.prog 53 #[.string ⟨#[48, 49, 50, 51, 52, 53, 54, 55, 56, 57, 97, 98, 99, 100, 101, 102]⟩, .int .u8 (c.toNat : Int)] w fun e w' => e = .returned (.int .i64 (k : Int)) ∧ ∃ n, w' = w.drewN n := by
 refine (Tryz.strings_IndexByte _ _ w).mono ?_; rintro e w' ⟨rfl, rfl⟩; refine ⟨?_, 0, rfl⟩; have := hexv_index c; rw [h] at this; simp only [Int.toNat_natCast, Nat.toUInt8_eq, UInt8.ofNat_toNat]; exact congrArg (fun n => Ending.returned (.int .i64 n)) this
theorem escape_walk (g : Nat) (s : ByteArray) (i : Nat) (sv : Value) (hs : s.size ≤ 4096) (hi : i < s.size) (w : World) (h : ScB w g s i sv 0 0) (R : Esc) (hR : escape i (s.data.toList.drop (i + 1)) = R) :
 Calls Tryz.prog 72 #[.pointer (some ⟨g, 0, none⟩)] w (XOut g s sv w R) := by
 have hc := h.cell; have hf := h.frozen; have H := yh h.step; have K1 := yh ((Keep.refl (some g) w).set ⟨g, 1, none⟩ (.int .i64 ((i : Int) + 1)) (.inl rfl)); have HR := yh hR; have hwr : IntKind.i64.wrap ((i : Int) + 1) = (i : Int) + 1 := IntWalk.i64_in _ (by omega); clear h hR; by_cases hlt : i + 1 < s.size
 · have hb0 : decide (s.size ≤ i + 1) = false := by simp; omega
   have HD := yh (drop_byte s (i + 1) hlt); have hj0 : (0 : Int) ≤ (i : Int) + 1 := by omega
   have hj1 : (i : Int) + 1 < (s.size : Int) := by omega
   by_cases h110 : (s[i + 1] == 110) = true
   · have C110 := yh (show ((s[i + 1].toNat : Int) == 110) = true from byte_eq _ 110 true (by omega) h110); go_enter Tryz.func72, Tryz.ntmps72; go_wp2_with fail; generalize hW : w.setCell _ _ = W at *; clear hc hf; have hc := H.out.cell; have hf := H.out.frozen; refine (ended_any g s (i + 1) sv 0 0 false hb0 _ H.out).mono ?_; rintro e w1 ⟨rfl, n1, rfl⟩; go_wp2_with fail; go_quiet (fail); have c110 := C110.out; go_wp2_with fail; clear c110
     go_ret2
     have hr : R = .byte 10 (i + 1) := by rw [← HR.out, HD.out, escape_cons]; simp [beq_iff_eq.1 h110]
     subst hr; refine ⟨rfl, hlt, H.out.drewN _, K1.out.drewN _⟩
   have h110' : (s[i + 1] == 110) = false := by simpa using h110
   have C110 := yh (show ((s[i + 1].toNat : Int) == 110) = false from byte_eq _ 110 false (by omega) h110'); clear h110; by_cases h114 : (s[i + 1] == 114) = true
   · have C114 := yh (show ((s[i + 1].toNat : Int) == 114) = true from byte_eq _ 114 true (by omega) h114); go_enter Tryz.func72, Tryz.ntmps72; go_wp2_with fail; generalize hW : w.setCell _ _ = W at *; clear hc hf; have hc := H.out.cell; have hf := H.out.frozen; refine (ended_any g s (i + 1) sv 0 0 false hb0 _ H.out).mono ?_; rintro e w1 ⟨rfl, n1, rfl⟩; go_wp2_with fail; go_quiet (fail); have c110 := C110.out; have c114 := C114.out; go_wp2_with fail; clear c110; clear c114
     go_ret2
     have hr : R = .byte 13 (i + 1) := by rw [← HR.out, HD.out, escape_cons]; simp [beq_iff_eq.1 h114]
     subst hr; refine ⟨rfl, hlt, H.out.drewN _, K1.out.drewN _⟩
   have h114' : (s[i + 1] == 114) = false := by simpa using h114
   have C114 := yh (show ((s[i + 1].toNat : Int) == 114) = false from byte_eq _ 114 false (by omega) h114'); clear h114; by_cases h116 : (s[i + 1] == 116) = true
   · have C116 := yh (show ((s[i + 1].toNat : Int) == 116) = true from byte_eq _ 116 true (by omega) h116); go_enter Tryz.func72, Tryz.ntmps72; go_wp2_with fail; generalize hW : w.setCell _ _ = W at *; clear hc hf; have hc := H.out.cell; have hf := H.out.frozen; refine (ended_any g s (i + 1) sv 0 0 false hb0 _ H.out).mono ?_; rintro e w1 ⟨rfl, n1, rfl⟩; go_wp2_with fail; go_quiet (fail); have c110 := C110.out; have c114 := C114.out; have c116 := C116.out; go_wp2_with fail; clear c110; clear c114; clear c116
     go_ret2
     have hr : R = .byte 9 (i + 1) := by rw [← HR.out, HD.out, escape_cons]; simp [beq_iff_eq.1 h116]
     subst hr; refine ⟨rfl, hlt, H.out.drewN _, K1.out.drewN _⟩
   have h116' : (s[i + 1] == 116) = false := by simpa using h116
   have C116 := yh (show ((s[i + 1].toNat : Int) == 116) = false from byte_eq _ 116 false (by omega) h116'); clear h116; by_cases h34 : (s[i + 1] == 34) = true
   · have C34 := yh (show ((s[i + 1].toNat : Int) == 34) = true from byte_eq _ 34 true (by omega) h34); go_enter Tryz.func72, Tryz.ntmps72; go_wp2_with fail; generalize hW : w.setCell _ _ = W at *; clear hc hf; have hc := H.out.cell; have hf := H.out.frozen; refine (ended_any g s (i + 1) sv 0 0 false hb0 _ H.out).mono ?_; rintro e w1 ⟨rfl, n1, rfl⟩; go_wp2_with fail; go_quiet (fail); have c110 := C110.out; have c114 := C114.out; have c116 := C116.out; have c34 := C34.out; go_wp2_with fail; clear c110; clear c114; clear c116; clear c34
     go_ret2
     have hr : R = .byte s[i + 1] (i + 1) := by rw [← HR.out, HD.out, escape_cons]; simp [beq_iff_eq.1 h34]
     subst hr; refine ⟨rfl, hlt, H.out.drewN _, K1.out.drewN _⟩
   have h34' : (s[i + 1] == 34) = false := by simpa using h34
   have C34 := yh (show ((s[i + 1].toNat : Int) == 34) = false from byte_eq _ 34 false (by omega) h34'); clear h34; by_cases h92 : (s[i + 1] == 92) = true
   · have C92 := yh (show ((s[i + 1].toNat : Int) == 92) = true from byte_eq _ 92 true (by omega) h92); go_enter Tryz.func72, Tryz.ntmps72; go_wp2_with fail; generalize hW : w.setCell _ _ = W at *; clear hc hf; have hc := H.out.cell; have hf := H.out.frozen; refine (ended_any g s (i + 1) sv 0 0 false hb0 _ H.out).mono ?_; rintro e w1 ⟨rfl, n1, rfl⟩; go_wp2_with fail; go_quiet (fail); have c110 := C110.out; have c114 := C114.out; have c116 := C116.out; have c34 := C34.out; have c92 := C92.out; go_wp2_with fail; clear c110; clear c114; clear c116; clear c34; clear c92
     go_ret2
     have hr : R = .byte s[i + 1] (i + 1) := by rw [← HR.out, HD.out, escape_cons]; simp [beq_iff_eq.1 h92]
     subst hr; refine ⟨rfl, hlt, H.out.drewN _, K1.out.drewN _⟩
   have h92' : (s[i + 1] == 92) = false := by simpa using h92
   have C92 := yh (show ((s[i + 1].toNat : Int) == 92) = false from byte_eq _ 92 false (by omega) h92'); clear h92; have HX := yh (show ∀ d t, d = s[i + 1] → escape i (d :: t) = if d == 120 then hexTail i t else .bad (i + 1) from by
    intro d t hd; subst hd; rw [escape_cons, if_neg (by simp [h110']), if_neg (by simp [h114']), if_neg (by simp [h116']), if_neg (by simp [h34', h92'])])
   by_cases h120 : (s[i + 1] == 120) = true
   · have C120 := yh (show ((s[i + 1].toNat : Int) == 120) = true from byte_eq _ 120 true (by omega) h120); have hx := HX.out s[i + 1] (s.data.toList.drop (i + 2)) rfl; rw [if_pos h120, ← HD.out, HR.out] at hx; have HX2 := yh hx; clear hx HX HR HD; have hwr2 : IntKind.i64.wrap ((i : Int) + 1 + 1) = (i : Int) + 1 + 1 := IntWalk.i64_in _ (by omega); obtain ⟨j, hj⟩ : ∃ j, i + 1 + 1 = j := ⟨_, rfl⟩; obtain ⟨m, hm⟩ : ∃ m, j + 1 = m := ⟨_, rfl⟩; have HJ := yh hj; have HM := yh hm; clear hj hm; by_cases hl2 : j < s.size
     · have hb2 : decide (s.size ≤ j) = false := by simp; omega
       have HD2 := yh (drop_byte s j hl2); have hk0 : (0 : Int) ≤ (j : Int) := by omega
       have hk1 : (j : Int) < (s.size : Int) := by omega
       go_enter Tryz.func72, Tryz.ntmps72; go_wp2_with fail; generalize hW : w.setCell _ _ = W at *; clear hc hf; have hc := H.out.cell; have hf := H.out.frozen; refine (ended_any g s (i + 1) sv 0 0 false hb0 _ H.out).mono ?_; rintro e w1 ⟨rfl, n1, rfl⟩; go_wp2_with fail; go_quiet (fail); have c110 := C110.out; have c114 := C114.out; have c116 := C116.out; have c34 := C34.out; have c92 := C92.out; have c120 := C120.out; go_wp2_with fail; clear c110; clear c114; clear c116; clear c34; clear c92; clear c120; refine wp_loop_rounds 3 ?_; rw [rounds_succ]; go_wp2_with fail; generalize hW2 : (W.drewN _).setCell _ _ = W2
       have HW2 : ScB W2 g s j sv 0 0 := by rw [← hW2, ← HJ.out]; exact (H.out.drewN _).step
       have KW2 : Keep (some g) w W2 := by rw [← hW2]; exact (K1.out.drewN _).set _ _ (.inl rfl)
       have HW2 := yh HW2; have KW2 := yh KW2; clear hW2 hc hf; have hc := HW2.out.cell; have hf := HW2.out.frozen; refine (ended_any g s (j) sv 0 0 false hb2 _ HW2.out).mono ?_; rintro e w1 ⟨rfl, n2, rfl⟩; clear hc hf; replace HW2 := yh (HW2.out.drewN n2); replace KW2 := yh (KW2.out.drewN n2); generalize W2.drewN n2 = W2 at HW2 KW2 ⊢; have hc := HW2.out.cell; have hf := HW2.out.frozen; go_wp2_with fail; cases hh : hexv s[j] with
       | none =>
        go_quiet ((go_at_call 53; exact Calls.quiet_of (index_hex_none s[j] hh _))); go_wp2_with fail
        go_ret2
        have hx := HX2.out; unfold hexTail at hx; rw [show i + 2 = j from HJ.out, HD2.out, show j + 1 = m from HM.out] at hx; simp only [hh] at hx; subst hx; exact ⟨rfl, hl2, HW2.out.drewN _, KW2.out.drewN _⟩
       | some a =>
        have ha := hexv_lt hh; have a0 : (0 : Int) ≤ (a : Int) := by omega
        have ad : decide ((a : Int) < 0) = false := by simp
        have aw : IntKind.i64.wrap (a : Int) = (a : Int) := IntWalk.i64_in _ (by omega); have hwr3 : IntKind.i64.wrap ((j : Int) + 1) = (j : Int) + 1 := IntWalk.i64_in _ (by omega); go_quiet ((go_at_call 53; exact Calls.quiet_of (index_hex_some s[j] a hh _))); go_wp2_with fail; rw [rounds_succ]; go_wp2_with fail; generalize hW3 : (W2.drewN _).setCell _ _ = W3; have HW3 : ScB W3 g s m sv 0 0 := by rw [← hW3, ← HM.out]; exact (HW2.out.drewN _).step
        have KW3 : Keep (some g) w W3 := by rw [← hW3]; exact (KW2.out.drewN _).set _ _ (.inl rfl)
        have HW3 := yh HW3; have KW3 := yh KW3; clear hW3 hc hf; have hc := HW3.out.cell; have hf := HW3.out.frozen; by_cases hl3 : m < s.size
        · have hb3 : decide (s.size ≤ m) = false := by simp; omega
          have HD3 := yh (drop_byte s m hl3); have hm0 : (0 : Int) ≤ (m : Int) := by omega
          have hm1 : (m : Int) < (s.size : Int) := by omega
          refine (ended_any g s (m) sv 0 0 false hb3 _ HW3.out).mono ?_; rintro e w1 ⟨rfl, n3, rfl⟩; clear hc hf; replace HW3 := yh (HW3.out.drewN n3); replace KW3 := yh (KW3.out.drewN n3); generalize W3.drewN n3 = W3 at HW3 KW3 ⊢; have hc := HW3.out.cell; have hf := HW3.out.frozen; go_wp2_with fail; cases hh2 : hexv s[m] with
          | none =>
           go_quiet ((go_at_call 53; exact Calls.quiet_of (index_hex_none s[m] hh2 _))); go_wp2_with fail
           go_ret2
           have hx := HX2.out; unfold hexTail at hx; rw [show i + 2 = j from HJ.out, HD2.out, show j + 1 = m from HM.out] at hx; simp only [hh] at hx; rw [HD3.out, show i + 3 = m by have := HJ.out; have := HM.out; omega] at hx; simp only [hh2] at hx; subst hx; exact ⟨rfl, hl3, HW3.out.drewN _, KW3.out.drewN _⟩
          | some b =>
           have hb := hexv_lt hh2; have b0 : (0 : Int) ≤ (b : Int) := by omega
           have bd : decide ((b : Int) < 0) = false := by simp
           have bw : IntKind.i64.wrap (16 * (a : Int)) = 16 * (a : Int) := IntWalk.i64_in _ (by omega); have bw2 : IntKind.i64.wrap (16 * (a : Int) + (b : Int)) = 16 * (a : Int) + (b : Int) := IntWalk.i64_in _ (by omega); have bw3 : IntKind.u8.wrap (16 * (a : Int) + (b : Int)) = 16 * (a : Int) + (b : Int) := IntWalk.u8_in _ (by omega); go_quiet ((go_at_call 53; exact Calls.quiet_of (index_hex_some s[m] b hh2 _))); go_wp2_with fail; rw [rounds_succ]; go_wp2_with fail
           go_ret2
           have hx := HX2.out; unfold hexTail at hx; rw [show i + 2 = j from HJ.out, HD2.out, show j + 1 = m from HM.out] at hx; simp only [hh] at hx; rw [HD3.out, show i + 3 = m by have := HJ.out; have := HM.out; omega] at hx; simp only [hh2] at hx; subst hx; refine ⟨?_, hl3, HW3.out.drewN _, KW3.out.drewN _⟩; have : ((UInt8.ofNat (16 * a + b)).toNat : Int) = 16 * (a : Int) + (b : Int) := by
            rw [UInt8.toNat_ofNat', Nat.mod_eq_of_lt (by simp; omega)]; omega
           rw [this]; rfl
        · have hb3 : decide (s.size ≤ m) = true := by simp; omega
          have HSE := yh (show s.size = m by have := HM.out; omega); refine (ended_any g s (m) sv 0 0 true hb3 _ HW3.out).mono ?_; rintro e w1 ⟨rfl, n3, rfl⟩; go_wp2_with fail
          go_ret2
          have hx := HX2.out; unfold hexTail at hx; rw [show i + 2 = j from HJ.out, HD2.out, show j + 1 = m from HM.out] at hx; simp only [hh] at hx; rw [← HSE.out, drop_end] at hx; subst hx; refine ⟨rfl, ?_, KW3.out.drewN _⟩; have := HW3.out.drewN n3; rw [← HSE.out] at this; exact this
     · have hb2 : decide (s.size ≤ j) = true := by simp; omega
       have HSE := yh (show s.size = j by have := HJ.out; omega); go_enter Tryz.func72, Tryz.ntmps72; go_wp2_with fail; generalize hW : w.setCell _ _ = W at *; clear hc hf; have hc := H.out.cell; have hf := H.out.frozen; refine (ended_any g s (i + 1) sv 0 0 false hb0 _ H.out).mono ?_; rintro e w1 ⟨rfl, n1, rfl⟩; go_wp2_with fail; go_quiet (fail); have c110 := C110.out; have c114 := C114.out; have c116 := C116.out; have c34 := C34.out; have c92 := C92.out; have c120 := C120.out; go_wp2_with fail; clear c110; clear c114; clear c116; clear c34; clear c92; clear c120; refine wp_loop_rounds 3 ?_
       rw [rounds_succ]; go_wp2_with fail; generalize hW2 : (W.drewN _).setCell _ _ = W2; have HW2 : ScB W2 g s j sv 0 0 := by rw [← hW2, ← HJ.out]; exact (H.out.drewN _).step
       have KW2 : Keep (some g) w W2 := by rw [← hW2]; exact (K1.out.drewN _).set _ _ (.inl rfl)
       have HW2 := yh HW2; have KW2 := yh KW2; clear hW2 hc hf; have hc := HW2.out.cell; have hf := HW2.out.frozen; refine (ended_any g s (j) sv 0 0 true hb2 _ HW2.out).mono ?_; rintro e w1 ⟨rfl, n2, rfl⟩; go_wp2_with fail
       go_ret2
       have hx := HX2.out; unfold hexTail at hx; rw [show i + 2 = s.size from HJ.out.trans HSE.out.symm, drop_end] at hx; subst hx; refine ⟨rfl, ?_, KW2.out.drewN _⟩; have := HW2.out.drewN n2; rw [← HSE.out] at this; exact this
   have h120' : (s[i + 1] == 120) = false := by simpa using h120
   have C120 := yh (show ((s[i + 1].toNat : Int) == 120) = false from byte_eq _ 120 false (by omega) h120'); clear h120; go_enter Tryz.func72, Tryz.ntmps72; go_wp2_with fail; generalize hW : w.setCell _ _ = W at *; clear hc hf; have hc := H.out.cell; have hf := H.out.frozen; refine (ended_any g s (i + 1) sv 0 0 false hb0 _ H.out).mono ?_; rintro e w1 ⟨rfl, n1, rfl⟩; go_wp2_with fail; go_quiet (fail); have c110 := C110.out; have c114 := C114.out; have c116 := C116.out; have c34 := C34.out; have c92 := C92.out; have c120 := C120.out; go_wp2_with fail; clear c110; clear c114; clear c116; clear c34
   clear c92; clear c120
   go_ret2
   have hr : R = .bad (i + 1) := by rw [← HR.out, HD.out, HX.out _ _ rfl, if_neg (by simp [h120'])]
   subst hr; exact ⟨rfl, hlt, H.out.drewN _, K1.out.drewN _⟩
 · have hb0 : decide (s.size ≤ i + 1) = true := by simp; omega
   have HSE := yh (show s.size = i + 1 by omega); go_enter Tryz.func72, Tryz.ntmps72; go_wp2_with fail; refine (ended_any g s (i + 1) sv 0 0 true hb0 _ H.out).mono ?_; rintro e w1 ⟨rfl, n1, rfl⟩; go_wp2_with fail
   go_ret2
   have hr : R = .ended := by rw [← HR.out, ← HSE.out, drop_end, escape]
   subst hr; refine ⟨rfl, ?_, K1.out.drewN _⟩; have := H.out.drewN n1; rw [← HSE.out] at this; exact this
end Go.Proofs.YtmfabihndpidnaaGreatDoor
namespace Go.Proofs.YtmfabihndpidnaaGreatDoor
set_option maxHeartbeats 8000000
open Go.RowKit
set_option maxRecDepth 100000
set_option linter.unusedVariables false
set_option linter.unusedSimpArgs false
theorem info5 : (Tryz.prog.info? 5).map (fun i => (i.zero, i.size, i.bytes)) = some (some (.int .u8 0), 1, 1) := by kernel_rfl
theorem strOfNums_bytes (l : Bs) : strOfNums (l.map fun b => (b.toNat : Int)) = mkS l := by
 simp [strOfNums, mkS, Function.comp_def]
theorem own_string_bytes {w : World} {base n : Nat} {v : Value} {l : Bs} (h : w.ownsRow base 5 1 v n (Lib.byteCells l)) : (convert 48 9 v).run Tryz.prog w = .ok (.string (mkS l)) w := by
 have hl : l.length = n := by have := h.1; simpa [Lib.byteCells] using this
 rcases h.2 with ⟨rfl, rfl⟩ | ⟨g, cap, cur, rfl, _⟩
 · obtain rfl : l = [] := List.eq_nil_of_length_eq_zero hl; exact run_convert_bytes_nil w 48 5 Tryz.underlying48 Tryz.underlying5 0 0 9 Tryz.underlying9
 · rw [← strOfNums_bytes]; refine run_convert_bytes_arg w 48 5 Tryz.underlying48 Tryz.underlying5 g 0 n cap (l.map fun b => (b.toNat : Int)) (by simpa using hl) (fun i hi => ?_) 9 Tryz.underlying9; have hc := h.cells (g := g) rfl i (.int .u8 ((l.map fun b => (b.toNat : Int)).getD i 0)) (by
    have : i < l.length := by omega
    simp [Lib.byteCells, List.getElem?_eq_getElem this, List.getD_eq_getElem?_getD])
   have ha : (⟨g, 0, none⟩ : Addr).add i = ⟨g, 0 + i, none⟩ := by unfold Addr.add; split <;> simp_all
   rwa [ha] at hc
theorem escape_byte_ge {q : Nat} {l : Bs} {b : UInt8} {q' : Nat} (h : escape q l = .byte b q') : q < q' := by
 cases l with
 | nil => cases h
 | cons d t =>
  rw [escape_cons] at h; repeat' split at h
  all_goals first | (cases h; omega) | skip
  unfold hexTail at h; repeat' split at h
  all_goals first | (cases h; omega) | cases h
def quTok (i : Nat) : Except Flt (Bs × Nat) → Except Flt (Tok × Nat)
 | .error f => .error f
 | .ok (s, q) => .ok (⟨2, i, s⟩, q)
theorem quoted_walk (g base : Nat) (s : ByteArray) (i : Nat) (sv : Value) (ts : List Tok) (hs : s.size ≤ 4096) (hi : i < s.size) (w : World) (h : ScB w g s i sv 0 0) (ho : w.ownsRow base 96 3 sv ts.length (tokCells ts)) (hb : base ≤ g) (hn : ts.length ≤ 10000)
 (R : Except Flt (Bs × Nat)) (n0 : Nat) (hn0 : s.size < n0 + i + 1) (hR : quoted i n0 (i + 1) (s.data.toList.drop (i + 1)) [] = R) :
 Calls Tryz.prog 51 #[.pointer (some ⟨g, 0, none⟩)] w (SOut g base s ts w (quTok i R)) := by
 have hc := h.cell; have hf := h.frozen; have H := yh h; have HO := yh ho; have HR := yh hR; have hlt := h.lt; have hwr : IntKind.i64.wrap ((i : Int) + 1) = (i : Int) + 1 := IntWalk.i64_in _ (by omega); obtain ⟨i0, hi5, hz0, hz1, hz2⟩ := info_parts info5; have HI := yh hi5; have HZ0 := yh hz0; have HZ1 := yh hz1; have HZ2 := yh hz2; clear h ho hR hi5 hz0 hz1 hz2; go_enter Tryz.func51, Tryz.ntmps51; go_wp2_with fail; go_loopw [4] (fun ov wr => ∃ (n k : Nat) (acc : Bs), k ≤ s.size ∧ i < k ∧ s.size < n + k ∧ acc.length ≤ k ∧ quoted i n k (s.data.toList.drop k) acc = R ∧ wr.ownsRow w.heap.size 5 1 ov acc.length (Lib.byteCells acc) ∧ ScB wr g s k sv 0 0 ∧ Keep (some g) w wr) (fun _ wr => s.size - scAt wr g)
 case atStart => exact ⟨n0, i + 1, [], by omega, by omega, by omega, by simp, HR.out, ⟨rfl, .inl ⟨rfl, rfl⟩⟩, H.out.step, (Keep.refl _ _).set _ _ (.inl rfl)⟩
 case round =>
  obtain ⟨n, k, acc, hk, hik, hnk, hak, he, hov, hb1, hkp⟩ := hrel; have HB := yh hb1; have HE := yh he; have HK := yh hkp; have HV := yh hov; clear hb1 he hkp hc hf hov; have hc := HB.out.cell; have hf := HB.out.frozen; by_cases hlt2 : k < s.size
  · have hb0 : decide (s.size ≤ k) = false := by simp; omega
    have hi0 : (0 : Int) ≤ (k : Int) := by omega
    have hi1 : (k : Int) < (s.size : Int) := by omega
    have hi4 : (k : Int) < 4096 := by omega
    have hwk : IntKind.i64.wrap ((k : Int) + 1) = (k : Int) + 1 := IntWalk.i64_in _ (by omega); have HD := yh (drop_byte s k hlt2); cases n with
    | zero => omega
    | succ n =>
    by_cases h34 : (s[k] == 34) = true
    · have c34 : ((s[k].toNat : Int) == 34) = true := byte_eq s[k] 34 true (by omega) h34; go_wp2_with fail; refine (ended_any g s k sv 0 0 false hb0 _ HB.out).mono ?_; rintro e w1 ⟨rfl, n1, rfl⟩; go_wp2_with fail; go_quiet (fail); have hcv : ∀ x y, (convert 48 9 u4).run Tryz.prog ((wr.drewN y).setCell ⟨g, 1, none⟩ x) = .ok (.string (mkS acc)) ((wr.drewN y).setCell ⟨g, 1, none⟩ x) := fun x y => own_string_bytes (own_keep HV.out (((Keep.refl (some g) wr).drewN y).set _ _ (.inl rfl)) (NotRow.blk HB.out (by decide)))
      go_wp2_with fail; have HW := (HB.out.drewN (n1 + nq)).step; refine (add_any g base s (k + 1) sv 0 0 ts ⟨2, i, acc⟩ _ HW (own_keep HO.out ((HK.out.drewN _).set _ _ (.inl rfl)) (NotRow.blk H.out (by decide))) hb hn).mono ?_; rintro e w6 ⟨rfl, ⟨sv6, hb6, ho6⟩, hbl⟩; go_wp2_with fail; go_ret; have hRk : R = .ok (acc, k + 1) := by rw [← HE.out, HD.out, quoted, if_pos h34]
      subst hRk; exact ⟨rfl, ⟨sv6, hb6, ho6⟩, (((HK.out.drewN _).set _ _ (.inl rfl)).belowAt hb (by omega)).trans hbl⟩
    · have h34' : (s[k] == 34) = false := by simpa using h34
      have c34 : ((s[k].toNat : Int) == 34) = false := byte_eq s[k] 34 false (by omega) h34'; by_cases hp : printable s[k] = true
      · by_cases h92 : (s[k] == 92) = true
        · have c92 : ((s[k].toNat : Int) != 92) = false := byte_ne s[k] 92 false (by omega) h92; have HQ := yh (show R = (match escape k (s.data.toList.drop (k + 1)) with | .ended => .error ⟨51, i⟩ | .bad q' => .error ⟨50, q'⟩ | .byte b q' => quoted i n (q' + 1) ((s.data.toList.drop (k + 1)).drop (q' - k)) (acc ++ [b])) from by
           rw [← HE.out, HD.out, quoted, if_neg h34, if_neg (by simp [hp]), if_neg (by simp [beq_iff_eq.1 h92])]; rfl)
          go_wp2_with fail; refine (ended_any g s k sv 0 0 false hb0 _ HB.out).mono ?_; rintro e w1 ⟨rfl, n1, rfl⟩; go_wp2_with fail; go_quiet (fail); go_wp2_with fail; refine (printable_any s[k] true hp _).mono ?_; rintro e wx ⟨rfl, rfl⟩; go_wp2_with fail; cases hx : escape k (s.data.toList.drop (k + 1)) with
          | ended =>
           refine (escape_walk g s k sv hs hlt2 _ (HB.out.drewN _) _ hx).mono ?_; rintro e w5 ⟨rfl, hb5, hk5⟩; go_wp2_with fail; refine (ended_any g s s.size sv 0 0 true (by simp) _ hb5).mono ?_; rintro e w6 ⟨rfl, n6, rfl⟩; go_wp2_with fail; refine (sc_fail g s _ sv 0 0 _ _ _ (hb5.drewN _)).mono ?_; rintro e w7 ⟨rfl, hb7, hk7⟩; go_wp2_with fail; go_ret; have hr := HQ.out; rw [hx] at hr; subst hr; exact ⟨rfl, ⟨_, _, hb7⟩, ((((HK.out.drewN _).trans hk5).drewN _).trans hk7).belowAt hb (by omega)⟩
          | bad q =>
           refine (escape_walk g s k sv hs hlt2 _ (HB.out.drewN _) _ hx).mono ?_; rintro e w5 ⟨rfl, hq, hb5, hk5⟩; go_wp2_with fail; refine (ended_any g s q sv 0 0 false (by simp; omega) _ hb5).mono ?_; rintro e w6 ⟨rfl, n6, rfl⟩; clear hc hf; have hc := hb5.cell; go_wp2_with fail; refine (sc_fail g s _ sv 0 0 _ _ _ (hb5.drewN _)).mono ?_; rintro e w7 ⟨rfl, hb7, hk7⟩; go_wp2_with fail; go_ret; have hr := HQ.out; rw [hx] at hr; subst hr; exact ⟨rfl, ⟨_, _, hb7⟩, ((((HK.out.drewN _).trans hk5).drewN _).trans hk7).belowAt hb (by omega)⟩
          | byte b q =>
           have hqk := escape_byte_ge hx; refine (escape_walk g s k sv hs hlt2 _ (HB.out.drewN _) _ hx).mono ?_; rintro e w5 ⟨rfl, hq, hb5, hk5⟩; go_wp2_with fail; refine (ended_any g s q sv 0 0 false (by simp; omega) _ hb5).mono ?_; rintro e w6 ⟨rfl, n6, rfl⟩; clear hc hf; have HB5 := yh (hb5.drewN n6); have HK5 := yh ((((Keep.refl (some g) wr).drewN (n1 + nq)).trans hk5).drewN n6); have HV5 := yh (own_keep HV.out HK5.out (NotRow.blk HB.out (by decide))); clear hb5 hk5; generalize w5.drewN n6 = w5 at HB5 HK5 HV5 ⊢; have hwq : IntKind.i64.wrap ((q : Int) + 1) = (q : Int) + 1 := IntWalk.i64_in _ (by omega)
           have NB := yh (Blk.new w5 [.int .u8 (b.toNat : Int)] 5); have OWA := yh (own_keep HV5.out ((Keep.refl none _).alloc (.cells #[.int .u8 (b.toNat : Int)] 5)) (NotRow.none _ _)); have hsz5 := HK5.out.size; have hszw := HK.out.size; go_wp2_with (at_builtin; refine wpList_append_lies _ (by rfl) _ _ _ (by rfl) w.heap.size 5 i0 _ 1 1 Tryz.underlying48 HI.out HZ0.out HZ1.out HZ2.out rfl (by omega) u4 acc.length (Lib.byteCells acc) (by rfl) OWA.out ⟨w5.heap.size, 0, none⟩ 1 1 [.int .u8 (b.toNat : Int)] (by rfl) (by rfl) (World.news_of_block NB.out) (by simp [Value.oneCell']) (by omega) (by unfold maxLen; omega) (by omega) (by simp; omega) (w5.heap.size + 1) (by simp) ?_)
           intro gg cap w7 hown7 hgrow7 hat7 hlt7; have HK7 := yh (show Keep (some g) w w7 from ((HK.out.trans HK5.out).alloc _).grown hgrow7 (fun k hk => .inr (own_base OWA.out k hk))); have HB7 := yh (show ScB w7 g s q sv 0 0 from Blk.grown (Blk.alloc HB5.out _) hgrow7 (own_ne OWA.out (Blk.alloc HB5.out _) (by decide))); have OW7 := yh hown7; clear hown7 hgrow7 hat7; have hc := HB7.out.cell; have hf := HB7.out.frozen; go_wp2_with fail; go_roundw; case rel =>
            refine ⟨n, q + 1, acc ++ [b], by omega, by omega, by omega, by simp; omega, ?_, ?_, HB7.out.step, HK7.out.set _ _ (.inl rfl)⟩
            · have hr := HQ.out; rw [hx] at hr; rw [hr]; simp only [List.drop_drop]; rw [show k + 1 + (q - k) = q + 1 by omega]
            · have := own_keep OW7.out ((Keep.refl (some g) w7).set ⟨g, 1, none⟩ (.int .i64 ((q : Int) + 1)) (.inl rfl)) (NotRow.blk HB7.out (by decide)); simpa [Lib.byteCells] using this
           case measure =>
            rw [HB.out.at_, (HB7.out.step).at_]; omega
        · have h92' : (s[k] == 92) = false := by simpa using h92
          have c92 : ((s[k].toNat : Int) != 92) = true := byte_ne s[k] 92 true (by omega) h92'; go_wp2_with fail; refine (ended_any g s k sv 0 0 false hb0 _ HB.out).mono ?_; rintro e w1 ⟨rfl, n1, rfl⟩; go_wp2_with fail; go_quiet (fail); go_wp2_with fail; refine (printable_any s[k] true hp _).mono ?_; rintro e wx ⟨rfl, rfl⟩; clear hc hf; have HB5 := yh (HB.out.drewN (n1 + nq)); have HK5 := yh ((Keep.refl (some g) wr).drewN (n1 + nq)); have HV5 := yh (own_keep HV.out HK5.out (NotRow.blk HB.out (by decide))); generalize wr.drewN (n1 + nq) = w5 at HB5 HK5 HV5 ⊢; have NB := yh (Blk.new w5 [.int .u8 (s[k].toNat : Int)] 5)
          have OWA := yh (own_keep HV5.out ((Keep.refl none _).alloc (.cells #[.int .u8 (s[k].toNat : Int)] 5)) (NotRow.none _ _)); have hsz5 := HK5.out.size; have hszw := HK.out.size; go_wp2_with (at_builtin; refine wpList_append_lies _ (by rfl) _ _ _ (by rfl) w.heap.size 5 i0 _ 1 1 Tryz.underlying48 HI.out HZ0.out HZ1.out HZ2.out rfl (by omega) u4 acc.length (Lib.byteCells acc) (by rfl) OWA.out ⟨w5.heap.size, 0, none⟩ 1 1 [.int .u8 (s[k].toNat : Int)] (by rfl) (by rfl) (World.news_of_block NB.out) (by simp [Value.oneCell']) (by omega) (by unfold maxLen; omega) (by omega) (by simp; omega) (w5.heap.size + 1) (by simp) ?_)
          intro gg cap w7 hown7 hgrow7 hat7 hlt7; have HK7 := yh (show Keep (some g) w w7 from ((HK.out.trans HK5.out).alloc _).grown hgrow7 (fun k hk => .inr (own_base OWA.out k hk))); have HB7 := yh (show ScB w7 g s k sv 0 0 from Blk.grown (Blk.alloc HB5.out _) hgrow7 (own_ne OWA.out (Blk.alloc HB5.out _) (by decide))); have OW7 := yh hown7; clear hown7 hgrow7 hat7; have hc := HB7.out.cell; have hf := HB7.out.frozen; go_wp2_with fail; go_roundw; case rel =>
           refine ⟨n, k + 1, acc ++ [s[k]], by omega, by omega, by omega, by simp; omega, ?_, ?_, HB7.out.step, HK7.out.set _ _ (.inl rfl)⟩
           · rw [← HE.out, HD.out, quoted, if_neg h34, if_neg (by simp [hp]), if_pos (by simpa using h92)]
           · have := own_keep OW7.out ((Keep.refl (some g) w7).set ⟨g, 1, none⟩ (.int .i64 ((k : Int) + 1)) (.inl rfl)) (NotRow.blk HB7.out (by decide)); simpa [Lib.byteCells] using this
          case measure =>
           rw [HB.out.at_, (HB7.out.step).at_]; omega
      · have hp' : printable s[k] = false := by simpa using hp
        go_wp2_with fail; refine (ended_any g s k sv 0 0 false hb0 _ HB.out).mono ?_; rintro e w1 ⟨rfl, n1, rfl⟩; go_wp2_with fail; go_quiet (fail); go_wp2_with fail; refine (printable_any s[k] false hp' _).mono ?_; rintro e wx ⟨rfl, rfl⟩; go_wp2_with fail; refine (sc_fail g s k sv 0 0 _ _ _ (HB.out.drewN _)).mono ?_; rintro e w5 ⟨rfl, hb5, hk5⟩; go_wp2_with fail; go_ret; have : R = .error ⟨50, k⟩ := by rw [← HE.out, HD.out, quoted, if_neg h34, if_pos (by simp [hp'])]
        subst this; exact ⟨rfl, ⟨_, _, hb5⟩, ((HK.out.drewN _).trans hk5).belowAt hb (by omega)⟩
  · have hb0 : decide (s.size ≤ k) = true := by simp; omega
    go_wp2_with fail; refine (ended_any g s k sv 0 0 true hb0 _ HB.out).mono ?_; rintro e w1 ⟨rfl, n1, rfl⟩; go_wp2_with fail; refine (sc_fail g s k sv 0 0 _ _ _ (HB.out.drewN _)).mono ?_; rintro e w5 ⟨rfl, hb5, hk5⟩; go_wp2_with fail; go_ret; have : R = .error ⟨51, i⟩ := by
     rw [← HE.out, show k = s.size from by omega, drop_end]; cases n <;> rw [quoted]
    subst this; exact ⟨rfl, ⟨_, _, hb5⟩, ((HK.out.drewN _).trans hk5).belowAt hb (by omega)⟩
end Go.Proofs.YtmfabihndpidnaaGreatDoor
