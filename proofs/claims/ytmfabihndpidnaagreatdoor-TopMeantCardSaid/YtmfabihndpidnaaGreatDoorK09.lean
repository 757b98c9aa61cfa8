/-
  The scanner of lens texts: what bytes it takes. The scanner of lens texts: blanks and comments. The scanner of lens texts: a fault is laid down; a token is added to the row. The scanner of lens texts: an expression between slashes.
-/
import Derived.Test.YtmfabihndpidnaaGreatDoorK04
import Derived.Test.YtmfabihndpidnaaGreatDoorK01
import Derived.Test.YtmfabihndpidnaaGreatDoorK03
import Derived.Deep.AppendLies
import Derived.Test.YtmfabihndpidnaaGreatDoorK07
namespace Go.Proofs.YtmfabihndpidnaaGreatDoor
open Go.RowKit
set_option maxRecDepth 100000
set_option linter.unusedVariables false
set_option linter.unusedSimpArgs false
theorem digit_int (n : Int) (w : World) : Calls Tryz.prog 49 #[.int .u8 n] w fun e w' => e = .returned (.bool (decide (48 ≤ n) && decide (n ≤ 57))) ∧ w = w' := by
 by_cases h : 48 ≤ n
 · have hb : decide (48 ≤ n) = true := by simpa using h
   rw [hb]; go_enter Tryz.func49, Tryz.ntmps49
   go_wp2
   go_ret; exact ⟨rfl, rfl⟩
 · have hb : decide (48 ≤ n) = false := by simpa using h
   rw [hb]; go_enter Tryz.func49, Tryz.ntmps49
   go_wp2
   go_ret; exact ⟨rfl, rfl⟩
theorem printable_int (n : Int) (w : World) : Calls Tryz.prog 71 #[.int .u8 n] w fun e w' => e = .returned (.bool (decide (32 ≤ n) && decide (n ≤ 126))) ∧ w = w' := by
 by_cases h : 32 ≤ n
 · have hb : decide (32 ≤ n) = true := by simpa using h
   rw [hb]; go_enter Tryz.func71, Tryz.ntmps71
   go_wp2
   go_ret; exact ⟨rfl, rfl⟩
 · have hb : decide (32 ≤ n) = false := by simpa using h
   rw [hb]; go_enter Tryz.func71, Tryz.ntmps71
   go_wp2
   go_ret; exact ⟨rfl, rfl⟩
theorem letter_int (n : Int) (w : World) : Calls Tryz.prog 48 #[.int .u8 n] w fun e w' => e = .returned (.bool (n == 95 || (decide (97 ≤ n) && decide (n ≤ 122)) || (decide (65 ≤ n) && decide (n ≤ 90)))) ∧ w = w' := by
 by_cases h1 : n = 95
 · subst h1; go_enter Tryz.func48, Tryz.ntmps48
   go_wp2
   go_ret; exact ⟨rfl, rfl⟩
 have b1 : (n == 95) = false := by simpa using h1
 rw [b1]; clear h1; by_cases h2 : 97 ≤ n
 · have b2 : decide (97 ≤ n) = true := by simpa using h2
   rw [b2]; by_cases h3 : n ≤ 122
   · have b3 : decide (n ≤ 122) = true := by simpa using h3
     rw [b3]; go_enter Tryz.func48, Tryz.ntmps48
     go_wp2
     go_ret; exact ⟨rfl, rfl⟩
   · have b3 : decide (n ≤ 122) = false := by simpa using h3
     have b4 : decide (65 ≤ n) = true := by simp; omega
     have b5 : decide (n ≤ 90) = false := by simp; omega
     rw [b3, b4, b5]; go_enter Tryz.func48, Tryz.ntmps48
     go_wp2
     go_ret; exact ⟨rfl, rfl⟩
 · have b2 : decide (97 ≤ n) = false := by simpa using h2
   rw [b2]; by_cases h4 : 65 ≤ n
   · have b4 : decide (65 ≤ n) = true := by simpa using h4
     rw [b4]; go_enter Tryz.func48, Tryz.ntmps48
     go_wp2
     go_ret; exact ⟨rfl, rfl⟩
   · have b4 : decide (65 ≤ n) = false := by simpa using h4
     rw [b4]; go_enter Tryz.func48, Tryz.ntmps48
     go_wp2
     go_ret; exact ⟨rfl, rfl⟩
theorem u8_le (a b : UInt8) : decide (a ≤ b) = decide ((a.toNat : Int) ≤ (b.toNat : Int)) := by
 simp [UInt8.le_iff_toNat_le]
theorem letter_any (c : UInt8) (b : Bool) (hb : letter c = b) (w : World) : Calls Tryz.prog 48 #[.int .u8 (c.toNat : Int)] w fun e w' => e = .returned (.bool b) ∧ w = w' := by
 have : ((c.toNat : Int) == 95 || (decide (97 ≤ (c.toNat : Int)) && decide ((c.toNat : Int) ≤ 122)) || (decide (65 ≤ (c.toNat : Int)) && decide ((c.toNat : Int) ≤ 90))) = b := by
  rw [← hb]; unfold letter; simp only [u8_le]; have : ((c.toNat : Int) == 95) = (c == 95) := by
   rw [Bool.eq_iff_iff]; simp [← UInt8.toNat_inj]; omega
  rw [this]; rfl
 rw [← this]; exact letter_int _ w
theorem digit_any (c : UInt8) (b : Bool) (hb : digit c = b) (w : World) : Calls Tryz.prog 49 #[.int .u8 (c.toNat : Int)] w fun e w' => e = .returned (.bool b) ∧ w = w' := by
 have : (decide (48 ≤ (c.toNat : Int)) && decide ((c.toNat : Int) ≤ 57)) = b := by
  rw [← hb]; unfold digit; simp only [u8_le]; rfl
 rw [← this]; exact digit_int _ w
theorem printable_any (c : UInt8) (b : Bool) (hb : printable c = b) (w : World) : Calls Tryz.prog 71 #[.int .u8 (c.toNat : Int)] w fun e w' => e = .returned (.bool b) ∧ w = w' := by
 have : (decide (32 ≤ (c.toNat : Int)) && decide ((c.toNat : Int) ≤ 126)) = b := by
  rw [← hb]; unfold printable; simp only [u8_le]; rfl
 rw [← this]; exact printable_int _ w
end Go.Proofs.YtmfabihndpidnaaGreatDoor
namespace Go.Proofs.YtmfabihndpidnaaGreatDoor
set_option maxHeartbeats 4000000
open Go.RowKit
set_option maxRecDepth 100000
set_option linter.unusedVariables false
set_option linter.unusedSimpArgs false
def ScB (w : World) (g : Nat) (s : ByteArray) (i : Nat) (sv : Value) (c p : Int) : Prop :=
 Blk w g [.string s, .int .i64 i, sv, .int .i64 c, .int .i64 p, .string ⟨#[]⟩] 92
theorem ScB.keep {w w' : World} {g : Nat} {s : ByteArray} {i : Nat} {sv : Value} {c p : Int} {a : Option Nat} (h : ScB w g s i sv c p) (k : Keep a w w') (ha : some g ≠ a) : ScB w' g s i sv c p := Blk.keep h k ha
theorem ScB.drewN {w : World} {g : Nat} {s : ByteArray} {i : Nat} {sv : Value} {c p : Int} (h : ScB w g s i sv c p) (n : Nat) : ScB (w.drewN n) g s i sv c p := h
theorem ScB.step {w : World} {g : Nat} {s : ByteArray} {i : Nat} {sv : Value} {c p : Int} (h : ScB w g s i sv c p) : ScB (w.setCell ⟨g, 1, none⟩ (.int .i64 ((i : Int) + 1))) g s (i + 1) sv c p := by
 have := Blk.set h 1 (.int .i64 ((i : Int) + 1)); unfold ScB; rw [show ((i + 1 : Nat) : Int) = (i : Int) + 1 from by omega]; exact this
def scAt (w : World) (g : Nat) : Nat := match w.cell? ⟨g, 1, none⟩ with | some (.int _ n) => n.toNat | _ => 0
theorem ScB.at_ {w : World} {g : Nat} {s : ByteArray} {i : Nat} {sv : Value} {c p : Int} (h : ScB w g s i sv c p) : scAt w g = i := by
 simp [scAt, Blk.cell h]
theorem drop_byte (s : ByteArray) (k : Nat) (h : k < s.size) : s.data.toList.drop k = s[k] :: s.data.toList.drop (k + 1) := by
 rw [List.drop_eq_getElem_cons (by simpa using h)]; rfl
theorem drop_end (s : ByteArray) : s.data.toList.drop s.size = [] := by
 rw [List.drop_eq_nil_iff]; show s.data.toList.length ≤ s.data.size
 simp
theorem ended_any (g : Nat) (s : ByteArray) (i : Nat) (sv : Value) (c p : Int) (b : Bool) (hb : decide (s.size ≤ i) = b) (w : World) (h : ScB w g s i sv c p) :
 Calls Tryz.prog 28 #[.pointer (some ⟨g, 0, none⟩)] w fun e w' => e = .returned (.bool b) ∧ ∃ n, w' = w.drewN n := by
 have hc := h.cell; clear h; subst hb; go_enter Tryz.func28, Tryz.ntmps28
 go_wp2
 go_quiet (fail)
 go_wp2
 go_ret; exact ⟨rfl, _, rfl⟩
theorem byte_eq (a : UInt8) (n : Nat) (b : Bool) (hn : n < 256) (h : (a == UInt8.ofNat n) = b) : ((a.toNat : Int) == (n : Int)) = b := by
 rw [← h, Bool.eq_iff_iff]; simp only [beq_iff_eq, Int.natCast_inj, ← UInt8.toNat_inj, UInt8.toNat_ofNat']; rw [Nat.mod_eq_of_lt (by simpa using hn)]
theorem byte_ne (a : UInt8) (n : Nat) (b : Bool) (hn : n < 256) (h : (a == UInt8.ofNat n) = !b) : ((a.toNat : Int) != (n : Int)) = b := by
 rw [bne, byte_eq a n (!b) hn h, Bool.not_not]
theorem skip_walk (g : Nat) (s : ByteArray) (i : Nat) (sv : Value) (c p : Int) (hs : s.size ≤ 4096) (hi : i ≤ s.size) (w : World) (h : ScB w g s i sv c p) :
 Calls Tryz.prog 27 #[.pointer (some ⟨g, 0, none⟩)] w fun e w' => e = .returned (.tuple #[]) ∧ ∃ j, j ≤ s.size ∧ i ≤ j ∧ s.data.toList.drop j = skip false (s.data.toList.drop i) ∧ ScB w' g s j sv c p ∧ Keep (some g) w w' := by
 go_enter Tryz.func27, Tryz.ntmps27; go_wp2_with fail; go_loopw [] (fun wr => ∃ k, k ≤ s.size ∧ i ≤ k ∧ skip false (s.data.toList.drop k) = skip false (s.data.toList.drop i) ∧ ScB wr g s k sv c p ∧ Keep (some g) w wr) (fun wr => s.size - scAt wr g)
 case atStart => exact ⟨i, hi, Nat.le_refl _, rfl, h, Keep.refl _ _⟩
 case round =>
  obtain ⟨k, hk, hik, he, hb, hkp⟩ := hrel; have HB := yh hb; have HE := yh he; have HK := yh hkp; clear hb he hkp; by_cases hlt : k < s.size
  · have hb0 : decide (s.size ≤ k) = false := by simp; omega
    have hi0 : (0 : Int) ≤ (k : Int) := by omega
    have hi1 : (k : Int) < (s.size : Int) := by omega
    have hi4 : (k : Int) < 4096 := by omega
    have HD := yh (drop_byte s k hlt); by_cases h35 : (s[k] == 35) = true
    · have c35 := byte_eq s[k] 35 true (by omega) h35; go_wp2_with fail; refine (ended_any g s k sv c p false hb0 _ HB.out).mono ?_; rintro e w1 ⟨rfl, n1, rfl⟩; have hc := HB.out.cell; go_wp2_with fail; go_quiet (fail); clear hc; go_wp2_with fail; go_loopw [] (fun wr2 => ∃ k2, k2 ≤ s.size ∧ k ≤ k2 ∧ skip true (s.data.toList.drop k2) = skip false (s.data.toList.drop i) ∧ ScB wr2 g s k2 sv c p ∧ Keep (some g) w wr2 ∧ (k2 = k → 35 = s[k])) (fun wr2 => s.size - scAt wr2 g)
      case atStart =>
       refine ⟨k, hk, Nat.le_refl _, ?_, HB.out.drewN _, HK.out.drewN _, fun _ => (beq_iff_eq.1 h35).symm⟩; rw [← HE.out, HD.out, skip, skip, beq_iff_eq.1 h35]; rfl
      case round =>
       obtain ⟨k2, hk2, hkk, he2, hb2, hkp2, hfirst⟩ := hrel; have HB2 := yh hb2; have HE2 := yh he2; have HK2 := yh hkp2; have HFI := yh hfirst; clear hb2 he2 hkp2 hfirst; have hc2 := HB2.out.cell; by_cases hlt2 : k2 < s.size
       · have hb02 : decide (s.size ≤ k2) = false := by simp; omega
         have hi02 : (0 : Int) ≤ (k2 : Int) := by omega
         have hi12 : (k2 : Int) < (s.size : Int) := by omega
         have hi42 : (k2 : Int) < 4096 := by omega
         have HD2 := yh (drop_byte s k2 hlt2); by_cases h10 : (s[k2] == 10) = true
         · have c10 := byte_ne s[k2] 10 false (by omega) h10; go_wp2_with fail; go_quiet ((go_at_call 28; exact Calls.quiet_of (ended_any g s k2 sv c p false hb02 _ (HB2.out.drewN _)))); clear hc2; go_wp2_with fail; go_roundw; case rel =>
            refine ⟨k2, hk2, by omega, ?_, HB2.out.drewN _, HK2.out.drewN _⟩; rw [← HE2.out, HD2.out, skip, skip, beq_iff_eq.1 h10]; rfl
           case measure =>
            rw [(HB2.out.drewN _).at_, HB.out.at_]; have : k2 ≠ k := by
             intro e; subst e; have := HFI.out rfl; rw [← this] at h10; cases h10
            omega
         · have h10' : (s[k2] == 10) = false := by simpa using h10
           have c10 := byte_ne s[k2] 10 true (by omega) h10'; go_wp2_with fail; go_quiet ((go_at_call 28; exact Calls.quiet_of (ended_any g s k2 sv c p false hb02 _ (HB2.out.drewN _)))); have hf2 := HB2.out.frozen; go_wp2_with fail; go_roundw; case rel =>
            refine ⟨k2 + 1, by omega, by omega, ?_, (HB2.out.drewN _).step, (HK2.out.drewN _).set _ _ (.inl rfl), by omega⟩; rw [← HE2.out, HD2.out, skip, h10']; rfl
           case measure =>
            rw [HB2.out.at_, ((HB2.out.drewN _).step).at_]; omega
       · have hb02 : decide (s.size ≤ k2) = true := by simp; omega
         go_wp2_with fail; go_quiet ((go_at_call 28; exact Calls.quiet_of (ended_any g s k2 sv c p true hb02 _ (HB2.out.drewN _)))); clear hc2; go_wp2_with fail; go_roundw; case rel =>
          refine ⟨k2, hk2, by omega, ?_, HB2.out.drewN _, HK2.out.drewN _⟩; rw [← HE2.out, show k2 = s.size from by omega, drop_end]; rfl
         case measure =>
          rw [(HB2.out.drewN _).at_, HB.out.at_]; omega
    · have h35' : (s[k] == 35) = false := by simpa using h35
      have c35 := byte_eq s[k] 35 false (by omega) h35'; by_cases h32 : (s[k] == 32) = true
      · have c32 := byte_eq s[k] 32 true (by omega) h32; go_wp2_with fail; refine (ended_any g s k sv c p false hb0 _ HB.out).mono ?_; rintro e w1 ⟨rfl, n1, rfl⟩; have hc := HB.out.cell; have hf := HB.out.frozen; go_wp2_with fail; go_quiet (fail); go_wp2_with fail; go_roundw; case rel =>
         refine ⟨k + 1, by omega, by omega, ?_, (HB.out.drewN _).step, (HK.out.drewN _).set _ _ (.inl rfl)⟩; rw [← HE.out, HD.out, skip, h35', if_neg (by decide), if_pos (by simp [blank, h32])]
        case measure =>
         rw [HB.out.at_, ((HB.out.drewN _).step).at_]; omega
      have h32' : (s[k] == 32) = false := by simpa using h32
      have c32 := byte_eq s[k] 32 false (by omega) h32'; clear h32; by_cases h9 : (s[k] == 9) = true
      · have c9 := byte_eq s[k] 9 true (by omega) h9; go_wp2_with fail; refine (ended_any g s k sv c p false hb0 _ HB.out).mono ?_; rintro e w1 ⟨rfl, n1, rfl⟩; have hc := HB.out.cell; have hf := HB.out.frozen; go_wp2_with fail; go_quiet (fail); go_wp2_with fail; go_roundw; case rel =>
         refine ⟨k + 1, by omega, by omega, ?_, (HB.out.drewN _).step, (HK.out.drewN _).set _ _ (.inl rfl)⟩; rw [← HE.out, HD.out, skip, h35', if_neg (by decide), if_pos (by simp [blank, h9])]
        case measure =>
         rw [HB.out.at_, ((HB.out.drewN _).step).at_]; omega
      have h9' : (s[k] == 9) = false := by simpa using h9
      have c9 := byte_eq s[k] 9 false (by omega) h9'; clear h9; by_cases h10 : (s[k] == 10) = true
      · have c10 := byte_eq s[k] 10 true (by omega) h10; go_wp2_with fail; refine (ended_any g s k sv c p false hb0 _ HB.out).mono ?_; rintro e w1 ⟨rfl, n1, rfl⟩; have hc := HB.out.cell; have hf := HB.out.frozen; go_wp2_with fail; go_quiet (fail); go_wp2_with fail; go_roundw; case rel =>
         refine ⟨k + 1, by omega, by omega, ?_, (HB.out.drewN _).step, (HK.out.drewN _).set _ _ (.inl rfl)⟩; rw [← HE.out, HD.out, skip, h35', if_neg (by decide), if_pos (by simp [blank, h10])]
        case measure =>
         rw [HB.out.at_, ((HB.out.drewN _).step).at_]; omega
      have h10' : (s[k] == 10) = false := by simpa using h10
      have c10 := byte_eq s[k] 10 false (by omega) h10'; clear h10; by_cases h13 : (s[k] == 13) = true
      · have c13 := byte_eq s[k] 13 true (by omega) h13; go_wp2_with fail; refine (ended_any g s k sv c p false hb0 _ HB.out).mono ?_; rintro e w1 ⟨rfl, n1, rfl⟩; have hc := HB.out.cell; have hf := HB.out.frozen; go_wp2_with fail; go_quiet (fail); go_wp2_with fail; go_roundw; case rel =>
         refine ⟨k + 1, by omega, by omega, ?_, (HB.out.drewN _).step, (HK.out.drewN _).set _ _ (.inl rfl)⟩; rw [← HE.out, HD.out, skip, h35', if_neg (by decide), if_pos (by simp [blank, h13])]
        case measure =>
         rw [HB.out.at_, ((HB.out.drewN _).step).at_]; omega
      have h13' : (s[k] == 13) = false := by simpa using h13
      have c13 := byte_eq s[k] 13 false (by omega) h13'; clear h13; go_wp2_with fail; refine (ended_any g s k sv c p false hb0 _ HB.out).mono ?_; rintro e w1 ⟨rfl, n1, rfl⟩; have hc := HB.out.cell; have hf := HB.out.frozen; go_wp2_with fail; go_quiet (fail); go_wp2_with fail; first | go_end0 | refine bodyPost_ret (results_none rfl _ _ _) rfl ?_
      refine ⟨rfl, k, hk, hik, ?_, HB.out.drewN _, HK.out.drewN _⟩; rw [← HE.out, HD.out, skip, h35', if_neg (by decide), if_neg (by simp [blank, h32', h9', h10', h13'])]
  · have hb0 : decide (s.size ≤ k) = true := by simp; omega
    go_wp2_with fail; refine (ended_any g s k sv c p true hb0 _ HB.out).mono ?_; rintro e w1 ⟨rfl, n1, rfl⟩; go_wp2_with fail; first | go_end0 | refine bodyPost_ret (results_none rfl _ _ _) rfl ?_
    refine ⟨rfl, k, hk, hik, ?_, HB.out.drewN _, HK.out.drewN _⟩; rw [← HE.out, show k = s.size from by omega, drop_end]; rfl
end Go.Proofs.YtmfabihndpidnaaGreatDoor
namespace Go.Proofs.YtmfabihndpidnaaGreatDoor
open Go.RowKit
set_option maxRecDepth 100000
set_option linter.unusedVariables false
set_option linter.unusedSimpArgs false
def tokCells : List Tok → List Value
 | [] => []
 | t :: ts => .int .i64 t.kind :: .int .i64 t.pl :: .string (mkS t.text) :: tokCells ts
theorem tokCells_snoc : ∀ (ts : List Tok) (t : Tok), tokCells (ts ++ [t]) = tokCells ts ++ [.int .i64 t.kind, .int .i64 t.pl, .string (mkS t.text)]
 | [], _ => rfl
 | _ :: ts, t => by simp [tokCells, tokCells_snoc ts t]
theorem tokCells_get : ∀ (ts : List Tok) (i : Nat) (t : Tok), ts[i]? = some t → (tokCells ts)[3 * i]? = some (.int .i64 t.kind) ∧ (tokCells ts)[3 * i + 1]? = some (.int .i64 t.pl) ∧ (tokCells ts)[3 * i + 2]? = some (.string (mkS t.text))
 | [], i, t, h => by simp at h
 | u :: ts, 0, t, h => by simp at h; subst h; exact ⟨rfl, rfl, rfl⟩
 | u :: ts, i + 1, t, h => by
  have := tokCells_get ts i t (by simpa using h); rw [show 3 * (i + 1) = 3 * i + 3 from by omega]; exact this
theorem info96 : (Tryz.prog.info? 96).map (fun i => (i.zero, i.size, i.bytes)) = some (some (.agg #[.int .i64 0, .int .i64 0, .string ⟨#[]⟩]), 3, 32) := by kernel_rfl
theorem Keep.belowAt {g base : Nat} {u v : World} (h : Keep (some g) u v) (hb : base ≤ g) (hs : base ≤ u.heap.size) : Below base u v :=
 ⟨h.os, h.tape, h.output, h.size, fun k hk => h.block k (by omega) (by simp; omega)⟩
theorem sc_fail (g : Nat) (s : ByteArray) (i : Nat) (sv : Value) (c p : Int) (c' p' : Int) (w : World) (h : ScB w g s i sv c p) :
 Calls Tryz.prog 50 #[.pointer (some ⟨g, 0, none⟩), .int .i64 c', .int .i64 p'] w fun e w' => e = .returned (.bool false) ∧ ScB w' g s i sv c' p' ∧ Keep (some g) w w' := by
 have hc := h.cell; have hf := h.frozen; have H := yh h; clear h; go_enter Tryz.func50, Tryz.ntmps50
 go_wp2
 go_ret; refine ⟨rfl, ((H.out.set 3 _).set 4 _).set 5 _, ?_⟩; have k1 := (Keep.refl (some g) w).set ⟨g, 3, none⟩ (.int .i64 c') (.inl rfl); have k2 := k1.set ⟨g, 4, none⟩ (.int .i64 p') (.inl rfl); exact k2.set ⟨g, 5, none⟩ (.string ⟨#[]⟩) (.inl rfl)
theorem add_any (g base : Nat) (s : ByteArray) (i : Nat) (sv : Value) (c p : Int) (ts : List Tok) (t : Tok) (w : World) (h : ScB w g s i sv c p) (ho : w.ownsRow base 96 3 sv ts.length (tokCells ts)) (hb : base ≤ g) (hn : ts.length ≤ 10000) :
 Calls Tryz.prog 30 #[.pointer (some ⟨g, 0, none⟩), .int .i64 t.kind, .int .i64 t.pl, .string (mkS t.text)] w fun e w' => e = .returned (.bool true) ∧ (∃ sv', ScB w' g s i sv' c p ∧ w'.ownsRow base 96 3 sv' (ts ++ [t]).length (tokCells (ts ++ [t]))) ∧ Below base w w' := by
 obtain ⟨i0, hi, hz0, hz1, hz2⟩ := info_parts info96; have hc := h.cell; have H := yh h; have HO := yh ho; have HI := yh hi; have HZ0 := yh hz0; have HZ1 := yh hz1; have HZ2 := yh hz2; have NB := yh (Blk.new w [.int .i64 t.kind, .int .i64 t.pl, .string (mkS t.text)] 96); have OWA := yh (own_keep ho ((Keep.refl none _).alloc (.cells #[.int .i64 t.kind, .int .i64 t.pl, .string (mkS t.text)] 96)) (NotRow.none _ _)); have HA := yh (h.keep ((Keep.refl none _).alloc (.cells #[.int .i64 t.kind, .int .i64 t.pl, .string (mkS t.text)] 96)) (by simp)); have hlt := h.lt
 clear h ho hi hz0 hz1 hz2; go_enter Tryz.func30, Tryz.ntmps30; go_wp2_with (at_builtin; refine wpList_append_lies _ (by rfl) _ _ _ (by rfl) base 96 i0 _ 3 32 Tryz.underlying39 HI.out HZ0.out HZ1.out HZ2.out rfl (by omega) sv ts.length (tokCells ts) (by rfl) OWA.out ⟨w.heap.size, 0, none⟩ 1 1 [.int .i64 t.kind, .int .i64 t.pl, .string (mkS t.text)] (by rfl) (by rfl) (World.news_of_block NB.out) (by simp [Value.oneCell']) (by omega) (by unfold maxLen; omega) (by omega) (by simp; omega) (w.heap.size + 1) (by simp) ?_); clear hc; intro gg cap w7 hown7 hgrow7 hat7 hlt7; have H7 := yh (show ScB w7 g s i sv c p from Blk.grown HA.out hgrow7 (own_ne OWA.out HA.out (by decide)))
 have hc := H7.out.cell; have hf := H7.out.frozen; have GR := yh hgrow7; have OW := yh hown7; have AT := yh hat7; clear hown7 hgrow7 hat7
 go_wp2
 go_ret; have K7 : Keep (some g) w7 (w7.setCell ⟨g, 2, none⟩ (.slice (some ⟨gg, 0, none⟩) (ts.length + 1) cap)) := (Keep.refl _ _).set _ _ (.inl rfl); refine ⟨rfl, ⟨_, H7.out.set 2 _, ?_⟩, ?_⟩
 · have := own_keep OW.out K7 (NotRow.blk H7.out (by decide)); rw [tokCells_snoc]; simpa using this
 · have h0 : base ≤ (w.alloc (.cells #[.int .i64 t.kind, .int .i64 t.pl, .string (mkS t.text)] 96)).heap.size := by simp; omega
   exact (((Below.refl base w).alloc (by omega) _).grown GR.out h0 (own_base OWA.out)).setCell hb _
end Go.Proofs.YtmfabihndpidnaaGreatDoor
namespace Go.Proofs.YtmfabihndpidnaaGreatDoor
set_option maxHeartbeats 4000000
open Go.RowKit
set_option maxRecDepth 100000
set_option linter.unusedVariables false
set_option linter.unusedSimpArgs false
theorem printable_q (c : UInt8) (b : Bool) (hb : printable c = b) (w : World) : Calls Tryz.prog 71 #[.int .u8 (c.toNat : Int)] w fun e w' => e = .returned (.bool b) ∧ ∃ n, w' = w.drewN n :=
 (printable_any c b hb w).mono fun e w' h => ⟨h.1, 0, h.2.symm⟩
theorem printable_space (w : World) : Calls Tryz.prog 71 #[.int .u8 32] w fun e w' => e = .returned (.bool true) ∧ w = w' := printable_any 32 true (by decide) w
theorem extract_mkS (s : ByteArray) (a b : Nat) (h : b ≤ s.size) : s.extract a b = mkS ((s.data.toList.drop a).take (b - a)) := by
 apply ByteArray.ext; apply Array.ext'; simp [mkS, ByteArray.data_extract, Array.toList_extract, List.extract]
def SOut (g base : Nat) (s : ByteArray) (ts : List Tok) (w : World) (r : Except Flt (Tok × Nat)) (e : Ending) (w' : World) : Prop :=
 match r with
 | .error f => e = .returned (.bool false) ∧ (∃ j sv, ScB w' g s j sv f.code f.pl) ∧ Below base w w'
 | .ok (t, q) => e = .returned (.bool true) ∧ (∃ sv, ScB w' g s q sv 0 0 ∧ w'.ownsRow base 96 3 sv (ts ++ [t]).length (tokCells (ts ++ [t]))) ∧ Below base w w'
def rxTok (i : Nat) (l : Bs) : Except Flt Nat → Except Flt (Tok × Nat)
 | .error f => .error f
 | .ok q => .ok (⟨3, i, (l.drop (i + 1)).take (q - (i + 1))⟩, q + 1)
theorem regex_walk (g base : Nat) (s : ByteArray) (i : Nat) (sv : Value) (ts : List Tok) (hs : s.size ≤ 4096) (hi : i < s.size) (w : World) (h : ScB w g s i sv 0 0) (ho : w.ownsRow base 96 3 sv ts.length (tokCells ts)) (hb : base ≤ g) (hn : ts.length ≤ 10000)
 (R : Except Flt Nat) (hR : rxEnd i (i + 1) (s.data.toList.drop (i + 1)) = R) :
 Calls Tryz.prog 52 #[.pointer (some ⟨g, 0, none⟩)] w (SOut g base s ts w (rxTok i s.data.toList R)) := by
 have hc := h.cell; have hf := h.frozen; have H := yh h; have HO := yh ho; have HR := yh hR; have hlt := h.lt; have hwr : IntKind.i64.wrap ((i : Int) + 1) = (i : Int) + 1 := IntWalk.i64_in _ (by omega); clear h ho hR; go_enter Tryz.func52, Tryz.ntmps52; go_wp2_with fail; go_loopw [] (fun wr => ∃ k, k ≤ s.size ∧ i < k ∧ rxEnd i k (s.data.toList.drop k) = R ∧ ScB wr g s k sv 0 0 ∧ Keep (some g) w wr) (fun wr => s.size - scAt wr g)
 case atStart => exact ⟨i + 1, by omega, by omega, HR.out, H.out.step, (Keep.refl _ _).set _ _ (.inl rfl)⟩
 case round =>
  obtain ⟨k, hk, hik, he, hb1, hkp⟩ := hrel; have HB := yh hb1; have HE := yh he; have HK := yh hkp; clear hb1 he hkp hc hf; have hc := HB.out.cell; have hf := HB.out.frozen; by_cases hlt2 : k < s.size
  · have hb0 : decide (s.size ≤ k) = false := by simp; omega
    have hi0 : (0 : Int) ≤ (k : Int) := by omega
    have hi1 : (k : Int) < (s.size : Int) := by omega
    have hi4 : (k : Int) < 4096 := by omega
    have hwk : IntKind.i64.wrap ((k : Int) + 1) = (k : Int) + 1 := IntWalk.i64_in _ (by omega); have HD := yh (drop_byte s k hlt2); by_cases h92 : (s[k] == 92) = true
    · have c92 : ((s[k].toNat : Int) == 92) = true := byte_eq s[k] 92 true (by omega) h92; by_cases hnx : k + 1 < s.size
      · have hnx1 : ((k : Int) + 1 < (s.size : Int)) := by omega
        have HD2 := yh (drop_byte s (k + 1) hnx); have hwk2 : IntKind.i64.wrap ((k : Int) + 1 + 1) = (k : Int) + 1 + 1 := IntWalk.i64_in _ (by omega); have hj0 : (0 : Int) ≤ (k : Int) + 1 := by omega
        have HB2 := yh HB.out.step; go_wp2_with fail; refine (ended_any g s k sv 0 0 false hb0 _ HB.out).mono ?_; rintro e w1 ⟨rfl, n1, rfl⟩; go_wp2_with fail; go_quiet (fail); go_wp2_with fail; go_quiet (fail); by_cases hp : printable s[k + 1] = true
        · go_wp2_with fail; go_quiet ((go_at_call 71; exact Calls.quiet_of (printable_q s[k + 1] true hp _))); go_wp2_with fail; refine (printable_space _).mono ?_; rintro e wx ⟨rfl, rfl⟩; go_wp2_with fail; go_roundw; case rel =>
           refine ⟨k + 1 + 1, by omega, by omega, ?_, ((HB.out.drewN _).step.drewN _).step, ((HK.out.drewN _).set _ _ (.inl rfl)).drewN _ |>.set _ _ (.inl rfl)⟩; rw [← HE.out, HD.out, HD2.out, rxEnd, if_pos h92, if_pos hp]
          case measure =>
           have e1 : ∀ w, ScB w g s (k + 1 + 1) sv 0 0 → s.size - scAt w g < s.size - k := fun w h => by rw [h.at_]; omega
           rw [HB.out.at_]; exact e1 _ (((HB.out.drewN _).step.drewN _).step)
        · have hp' : printable s[k + 1] = false := by simpa using hp
          go_wp2_with fail; go_quiet ((go_at_call 71; exact Calls.quiet_of (printable_q s[k + 1] false hp' _))); go_wp2_with fail; refine (sc_fail g s (k + 1) sv 0 0 _ _ _ ((HB.out.drewN _).step.drewN _)).mono ?_; rintro e w5 ⟨rfl, hb5, hk5⟩; go_wp2_with fail; go_ret; have : R = .error ⟨50, k + 1⟩ := by rw [← HE.out, HD.out, HD2.out, rxEnd, if_pos h92, if_neg hp]
          subst this; exact ⟨rfl, ⟨_, _, hb5⟩, ((((HK.out.drewN _).set _ _ (.inl rfl)).drewN _).trans hk5).belowAt hb (by omega)⟩
      · have hnx1 : ¬ ((k : Int) + 1 < (s.size : Int)) := by omega
        have hke : k + 1 = s.size := by omega
        have hp : printable s[k] = true := by rw [beq_iff_eq.1 h92]; decide
        have c47 : ((s[k].toNat : Int) == 47) = false := byte_eq s[k] 47 false (by omega) (by rw [beq_iff_eq.1 h92]; decide); go_wp2_with fail; refine (ended_any g s k sv 0 0 false hb0 _ HB.out).mono ?_; rintro e w1 ⟨rfl, n1, rfl⟩; go_wp2_with fail; go_quiet (fail); go_wp2_with fail; go_quiet (fail); go_wp2_with fail; refine (printable_any s[k] true hp _).mono ?_; rintro e wx ⟨rfl, rfl⟩; go_wp2_with fail; go_roundw; case rel =>
         refine ⟨k + 1, by omega, by omega, ?_, (HB.out.drewN _).step, (HK.out.drewN _).set _ _ (.inl rfl)⟩; rw [← HE.out, HD.out, hke, drop_end, rxEnd, rxEnd, if_neg (by simp [hp]), if_neg (by rw [beq_iff_eq.1 h92]; decide)]
        case measure =>
         rw [HB.out.at_, ((HB.out.drewN _).step).at_]; omega
    · have h92' : (s[k] == 92) = false := by simpa using h92
      have c92 : ((s[k].toNat : Int) == 92) = false := byte_eq s[k] 92 false (by omega) h92'; have hrx : rxEnd i k (s[k] :: s.data.toList.drop (k + 1)) = if !printable s[k] then .error ⟨50, k⟩ else if s[k] == 47 then .ok k else rxEnd i (k + 1) (s.data.toList.drop (k + 1)) := by
       cases hd : s.data.toList.drop (k + 1) with
       | nil => rw [rxEnd, rxEnd]
       | cons d t => rw [rxEnd, if_neg h92]
      have HRX := yh hrx; clear hrx; by_cases hp : printable s[k] = true
      · by_cases h47 : (s[k] == 47) = true
        · have c47 : ((s[k].toNat : Int) == 47) = true := byte_eq s[k] 47 true (by omega) h47; go_wp2_with fail; refine (ended_any g s k sv 0 0 false hb0 _ HB.out).mono ?_; rintro e w1 ⟨rfl, n1, rfl⟩; go_wp2_with fail; go_quiet (fail); go_wp2_with fail; go_quiet (fail); go_wp2_with fail; refine (printable_any s[k] true hp _).mono ?_; rintro e wx ⟨rfl, rfl⟩; go_wp2_with fail; generalize hW : (wr.drewN _).setCell _ _ = W; have HBW : ScB W g s (k + 1) sv 0 0 := by rw [← hW]; exact (HB.out.drewN _).step
          have KW : Keep (some g) w W := by rw [← hW]; exact (HK.out.drewN _).set _ _ (.inl rfl)
          have HBW := yh HBW; have KW := yh KW; clear hW hc hf; have w1 : IntKind.i64.wrap (k : Int) = (k : Int) := IntWalk.i64_in _ (by omega); have w2 : (0 : Int) ≤ (i : Int) + 1 := by omega
          have w3 : (i : Int) + 1 ≤ (k : Int) := by omega
          have w4 : (k : Int) ≤ (s.size : Int) := by omega
          refine wp_region_pend (fun w' => w'.cell? ⟨g, 0, none⟩ = some (.string s) ∧ w'.cell? ⟨g, 1, none⟩ = some (.int .i64 ((k : Int) + 1))) 99 (by kernel_rfl) (by kernel_rfl) (fun c a d v w h => by cases d <;> exact h) (by exact ⟨HBW.out.cell 0, by have := HBW.out.cell 1; simpa using this⟩) ?_; simp only [num, List.length_cons, List.length_nil]; repeat
           (refine pend_stable (by decide +kernel) (fun K hK => ?_)
            rw [if_pos (by rfl)]; apply Exists.intro; refine ⟨fun w' hS' => ?_, hK _ ?_⟩
            · (try dsimp only at hS')
              go_simp; try with_reducible rfl
            clear hK K; simp only [Act.put, List.setIfInBounds_toArray, List.set])
          have HADD := add_any g base s (k + 1) sv 0 0 ts ⟨3, i, (s.data.toList.drop (i + 1)).take (k - (i + 1))⟩ W.drew HBW.out.drew (own_keep HO.out (KW.out.drew) (NotRow.blk H.out (by decide))) hb hn; rw [← extract_mkS s (i + 1) k (by omega)] at HADD; refine pend_active (by decide +kernel) (fun K hK => ?_); rw [if_pos (by rfl)]; go_wp2_with fail; refine HADD.mono ?_; rintro e w6 ⟨rfl, ⟨sv6, hb6, ho6⟩, hbl⟩; refine hK.out _ _ ⟨hb6.cell 0, by have := hb6.cell 1; simpa using this⟩ ?_; clear hK K HADD; repeat
           (refine pend_stable (by decide +kernel) (fun K hK => ?_)
            rw [if_pos (by rfl)]; apply Exists.intro; refine ⟨fun w' hS' => ?_, hK _ ?_⟩
            · (try dsimp only at hS')
              go_simp; try with_reducible rfl
            clear hK K; simp only [Act.put, List.setIfInBounds_toArray, List.set])
          refine pend_done (by kernel_rfl) ?_; go_wp2_with fail; go_ret; have hRk : R = .ok k := by rw [← HE.out, HD.out, HRX.out, if_neg (by simp [hp]), if_pos h47]
          subst hRk; exact ⟨rfl, ⟨sv6, hb6, ho6⟩, (KW.out.drew.belowAt hb (by omega)).trans hbl⟩
        · have h47' : (s[k] == 47) = false := by simpa using h47
          have c47 : ((s[k].toNat : Int) == 47) = false := byte_eq s[k] 47 false (by omega) h47'; go_wp2_with fail; refine (ended_any g s k sv 0 0 false hb0 _ HB.out).mono ?_; rintro e w1 ⟨rfl, n1, rfl⟩; go_wp2_with fail; go_quiet (fail); go_wp2_with fail; go_quiet (fail); go_wp2_with fail; refine (printable_any s[k] true hp _).mono ?_; rintro e wx ⟨rfl, rfl⟩; go_wp2_with fail; go_roundw; case rel =>
           refine ⟨k + 1, by omega, by omega, ?_, (HB.out.drewN _).step, (HK.out.drewN _).set _ _ (.inl rfl)⟩; rw [← HE.out, HD.out, HRX.out, if_neg (by simp [hp]), if_neg h47]
          case measure =>
           rw [HB.out.at_, ((HB.out.drewN _).step).at_]; omega
      · have hp' : printable s[k] = false := by simpa using hp
        go_wp2_with fail; refine (ended_any g s k sv 0 0 false hb0 _ HB.out).mono ?_; rintro e w1 ⟨rfl, n1, rfl⟩; go_wp2_with fail; go_quiet (fail); go_wp2_with fail; go_quiet (fail); go_wp2_with fail; refine (printable_any s[k] false hp' _).mono ?_; rintro e wx ⟨rfl, rfl⟩; go_wp2_with fail; refine (sc_fail g s k sv 0 0 _ _ _ (HB.out.drewN _)).mono ?_; rintro e w5 ⟨rfl, hb5, hk5⟩; go_wp2_with fail; go_ret; have : R = .error ⟨50, k⟩ := by rw [← HE.out, HD.out, HRX.out, if_pos (by simp [hp'])]
        subst this; exact ⟨rfl, ⟨_, _, hb5⟩, ((HK.out.drewN _).trans hk5).belowAt hb (by omega)⟩
  · have hb0 : decide (s.size ≤ k) = true := by simp; omega
    go_wp2_with fail; refine (ended_any g s k sv 0 0 true hb0 _ HB.out).mono ?_; rintro e w1 ⟨rfl, n1, rfl⟩; go_wp2_with fail; refine (sc_fail g s k sv 0 0 _ _ _ (HB.out.drewN _)).mono ?_; rintro e w5 ⟨rfl, hb5, hk5⟩; go_wp2_with fail; go_ret; have : R = .error ⟨52, i⟩ := by rw [← HE.out, show k = s.size from by omega, drop_end, rxEnd]
    subst this; exact ⟨rfl, ⟨_, _, hb5⟩, ((HK.out.drewN _).trans hk5).belowAt hb (by omega)⟩
end Go.Proofs.YtmfabihndpidnaaGreatDoor
