/-
  The scanner of lens texts: the next token. The scanner of lens texts, whole.
-/
import Derived.Test.YtmfabihndpidnaaGreatDoorK10
import Derived.Lib.IndexAny
namespace Go.Proofs.YtmfabihndpidnaaGreatDoor
set_option maxHeartbeats 8000000
open Go.RowKit
set_option maxRecDepth 100000
set_option linter.unusedVariables false
set_option linter.unusedSimpArgs false
theorem letter_q (c : UInt8) (b : Bool) (hb : letter c = b) (w : World) : Calls Tryz.prog 48 #[.int .u8 (c.toNat : Int)] w fun e w' => e = .returned (.bool b) ∧ ∃ n, w' = w.drewN n :=
 (letter_any c b hb w).mono fun e w' h => ⟨h.1, 0, h.2.symm⟩
theorem digit_q (c : UInt8) (b : Bool) (hb : digit c = b) (w : World) : Calls Tryz.prog 49 #[.int .u8 (c.toNat : Int)] w fun e w' => e = .returned (.bool b) ∧ ∃ n, w' = w.drewN n :=
 (digit_any c b hb w).mono fun e w' h => ⟨h.1, 0, h.2.symm⟩
theorem mark_any (c : UInt8) (w : World) : Calls Tryz.prog 53 #[.string ⟨#[61, 59, 40, 41, 123, 125, 44, 124, 38, 45, 46, 126, 42, 43, 63]⟩, .int .u8 (c.toNat : Int)] w fun e w' => e = .returned (.int .i64 (Lib.indexByte marksL c)) ∧ w = w' := by
 refine (Tryz.strings_IndexByte _ _ w).mono ?_; rintro e w' ⟨rfl, rfl⟩; refine ⟨?_, rfl⟩; simp only [Int.toNat_natCast, Nat.toUInt8_eq, UInt8.ofNat_toNat]; rfl
theorem takeWhile_all {p : UInt8 → Bool} {l : Bs} {k : Nat} (h : l.takeWhile p = l.take k ++ (l.drop k).takeWhile p) (hk : ∀ c, (l.drop k).head? = some c → p c = false) : l.takeWhile p = l.take k := by
 rw [h]; cases hd : l.drop k with
 | nil => simp
 | cons c t =>
  have := hk c (by rw [hd]; rfl); simp [List.takeWhile, this]
theorem one_walk (g base : Nat) (s : ByteArray) (i : Nat) (sv : Value) (ts : List Tok) (hs : s.size ≤ 4096) (hi : i < s.size) (w : World) (h : ScB w g s i sv 0 0) (ho : w.ownsRow base 96 3 sv ts.length (tokCells ts)) (hb : base ≤ g) (hn : ts.length ≤ 10000)
 (R : Except Flt (Tok × Nat)) (hR : one i (s.data.toList.drop i) = R) :
 Calls Tryz.prog 29 #[.pointer (some ⟨g, 0, none⟩)] w (SOut g base s ts w R) := by
 have hc := h.cell; have H := yh h; have HO := yh ho; have hlt := h.lt; have hlen : s.data.toList.length = s.size := by show s.data.toList.length = s.data.size; simp
 have HLEN := yh hlen; have hwr : IntKind.i64.wrap ((i : Int) + 1) = (i : Int) + 1 := IntWalk.i64_in _ (by omega); have hi0 : (0 : Int) ≤ (i : Int) := by omega
 have hi1 : (i : Int) < (s.size : Int) := by omega
 have HD := yh (drop_byte s i hi); rw [drop_byte s i hi, one] at hR; have HR := yh hR; clear h ho hR hlen; by_cases hl : letter s[i] = true
 · go_enter Tryz.func29, Tryz.ntmps29; go_wp2_with fail; refine (letter_any s[i] true hl _).mono ?_; rintro e wx ⟨rfl, rfl⟩; go_wp2_with fail; go_loopw [] (fun wr => ∃ k, k ≤ s.size ∧ i ≤ k ∧ (s.data.toList.drop i).takeWhile nameByte = (s.data.toList.drop i).take (k - i) ++ (s.data.toList.drop k).takeWhile nameByte ∧ ScB wr g s k sv 0 0 ∧ Keep (some g) w wr) (fun wr => s.size - scAt wr g)
   case atStart => exact ⟨i, by omega, by omega, by simp, H.out, Keep.refl _ _⟩
   case round =>
    obtain ⟨k, hk, hik, he, hb1, hkp⟩ := hrel; have HB := yh hb1; have HE := yh he; have HK := yh hkp; clear hb1 he hkp hc; have hc := HB.out.cell; by_cases hlt2 : k < s.size
    · have hb0 : decide (s.size ≤ k) = false := by simp; omega
      have hk0 : (0 : Int) ≤ (k : Int) := by omega
      have hk1 : (k : Int) < (s.size : Int) := by omega
      have hk4 : (k : Int) < 4096 := by omega
      have hwk : IntKind.i64.wrap ((k : Int) + 1) = (k : Int) + 1 := IntWalk.i64_in _ (by omega); have HDK := yh (drop_byte s k hlt2); have HSTEP := yh (show nameByte s[k] = true → (s.data.toList.drop i).takeWhile nameByte = (s.data.toList.drop i).take (k + 1 - i) ++ (s.data.toList.drop (k + 1)).takeWhile nameByte from by
       intro hnb; have hkl : k < s.data.toList.length := by rw [HLEN.out]; exact hlt2
       rw [HE.out, HDK.out, List.takeWhile, hnb, show k + 1 - i = (k - i) + 1 by omega, List.take_add_one]; have : (s.data.toList.drop i)[k - i]? = some s[k] := by
        rw [List.getElem?_drop, show i + (k - i) = k by omega, List.getElem?_eq_getElem hkl]; rfl
       rw [this]; simp)
      by_cases hlk : letter s[k] = true
      · go_wp2_with fail; go_quiet (first
         | (go_at_call 28; exact Calls.quiet_of (ended_any g s k sv 0 0 false hb0 _ (HB.out.drewN _)))
         | (go_at_call 48; exact Calls.quiet_of (letter_q s[k] true hlk _))
         | (go_at_call 49; exact Calls.quiet_of (digit_q s[k] false (by first | assumption | rfl) _)))
        have hf := HB.out.frozen; go_wp2_with fail; go_roundw; case rel =>
         exact ⟨k + 1, by omega, by omega, HSTEP.out (by simp [nameByte, hlk]), (HB.out.drewN _).step, (HK.out.drewN _).set _ _ (.inl rfl)⟩
        case measure =>
         rw [HB.out.at_, ((HB.out.drewN _).step).at_]; omega
      · have hlk' : letter s[k] = false := by simpa using hlk
        by_cases hdk : digit s[k] = true
        · go_wp2_with fail; go_quiet (first
           | (go_at_call 28; exact Calls.quiet_of (ended_any g s k sv 0 0 false hb0 _ (HB.out.drewN _)))
           | (go_at_call 48; exact Calls.quiet_of (letter_q s[k] false hlk' _))
           | (go_at_call 49; exact Calls.quiet_of (digit_q s[k] true hdk _)))
          have hf := HB.out.frozen; go_wp2_with fail; go_roundw; case rel =>
           exact ⟨k + 1, by omega, by omega, HSTEP.out (by simp [nameByte, hlk', hdk]), (HB.out.drewN _).step, (HK.out.drewN _).set _ _ (.inl rfl)⟩
          case measure =>
           rw [HB.out.at_, ((HB.out.drewN _).step).at_]; omega
        · have hdk' : digit s[k] = false := by simpa using hdk
          have HEND : ∀ c, ((s.data.toList.drop i).drop (k - i)).head? = some c → nameByte c = false := by
           intro c hc; rw [List.drop_drop, show i + (k - i) = k by omega, HDK.out] at hc; simp at hc; subst hc; simp [nameByte, hlk', hdk']
          have HE' := HE.out; rw [show s.data.toList.drop k = (s.data.toList.drop i).drop (k - i) by rw [List.drop_drop]; congr 1; omega] at HE'; go_wp2_with fail; go_quiet (first
           | (go_at_call 28; exact Calls.quiet_of (ended_any g s k sv 0 0 false hb0 _ (HB.out.drewN _)))
           | (go_at_call 48; exact Calls.quiet_of (letter_q s[k] false hlk' _))
           | (go_at_call 49; exact Calls.quiet_of (digit_q s[k] false hdk' _)))
          have HTW := yh (takeWhile_all HE' HEND); clear HEND; generalize hW : wr.drewN _ = W; have HBW : ScB W g s k sv 0 0 := by rw [← hW]; exact HB.out.drewN _
          have KW : Keep (some g) w W := by rw [← hW]; exact HK.out.drewN _
          have HBW := yh HBW; have KW := yh KW; clear hW hc; have hc := HBW.out.cell; have hwd : IntKind.i64.wrap ((k : Int) - (i : Int)) = (k : Int) - (i : Int) := IntWalk.i64_in _ (by omega); have HLW := yh (show ((s.data.toList.drop i).takeWhile nameByte).length = k - i from by
           rw [HTW.out, List.length_take, List.length_drop, HLEN.out]; omega)
          by_cases hlong : (32 : Int) < (k : Int) - (i : Int)
          · go_wp2_with fail; refine (sc_fail g s k sv 0 0 _ _ _ HBW.out).mono ?_; rintro e w5 ⟨rfl, hb5, hk5⟩; go_wp2_with fail; go_ret; have hr := HR.out; rw [if_pos hl, ← HD.out, if_pos (by rw [HLW.out]; omega)] at hr; subst hr; exact ⟨rfl, ⟨_, _, hb5⟩, (KW.out.trans hk5).belowAt hb (by omega)⟩
          · have hc32 : k - i ≤ 32 := by omega
            go_wp2_with fail; clear hc; have w3 : (i : Int) ≤ (k : Int) := by omega
            have w4 : (k : Int) ≤ (s.size : Int) := by omega
            refine wp_region_pend (fun w' => w'.cell? ⟨g, 0, none⟩ = some (.string s) ∧ w'.cell? ⟨g, 1, none⟩ = some (.int .i64 (k : Int))) 99 (by kernel_rfl) (by kernel_rfl) (fun c a d v w h => by cases d <;> exact h) (by exact ⟨HBW.out.cell 0, by have := HBW.out.cell 1; simpa using this⟩) ?_; simp only [num, List.length_cons, List.length_nil]; repeat
             (refine pend_stable (by decide +kernel) (fun K hK => ?_)
              rw [if_pos (by rfl)]; apply Exists.intro; refine ⟨fun w' hS' => ?_, hK _ ?_⟩
              · (try dsimp only at hS')
                go_simp; try with_reducible rfl
              clear hK K; simp only [Act.put, List.setIfInBounds_toArray, List.set])
            have HADD := add_any g base s (k) sv 0 0 ts ⟨1, i, (s.data.toList.drop i).take (k - i)⟩ W.drew HBW.out.drew (own_keep HO.out (KW.out.drew) (NotRow.blk H.out (by decide))) hb hn; rw [← extract_mkS s i (k) (by omega)] at HADD; refine pend_active (by decide +kernel) (fun K hK => ?_); rw [if_pos (by rfl)]; go_wp2_with fail; refine HADD.mono ?_; rintro e w6 ⟨rfl, ⟨sv6, hb6, ho6⟩, hbl⟩; refine hK.out _ _ ⟨hb6.cell 0, by have := hb6.cell 1; simpa using this⟩ ?_; clear hK K HADD; repeat
             (refine pend_stable (by decide +kernel) (fun K hK => ?_)
              rw [if_pos (by rfl)]; apply Exists.intro; refine ⟨fun w' hS' => ?_, hK _ ?_⟩
              · (try dsimp only at hS')
                go_simp; try with_reducible rfl
              clear hK K; simp only [Act.put, List.setIfInBounds_toArray, List.set])
            refine pend_done (by kernel_rfl) ?_; go_wp2_with fail; go_ret; have hr := HR.out; rw [if_pos hl, ← HD.out, if_neg (by rw [HLW.out]; omega), HLW.out, HTW.out, show i + (k - i) = k by omega] at hr; subst hr; exact ⟨rfl, ⟨sv6, hb6, ho6⟩, (KW.out.drew.belowAt hb (by omega)).trans hbl⟩
    · have hb0 : decide (s.size ≤ k) = true := by simp; omega
      have HEND : ∀ c, ((s.data.toList.drop i).drop (k - i)).head? = some c → nameByte c = false := by
       intro c hc; rw [List.drop_drop, show i + (k - i) = s.size by omega, drop_end] at hc; simp at hc
      have HE' := HE.out; rw [show s.data.toList.drop k = (s.data.toList.drop i).drop (k - i) by rw [List.drop_drop]; congr 1; omega] at HE'; go_wp2_with fail; go_quiet ((go_at_call 28; exact Calls.quiet_of (ended_any g s k sv 0 0 true hb0 _ (HB.out.drewN _)))); have HTW := yh (takeWhile_all HE' HEND); clear HEND; generalize hW : wr.drewN _ = W; have HBW : ScB W g s k sv 0 0 := by rw [← hW]; exact HB.out.drewN _
      have KW : Keep (some g) w W := by rw [← hW]; exact HK.out.drewN _
      have HBW := yh HBW; have KW := yh KW; clear hW hc; have hc := HBW.out.cell; have hwd : IntKind.i64.wrap ((k : Int) - (i : Int)) = (k : Int) - (i : Int) := IntWalk.i64_in _ (by omega); have HLW := yh (show ((s.data.toList.drop i).takeWhile nameByte).length = k - i from by
       rw [HTW.out, List.length_take, List.length_drop, HLEN.out]; omega)
      by_cases hlong : (32 : Int) < (k : Int) - (i : Int)
      · go_wp2_with fail; refine (sc_fail g s k sv 0 0 _ _ _ HBW.out).mono ?_; rintro e w5 ⟨rfl, hb5, hk5⟩; go_wp2_with fail; go_ret; have hr := HR.out; rw [if_pos hl, ← HD.out, if_pos (by rw [HLW.out]; omega)] at hr; subst hr; exact ⟨rfl, ⟨_, _, hb5⟩, (KW.out.trans hk5).belowAt hb (by omega)⟩
      · have hc32 : k - i ≤ 32 := by omega
        go_wp2_with fail; clear hc; have w3 : (i : Int) ≤ (k : Int) := by omega
        have w4 : (k : Int) ≤ (s.size : Int) := by omega
        refine wp_region_pend (fun w' => w'.cell? ⟨g, 0, none⟩ = some (.string s) ∧ w'.cell? ⟨g, 1, none⟩ = some (.int .i64 (k : Int))) 99 (by kernel_rfl) (by kernel_rfl) (fun c a d v w h => by cases d <;> exact h) (by exact ⟨HBW.out.cell 0, by have := HBW.out.cell 1; simpa using this⟩) ?_; simp only [num, List.length_cons, List.length_nil]; repeat
         (refine pend_stable (by decide +kernel) (fun K hK => ?_)
          rw [if_pos (by rfl)]; apply Exists.intro; refine ⟨fun w' hS' => ?_, hK _ ?_⟩
          · (try dsimp only at hS')
            go_simp; try with_reducible rfl
          clear hK K; simp only [Act.put, List.setIfInBounds_toArray, List.set])
        have HADD := add_any g base s (k) sv 0 0 ts ⟨1, i, (s.data.toList.drop i).take (k - i)⟩ W.drew HBW.out.drew (own_keep HO.out (KW.out.drew) (NotRow.blk H.out (by decide))) hb hn; rw [← extract_mkS s i (k) (by omega)] at HADD; refine pend_active (by decide +kernel) (fun K hK => ?_); rw [if_pos (by rfl)]; go_wp2_with fail; refine HADD.mono ?_; rintro e w6 ⟨rfl, ⟨sv6, hb6, ho6⟩, hbl⟩; refine hK.out _ _ ⟨hb6.cell 0, by have := hb6.cell 1; simpa using this⟩ ?_; clear hK K HADD; repeat
         (refine pend_stable (by decide +kernel) (fun K hK => ?_)
          rw [if_pos (by rfl)]; apply Exists.intro; refine ⟨fun w' hS' => ?_, hK _ ?_⟩
          · (try dsimp only at hS')
            go_simp; try with_reducible rfl
          clear hK K; simp only [Act.put, List.setIfInBounds_toArray, List.set])
        refine pend_done (by kernel_rfl) ?_; go_wp2_with fail; go_ret; have hr := HR.out; rw [if_pos hl, ← HD.out, if_neg (by rw [HLW.out]; omega), HLW.out, HTW.out, show i + (k - i) = k by omega] at hr; subst hr; exact ⟨rfl, ⟨sv6, hb6, ho6⟩, (KW.out.drew.belowAt hb (by omega)).trans hbl⟩
 · have hl' : letter s[i] = false := by simpa using hl
   have hr := HR.out; rw [if_neg hl] at hr; have HR := yh hr; clear hr; by_cases h34 : (s[i] == 34) = true
   · have c34 : ((s[i].toNat : Int) == 34) = true := byte_eq s[i] 34 true (by omega) h34; go_enter Tryz.func29, Tryz.ntmps29; go_wp2_with fail; refine (letter_any s[i] false hl' _).mono ?_; rintro e wx ⟨rfl, rfl⟩; go_wp2_with fail; have hq : (s.data.toList.drop (i + 1)).length + 1 = s.size - i := by rw [List.length_drop, HLEN.out]; omega
     cases hx : quoted i ((s.data.toList.drop (i + 1)).length + 1) (i + 1) (s.data.toList.drop (i + 1)) [] with
     | error f =>
      refine (quoted_walk g base s i sv ts hs hi _ H.out HO.out hb hn _ _ (by omega) hx).mono ?_; rintro e w5 ⟨rfl, h5, hbl⟩; go_wp2_with fail; go_ret; have hr := HR.out; rw [if_pos h34, hx] at hr; subst hr; exact ⟨rfl, h5, hbl⟩
     | ok x =>
      refine (quoted_walk g base s i sv ts hs hi _ H.out HO.out hb hn _ _ (by omega) hx).mono ?_; rintro e w5 ⟨rfl, h5, hbl⟩; go_wp2_with fail; go_ret; have hr := HR.out; rw [if_pos h34, hx] at hr; subst hr; exact ⟨rfl, h5, hbl⟩
   have h34' : (s[i] == 34) = false := by simpa using h34
   have c34 : ((s[i].toNat : Int) == 34) = false := byte_eq s[i] 34 false (by omega) h34'; have hr := HR.out; rw [if_neg h34] at hr; have HR := yh hr; clear hr; clear h34; by_cases h47 : (s[i] == 47) = true
   · have c47 : ((s[i].toNat : Int) == 47) = true := byte_eq s[i] 47 true (by omega) h47; go_enter Tryz.func29, Tryz.ntmps29; go_wp2_with fail; refine (letter_any s[i] false hl' _).mono ?_; rintro e wx ⟨rfl, rfl⟩; go_wp2_with fail; cases hx : rxEnd i (i + 1) (s.data.toList.drop (i + 1)) with
     | error f =>
      refine (regex_walk g base s i sv ts hs hi _ H.out HO.out hb hn _ hx).mono ?_; rintro e w5 ⟨rfl, h5, hbl⟩; go_wp2_with fail; go_ret; have hr := HR.out; rw [if_pos h47, hx] at hr; subst hr; exact ⟨rfl, h5, hbl⟩
     | ok x =>
      refine (regex_walk g base s i sv ts hs hi _ H.out HO.out hb hn _ hx).mono ?_; rintro e w5 ⟨rfl, h5, hbl⟩; go_wp2_with fail; go_ret; have hr := HR.out; rw [if_pos h47, hx] at hr; subst hr; exact ⟨rfl, h5, hbl⟩
   have h47' : (s[i] == 47) = false := by simpa using h47
   have c47 : ((s[i].toNat : Int) == 47) = false := byte_eq s[i] 47 false (by omega) h47'; have hr := HR.out; rw [if_neg h47] at hr; have HR := yh hr; clear hr; clear h47; by_cases hm : (0 : Int) ≤ Lib.indexByte marksL s[i]
   · have hmk : marksL.contains s[i] = true := by rw [Lib.contains_iff_indexByte]; simpa using hm
     have hf := H.out.frozen; go_enter Tryz.func29, Tryz.ntmps29; go_wp2_with fail; refine (letter_any s[i] false hl' _).mono ?_; rintro e wx ⟨rfl, rfl⟩; go_wp2_with fail; refine (mark_any s[i] _).mono ?_; rintro e wx ⟨rfl, rfl⟩; go_wp2_with fail; generalize hW : w.setCell _ _ = W; have HBW : ScB W g s (i + 1) sv 0 0 := by rw [← hW]; exact H.out.step
     have KW : Keep (some g) w W := by rw [← hW]; exact (Keep.refl _ _).set _ _ (.inl rfl)
     have HBW := yh HBW; have KW := yh KW; clear hW hc hf; have w3 : (i : Int) ≤ (i : Int) + 1 := by omega
     have w4 : (i : Int) + 1 ≤ (s.size : Int) := by omega
     have w5 : (0 : Int) ≤ (i : Int) + 1 := by omega
     refine wp_region_pend (fun w' => w'.cell? ⟨g, 0, none⟩ = some (.string s) ∧ w'.cell? ⟨g, 1, none⟩ = some (.int .i64 ((i : Int) + 1))) 99 (by kernel_rfl) (by kernel_rfl) (fun c a d v w h => by cases d <;> exact h) (by exact ⟨HBW.out.cell 0, by have := HBW.out.cell 1; simpa using this⟩) ?_; simp only [num, List.length_cons, List.length_nil]; repeat
      (refine pend_stable (by decide +kernel) (fun K hK => ?_)
       rw [if_pos (by rfl)]; apply Exists.intro; refine ⟨fun w' hS' => ?_, hK _ ?_⟩
       · (try dsimp only at hS')
         go_simp; try with_reducible rfl
       clear hK K; simp only [Act.put, List.setIfInBounds_toArray, List.set])
     have HADD := add_any g base s (i + 1) sv 0 0 ts ⟨4, i, (s.data.toList.drop i).take (i + 1 - i)⟩ W.drew HBW.out.drew (own_keep HO.out (KW.out.drew) (NotRow.blk H.out (by decide))) hb hn; rw [← extract_mkS s i (i + 1) (by omega)] at HADD; refine pend_active (by decide +kernel) (fun K hK => ?_); rw [if_pos (by rfl)]; go_wp2_with fail; refine HADD.mono ?_; rintro e w6 ⟨rfl, ⟨sv6, hb6, ho6⟩, hbl⟩; refine hK.out _ _ ⟨hb6.cell 0, by have := hb6.cell 1; simpa using this⟩ ?_; clear hK K HADD; repeat
      (refine pend_stable (by decide +kernel) (fun K hK => ?_)
       rw [if_pos (by rfl)]; apply Exists.intro; refine ⟨fun w' hS' => ?_, hK _ ?_⟩
       · (try dsimp only at hS')
         go_simp; try with_reducible rfl
       clear hK K; simp only [Act.put, List.setIfInBounds_toArray, List.set])
     refine pend_done (by kernel_rfl) ?_; go_wp2_with fail; go_ret; have hr := HR.out; rw [if_pos hmk] at hr; subst hr; have e1 : (s.data.toList.drop i).take (i + 1 - i) = [s[i]] := by rw [HD.out, show i + 1 - i = 1 by omega]; rfl
     rw [e1] at ho6; exact ⟨rfl, ⟨sv6, hb6, ho6⟩, (KW.out.drew.belowAt hb (by omega)).trans hbl⟩
   have hm' : ¬ marksL.contains s[i] = true := by rw [Lib.contains_iff_indexByte]; simpa using hm
   have hr := HR.out; rw [if_neg hm'] at hr; have HR := yh hr; clear hr; have hex : s.extract i s.size = mkS (s.data.toList.drop i) := by
    rw [extract_mkS s i s.size (Nat.le_refl _), List.take_of_length_le (by rw [List.length_drop, HLEN.out]; omega)]
   have hle : (i : Int) ≤ (s.size : Int) := by omega
   by_cases hp : Lib.hasPrefix (s.data.toList.drop i) [62, 62] = true
   · have hf := H.out.frozen; have hw2 : IntKind.i64.wrap ((i : Int) + 2) = (i : Int) + 2 := IntWalk.i64_in _ (by omega); go_enter Tryz.func29, Tryz.ntmps29; go_wp2_with fail; refine (letter_any s[i] false hl' _).mono ?_; rintro e wx ⟨rfl, rfl⟩; go_wp2_with fail; refine (mark_any s[i] _).mono ?_; rintro e wx ⟨rfl, rfl⟩; go_wp2_with fail; refine (Tryz.strings_HasPrefix _ _ _).mono ?_; rintro e wx ⟨rfl, hwx⟩; obtain rfl := hwx.symm; have hp' : Lib.hasPrefix (mkS (s.data.toList.drop i)).data.toList (ByteArray.mk #[62, 62]).data.toList = true := hp; rw [hp']; go_wp2_with fail; have HB2 : ScB (w.setCell ⟨g, 1, none⟩ (.int .i64 ((i : Int) + 2))) g s (i + 2) sv 0 0 := by
      have := Blk.set H.out 1 (.int .i64 ((i : Int) + 2)); exact this
     have K2 : Keep (some g) w (w.setCell ⟨g, 1, none⟩ (.int .i64 ((i : Int) + 2))) := (Keep.refl _ _).set _ _ (.inl rfl); refine (add_any g base s (i + 2) sv 0 0 ts ⟨4, i, [62, 62]⟩ _ HB2 (own_keep HO.out K2 (NotRow.blk H.out (by decide))) hb hn).mono ?_; rintro e w6 ⟨rfl, ⟨sv6, hb6, ho6⟩, hbl⟩; go_wp2_with fail; go_ret; have hr := HR.out; rw [← HD.out, if_pos (by simpa [Lib.hasPrefix] using hp)] at hr; subst hr; exact ⟨rfl, ⟨sv6, hb6, ho6⟩, (K2.belowAt hb (by omega)).trans hbl⟩
   · have hp2 : Lib.hasPrefix (s.data.toList.drop i) [62, 62] = false := by simpa using hp
     go_enter Tryz.func29, Tryz.ntmps29; go_wp2_with fail; refine (letter_any s[i] false hl' _).mono ?_; rintro e wx ⟨rfl, rfl⟩; go_wp2_with fail; refine (mark_any s[i] _).mono ?_; rintro e wx ⟨rfl, rfl⟩; go_wp2_with fail; refine (Tryz.strings_HasPrefix _ _ _).mono ?_; rintro e wx ⟨rfl, hwx⟩; obtain rfl := hwx.symm; have hp' : Lib.hasPrefix (mkS (s.data.toList.drop i)).data.toList (ByteArray.mk #[62, 62]).data.toList = false := hp2; rw [hp']; go_wp2_with fail; refine (sc_fail g s i sv 0 0 _ _ _ H.out).mono ?_; rintro e w5 ⟨rfl, hb5, hk5⟩; go_wp2_with fail; go_ret; have hr := HR.out; rw [← HD.out, if_neg (by rw [show [62, 62].isPrefixOf (s.data.toList.drop i) = false from hp2]; decide)] at hr
     subst hr; exact ⟨rfl, ⟨_, _, hb5⟩, hk5.belowAt hb (by omega)⟩
end Go.Proofs.YtmfabihndpidnaaGreatDoor
namespace Go.Proofs.YtmfabihndpidnaaGreatDoor
set_option maxHeartbeats 8000000
open Go.RowKit
set_option maxRecDepth 100000
set_option linter.unusedVariables false
set_option linter.unusedSimpArgs false
theorem rxEnd_adv (p : Nat) : ∀ (l : Bs) (q r : Nat), rxEnd p q l = .ok r → q ≤ r ∧ r < q + l.length
 | [], q, r, h => by rw [rxEnd] at h; cases h
 | [c], q, r, h => by
  rw [rxEnd] at h; repeat' split at h
  all_goals first | (cases h; simp) | cases h
 | c :: d :: t, q, r, h => by
  rw [rxEnd] at h; repeat' split at h
  · have := rxEnd_adv p t (q + 2) r h; simp; omega
  · cases h
  · cases h
  · cases h; simp
  · have := rxEnd_adv p (d :: t) (q + 1) r h; simp at this ⊢; omega
theorem hexTail_adv {q : Nat} {t : Bs} {b : UInt8} {q' : Nat} (h : hexTail q t = .byte b q') : q' = q + 3 ∧ 2 ≤ t.length := by
 unfold hexTail at h; repeat' split at h
 all_goals first | (cases h; simp; done) | (cases h; constructor <;> simp; done) | cases h
theorem escape_adv {q : Nat} {l : Bs} {b : UInt8} {q' : Nat} (h : escape q l = .byte b q') : q < q' ∧ q' ≤ q + l.length := by
 cases l with
 | nil => cases h
 | cons d t =>
  rw [escape_cons] at h; repeat' split at h
  all_goals first | (cases h; simp; done) | skip
  · have := hexTail_adv h; simp; omega
  · cases h
theorem quoted_adv (p : Nat) : ∀ (n q : Nat) (l acc : Bs) (x : Bs) (r : Nat), quoted p n q l acc = .ok (x, r) → q < r ∧ r ≤ q + l.length
 | 0, q, l, acc, x, r, h => by rw [quoted] at h; cases h
 | n + 1, q, [], acc, x, r, h => by rw [quoted] at h; cases h
 | n + 1, q, c :: t, acc, x, r, h => by
  rw [quoted] at h; split at h
  · cases h; simp
  split at h
  · cases h
  split at h
  · have := quoted_adv p n _ _ _ _ _ h; simp; omega
  · split at h
    · cases h
    · cases h
    · rename_i b q' he; have h1 := escape_adv he; have := quoted_adv p n _ _ _ _ _ h; simp at this ⊢; omega
theorem takeWhile_le {p : UInt8 → Bool} (l : Bs) : (l.takeWhile p).length ≤ l.length := by
 induction l with
 | nil => simp
 | cons c t ih => rw [List.takeWhile]; split <;> simp; omega
theorem one_adv {p : Nat} {l : Bs} {t : Tok} {q : Nat} (h : one p l = .ok (t, q)) : p < q ∧ q ≤ p + l.length := by
 cases l with
 | nil => rw [one] at h; cases h
 | cons c r =>
  rw [one] at h; split at h
  · rename_i hl; split at h
    · cases h
    · cases h; have := takeWhile_le (p := nameByte) (c :: r); have h2 : 0 < (List.takeWhile nameByte (c :: r)).length := by rw [List.takeWhile]; simp [nameByte, hl]
      constructor <;> omega
  split at h
  · split at h
    · cases h
    · rename_i he; cases h; have := quoted_adv _ _ _ _ _ _ _ he; simp; omega
  split at h
  · split at h
    · cases h
    · rename_i he; cases h; have := rxEnd_adv _ _ _ _ he; simp; omega
  split at h
  · cases h; simp
  split at h
  · rename_i he; cases h; cases r with
    | nil => simp at he
    | cons d r => simp
  · cases h
theorem skip_le : ∀ (l : Bs) (b : Bool), (skip b l).length ≤ l.length
 | [], b => by cases b <;> simp [skip]
 | c :: t, true => by rw [skip]; split <;> (have := skip_le t true; have := skip_le t false; simp; omega)
 | c :: t, false => by rw [skip]; repeat' split; all_goals (have := skip_le t true; have := skip_le t false; simp; try omega)
def scanHead (l : Bs) (n : Nat) (r : Bs) (acc : List Tok) : Except Flt (List Tok) :=
 match r with
 | [] => .ok (acc ++ [⟨0, l.length, []⟩])
 | c :: t =>
  match one (l.length - (c :: t).length) (c :: t) with
  | .error f => .error f
  | .ok (tk, q) => scanAll l n (l.drop q) (acc ++ [tk])
theorem scanAll_head (l : Bs) (n : Nat) (r : Bs) (acc : List Tok) : scanAll l (n + 1) r acc = scanHead l n (skip false r) acc := by
 rw [scanAll]; rfl
def ScanOut (w : World) (r : Except Flt (List Tok)) (e : Ending) (w' : World) : Prop :=
 match r with
 | .error f => e = .returned (.tuple #[.slice none 0 0, faultV f.code f.pl]) ∧ Keep none w w'
 | .ok ts => ∃ sv, e = .returned (.tuple #[sv, faultV 0 0]) ∧ (∃ base, w.heap.size ≤ base ∧ w'.ownsRow base 96 3 sv ts.length (tokCells ts)) ∧ Keep none w w'
theorem results_tf {fn : Func} {p u : Tmp} (h : fn.results = #[.tmp u, .cell p 26]) (tmps : Array Value) (w : World) (g : Nat) (a b c : Value)
 (hp : tmps.getD p undef = .pointer (some ⟨g, 0, none⟩)) (hg : Blk w g [a, b, c] 26) :
 (results fn tmps).run Tryz.prog w = .ok (.tuple #[tmps.getD u undef, .agg #[a, b, c]]) w := by
 have hp' : tmps[p]?.getD undef = .pointer (some ⟨g, 0, none⟩) := by simpa using hp
 simp [results, h, hp', asAddr, run_loadVar_row w g 26 26 #[a, b, c] (0, 0) _ hg Tryz.underlying26 rfl (by kernel_rfl)]
theorem Below.ofDrewN {B n : Nat} {w w' : World} (h : Below B (w.drewN n) w') : Below B w w' := ⟨h.os, h.tape, h.output, h.size, h.block⟩
theorem Keep.below_trans {a : Option Nat} {u v w : World} {B : Nat} (h : Keep a u v) (k : Below B v w) (hB : u.heap.size ≤ B) : Keep a u w :=
 ⟨k.os.trans h.os, k.tape.trans h.tape, k.output.trans h.output, Nat.le_trans h.size k.size, fun i hi ha => (k.block i (by omega)).trans (h.block i hi ha)⟩
theorem scan_long (s : ByteArray) (w : World) (hs : 4096 < s.size) : Calls Tryz.prog 12 #[.string s] w (ScanOut w (.error ⟨1, 0⟩)) := by
 have h1 : ((4096 : Int) < (s.size : Int)) := by omega
 go_enter Tryz.func12, Tryz.ntmps12; go_wp2_with fail; exact bodyPost_ret (results_tf rfl _ _ w.heap.size _ _ _ rfl (Blk.new w [.int .i64 1, .int .i64 0, .string ⟨#[]⟩] 26)) rfl ⟨rfl, (Keep.refl _ _).alloc _⟩
theorem scan_walk (s : ByteArray) (w : World) (R : Except Flt (List Tok)) (hR : scan s.data.toList = R) : Calls Tryz.prog 12 #[.string s] w (ScanOut w R) := by
 have hlen : s.data.toList.length = s.size := by show s.data.toList.length = s.data.size; simp
 unfold scan at hR; by_cases hs : 4096 < s.size
 · rw [if_pos (by omega)] at hR; subst hR; exact scan_long s w hs
 rw [if_neg (by omega), scanAll_head, hlen] at hR; have HR := yh hR; have HLEN := yh hlen; have h1 : ¬ ((4096 : Int) < (s.size : Int)) := by omega
 have hs' : s.size ≤ 4096 := by omega
 clear hR hlen; go_enter Tryz.func12, Tryz.ntmps12; go_wp2_with fail; generalize hW : (w.alloc _).alloc _ = W; have BF : Blk W w.heap.size [.int .i64 0, .int .i64 0, .string ⟨#[]⟩] 26 := by rw [← hW]; exact (Blk.new w _ 26).alloc _
 have HB : ScB W (w.heap.size + 1) s 0 (.slice none 0 0) 0 0 := by
  rw [← hW]; have := Blk.new (w.alloc (.cells #[.int .i64 0, .int .i64 0, .string ⟨#[]⟩] 26)) [.string s, .int .i64 0, .slice none 0 0, .int .i64 0, .int .i64 0, .string ⟨#[]⟩] 92; unfold ScB; simpa using this
 have KW : Keep none w W := by rw [← hW]; exact ((Keep.refl _ _).alloc _).alloc _
 have BF := yh BF; have HB := yh HB; have KW := yh KW; clear hW; refine (skip_walk (w.heap.size + 1) s 0 (.slice none 0 0) 0 0 hs' (by omega) _ HB.out).mono ?_; rintro e w1 ⟨rfl, k0, hk0, _, hsk, hb0, hkp0⟩; have HSK := yh hsk; have HB0 := yh hb0; have K0 := yh hkp0; clear hsk hb0 hkp0; go_wp2_with fail; go_loopw [] (fun wr => ∃ (n k : Nat) (acc : List Tok) (sv : Value), k ≤ s.size ∧ s.size ≤ n + k ∧ acc.length ≤ k ∧ scanHead s.data.toList n (s.data.toList.drop k) acc = R ∧ ScB wr (w.heap.size + 1) s k sv 0 0 ∧ wr.ownsRow (w.heap.size + 1) 96 3 sv acc.length (tokCells acc) ∧ Below (w.heap.size + 1) W wr) (fun wr => s.size - scAt wr (w.heap.size + 1))
 case atStart =>
  refine ⟨s.size, k0, [], .slice none 0 0, hk0, by omega, by simp, ?_, HB0.out, ⟨rfl, .inl ⟨rfl, rfl⟩⟩, K0.out.belowAt (Nat.le_refl _) (by have := HB.out.lt; omega)⟩; rw [HSK.out]; exact HR.out
 case round =>
  obtain ⟨n, k, acc, sv, hk, hnk, hak, he, hb1, hov, hbl⟩ := hrel; have HBK := yh hb1; have HE := yh he; have HOV := yh hov; have BL := yh hbl; have BFK := yh (show Blk wr w.heap.size [.int .i64 0, .int .i64 0, .string ⟨#[]⟩] 26 from (hbl.block _ (by omega)).trans BF.out); clear hb1 he hov hbl; by_cases hlt2 : k < s.size
  · have hb0 : decide (s.size ≤ k) = false := by simp; omega
    have HD := yh (drop_byte s k hlt2); have hdl : (s.data.toList.drop k).length = s.size - k := by rw [List.length_drop, HLEN.out]
    have HE2 := yh (show R = (match one k (s.data.toList.drop k) with | .error f => .error f | .ok (tk, q) => scanAll s.data.toList n (s.data.toList.drop q) (acc ++ [tk])) from by
     rw [← HE.out]; unfold scanHead; rw [HD.out]; simp only; rw [← HD.out, hdl, HLEN.out, show s.size - (s.size - k) = k by omega])
    go_wp2_with fail; refine (ended_any (w.heap.size + 1) s k sv 0 0 false hb0 _ HBK.out).mono ?_; rintro e w2 ⟨rfl, n2, rfl⟩; go_wp2_with fail; have HO2 := own_keep HOV.out ((Keep.refl none wr).drewN n2) (NotRow.none _ _); cases hx : one k (s.data.toList.drop k) with
    | error f =>
     refine (one_walk (w.heap.size + 1) (w.heap.size + 1) s k sv acc hs' hlt2 _ (HBK.out.drewN _) HO2 (Nat.le_refl _) (by omega) _ hx).mono ?_; rintro e w5 ⟨rfl, ⟨j, sv5, hb5⟩, hbl5⟩; have B5 := yh (show Blk w5 w.heap.size [.int .i64 0, .int .i64 0, .string ⟨#[]⟩] 26 from (hbl5.block _ (by omega)).trans BFK.out); have hc := hb5.cell; have hf5 := B5.out.frozen; have hc5 := B5.out.cell; have hr := HE2.out; rw [hx] at hr; subst hr; go_wp2_with fail; go_region
     go_wp2_with fail; have KF : Keep (some w.heap.size) w5 (((w5.setCell ⟨w.heap.size, 0, none⟩ (.int .i64 f.code)).setCell ⟨w.heap.size, 1, none⟩ (.int .i64 f.pl)).setCell ⟨w.heap.size, 2, none⟩ (.string ⟨#[]⟩)) := by
      have k1 := (Keep.refl (some w.heap.size) w5).set ⟨w.heap.size, 0, none⟩ (.int .i64 f.code) (.inl rfl); have k2 := k1.set ⟨w.heap.size, 1, none⟩ (.int .i64 f.pl) (.inl rfl); exact k2.set ⟨w.heap.size, 2, none⟩ (.string ⟨#[]⟩) (.inl rfl)
     refine bodyPost_ret (results_tf rfl _ _ w.heap.size _ _ _ rfl (((B5.out.set 0 (.int .i64 f.code)).set 1 (.int .i64 f.pl)).set 2 (.string ⟨#[]⟩)).drew) rfl ?_; exact ⟨rfl, (Keep.trans_new (KW.out.below_trans (BL.out.trans (Below.ofDrewN hbl5)) (by omega)) KF (Nat.le_refl _)).drew⟩
    | ok x =>
     obtain ⟨tk, q⟩ := x; have hadv := one_adv hx; rw [hdl] at hadv; refine (one_walk (w.heap.size + 1) (w.heap.size + 1) s k sv acc hs' hlt2 _ (HBK.out.drewN _) HO2 (Nat.le_refl _) (by omega) _ hx).mono ?_; rintro e w5 ⟨rfl, ⟨sv5, hb5, ho5⟩, hbl5⟩; go_wp2_with fail; refine (skip_walk (w.heap.size + 1) s q sv5 0 0 hs' (by omega) _ hb5).mono ?_; rintro e w6 ⟨rfl, k6, hk6, hqk6, hsk6, hb6, hkp6⟩; go_wp2_with fail; go_roundw; case rel =>
      cases n with
      | zero => omega
      | succ n =>
      refine ⟨n, k6, acc ++ [tk], sv5, hk6, by omega, by simp; omega, ?_, hb6, own_keep ho5 hkp6 (NotRow.blk hb5 (by decide)), (BL.out.trans (Below.ofDrewN hbl5)).trans (hkp6.belowAt (Nat.le_refl _) (by have := hb5.lt; omega))⟩; have hr := HE2.out; rw [hx] at hr; dsimp only at hr; rw [hsk6, hr, scanAll_head]
     case measure =>
      rw [HBK.out.at_, hb6.at_]; omega
  · have hb0 : decide (s.size ≤ k) = true := by simp; omega
    go_wp2_with fail; refine (ended_any (w.heap.size + 1) s k sv 0 0 true hb0 _ HBK.out).mono ?_; rintro e w2 ⟨rfl, n2, rfl⟩; go_wp2_with fail; refine (add_any (w.heap.size + 1) (w.heap.size + 1) s k sv 0 0 acc ⟨0, s.size, []⟩ _ (HBK.out.drewN _) (own_keep HOV.out ((Keep.refl none wr).drewN n2) (NotRow.none _ _)) (Nat.le_refl _) (by omega)).mono ?_; rintro e w6 ⟨rfl, ⟨sv6, hb6, ho6⟩, hbl6⟩; have B6 := yh (show Blk w6 w.heap.size [.int .i64 0, .int .i64 0, .string ⟨#[]⟩] 26 from (hbl6.block _ (by omega)).trans BFK.out); have hc := hb6.cell; have hf5 := B6.out.frozen; have hc5 := B6.out.cell
    have hr : R = .ok (acc ++ [⟨0, s.size, []⟩]) := by
     rw [← HE.out, show k = s.size by omega, drop_end]; unfold scanHead; rw [HLEN.out]
    subst hr; go_wp2_with fail; have KF : Keep (some w.heap.size) w6 (((w6.setCell ⟨w.heap.size, 0, none⟩ (.int .i64 0)).setCell ⟨w.heap.size, 1, none⟩ (.int .i64 0)).setCell ⟨w.heap.size, 2, none⟩ (.string ⟨#[]⟩)) := by
     have k1 := (Keep.refl (some w.heap.size) w6).set ⟨w.heap.size, 0, none⟩ (.int .i64 0) (.inl rfl); have k2 := k1.set ⟨w.heap.size, 1, none⟩ (.int .i64 0) (.inl rfl); exact k2.set ⟨w.heap.size, 2, none⟩ (.string ⟨#[]⟩) (.inl rfl)
    refine bodyPost_ret (results_tf rfl _ _ w.heap.size _ _ _ rfl (((B6.out.set 0 (.int .i64 0)).set 1 (.int .i64 0)).set 2 (.string ⟨#[]⟩))) rfl ?_; refine ⟨sv6, rfl, ⟨w.heap.size + 1, by omega, own_keep ho6 KF (NotRow.blk B6.out (by decide))⟩, ?_⟩; exact Keep.trans_new (KW.out.below_trans (BL.out.trans (Below.ofDrewN hbl6)) (by omega)) KF (Nat.le_refl _)
end Go.Proofs.YtmfabihndpidnaaGreatDoor
