/-
  A term's text without its places: stripped.
-/
import Derived.Test.YtmfabihndpidnaaGreatDoorK48
namespace Go.Proofs.YtmfabihndpidnaaGreatDoor
set_option maxHeartbeats 16000000
open Go.RowKit
set_option maxRecDepth 100000
set_option linter.unusedVariables false
set_option linter.unusedSimpArgs false
theorem sgo_nil (m : Md) : sgo m [] = [] := by cases m <;> rfl
theorem sgo_q {c : UInt8} (t : Bs) (h : (c == 34 || c == 47) = true) : sgo .out (c :: t) = c :: sgo (.inq c) t := by rw [sgo, if_pos h]
theorem sgo_a {c : UInt8} (t : Bs) (h : (c == 34 || c == 47) = false) (h2 : (c == 64) = true) : sgo .out (c :: t) = sgo .dig t := by rw [sgo, if_neg (by simp [h]), if_pos h2]
theorem sgo_c {c : UInt8} (t : Bs) (h : (c == 34 || c == 47) = false) (h2 : (c == 64) = false) : sgo .out (c :: t) = c :: sgo .out t := by conv => lhs; rw [sgo, if_neg (by simp [h]), if_neg (by simp [h2])]
theorem sgo_d {c : UInt8} (t : Bs) (h : digit c = true) : sgo .dig (c :: t) = sgo .dig t := by conv => lhs; rw [sgo, if_pos h]
theorem sgo_e {c : UInt8} (t : Bs) (h : digit c = false) : sgo .dig (c :: t) = sgo .out (c :: t) := by
 conv => lhs; rw [sgo, if_neg (by simp [h])]
 rw [sgo]
theorem sgo_i0 (q : UInt8) (t : Bs) : sgo (.inq q) (q :: t) = q :: sgo .out t := inq_end q t
theorem sgo_i1 {q d : UInt8} (e : UInt8) (t : Bs) (h : (d == q) = false) (h2 : (d == 92) = true) : sgo (.inq q) (d :: e :: t) = d :: e :: sgo (.inq q) t := by conv => lhs; rw [sgo, if_neg (by simp [h]), if_pos h2]
theorem sgo_i2 {q d : UInt8} (t : Bs) (h : (d == q) = false) (h2 : (d == 92) = false ∨ t = []) : sgo (.inq q) (d :: t) = d :: sgo (.inq q) t := by
 cases t with
 | nil => simp [sgo, h]
 | cons e t =>
  rcases h2 with h2 | h2
  · conv => lhs; rw [sgo, if_neg (by simp [h]), if_neg (by simp [h2])]
  · cases h2
theorem stripped_walk (s : ByteArray) (w : World) (hl : s.size ≤ 10000000000000) : Calls Tryz.prog 8 #[.string s] w fun e w' => e = .returned (.string (mkS (sgo .out s.data.toList))) ∧ Keep none w w' := by
 obtain ⟨i0, hi5, hz0, hz1, hz2⟩ := info_parts info5; have HI := yh hi5; have HZ0 := yh hz0; have HZ1 := yh hz1; have HZ2 := yh hz2; obtain ⟨T, hT⟩ : ∃ T : Bs, sgo .out s.data.toList = T := ⟨_, rfl⟩; have HT := yh hT; rw [hT]; clear hi5 hz0 hz1 hz2 hT; go_enter Tryz.func8, Tryz.ntmps8; go_wp2_with fail; go_loopw [3, 4] (fun ov kv wr => ∃ (k : Nat) (acc : Bs), kv = .int .i64 (k : Int) ∧ k ≤ s.size + 1 ∧ acc.length ≤ k ∧ acc ++ sgo .out (s.data.toList.drop k) = T ∧ wr.ownsRow w.heap.size 5 1 ov acc.length (Lib.byteCells acc) ∧ Keep none w wr) (fun _ kv _ => s.size + 1 - (intOf kv).toNat)
 case atStart =>
  exact ⟨0, [], rfl, by omega, by simp, HT.out, ⟨rfl, .inl ⟨rfl, rfl⟩⟩, Keep.refl _ _⟩
 case round =>
  obtain ⟨k, acc, rfl, hk, hal, hacc, hov, hkp⟩ := hrel; have HK := yh hkp; have HV := yh hov; have HACC := yh hacc; clear hkp hov hacc; by_cases hlt : k < s.size
  · have b0 : ((k : Int) < (s.size : Int)) := by omega
    have b1 : (0 : Int) ≤ (k : Int) := by omega
    have hwk : IntKind.i64.wrap ((k : Int) + 1) = (k : Int) + 1 := IntWalk.i64_in _ (by omega); have HD := yh (drop_byte s k hlt); by_cases h34 : (s[k] == 34) = true
    · have c34 : ((s[k].toNat : Int) == 34) = true := byte_eq _ 34 true (by omega) h34; have HQ := yh (show (s[k] == 34 || s[k] == 47) = true from by simp [h34]); clear h34; have NB := yh (Blk.new wr [.int .u8 (s[k].toNat : Int)] 5); have OWA := yh (own_keep HV.out ((Keep.refl none _).alloc (.cells #[.int .u8 (s[k].toNat : Int)] 5)) (NotRow.none _ _)); go_wp2_with (at_builtin; refine wpList_append_lies _ (by rfl) _ _ _ (by rfl) w.heap.size 5 i0 _ 1 1 Tryz.underlying48 HI.out HZ0.out HZ1.out HZ2.out rfl (by omega) u3 (acc.length) (Lib.byteCells acc) (by rfl) OWA.out ⟨wr.heap.size, 0, none⟩ 1 1 [.int .u8 (s[k].toNat : Int)] (by rfl) (by rfl) (World.news_of_block NB.out) (by simp [Value.oneCell']) (by omega) (by unfold maxLen; omega) (by omega) (by have := HK.out.size; simp; omega) (wr.heap.size + 1) (by simp) ?_)
      intro gg7 cap7 w7 hown hgrow hat hlw; have HK7 := yh (show Keep none w w7 from (HK.out.alloc _).grown hgrow (fun k hk => .inr (own_base OWA.out k hk))); have OW7 := yh (show w7.ownsRow w.heap.size 5 1 _ ((acc ++ [s[k]]).length) (Lib.byteCells (acc ++ [s[k]])) from by simpa [Lib.byteCells] using hown); clear hown hgrow hat hlw NB OWA; have HE := yh (show (acc ++ [s[k]]) ++ sgo (.inq s[k]) (s.data.toList.drop (k + 1)) = T from by rw [← HACC.out, HD.out, sgo_q _ HQ.out]; simp); have HL := yh (show (acc ++ [s[k]]).length ≤ k + 1 from by simp; omega); generalize acc ++ [s[k]] = acc1 at HE HL OW7 ⊢
      clear HD HQ HACC HV HK c34 ; go_wp2_with fail; go_loopw [3, 4] (fun ov kv wr2 => ∃ (j : Nat) (acc2 : Bs), kv = .int .i64 (j : Int) ∧ k < j ∧ j ≤ s.size ∧ acc2.length ≤ j ∧ acc2 ++ sgo (.inq s[k]) (s.data.toList.drop j) = T ∧ wr2.ownsRow w.heap.size 5 1 ov acc2.length (Lib.byteCells acc2) ∧ Keep none w wr2) (fun _ kv _ => s.size - (intOf kv).toNat)
      case atStart => exact ⟨k + 1, acc1, by simp, by omega, by omega, HL.out, HE.out, OW7.out, HK7.out⟩
      case round =>
       clear HE HL OW7 HK7; obtain ⟨j, acc2, rfl, hkj, hj, hal2, hacc2, hov2, hkp2⟩ := hrel; have HK2 := yh hkp2; have HV2 := yh hov2; have HA2 := yh hacc2; clear hkp2 hov2 hacc2; have hwj : IntKind.i64.wrap ((j : Int) + 1) = (j : Int) + 1 := IntWalk.i64_in _ (by omega); by_cases hlt2 : j < s.size
       · have d0 : ((j : Int) < (s.size : Int)) := by omega
         have d1 : (0 : Int) ≤ (j : Int) := by omega
         have HD := yh (drop_byte s j hlt2); by_cases heq : s[j] = s[k]
         · have e0 : ((s[j].toNat : Int) != (s[k].toNat : Int)) = false := by rw [heq]; simp
           have HE := yh (show (acc2 ++ [s[k]]) ++ sgo .out (s.data.toList.drop (j + 1)) = T from by rw [← HA2.out, HD.out, heq, sgo_i0]; simp); clear heq; have NB := yh (Blk.new wr [.int .u8 (s[k].toNat : Int)] 5); have OWA := yh (own_keep HV2.out ((Keep.refl none _).alloc (.cells #[.int .u8 (s[k].toNat : Int)] 5)) (NotRow.none _ _)); go_wp2_with (at_builtin; refine wpList_append_lies _ (by rfl) _ _ _ (by rfl) w.heap.size 5 i0 _ 1 1 Tryz.underlying48 HI.out HZ0.out HZ1.out HZ2.out rfl (by omega) u3 (acc2.length) (Lib.byteCells acc2) (by rfl) OWA.out ⟨wr.heap.size, 0, none⟩ 1 1 [.int .u8 (s[k].toNat : Int)] (by rfl) (by rfl) (World.news_of_block NB.out) (by simp [Value.oneCell']) (by omega) (by unfold maxLen; omega) (by omega) (by have := HK2.out.size; simp; omega) (wr.heap.size + 1) (by simp) ?_)
           intro gg7 cap7 w7 hown hgrow hat hlw; have HK7 := yh (show Keep none w w7 from (HK2.out.alloc _).grown hgrow (fun k hk => .inr (own_base OWA.out k hk))); have OW7 := yh (show w7.ownsRow w.heap.size 5 1 _ ((acc2 ++ [s[k]]).length) (Lib.byteCells (acc2 ++ [s[k]])) from by simpa [Lib.byteCells] using hown); clear hown hgrow hat hlw NB OWA; go_wp2_with fail; go_roundw; case rel => exact ⟨j + 1, acc2 ++ [s[k]], by first | rfl | (simp; done) | (simp; omega), by omega, by (try simp only [List.length_append, List.length_cons, List.length_nil]); omega, HE.out, OW7.out, HK7.out⟩
           case measure =>
            simp only [intOf, Int.toNat_natCast]; omega
         · have e0 : ((s[j].toNat : Int) != (s[k].toNat : Int)) = true := by
            rw [bne_iff_ne]; intro h; exact heq (UInt8.toNat_inj.1 (by omega))
           have HN := yh (show (s[j] == s[k]) = false from by simpa using heq); clear heq; by_cases h92 : (s[j] == 92) = true
           · have c92 : ((s[j].toNat : Int) == 92) = true := byte_eq _ 92 true (by omega) h92; by_cases hlt3 : j + 1 < s.size
             · have f0 : ((j : Int) + 1 < (s.size : Int)) := by omega
               have f1 : (0 : Int) ≤ (j : Int) + 1 := by omega
               have hwj2 : IntKind.i64.wrap ((j : Int) + 1 + 1) = (j : Int) + 1 + 1 := IntWalk.i64_in _ (by omega); have hb1 : j + 1 < s.size := by omega
               have HE := yh (show (acc2 ++ [s[j]] ++ [s[(j + 1)]]) ++ sgo (.inq s[k]) (s.data.toList.drop ((j + 1) + 1)) = T from by
                rw [← HA2.out, HD.out, drop_byte s (j + 1) hb1, sgo_i1 _ _ HN.out h92]; simp)
               clear h92; have NB := yh (Blk.new wr [.int .u8 (s[j].toNat : Int)] 5); have OWA := yh (own_keep HV2.out ((Keep.refl none _).alloc (.cells #[.int .u8 (s[j].toNat : Int)] 5)) (NotRow.none _ _)); go_wp2_with (at_builtin; refine wpList_append_lies _ (by rfl) _ _ _ (by rfl) w.heap.size 5 i0 _ 1 1 Tryz.underlying48 HI.out HZ0.out HZ1.out HZ2.out rfl (by omega) u3 (acc2.length) (Lib.byteCells acc2) (by rfl) OWA.out ⟨wr.heap.size, 0, none⟩ 1 1 [.int .u8 (s[j].toNat : Int)] (by rfl) (by rfl) (World.news_of_block NB.out) (by simp [Value.oneCell']) (by omega) (by unfold maxLen; omega) (by omega) (by have := HK2.out.size; simp; omega) (wr.heap.size + 1) (by simp) ?_)
               intro gg6 cap6 w6 hown hgrow hat hlw; have HK6 := yh (show Keep none w w6 from (HK2.out.alloc _).grown hgrow (fun k hk => .inr (own_base OWA.out k hk))); have OW6 := yh (show w6.ownsRow w.heap.size 5 1 _ (acc2.length + 1) (Lib.byteCells (acc2 ++ [s[j]])) from by simpa [Lib.byteCells] using hown); clear hown hgrow hat hlw NB OWA; generalize (Value.slice (some ⟨gg6, 0, none⟩) (acc2.length + 1) cap6) = sv6 at OW6 ⊢; have NB := yh (Blk.new w6 [.int .u8 (s[j + 1].toNat : Int)] 5); have OWA := yh (own_keep OW6.out ((Keep.refl none _).alloc (.cells #[.int .u8 (s[j + 1].toNat : Int)] 5)) (NotRow.none _ _))
               go_wp2_with (at_builtin; refine wpList_append_lies _ (by rfl) _ _ _ (by rfl) w.heap.size 5 i0 _ 1 1 Tryz.underlying48 HI.out HZ0.out HZ1.out HZ2.out rfl (by omega) sv6 (acc2.length + 1) (Lib.byteCells (acc2 ++ [s[j]])) (by rfl) OWA.out ⟨w6.heap.size, 0, none⟩ 1 1 [.int .u8 (s[j + 1].toNat : Int)] (by rfl) (by rfl) (World.news_of_block NB.out) (by simp [Value.oneCell']) (by omega) (by unfold maxLen; omega) (by omega) (by have := HK6.out.size; simp; omega) (w6.heap.size + 1) (by simp) ?_); intro gg7 cap7 w7 hown hgrow hat hlw; have HK7 := yh (show Keep none w w7 from (HK6.out.alloc _).grown hgrow (fun k hk => .inr (own_base OWA.out k hk)))
               have OW7 := yh (show w7.ownsRow w.heap.size 5 1 _ ((acc2 ++ [s[j]] ++ [s[j + 1]]).length) (Lib.byteCells ((acc2 ++ [s[j]]) ++ [s[j + 1]])) from by simpa [Lib.byteCells] using hown); clear hown hgrow hat hlw NB OWA; go_wp2_with fail; go_roundw; case rel => exact ⟨j + 1 + 1, acc2 ++ [s[j]] ++ [s[j + 1]], by first | rfl | (simp; done) | (simp; omega), by omega, by omega, by (try simp only [List.length_append, List.length_cons, List.length_nil]); omega, HE.out, OW7.out, HK7.out⟩
               case measure =>
                simp only [intOf, Int.toNat_natCast]; omega
             · have f0 : ¬ ((j : Int) + 1 < (s.size : Int)) := by omega
               have HE := yh (show (acc2 ++ [s[j]]) ++ sgo (.inq s[k]) (s.data.toList.drop (j + 1)) = T from by
                rw [← HA2.out, HD.out, sgo_i2 _ HN.out (.inr (List.drop_eq_nil_of_le (by simp; omega)))]; simp)
               clear h92; have NB := yh (Blk.new wr [.int .u8 (s[j].toNat : Int)] 5); have OWA := yh (own_keep HV2.out ((Keep.refl none _).alloc (.cells #[.int .u8 (s[j].toNat : Int)] 5)) (NotRow.none _ _)); go_wp2_with (at_builtin; refine wpList_append_lies _ (by rfl) _ _ _ (by rfl) w.heap.size 5 i0 _ 1 1 Tryz.underlying48 HI.out HZ0.out HZ1.out HZ2.out rfl (by omega) u3 (acc2.length) (Lib.byteCells acc2) (by rfl) OWA.out ⟨wr.heap.size, 0, none⟩ 1 1 [.int .u8 (s[j].toNat : Int)] (by rfl) (by rfl) (World.news_of_block NB.out) (by simp [Value.oneCell']) (by omega) (by unfold maxLen; omega) (by omega) (by have := HK2.out.size; simp; omega) (wr.heap.size + 1) (by simp) ?_)
               intro gg7 cap7 w7 hown hgrow hat hlw; have HK7 := yh (show Keep none w w7 from (HK2.out.alloc _).grown hgrow (fun k hk => .inr (own_base OWA.out k hk))); have OW7 := yh (show w7.ownsRow w.heap.size 5 1 _ ((acc2 ++ [s[j]]).length) (Lib.byteCells (acc2 ++ [s[j]])) from by simpa [Lib.byteCells] using hown); clear hown hgrow hat hlw NB OWA; go_wp2_with fail; go_roundw; case rel => exact ⟨j + 1, acc2 ++ [s[j]], by first | rfl | (simp; done) | (simp; omega), by omega, by omega, by (try simp only [List.length_append, List.length_cons, List.length_nil]); omega, HE.out, OW7.out, HK7.out⟩
               case measure =>
                simp only [intOf, Int.toNat_natCast]; omega
           · have h92' : (s[j] == 92) = false := by simpa using h92
             have c92 : ((s[j].toNat : Int) == 92) = false := byte_eq _ 92 false (by omega) h92'; have HE := yh (show (acc2 ++ [s[j]]) ++ sgo (.inq s[k]) (s.data.toList.drop (j + 1)) = T from by
              rw [← HA2.out, HD.out, sgo_i2 _ HN.out (.inl h92')]; simp)
             clear h92 h92'; have NB := yh (Blk.new wr [.int .u8 (s[j].toNat : Int)] 5); have OWA := yh (own_keep HV2.out ((Keep.refl none _).alloc (.cells #[.int .u8 (s[j].toNat : Int)] 5)) (NotRow.none _ _)); go_wp2_with (at_builtin; refine wpList_append_lies _ (by rfl) _ _ _ (by rfl) w.heap.size 5 i0 _ 1 1 Tryz.underlying48 HI.out HZ0.out HZ1.out HZ2.out rfl (by omega) u3 (acc2.length) (Lib.byteCells acc2) (by rfl) OWA.out ⟨wr.heap.size, 0, none⟩ 1 1 [.int .u8 (s[j].toNat : Int)] (by rfl) (by rfl) (World.news_of_block NB.out) (by simp [Value.oneCell']) (by omega) (by unfold maxLen; omega) (by omega) (by have := HK2.out.size; simp; omega) (wr.heap.size + 1) (by simp) ?_)
             intro gg7 cap7 w7 hown hgrow hat hlw; have HK7 := yh (show Keep none w w7 from (HK2.out.alloc _).grown hgrow (fun k hk => .inr (own_base OWA.out k hk))); have OW7 := yh (show w7.ownsRow w.heap.size 5 1 _ ((acc2 ++ [s[j]]).length) (Lib.byteCells (acc2 ++ [s[j]])) from by simpa [Lib.byteCells] using hown); clear hown hgrow hat hlw NB OWA; go_wp2_with fail; go_roundw; case rel => exact ⟨j + 1, acc2 ++ [s[j]], by first | rfl | (simp; done) | (simp; omega), by omega, by omega, by (try simp only [List.length_append, List.length_cons, List.length_nil]); omega, HE.out, OW7.out, HK7.out⟩
             case measure =>
              simp only [intOf, Int.toNat_natCast]; omega
       · have d0 : ¬ ((j : Int) < (s.size : Int)) := by omega
         have HE := yh (show acc2 ++ sgo .out (s.data.toList.drop (j + 1)) = T from by
          rw [← HA2.out, List.drop_eq_nil_of_le (by simp; omega), List.drop_eq_nil_of_le (by simp; omega), sgo_nil, sgo_nil])
         go_wp2_with fail; go_roundw; case rel => exact ⟨j + 1, acc2, by first | rfl | (simp; done) | (simp; omega), by omega, by (try simp only [List.length_append, List.length_cons, List.length_nil]); omega, HE.out, HV2.out, HK2.out⟩
         case measure =>
          simp only [intOf, Int.toNat_natCast]; omega
    have h34' : (s[k] == 34) = false := by simpa using h34
    have c34 : ((s[k].toNat : Int) == 34) = false := byte_eq _ 34 false (by omega) h34'; clear h34; by_cases h47 : (s[k] == 47) = true
    · have c47 : ((s[k].toNat : Int) == 47) = true := byte_eq _ 47 true (by omega) h47; have HQ := yh (show (s[k] == 34 || s[k] == 47) = true from by simp [h47]); clear h47; have NB := yh (Blk.new wr [.int .u8 (s[k].toNat : Int)] 5); have OWA := yh (own_keep HV.out ((Keep.refl none _).alloc (.cells #[.int .u8 (s[k].toNat : Int)] 5)) (NotRow.none _ _)); go_wp2_with (at_builtin; refine wpList_append_lies _ (by rfl) _ _ _ (by rfl) w.heap.size 5 i0 _ 1 1 Tryz.underlying48 HI.out HZ0.out HZ1.out HZ2.out rfl (by omega) u3 (acc.length) (Lib.byteCells acc) (by rfl) OWA.out ⟨wr.heap.size, 0, none⟩ 1 1 [.int .u8 (s[k].toNat : Int)] (by rfl) (by rfl) (World.news_of_block NB.out) (by simp [Value.oneCell']) (by omega) (by unfold maxLen; omega) (by omega) (by have := HK.out.size; simp; omega) (wr.heap.size + 1) (by simp) ?_)
      intro gg7 cap7 w7 hown hgrow hat hlw; have HK7 := yh (show Keep none w w7 from (HK.out.alloc _).grown hgrow (fun k hk => .inr (own_base OWA.out k hk))); have OW7 := yh (show w7.ownsRow w.heap.size 5 1 _ ((acc ++ [s[k]]).length) (Lib.byteCells (acc ++ [s[k]])) from by simpa [Lib.byteCells] using hown); clear hown hgrow hat hlw NB OWA; have HE := yh (show (acc ++ [s[k]]) ++ sgo (.inq s[k]) (s.data.toList.drop (k + 1)) = T from by rw [← HACC.out, HD.out, sgo_q _ HQ.out]; simp); have HL := yh (show (acc ++ [s[k]]).length ≤ k + 1 from by simp; omega); generalize acc ++ [s[k]] = acc1 at HE HL OW7 ⊢
      clear HD HQ HACC HV HK c34 c47; go_wp2_with fail; go_loopw [3, 4] (fun ov kv wr2 => ∃ (j : Nat) (acc2 : Bs), kv = .int .i64 (j : Int) ∧ k < j ∧ j ≤ s.size ∧ acc2.length ≤ j ∧ acc2 ++ sgo (.inq s[k]) (s.data.toList.drop j) = T ∧ wr2.ownsRow w.heap.size 5 1 ov acc2.length (Lib.byteCells acc2) ∧ Keep none w wr2) (fun _ kv _ => s.size - (intOf kv).toNat)
      case atStart => exact ⟨k + 1, acc1, by simp, by omega, by omega, HL.out, HE.out, OW7.out, HK7.out⟩
      case round =>
       clear HE HL OW7 HK7; obtain ⟨j, acc2, rfl, hkj, hj, hal2, hacc2, hov2, hkp2⟩ := hrel; have HK2 := yh hkp2; have HV2 := yh hov2; have HA2 := yh hacc2; clear hkp2 hov2 hacc2; have hwj : IntKind.i64.wrap ((j : Int) + 1) = (j : Int) + 1 := IntWalk.i64_in _ (by omega); by_cases hlt2 : j < s.size
       · have d0 : ((j : Int) < (s.size : Int)) := by omega
         have d1 : (0 : Int) ≤ (j : Int) := by omega
         have HD := yh (drop_byte s j hlt2); by_cases heq : s[j] = s[k]
         · have e0 : ((s[j].toNat : Int) != (s[k].toNat : Int)) = false := by rw [heq]; simp
           have HE := yh (show (acc2 ++ [s[k]]) ++ sgo .out (s.data.toList.drop (j + 1)) = T from by rw [← HA2.out, HD.out, heq, sgo_i0]; simp); clear heq; have NB := yh (Blk.new wr [.int .u8 (s[k].toNat : Int)] 5); have OWA := yh (own_keep HV2.out ((Keep.refl none _).alloc (.cells #[.int .u8 (s[k].toNat : Int)] 5)) (NotRow.none _ _)); go_wp2_with (at_builtin; refine wpList_append_lies _ (by rfl) _ _ _ (by rfl) w.heap.size 5 i0 _ 1 1 Tryz.underlying48 HI.out HZ0.out HZ1.out HZ2.out rfl (by omega) u3 (acc2.length) (Lib.byteCells acc2) (by rfl) OWA.out ⟨wr.heap.size, 0, none⟩ 1 1 [.int .u8 (s[k].toNat : Int)] (by rfl) (by rfl) (World.news_of_block NB.out) (by simp [Value.oneCell']) (by omega) (by unfold maxLen; omega) (by omega) (by have := HK2.out.size; simp; omega) (wr.heap.size + 1) (by simp) ?_)
           intro gg7 cap7 w7 hown hgrow hat hlw; have HK7 := yh (show Keep none w w7 from (HK2.out.alloc _).grown hgrow (fun k hk => .inr (own_base OWA.out k hk))); have OW7 := yh (show w7.ownsRow w.heap.size 5 1 _ ((acc2 ++ [s[k]]).length) (Lib.byteCells (acc2 ++ [s[k]])) from by simpa [Lib.byteCells] using hown); clear hown hgrow hat hlw NB OWA; go_wp2_with fail; go_roundw; case rel => exact ⟨j + 1, acc2 ++ [s[k]], by first | rfl | (simp; done) | (simp; omega), by omega, by (try simp only [List.length_append, List.length_cons, List.length_nil]); omega, HE.out, OW7.out, HK7.out⟩
           case measure =>
            simp only [intOf, Int.toNat_natCast]; omega
         · have e0 : ((s[j].toNat : Int) != (s[k].toNat : Int)) = true := by
            rw [bne_iff_ne]; intro h; exact heq (UInt8.toNat_inj.1 (by omega))
           have HN := yh (show (s[j] == s[k]) = false from by simpa using heq); clear heq; by_cases h92 : (s[j] == 92) = true
           · have c92 : ((s[j].toNat : Int) == 92) = true := byte_eq _ 92 true (by omega) h92; by_cases hlt3 : j + 1 < s.size
             · have f0 : ((j : Int) + 1 < (s.size : Int)) := by omega
               have f1 : (0 : Int) ≤ (j : Int) + 1 := by omega
               have hwj2 : IntKind.i64.wrap ((j : Int) + 1 + 1) = (j : Int) + 1 + 1 := IntWalk.i64_in _ (by omega); have hb1 : j + 1 < s.size := by omega
               have HE := yh (show (acc2 ++ [s[j]] ++ [s[(j + 1)]]) ++ sgo (.inq s[k]) (s.data.toList.drop ((j + 1) + 1)) = T from by
                rw [← HA2.out, HD.out, drop_byte s (j + 1) hb1, sgo_i1 _ _ HN.out h92]; simp)
               clear h92; have NB := yh (Blk.new wr [.int .u8 (s[j].toNat : Int)] 5); have OWA := yh (own_keep HV2.out ((Keep.refl none _).alloc (.cells #[.int .u8 (s[j].toNat : Int)] 5)) (NotRow.none _ _)); go_wp2_with (at_builtin; refine wpList_append_lies _ (by rfl) _ _ _ (by rfl) w.heap.size 5 i0 _ 1 1 Tryz.underlying48 HI.out HZ0.out HZ1.out HZ2.out rfl (by omega) u3 (acc2.length) (Lib.byteCells acc2) (by rfl) OWA.out ⟨wr.heap.size, 0, none⟩ 1 1 [.int .u8 (s[j].toNat : Int)] (by rfl) (by rfl) (World.news_of_block NB.out) (by simp [Value.oneCell']) (by omega) (by unfold maxLen; omega) (by omega) (by have := HK2.out.size; simp; omega) (wr.heap.size + 1) (by simp) ?_)
               intro gg6 cap6 w6 hown hgrow hat hlw; have HK6 := yh (show Keep none w w6 from (HK2.out.alloc _).grown hgrow (fun k hk => .inr (own_base OWA.out k hk))); have OW6 := yh (show w6.ownsRow w.heap.size 5 1 _ (acc2.length + 1) (Lib.byteCells (acc2 ++ [s[j]])) from by simpa [Lib.byteCells] using hown); clear hown hgrow hat hlw NB OWA; generalize (Value.slice (some ⟨gg6, 0, none⟩) (acc2.length + 1) cap6) = sv6 at OW6 ⊢; have NB := yh (Blk.new w6 [.int .u8 (s[j + 1].toNat : Int)] 5); have OWA := yh (own_keep OW6.out ((Keep.refl none _).alloc (.cells #[.int .u8 (s[j + 1].toNat : Int)] 5)) (NotRow.none _ _))
               go_wp2_with (at_builtin; refine wpList_append_lies _ (by rfl) _ _ _ (by rfl) w.heap.size 5 i0 _ 1 1 Tryz.underlying48 HI.out HZ0.out HZ1.out HZ2.out rfl (by omega) sv6 (acc2.length + 1) (Lib.byteCells (acc2 ++ [s[j]])) (by rfl) OWA.out ⟨w6.heap.size, 0, none⟩ 1 1 [.int .u8 (s[j + 1].toNat : Int)] (by rfl) (by rfl) (World.news_of_block NB.out) (by simp [Value.oneCell']) (by omega) (by unfold maxLen; omega) (by omega) (by have := HK6.out.size; simp; omega) (w6.heap.size + 1) (by simp) ?_); intro gg7 cap7 w7 hown hgrow hat hlw; have HK7 := yh (show Keep none w w7 from (HK6.out.alloc _).grown hgrow (fun k hk => .inr (own_base OWA.out k hk)))
               have OW7 := yh (show w7.ownsRow w.heap.size 5 1 _ ((acc2 ++ [s[j]] ++ [s[j + 1]]).length) (Lib.byteCells ((acc2 ++ [s[j]]) ++ [s[j + 1]])) from by simpa [Lib.byteCells] using hown); clear hown hgrow hat hlw NB OWA; go_wp2_with fail; go_roundw; case rel => exact ⟨j + 1 + 1, acc2 ++ [s[j]] ++ [s[j + 1]], by first | rfl | (simp; done) | (simp; omega), by omega, by omega, by (try simp only [List.length_append, List.length_cons, List.length_nil]); omega, HE.out, OW7.out, HK7.out⟩
               case measure =>
                simp only [intOf, Int.toNat_natCast]; omega
             · have f0 : ¬ ((j : Int) + 1 < (s.size : Int)) := by omega
               have HE := yh (show (acc2 ++ [s[j]]) ++ sgo (.inq s[k]) (s.data.toList.drop (j + 1)) = T from by
                rw [← HA2.out, HD.out, sgo_i2 _ HN.out (.inr (List.drop_eq_nil_of_le (by simp; omega)))]; simp)
               clear h92; have NB := yh (Blk.new wr [.int .u8 (s[j].toNat : Int)] 5); have OWA := yh (own_keep HV2.out ((Keep.refl none _).alloc (.cells #[.int .u8 (s[j].toNat : Int)] 5)) (NotRow.none _ _)); go_wp2_with (at_builtin; refine wpList_append_lies _ (by rfl) _ _ _ (by rfl) w.heap.size 5 i0 _ 1 1 Tryz.underlying48 HI.out HZ0.out HZ1.out HZ2.out rfl (by omega) u3 (acc2.length) (Lib.byteCells acc2) (by rfl) OWA.out ⟨wr.heap.size, 0, none⟩ 1 1 [.int .u8 (s[j].toNat : Int)] (by rfl) (by rfl) (World.news_of_block NB.out) (by simp [Value.oneCell']) (by omega) (by unfold maxLen; omega) (by omega) (by have := HK2.out.size; simp; omega) (wr.heap.size + 1) (by simp) ?_)
               intro gg7 cap7 w7 hown hgrow hat hlw; have HK7 := yh (show Keep none w w7 from (HK2.out.alloc _).grown hgrow (fun k hk => .inr (own_base OWA.out k hk))); have OW7 := yh (show w7.ownsRow w.heap.size 5 1 _ ((acc2 ++ [s[j]]).length) (Lib.byteCells (acc2 ++ [s[j]])) from by simpa [Lib.byteCells] using hown); clear hown hgrow hat hlw NB OWA; go_wp2_with fail; go_roundw; case rel => exact ⟨j + 1, acc2 ++ [s[j]], by first | rfl | (simp; done) | (simp; omega), by omega, by omega, by (try simp only [List.length_append, List.length_cons, List.length_nil]); omega, HE.out, OW7.out, HK7.out⟩
               case measure =>
                simp only [intOf, Int.toNat_natCast]; omega
           · have h92' : (s[j] == 92) = false := by simpa using h92
             have c92 : ((s[j].toNat : Int) == 92) = false := byte_eq _ 92 false (by omega) h92'; have HE := yh (show (acc2 ++ [s[j]]) ++ sgo (.inq s[k]) (s.data.toList.drop (j + 1)) = T from by
              rw [← HA2.out, HD.out, sgo_i2 _ HN.out (.inl h92')]; simp)
             clear h92 h92'; have NB := yh (Blk.new wr [.int .u8 (s[j].toNat : Int)] 5); have OWA := yh (own_keep HV2.out ((Keep.refl none _).alloc (.cells #[.int .u8 (s[j].toNat : Int)] 5)) (NotRow.none _ _)); go_wp2_with (at_builtin; refine wpList_append_lies _ (by rfl) _ _ _ (by rfl) w.heap.size 5 i0 _ 1 1 Tryz.underlying48 HI.out HZ0.out HZ1.out HZ2.out rfl (by omega) u3 (acc2.length) (Lib.byteCells acc2) (by rfl) OWA.out ⟨wr.heap.size, 0, none⟩ 1 1 [.int .u8 (s[j].toNat : Int)] (by rfl) (by rfl) (World.news_of_block NB.out) (by simp [Value.oneCell']) (by omega) (by unfold maxLen; omega) (by omega) (by have := HK2.out.size; simp; omega) (wr.heap.size + 1) (by simp) ?_)
             intro gg7 cap7 w7 hown hgrow hat hlw; have HK7 := yh (show Keep none w w7 from (HK2.out.alloc _).grown hgrow (fun k hk => .inr (own_base OWA.out k hk))); have OW7 := yh (show w7.ownsRow w.heap.size 5 1 _ ((acc2 ++ [s[j]]).length) (Lib.byteCells (acc2 ++ [s[j]])) from by simpa [Lib.byteCells] using hown); clear hown hgrow hat hlw NB OWA; go_wp2_with fail; go_roundw; case rel => exact ⟨j + 1, acc2 ++ [s[j]], by first | rfl | (simp; done) | (simp; omega), by omega, by omega, by (try simp only [List.length_append, List.length_cons, List.length_nil]); omega, HE.out, OW7.out, HK7.out⟩
             case measure =>
              simp only [intOf, Int.toNat_natCast]; omega
       · have d0 : ¬ ((j : Int) < (s.size : Int)) := by omega
         have HE := yh (show acc2 ++ sgo .out (s.data.toList.drop (j + 1)) = T from by
          rw [← HA2.out, List.drop_eq_nil_of_le (by simp; omega), List.drop_eq_nil_of_le (by simp; omega), sgo_nil, sgo_nil])
         go_wp2_with fail; go_roundw; case rel => exact ⟨j + 1, acc2, by first | rfl | (simp; done) | (simp; omega), by omega, by (try simp only [List.length_append, List.length_cons, List.length_nil]); omega, HE.out, HV2.out, HK2.out⟩
         case measure =>
          simp only [intOf, Int.toNat_natCast]; omega
    have h47' : (s[k] == 47) = false := by simpa using h47
    have c47 : ((s[k].toNat : Int) == 47) = false := byte_eq _ 47 false (by omega) h47'; have HQ := yh (show (s[k] == 34 || s[k] == 47) = false from by simp [h34', h47']); clear h47 h34' h47'; by_cases h64 : (s[k] == 64) = true
    · have c64 : ((s[k].toNat : Int) == 64) = true := byte_eq _ 64 true (by omega) h64; have HE := yh (show acc ++ sgo .dig (s.data.toList.drop (k + 1)) = T from by rw [← HACC.out, HD.out, sgo_a _ HQ.out h64]); clear h64; go_wp2_with fail; go_loopw [4] (fun kv wr2 => ∃ (j : Nat), kv = .int .i64 (j : Int) ∧ k ≤ j ∧ j < s.size ∧ acc ++ sgo .dig (s.data.toList.drop (j + 1)) = T ∧ wr2.ownsRow w.heap.size 5 1 u3 acc.length (Lib.byteCells acc) ∧ Keep none w wr2) (fun kv _ => s.size - (intOf kv).toNat)
      case atStart => exact ⟨k, rfl, by omega, by omega, HE.out, HV.out, HK.out⟩
      case round =>
       clear HE HV HK HACC HD; obtain ⟨j, rfl, hkj, hj, hacc2, hov2, hkp2⟩ := hrel; have HK2 := yh hkp2; have HV2 := yh hov2; have HA2 := yh hacc2; clear hkp2 hov2 hacc2; have hwj : IntKind.i64.wrap ((j : Int) + 1) = (j : Int) + 1 := IntWalk.i64_in _ (by omega); by_cases hlt2 : (j + 1) < s.size
       · have d0 : (((j : Int) + 1) < (s.size : Int)) := by omega
         have d1 : (0 : Int) ≤ ((j : Int) + 1) := by omega
         have HD := yh (drop_byte s (j + 1) hlt2); by_cases hdg : digit s[(j + 1)] = true
         · have hd2 : ((48 : Int) ≤ (s[(j + 1)].toNat : Int)) ∧ ((s[(j + 1)].toNat : Int) ≤ 57) := by
            have := hdg; unfold digit at this; simp only [u8_le, Bool.and_eq_true, decide_eq_true_eq] at this; exact this
           obtain ⟨g1, g2⟩ := hd2; have HE := yh (show acc ++ sgo .dig (s.data.toList.drop ((j + 1) + 1)) = T from by rw [← HA2.out, HD.out, sgo_d _ hdg]); clear hdg; go_wp2_with fail; go_roundw; case rel => exact ⟨(j + 1), by simp, by omega, by omega, HE.out, HV2.out, HK2.out⟩
           case measure =>
            simp only [intOf, Int.toNat_natCast]; omega
         · have hdg' : digit s[(j + 1)] = false := by simpa using hdg
           have HE := yh (show acc ++ sgo .out (s.data.toList.drop (j + 1)) = T from by rw [← HA2.out, HD.out, sgo_e _ hdg']); have hd3 : (decide ((48 : Int) ≤ (s[(j + 1)].toNat : Int)) && decide ((s[(j + 1)].toNat : Int) ≤ 57)) = false := by
            unfold digit at hdg'; simp only [u8_le] at hdg'; exact hdg'
           clear hdg hdg'; by_cases g1 : ((48 : Int) ≤ (s[(j + 1)].toNat : Int))
           · have g2 : ¬ ((s[(j + 1)].toNat : Int) ≤ 57) := by
              intro h; simp [g1, h] at hd3
             clear hd3; go_wp2_with fail; go_roundw; case rel => exact ⟨(j + 1), acc, by first | rfl | (simp; done) | (simp; omega), by omega, by (try simp only [List.length_append, List.length_cons, List.length_nil]); omega, HE.out, HV2.out, HK2.out⟩
             case measure =>
              simp only [intOf, Int.toNat_natCast]; omega
           · clear hd3; go_wp2_with fail; go_roundw; case rel => exact ⟨(j + 1), acc, by first | rfl | (simp; done) | (simp; omega), by omega, by (try simp only [List.length_append, List.length_cons, List.length_nil]); omega, HE.out, HV2.out, HK2.out⟩
             case measure =>
              simp only [intOf, Int.toNat_natCast]; omega
       · have d0 : ¬ (((j : Int) + 1) < (s.size : Int)) := by omega
         have HE := yh (show acc ++ sgo .out (s.data.toList.drop (j + 1)) = T from by
          rw [← HA2.out, List.drop_eq_nil_of_le (by simp; omega), sgo_nil, sgo_nil])
         go_wp2_with fail; go_roundw; case rel => exact ⟨(j + 1), acc, by first | rfl | (simp; done) | (simp; omega), by omega, by (try simp only [List.length_append, List.length_cons, List.length_nil]); omega, HE.out, HV2.out, HK2.out⟩
         case measure =>
          simp only [intOf, Int.toNat_natCast]; omega
    have h64' : (s[k] == 64) = false := by simpa using h64
    have c64 : ((s[k].toNat : Int) == 64) = false := byte_eq _ 64 false (by omega) h64'; have HE := yh (show (acc ++ [s[k]]) ++ sgo .out (s.data.toList.drop (k + 1)) = T from by rw [← HACC.out, HD.out, sgo_c _ HQ.out h64']; simp); clear h64 h64'; have NB := yh (Blk.new wr [.int .u8 (s[k].toNat : Int)] 5); have OWA := yh (own_keep HV.out ((Keep.refl none _).alloc (.cells #[.int .u8 (s[k].toNat : Int)] 5)) (NotRow.none _ _)); go_wp2_with (at_builtin; refine wpList_append_lies _ (by rfl) _ _ _ (by rfl) w.heap.size 5 i0 _ 1 1 Tryz.underlying48 HI.out HZ0.out HZ1.out HZ2.out rfl (by omega) u3 (acc.length) (Lib.byteCells acc) (by rfl) OWA.out ⟨wr.heap.size, 0, none⟩ 1 1 [.int .u8 (s[k].toNat : Int)] (by rfl) (by rfl) (World.news_of_block NB.out) (by simp [Value.oneCell']) (by omega) (by unfold maxLen; omega) (by omega) (by have := HK.out.size; simp; omega) (wr.heap.size + 1) (by simp) ?_)
    intro gg7 cap7 w7 hown hgrow hat hlw; have HK7 := yh (show Keep none w w7 from (HK.out.alloc _).grown hgrow (fun k hk => .inr (own_base OWA.out k hk))); have OW7 := yh (show w7.ownsRow w.heap.size 5 1 _ ((acc ++ [s[k]]).length) (Lib.byteCells (acc ++ [s[k]])) from by simpa [Lib.byteCells] using hown); clear hown hgrow hat hlw NB OWA; go_wp2_with fail; go_roundw; case rel => exact ⟨k + 1, acc ++ [s[k]], by first | rfl | (simp; done) | (simp; omega), by omega, by (try simp only [List.length_append, List.length_cons, List.length_nil]); omega, HE.out, OW7.out, HK7.out⟩
    case measure =>
     simp only [intOf, Int.toNat_natCast]; omega
  · have b0 : ¬ ((k : Int) < (s.size : Int)) := by omega
    have hTe : acc = T := by
     have := HACC.out; rw [List.drop_eq_nil_of_le (by simp; omega), sgo_nil, List.append_nil] at this; exact this
    subst hTe; have hcv := own_string_bytes HV.out; go_wp2_with fail; go_ret; exact ⟨rfl, HK.out⟩
end Go.Proofs.YtmfabihndpidnaaGreatDoor
