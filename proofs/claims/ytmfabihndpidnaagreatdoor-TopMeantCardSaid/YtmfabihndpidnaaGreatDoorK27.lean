/-
  The scanner of expressions over bytes: an atom.
-/
import Derived.Test.YtmfabihndpidnaaGreatDoorK26
import Derived.Test.YtmfabihndpidnaaGreatDoorK03
namespace Go.Proofs.YtmfabihndpidnaaGreatDoor
set_option maxHeartbeats 16000000
open Go.RowKit
set_option maxRecDepth 100000
set_option linter.unusedVariables false
set_option linter.unusedSimpArgs false
theorem rdHex_code {l : Bs} {p : Nat} {f : Flt} (h : rdHex l p = .error f) : f.code = 10 := by
 unfold rdHex at h; split at h
 · cases h; rfl
 · split at h
   · cases h; rfl
   · cases h
theorem rdEsc_code {l : Bs} {p : Nat} {f : Flt} (h : rdEsc l p = .error f) : f.code = 10 := by
 unfold rdEsc at h; split at h
 · cases h; rfl
 split at h
 · cases h
 split at h
 · cases h
 split at h
 · cases h
 split at h
 · split at h
   · rename_i hx; cases h; exact rdHex_code hx
   · split at h
     · rename_i hx; cases h; exact rdHex_code hx
     · cases h
 split at h
 · cases h; rfl
 · cases h
theorem rdOne_code {l b : Bs} {p : Nat} {f : Flt} (h : rdOne l b p = .error f) : f.code = 10 := by
 unfold rdOne at h; split at h
 · cases h; rfl
 split at h
 · exact rdEsc_code h
 split at h
 · cases h; rfl
 · cases h
theorem rdMem_code {l : Bs} : ∀ {k p : Nat} {acc : Set4} {f : Flt}, rdMem l k p acc = .error f → f.code = 10
 | 0, p, acc, f, h => by cases h; rfl
 | k + 1, p, acc, f, h => by
  rw [rdMem_succ] at h; split at h
  · cases h
  · unfold rdMemN at h; split at h
    · rename_i hx; cases h; exact rdOne_code hx
    · split at h
      · split at h
        · rename_i hx; cases h; exact rdOne_code hx
        · split at h
          · cases h; rfl
          · exact rdMem_code h
      · exact rdMem_code h
theorem rdSet_code {l : Bs} {p : Nat} {f : Flt} (h : rdSet l p = .error f) : f.code = 10 := by
 rw [rdSet_neg] at h; split at h
 · cases hx : rdMem l (l.length + 1) (p + 1) .zero with
   | error f' =>
    rw [hx] at h; cases h; exact rdMem_code hx
   | ok y =>
    rw [hx] at h; cases h
 · exact rdMem_code h
theorem rdItem_code {l : Bs} {p : Nat} {f : Flt} (h : rdItem l p = .error f) : f.code = 10 := by
 unfold rdItem at h; split at h
 · cases h; rfl
 split at h
 · cases h
 split at h
 · exact rdSet_code h
 split at h
 · rename_i hx; cases h; exact rdOne_code hx
 · cases h
theorem rdMem_adv {l : Bs} : ∀ {k p : Nat} {acc t : Set4} {q : Nat}, rdMem l k p acc = .ok (t, q) → p < q
 | 0, p, acc, t, q, h => by cases h
 | k + 1, p, acc, t, q, h => by
  rw [rdMem_succ] at h; split at h
  · cases h; omega
  · unfold rdMemN at h; split at h
    · cases h
    · rename_i hx; have h1 := rdOne_adv hx; split at h
      · split at h
        · cases h
        · rename_i hy; have h2 := rdOne_adv hy; split at h
          · cases h
          · have := rdMem_adv h; omega
      · have := rdMem_adv h; omega
theorem rdItem_adv {l : Bs} {p : Nat} {t : Set4} {q : Nat} (h : rdItem l p = .ok (t, q)) : p < q := by
 unfold rdItem at h; split at h
 · cases h
 split at h
 · cases h; omega
 split at h
 · rw [rdSet_neg] at h; split at h
   · cases hx : rdMem l (l.length + 1) (p + 1 + 1) .zero with
     | error f' => rw [hx] at h; cases h
     | ok y =>
      obtain ⟨t', q'⟩ := y; rw [hx] at h; cases h; have := rdMem_adv hx; omega
   · have := rdMem_adv h; omega
 split at h
 · cases h
 · rename_i hx; cases h; have := rdOne_adv hx; omega
theorem rdMem_le {l : Bs} : ∀ {k p : Nat} {acc t : Set4} {q : Nat}, rdMem l k p acc = .ok (t, q) → q ≤ l.length
 | 0, p, acc, t, q, h => by cases h
 | k + 1, p, acc, t, q, h => by
  rw [rdMem_succ] at h; split at h
  · rename_i hp; cases h; rcases Nat.lt_or_ge p l.length with h | h
    · omega
    · rw [List.getElem?_eq_none_iff.2 h] at hp; cases hp
  · unfold rdMemN at h; split at h
    · cases h
    · split at h
      · split at h
        · cases h
        · split at h
          · cases h
          · exact rdMem_le h
      · exact rdMem_le h
theorem rdItem_le {l : Bs} {p : Nat} {t : Set4} {q : Nat} (h : rdItem l p = .ok (t, q)) : q ≤ l.length := by
 unfold rdItem at h; split at h
 · cases h
 rename_i c hc; have hp : p < l.length := by
  rcases Nat.lt_or_ge p l.length with h | h
  · exact h
  · rw [List.getElem?_eq_none_iff.2 h] at hc; cases hc
 split at h
 · cases h; omega
 split at h
 · rw [rdSet_neg] at h; split at h
   · cases hx : rdMem l (l.length + 1) (p + 1 + 1) .zero with
     | error f' => rw [hx] at h; cases h
     | ok y =>
      obtain ⟨t', q'⟩ := y; rw [hx] at h; cases h; exact rdMem_le hx
   · exact rdMem_le h
 split at h
 · cases h
 · rename_i hx; cases h; exact (rdOne_adv hx).2
theorem own_shrink {w : World} {base g : Nat} {n oc : Nat} {ao : Option Addr} {xs : List Int} (hx : xs.length = n + 1) (h : w.ownsRow base 3 1 (.slice ao (n + 1) oc) (n + 1) (xs.map (Value.int .i64))) :
 w.ownsRow base 3 1 (.slice ao n oc) n ((xs.take n).map (Value.int .i64)) := by
 rcases h.2 with ⟨_, h0⟩ | ⟨g', cap', cur, hv, hb, hg, h1, h2, h3, h4⟩
 · omega
 · cases hv; refine ⟨by simp; omega, .inr ⟨g', oc, cur, rfl, hb, hg, by omega, h2, h3, ?_⟩⟩; rw [List.map_take, ← h4, List.take_take]
   congr 1
   omega
theorem ScR.other {w : World} {base g b : Nat} {s : ByteArray} {p n : Nat} {c1 c2 : Value} {t : TypeId} (h : ScR w base g s p n) (hb : Blk w b [c1, c2] t) (ht : t ≠ 136) (h3 : t ≠ 3) (hne : g ≠ b) (x y : Value) : ScR ((w.setCell ⟨b, 0, none⟩ x).setCell ⟨b, 1, none⟩ y) base g s p n := by
 obtain ⟨ao, oc, xs, hx, hB, ho, hg⟩ := h; have kk : Keep (some b) w ((w.setCell ⟨b, 0, none⟩ x).setCell ⟨b, 1, none⟩ y) := ((Keep.refl (some b) w).set ⟨b, 0, none⟩ _ (.inl rfl)).set ⟨b, 1, none⟩ _ (.inl rfl); exact ⟨ao, oc, xs, hx, hB.keep kk (by simp; omega), own_keep ho kk (NotRow.blk hb h3), hg⟩
theorem read_gen (s : ByteArray) (i : Nat) (hs : s.size ≤ 2000000) (hi : i < s.size) : ∃ (t : Set4) (q c pl : Int),
 ((∃ f : Flt, rdItem s.data.toList i = .error f ∧ c = 10 ∧ f.code = 10) ∨ (∃ q' : Nat, rdItem s.data.toList i = .ok (t, q') ∧ q = (q' : Int) ∧ c = 0 ∧ pl = 0 ∧ i < q' ∧ q' ≤ s.size)) ∧
 ∀ w, Escs w → Calls Tryz.prog 125 #[.string s, .int .i64 (i : Int)] w fun e w' => e = .returned (.tuple #[t.val, .int .i64 q, faultV c pl]) ∧ Keep none w w' := by
 cases hx : rdItem s.data.toList i with
 | error f =>
  refine ⟨.zero, 0, f.code, f.pl, .inl ⟨f, rfl, by rw [rdItem_code hx]; rfl, rdItem_code hx⟩, fun w hE => ?_⟩; exact read_walk s i hs hi w hE _ hx
 | ok y =>
  obtain ⟨t, q⟩ := y; by_cases hq : q ≤ s.size
  · refine ⟨t, q, 0, 0, .inr ⟨q, rfl, rfl, rfl, rfl, rdItem_adv hx, hq⟩, fun w hE => ?_⟩; exact (read_walk s i hs hi w hE _ hx).mono fun _ _ h => ⟨h.1, h.2.2⟩
  · exact absurd (rdItem_le hx) (by have : s.data.toList.length = s.size := (by show s.data.toList.length = s.data.size; simp); omega)
def CutR (V : World) (g : Nat) (t : Set4) (q c pl : Int) (s3 s4 s5 : Value) (wx : World) : Prop := ∃ b3 b5 : Nat, s3 = .pointer (some ⟨b3, 0, none⟩) ∧ s4 = .int .i64 q ∧ s5 = .pointer (some ⟨b5, 0, none⟩) ∧
 Blk wx b3 t.cells 178 ∧ Blk wx b5 [.int .i64 c, .int .i64 pl, .string ⟨#[]⟩] 26 ∧ g ≠ b3 ∧ g ≠ b5 ∧ Keep none V wx ∧ V.heap.size ≤ b3 ∧ V.heap.size ≤ b5
theorem rx_atom_set (s : ByteArray) (hs : s.size ≤ 2000000) (m : Nat) (n p base g : Nat) (w : World) (R : Except Nat (Rl × Nat)) (hp : p < s.size) (hm : 1 ≤ m) (h : ScR w base g s p n) (hE : Escs w) (hb3 : 3 < base) (hR : rxAtom s.data.toList m n p = R) (h40 : (s[p] == 40) = false) :
 Calls Tryz.prog 115 #[.pointer (some ⟨g, 0, none⟩)] w (RxOut base g s n (p + 1) w R) := by
 have HE := yh hE; have hgl := h.lt; have hlt256 := s[p].toNat_lt; have c40 : ((s[p].toNat : Int) == 40) = false := byte_eq _ 40 false (by omega) h40; have e40 : ((s[p].toNat : Int) != 40) = true := by rw [bne, c40]; rfl
 obtain ⟨m, rfl⟩ : ∃ m', m = m' + 1 := ⟨m - 1, by omega⟩; have HR := yh (show (match rdItem s.data.toList p with
  | .error f => .error f.code
  | .ok (s, q) => .ok (.leaf (.cls s), q)) = R from by
  rw [rxAtom, if_neg (by rw [get_byte s p hp]; simpa using h40)] at hR; exact hR)
 obtain ⟨ao, oc, xs, hx, hB, hO, hbg⟩ := h; have HX := yh hx; have HB := yh (show Blk (w.alloc (.cells #[.int .i64 0, .nilFunc] 139)) g [.string s, .int .i64 (p : Int), .slice ao n oc] 136 from hB.alloc _); have HO := yh (show (w.alloc (.cells #[.int .i64 0, .nilFunc] 139)).ownsRow base 3 1 (.slice ao n oc) n (xs.map (Value.int .i64)) from own_keep hO ((Keep.refl _ _).alloc _) (NotRow.none _ _)); have HEA := yh (show Escs (w.alloc (.cells #[.int .i64 0, .nilFunc] 139)) from hE.keep ((Keep.refl _ _).alloc _)); have HKA := yh (show RK base w (w.alloc (.cells #[.int .i64 0, .nilFunc] 139)) from (RK.refl _ _).alloc _)
 have BR := yh (show Blk (w.alloc (.cells #[.int .i64 0, .nilFunc] 139)) w.heap.size [.int .i64 0, .nilFunc] 139 from Blk.new w _ 139); clear hE hR hx hB hO h40; go_enter Tryz.func115, Tryz.ntmps115; go_wp2_with fail; refine (rx_next g s p _ hs hp _ HB.out).mono ?_; rintro e x1 ⟨rfl, x1n, rfl⟩; have HB := yh (HB.out.drewN x1n); have HO := yh (own_keep HO.out ((Keep.refl none _).drewN x1n) (NotRow.none _ _)); have HEA := yh (HEA.out.keep ((Keep.refl none _).drewN x1n)); have HKA := yh (HKA.out.drewN x1n); have BR := yh (BR.out.drewN x1n); generalize World.drewN (World.alloc w _) x1n = V at HB HO HEA HKA BR ⊢
 go_wp2_with fail; have HGV := yh (show g < V.heap.size from HB.out.lt); have hgv := HGV.out; obtain ⟨t, q, c, pl, hcase, hcall⟩ := read_gen s p hs hp; have HCALL := yh hcall; have HCASE := yh hcase; clear hcall hcase; go_cut [3, 4, 5] (fun s3 s4 s5 wx => CutR V g t q c pl s3 s4 s5 wx)
 case first =>
  rename_i J K' hJ hK'; have HEV := yh HEA.out; have HKV := yh (Keep.refl none V); have HKL := yh (Nat.le_refl V.heap.size); refine wp_region_pen (fun w' => Blk w' g [.string s, .int .i64 (p : Int), .slice ao n oc] 136) 99 (by kernel_rfl) (by kernel_rfl) (fun c a d v w h => by cases d <;> exact h) (by exact HB.out.drew) ?_; simp only [List.length_cons, List.length_nil]; replace HB := yh HB.out.drew; replace HKV := yh HKV.out.drew; replace HKL := yh (show V.heap.size ≤ V.drew.heap.size from Nat.le_refl _); generalize V.drew = V0 at HB HKV HKL ⊢; refine pen_stable 0 (by rfl) (by decide +kernel) (fun K hK => ?_)
  rw [if_pos (by rfl)]; apply Exists.intro; refine ⟨fun w' hS' => ?_, hK _ ?_⟩
  · replace hS' := Blk.cell hS'; go_simp; try with_reducible rfl
  clear hK K; simp only [Act.put, List.setIfInBounds_toArray, List.set]; refine pen_stable 1 (by rfl) (by decide +kernel) (fun K hK => ?_); rw [if_pos (by rfl)]; apply Exists.intro; refine ⟨fun w' hS' => ?_, hK _ ?_⟩
  · replace hS' := Blk.cell hS'; go_simp; try with_reducible rfl
  clear hK K; simp only [Act.put, List.setIfInBounds_toArray, List.set]; refine pen_stable 2 (by rfl) (by decide +kernel) (fun K hK => ?_); rw [if_pos (by rfl)]; apply Exists.intro; refine ⟨fun w' hS' => ?_, hK _ ?_⟩
  · replace hS' := Blk.cell hS'; go_simp; try with_reducible rfl
  clear hK K; simp only [Act.put, List.setIfInBounds_toArray, List.set]; refine pen_stable 3 (by rfl) (by decide +kernel) (fun K hK => ?_); rw [if_pos (by rfl)]; apply Exists.intro; refine ⟨fun w' hS' => ?_, hK _ ?_⟩
  · replace hS' := Blk.cell hS'; go_simp; try with_reducible rfl
  clear hK K; simp only [Act.put, List.setIfInBounds_toArray, List.set]; refine pen_stable 4 (by rfl) (by decide +kernel) (fun K hK => ?_); rw [if_pos (by rfl)]; apply Exists.intro; refine ⟨fun w' hS' => ?_, hK _ ?_⟩
  · replace hS' := Blk.cell hS'; go_simp; try with_reducible rfl
  clear hK K; simp only [Act.put, List.setIfInBounds_toArray, List.set]; refine pen_stable 5 (by rfl) (by decide +kernel) (fun K hK => ?_); rw [if_pos (by rfl)]; apply Exists.intro; refine ⟨fun w' hS' => ?_, hK _ ?_⟩
  · replace hS' := Blk.cell hS'; go_simp; try with_reducible rfl
  clear hK K; simp only [Act.put, List.setIfInBounds_toArray, List.set]; refine pen_stable 6 (by rfl) (by decide +kernel) (fun K hK => ?_); rw [if_pos (by rfl)]; apply Exists.intro; refine ⟨fun w' hS' => ?_, hK _ ?_⟩
  · replace hS' := Blk.cell hS'; go_simp; try with_reducible rfl
  clear hK K; simp only [Act.put, List.setIfInBounds_toArray, List.set]; refine pen_stable 7 (by rfl) (by decide +kernel) (fun K hK => ?_); rw [if_pos (by rfl)]; apply Exists.intro; refine ⟨fun w' hS' => ?_, hK _ ?_⟩
  · replace hS' := Blk.cell hS'; go_simp; try with_reducible rfl
  clear hK K; simp only [Act.put, List.setIfInBounds_toArray, List.set]; refine pen_three 8 13 14 (by rfl) (by rfl) (by rfl) (by decide +kernel) (fun K hK => ?_) (fun K hK => ?_) (fun K hK => ?_)
  · rw [if_pos (by rfl)]; go_wp2_with fail; refine (HCALL.out _ (HEV.out.keep HKV.out)).mono ?_; rintro e Y1 ⟨rfl, kx⟩; replace HB := yh (HB.out.keep kx (by simp)); replace HKV := yh (HKV.out.trans kx); replace HKL := yh (Nat.le_trans HKL.out kx.size); clear kx; refine hK.out _ _ (HB.out) ?_; clear hK K; try simp only [Act.put, List.setIfInBounds_toArray, List.set]
    refine pen_stable 9 (by rfl) (by decide +kernel) (fun K hK => ?_); rw [if_pos (by rfl)]; apply Exists.intro; refine ⟨fun w' hS' => ?_, hK _ ?_⟩
    · (try dsimp only at hS')
      go_simp; try with_reducible rfl
    clear hK K; simp only [Act.put, List.setIfInBounds_toArray, List.set]; refine pen_stable 10 (by rfl) (by decide +kernel) (fun K hK => ?_); rw [if_pos (by rfl)]; apply Exists.intro; refine ⟨fun w' hS' => ?_, hK _ ?_⟩
    · (try dsimp only at hS')
      go_simp; try with_reducible rfl
    clear hK K; simp only [Act.put, List.setIfInBounds_toArray, List.set]; refine pen_stable 11 (by rfl) (by decide +kernel) (fun K hK => ?_); rw [if_pos (by rfl)]; apply Exists.intro; refine ⟨fun w' hS' => ?_, hK _ ?_⟩
    · (try dsimp only at hS')
      go_simp; try with_reducible rfl
    clear hK K; simp only [Act.put, List.setIfInBounds_toArray, List.set]; refine pen_stable 12 (by rfl) (by decide +kernel) (fun K hK => ?_); rw [if_pos (by rfl)]; apply Exists.intro; refine ⟨fun w' hS' => ?_, hK _ ?_⟩
    · (try dsimp only at hS')
      go_simp; try with_reducible rfl
    clear hK K; simp only [Act.put, List.setIfInBounds_toArray, List.set]; refine pen_two 13 14 (by rfl) (by rfl) (by decide +kernel) (fun K hK => ?_) (fun K hK => ?_)
    · rw [if_pos (by rfl)]; go_simp; refine hK.out _ _ (HB.out.alloc _) ?_; clear hK K; try simp only [Act.put, List.setIfInBounds_toArray, List.set]
      have B3 := yh (Blk.new Y1 Set4.zero.cells 178); replace HB := yh (HB.out.alloc (.cells (Set4.zero.cells : List Value).toArray 178)); replace HKV := yh (HKV.out.alloc (.cells (Set4.zero.cells : List Value).toArray 178)); have hlb3 : V.heap.size ≤ Y1.heap.size := HKL.out; have HLT := yh (show Y1.heap.size < (World.alloc Y1 (.cells ((Set4.zero.cells : List Value).toArray) 178)).heap.size from by simp); replace HKL := yh (show V.heap.size ≤ (World.alloc Y1 (.cells ((Set4.zero.cells : List Value).toArray) 178)).heap.size from by have := HKL.out; simp; omega); change Pen _ _ _ _ _ _ _ _ (World.alloc Y1 (.cells ((Set4.zero.cells : List Value).toArray) 178))
      generalize hW2 : World.alloc Y1 (.cells ((Set4.zero.cells : List Value).toArray) 178) = Y2 at *; clear hW2; generalize hbb : Y1.heap.size = b3 at *; clear hbb; refine pen_active 14 (by rfl) (by decide +kernel) (fun K hK => ?_); rw [if_pos (by rfl)]; go_simp; refine hK.out _ _ (HB.out.alloc _) ?_; clear hK K; try simp only [Act.put, List.setIfInBounds_toArray, List.set]
      have B5 := yh (Blk.new Y2 [.int .i64 0, .int .i64 0, .string ⟨#[]⟩] 26); replace HB := yh (HB.out.alloc (.cells ([.int .i64 0, .int .i64 0, .string ⟨#[]⟩] : List Value).toArray 26)); replace HKV := yh (HKV.out.alloc (.cells ([.int .i64 0, .int .i64 0, .string ⟨#[]⟩] : List Value).toArray 26)); replace B3 := yh (B3.out.alloc (.cells ([.int .i64 0, .int .i64 0, .string ⟨#[]⟩] : List Value).toArray 26)); have hlb5 : V.heap.size ≤ Y2.heap.size := HKL.out; have hne : b3 ≠ Y2.heap.size := by have := HLT.out; omega
      clear HLT; have HLT := yh (show Y2.heap.size < (World.alloc Y2 (.cells (([.int .i64 0, .int .i64 0, .string ⟨#[]⟩] : List Value).toArray) 26)).heap.size from by simp); replace HKL := yh (show V.heap.size ≤ (World.alloc Y2 (.cells (([.int .i64 0, .int .i64 0, .string ⟨#[]⟩] : List Value).toArray) 26)).heap.size from by have := HKL.out; simp; omega); change Pen _ _ _ _ _ _ _ _ (World.alloc Y2 (.cells (([.int .i64 0, .int .i64 0, .string ⟨#[]⟩] : List Value).toArray) 26)); generalize hW2 : World.alloc Y2 (.cells (([.int .i64 0, .int .i64 0, .string ⟨#[]⟩] : List Value).toArray) 26) = Y3 at *
      clear hW2; generalize hbb : Y2.heap.size = b5 at *; clear hbb; have hc3 := B3.out.cell; have hf3 := B3.out.frozen; have hc5 := B5.out.cell; have hf5 := B5.out.frozen; have hgb3 : g ≠ b3 := by omega
      have hgb5 : g ≠ b5 := by omega
      unfold Set4.cells at hc3; refine pen_active 15 (by rfl) (by decide +kernel) (fun K hK => ?_); unfold Set4.val; rw [if_pos (by rfl)]; go_simp; refine hK.out _ _ (Blk.far4 HB.out _ _ _ _ hgb3) ?_; clear hK K; try simp only [Act.put, List.setIfInBounds_toArray, List.set]
      refine pen_stable 16 (by rfl) (by decide +kernel) (fun K hK => ?_); rw [if_pos (by rfl)]; apply Exists.intro; refine ⟨fun w' hS' => ?_, hK _ ?_⟩
      · (try dsimp only at hS')
        go_simp; try with_reducible rfl
      clear hK K; simp only [Act.put, List.setIfInBounds_toArray, List.set]; replace HB := yh (Blk.far4 HB.out (.int .u64 t.a) (.int .u64 t.b) (.int .u64 t.c) (.int .u64 t.d) hgb3); refine pen_active 17 (by rfl) (by decide +kernel) (fun K hK => ?_); unfold faultV; rw [if_pos (by rfl)]; go_simp; refine hK.out _ _ (Blk.far3 HB.out _ _ _ hgb5) ?_; clear hK K; try simp only [Act.put, List.setIfInBounds_toArray, List.set]
      refine pen_done (by decide +kernel) ?_; clear hc3 hf3 hc5 hf5; refine hK' _ _ (Met.intro (hJ _ _ ?_))
      (repeat apply Exists.intro)
      refine ⟨?_, rfl⟩; exact ⟨b3, b5, rfl, rfl, rfl, ((((B3.out.set 0 _).set 1 _).set 2 _).set 3 _).far3 _ _ _ (by omega), (B5.out.far4 _ _ _ _ (by omega)).three _ _ _, hgb3, hgb5, (HKV.out.four _ _ _ _ hlb3).three _ _ _ hlb5, by omega⟩
    · rw [if_pos (by rfl)]; go_simp; refine hK.out _ _ (HB.out.alloc _) ?_; clear hK K; try simp only [Act.put, List.setIfInBounds_toArray, List.set]
      have B5 := yh (Blk.new Y1 [.int .i64 0, .int .i64 0, .string ⟨#[]⟩] 26); replace HB := yh (HB.out.alloc (.cells ([.int .i64 0, .int .i64 0, .string ⟨#[]⟩] : List Value).toArray 26)); replace HKV := yh (HKV.out.alloc (.cells ([.int .i64 0, .int .i64 0, .string ⟨#[]⟩] : List Value).toArray 26)); have hlb5 : V.heap.size ≤ Y1.heap.size := HKL.out; have HLT := yh (show Y1.heap.size < (World.alloc Y1 (.cells (([.int .i64 0, .int .i64 0, .string ⟨#[]⟩] : List Value).toArray) 26)).heap.size from by simp); replace HKL := yh (show V.heap.size ≤ (World.alloc Y1 (.cells (([.int .i64 0, .int .i64 0, .string ⟨#[]⟩] : List Value).toArray) 26)).heap.size from by have := HKL.out; simp; omega)
      change Pen _ _ _ _ _ _ _ _ (World.alloc Y1 (.cells (([.int .i64 0, .int .i64 0, .string ⟨#[]⟩] : List Value).toArray) 26)); generalize hW2 : World.alloc Y1 (.cells (([.int .i64 0, .int .i64 0, .string ⟨#[]⟩] : List Value).toArray) 26) = Y4 at *; clear hW2; generalize hbb : Y1.heap.size = b5 at *; clear hbb; refine pen_active 13 (by rfl) (by decide +kernel) (fun K hK => ?_); rw [if_pos (by rfl)]; go_simp; refine hK.out _ _ (HB.out.alloc _) ?_; clear hK K; try simp only [Act.put, List.setIfInBounds_toArray, List.set]
      have B3 := yh (Blk.new Y4 Set4.zero.cells 178); replace HB := yh (HB.out.alloc (.cells (Set4.zero.cells : List Value).toArray 178)); replace HKV := yh (HKV.out.alloc (.cells (Set4.zero.cells : List Value).toArray 178)); replace B5 := yh (B5.out.alloc (.cells (Set4.zero.cells : List Value).toArray 178)); have hlb3 : V.heap.size ≤ Y4.heap.size := HKL.out; have hne : b5 ≠ Y4.heap.size := by have := HLT.out; omega
      clear HLT; have HLT := yh (show Y4.heap.size < (World.alloc Y4 (.cells ((Set4.zero.cells : List Value).toArray) 178)).heap.size from by simp); replace HKL := yh (show V.heap.size ≤ (World.alloc Y4 (.cells ((Set4.zero.cells : List Value).toArray) 178)).heap.size from by have := HKL.out; simp; omega); change Pen _ _ _ _ _ _ _ _ (World.alloc Y4 (.cells ((Set4.zero.cells : List Value).toArray) 178)); generalize hW2 : World.alloc Y4 (.cells ((Set4.zero.cells : List Value).toArray) 178) = Y5 at *; clear hW2; generalize hbb : Y4.heap.size = b3 at *; clear hbb; have hc3 := B3.out.cell; have hf3 := B3.out.frozen
      have hc5 := B5.out.cell; have hf5 := B5.out.frozen; have hgb3 : g ≠ b3 := by omega
      have hgb5 : g ≠ b5 := by omega
      unfold Set4.cells at hc3; refine pen_active 15 (by rfl) (by decide +kernel) (fun K hK => ?_); unfold Set4.val; rw [if_pos (by rfl)]; go_simp; refine hK.out _ _ (Blk.far4 HB.out _ _ _ _ hgb3) ?_; clear hK K; try simp only [Act.put, List.setIfInBounds_toArray, List.set]
      refine pen_stable 16 (by rfl) (by decide +kernel) (fun K hK => ?_); rw [if_pos (by rfl)]; apply Exists.intro; refine ⟨fun w' hS' => ?_, hK _ ?_⟩
      · (try dsimp only at hS')
        go_simp; try with_reducible rfl
      clear hK K; simp only [Act.put, List.setIfInBounds_toArray, List.set]; replace HB := yh (Blk.far4 HB.out (.int .u64 t.a) (.int .u64 t.b) (.int .u64 t.c) (.int .u64 t.d) hgb3); refine pen_active 17 (by rfl) (by decide +kernel) (fun K hK => ?_); unfold faultV; rw [if_pos (by rfl)]; go_simp; refine hK.out _ _ (Blk.far3 HB.out _ _ _ hgb5) ?_; clear hK K; try simp only [Act.put, List.setIfInBounds_toArray, List.set]
      refine pen_done (by decide +kernel) ?_; clear hc3 hf3 hc5 hf5; refine hK' _ _ (Met.intro (hJ _ _ ?_))
      (repeat apply Exists.intro)
      refine ⟨?_, rfl⟩; exact ⟨b3, b5, rfl, rfl, rfl, ((((B3.out.set 0 _).set 1 _).set 2 _).set 3 _).far3 _ _ _ (by omega), (B5.out.far4 _ _ _ _ (by omega)).three _ _ _, hgb3, hgb5, (HKV.out.four _ _ _ _ hlb3).three _ _ _ hlb5, by omega⟩
  · rw [if_pos (by rfl)]; go_simp; refine hK.out _ _ (HB.out.alloc _) ?_; clear hK K; try simp only [Act.put, List.setIfInBounds_toArray, List.set]
    have B3 := yh (Blk.new V0 Set4.zero.cells 178); replace HB := yh (HB.out.alloc (.cells (Set4.zero.cells : List Value).toArray 178)); replace HKV := yh (HKV.out.alloc (.cells (Set4.zero.cells : List Value).toArray 178)); have hlb3 : V.heap.size ≤ V0.heap.size := HKL.out; have HLT := yh (show V0.heap.size < (World.alloc V0 (.cells ((Set4.zero.cells : List Value).toArray) 178)).heap.size from by simp); replace HKL := yh (show V.heap.size ≤ (World.alloc V0 (.cells ((Set4.zero.cells : List Value).toArray) 178)).heap.size from by have := HKL.out; simp; omega); change Pen _ _ _ _ _ _ _ _ (World.alloc V0 (.cells ((Set4.zero.cells : List Value).toArray) 178))
    generalize hW2 : World.alloc V0 (.cells ((Set4.zero.cells : List Value).toArray) 178) = Y6 at *; clear hW2; generalize hbb : V0.heap.size = b3 at *; clear hbb; refine pen_two 8 14 (by rfl) (by rfl) (by decide +kernel) (fun K hK => ?_) (fun K hK => ?_)
    · rw [if_pos (by rfl)]; go_wp2_with fail; refine (HCALL.out _ (HEV.out.keep HKV.out)).mono ?_; rintro e Y7 ⟨rfl, kx⟩; replace HB := yh (HB.out.keep kx (by simp)); replace HKV := yh (HKV.out.trans kx); replace HKL := yh (Nat.le_trans HKL.out kx.size); replace B3 := yh (B3.out.keep kx (by simp)); replace HLT := yh (Nat.lt_of_lt_of_le HLT.out kx.size); clear kx; refine hK.out _ _ (HB.out) ?_; clear hK K; try simp only [Act.put, List.setIfInBounds_toArray, List.set]
      refine pen_stable 9 (by rfl) (by decide +kernel) (fun K hK => ?_); rw [if_pos (by rfl)]; apply Exists.intro; refine ⟨fun w' hS' => ?_, hK _ ?_⟩
      · (try dsimp only at hS')
        go_simp; try with_reducible rfl
      clear hK K; simp only [Act.put, List.setIfInBounds_toArray, List.set]; refine pen_stable 10 (by rfl) (by decide +kernel) (fun K hK => ?_); rw [if_pos (by rfl)]; apply Exists.intro; refine ⟨fun w' hS' => ?_, hK _ ?_⟩
      · (try dsimp only at hS')
        go_simp; try with_reducible rfl
      clear hK K; simp only [Act.put, List.setIfInBounds_toArray, List.set]; refine pen_stable 11 (by rfl) (by decide +kernel) (fun K hK => ?_); rw [if_pos (by rfl)]; apply Exists.intro; refine ⟨fun w' hS' => ?_, hK _ ?_⟩
      · (try dsimp only at hS')
        go_simp; try with_reducible rfl
      clear hK K; simp only [Act.put, List.setIfInBounds_toArray, List.set]; refine pen_stable 12 (by rfl) (by decide +kernel) (fun K hK => ?_); rw [if_pos (by rfl)]; apply Exists.intro; refine ⟨fun w' hS' => ?_, hK _ ?_⟩
      · (try dsimp only at hS')
        go_simp; try with_reducible rfl
      clear hK K; simp only [Act.put, List.setIfInBounds_toArray, List.set]; refine pen_active 14 (by rfl) (by decide +kernel) (fun K hK => ?_); rw [if_pos (by rfl)]; go_simp; refine hK.out _ _ (HB.out.alloc _) ?_; clear hK K; try simp only [Act.put, List.setIfInBounds_toArray, List.set]
      have B5 := yh (Blk.new Y7 [.int .i64 0, .int .i64 0, .string ⟨#[]⟩] 26); replace HB := yh (HB.out.alloc (.cells ([.int .i64 0, .int .i64 0, .string ⟨#[]⟩] : List Value).toArray 26)); replace HKV := yh (HKV.out.alloc (.cells ([.int .i64 0, .int .i64 0, .string ⟨#[]⟩] : List Value).toArray 26)); replace B3 := yh (B3.out.alloc (.cells ([.int .i64 0, .int .i64 0, .string ⟨#[]⟩] : List Value).toArray 26)); have hlb5 : V.heap.size ≤ Y7.heap.size := HKL.out; have hne : b3 ≠ Y7.heap.size := by have := HLT.out; omega
      clear HLT; have HLT := yh (show Y7.heap.size < (World.alloc Y7 (.cells (([.int .i64 0, .int .i64 0, .string ⟨#[]⟩] : List Value).toArray) 26)).heap.size from by simp); replace HKL := yh (show V.heap.size ≤ (World.alloc Y7 (.cells (([.int .i64 0, .int .i64 0, .string ⟨#[]⟩] : List Value).toArray) 26)).heap.size from by have := HKL.out; simp; omega); change Pen _ _ _ _ _ _ _ _ (World.alloc Y7 (.cells (([.int .i64 0, .int .i64 0, .string ⟨#[]⟩] : List Value).toArray) 26)); generalize hW2 : World.alloc Y7 (.cells (([.int .i64 0, .int .i64 0, .string ⟨#[]⟩] : List Value).toArray) 26) = Y8 at *
      clear hW2; generalize hbb : Y7.heap.size = b5 at *; clear hbb; have hc3 := B3.out.cell; have hf3 := B3.out.frozen; have hc5 := B5.out.cell; have hf5 := B5.out.frozen; have hgb3 : g ≠ b3 := by omega
      have hgb5 : g ≠ b5 := by omega
      unfold Set4.cells at hc3; refine pen_active 15 (by rfl) (by decide +kernel) (fun K hK => ?_); unfold Set4.val; rw [if_pos (by rfl)]; go_simp; refine hK.out _ _ (Blk.far4 HB.out _ _ _ _ hgb3) ?_; clear hK K; try simp only [Act.put, List.setIfInBounds_toArray, List.set]
      refine pen_stable 16 (by rfl) (by decide +kernel) (fun K hK => ?_); rw [if_pos (by rfl)]; apply Exists.intro; refine ⟨fun w' hS' => ?_, hK _ ?_⟩
      · (try dsimp only at hS')
        go_simp; try with_reducible rfl
      clear hK K; simp only [Act.put, List.setIfInBounds_toArray, List.set]; replace HB := yh (Blk.far4 HB.out (.int .u64 t.a) (.int .u64 t.b) (.int .u64 t.c) (.int .u64 t.d) hgb3); refine pen_active 17 (by rfl) (by decide +kernel) (fun K hK => ?_); unfold faultV; rw [if_pos (by rfl)]; go_simp; refine hK.out _ _ (Blk.far3 HB.out _ _ _ hgb5) ?_; clear hK K; try simp only [Act.put, List.setIfInBounds_toArray, List.set]
      refine pen_done (by decide +kernel) ?_; clear hc3 hf3 hc5 hf5; refine hK' _ _ (Met.intro (hJ _ _ ?_))
      (repeat apply Exists.intro)
      refine ⟨?_, rfl⟩; exact ⟨b3, b5, rfl, rfl, rfl, ((((B3.out.set 0 _).set 1 _).set 2 _).set 3 _).far3 _ _ _ (by omega), (B5.out.far4 _ _ _ _ (by omega)).three _ _ _, hgb3, hgb5, (HKV.out.four _ _ _ _ hlb3).three _ _ _ hlb5, by omega⟩
    · rw [if_pos (by rfl)]; go_simp; refine hK.out _ _ (HB.out.alloc _) ?_; clear hK K; try simp only [Act.put, List.setIfInBounds_toArray, List.set]
      have B5 := yh (Blk.new Y6 [.int .i64 0, .int .i64 0, .string ⟨#[]⟩] 26); replace HB := yh (HB.out.alloc (.cells ([.int .i64 0, .int .i64 0, .string ⟨#[]⟩] : List Value).toArray 26)); replace HKV := yh (HKV.out.alloc (.cells ([.int .i64 0, .int .i64 0, .string ⟨#[]⟩] : List Value).toArray 26)); replace B3 := yh (B3.out.alloc (.cells ([.int .i64 0, .int .i64 0, .string ⟨#[]⟩] : List Value).toArray 26)); have hlb5 : V.heap.size ≤ Y6.heap.size := HKL.out; have hne : b3 ≠ Y6.heap.size := by have := HLT.out; omega
      clear HLT; have HLT := yh (show Y6.heap.size < (World.alloc Y6 (.cells (([.int .i64 0, .int .i64 0, .string ⟨#[]⟩] : List Value).toArray) 26)).heap.size from by simp); replace HKL := yh (show V.heap.size ≤ (World.alloc Y6 (.cells (([.int .i64 0, .int .i64 0, .string ⟨#[]⟩] : List Value).toArray) 26)).heap.size from by have := HKL.out; simp; omega); change Pen _ _ _ _ _ _ _ _ (World.alloc Y6 (.cells (([.int .i64 0, .int .i64 0, .string ⟨#[]⟩] : List Value).toArray) 26)); generalize hW2 : World.alloc Y6 (.cells (([.int .i64 0, .int .i64 0, .string ⟨#[]⟩] : List Value).toArray) 26) = Y9 at *
      clear hW2; generalize hbb : Y6.heap.size = b5 at *; clear hbb; refine pen_active 8 (by rfl) (by decide +kernel) (fun K hK => ?_); rw [if_pos (by rfl)]; go_wp2_with fail; refine (HCALL.out _ (HEV.out.keep HKV.out)).mono ?_; rintro e Y10 ⟨rfl, kx⟩; replace HB := yh (HB.out.keep kx (by simp)); replace HKV := yh (HKV.out.trans kx); replace HKL := yh (Nat.le_trans HKL.out kx.size); replace B3 := yh (B3.out.keep kx (by simp)); replace B5 := yh (B5.out.keep kx (by simp)); replace HLT := yh (Nat.lt_of_lt_of_le HLT.out kx.size); clear kx; refine hK.out _ _ (HB.out) ?_
      clear hK K; try simp only [Act.put, List.setIfInBounds_toArray, List.set]
      refine pen_stable 9 (by rfl) (by decide +kernel) (fun K hK => ?_); rw [if_pos (by rfl)]; apply Exists.intro; refine ⟨fun w' hS' => ?_, hK _ ?_⟩
      · (try dsimp only at hS')
        go_simp; try with_reducible rfl
      clear hK K; simp only [Act.put, List.setIfInBounds_toArray, List.set]; refine pen_stable 10 (by rfl) (by decide +kernel) (fun K hK => ?_); rw [if_pos (by rfl)]; apply Exists.intro; refine ⟨fun w' hS' => ?_, hK _ ?_⟩
      · (try dsimp only at hS')
        go_simp; try with_reducible rfl
      clear hK K; simp only [Act.put, List.setIfInBounds_toArray, List.set]; refine pen_stable 11 (by rfl) (by decide +kernel) (fun K hK => ?_); rw [if_pos (by rfl)]; apply Exists.intro; refine ⟨fun w' hS' => ?_, hK _ ?_⟩
      · (try dsimp only at hS')
        go_simp; try with_reducible rfl
      clear hK K; simp only [Act.put, List.setIfInBounds_toArray, List.set]; refine pen_stable 12 (by rfl) (by decide +kernel) (fun K hK => ?_); rw [if_pos (by rfl)]; apply Exists.intro; refine ⟨fun w' hS' => ?_, hK _ ?_⟩
      · (try dsimp only at hS')
        go_simp; try with_reducible rfl
      clear hK K; simp only [Act.put, List.setIfInBounds_toArray, List.set]; have hc3 := B3.out.cell; have hf3 := B3.out.frozen; have hc5 := B5.out.cell; have hf5 := B5.out.frozen; have hgb3 : g ≠ b3 := by omega
      have hgb5 : g ≠ b5 := by omega
      unfold Set4.cells at hc3; refine pen_active 15 (by rfl) (by decide +kernel) (fun K hK => ?_); unfold Set4.val; rw [if_pos (by rfl)]; go_simp; refine hK.out _ _ (Blk.far4 HB.out _ _ _ _ hgb3) ?_; clear hK K; try simp only [Act.put, List.setIfInBounds_toArray, List.set]
      refine pen_stable 16 (by rfl) (by decide +kernel) (fun K hK => ?_); rw [if_pos (by rfl)]; apply Exists.intro; refine ⟨fun w' hS' => ?_, hK _ ?_⟩
      · (try dsimp only at hS')
        go_simp; try with_reducible rfl
      clear hK K; simp only [Act.put, List.setIfInBounds_toArray, List.set]; replace HB := yh (Blk.far4 HB.out (.int .u64 t.a) (.int .u64 t.b) (.int .u64 t.c) (.int .u64 t.d) hgb3); refine pen_active 17 (by rfl) (by decide +kernel) (fun K hK => ?_); unfold faultV; rw [if_pos (by rfl)]; go_simp; refine hK.out _ _ (Blk.far3 HB.out _ _ _ hgb5) ?_; clear hK K; try simp only [Act.put, List.setIfInBounds_toArray, List.set]
      refine pen_done (by decide +kernel) ?_; clear hc3 hf3 hc5 hf5; refine hK' _ _ (Met.intro (hJ _ _ ?_))
      (repeat apply Exists.intro)
      refine ⟨?_, rfl⟩; exact ⟨b3, b5, rfl, rfl, rfl, ((((B3.out.set 0 _).set 1 _).set 2 _).set 3 _).far3 _ _ _ (by omega), (B5.out.far4 _ _ _ _ (by omega)).three _ _ _, hgb3, hgb5, (HKV.out.four _ _ _ _ hlb3).three _ _ _ hlb5, by omega⟩
  · rw [if_pos (by rfl)]; go_simp; refine hK.out _ _ (HB.out.alloc _) ?_; clear hK K; try simp only [Act.put, List.setIfInBounds_toArray, List.set]
    have B5 := yh (Blk.new V0 [.int .i64 0, .int .i64 0, .string ⟨#[]⟩] 26); replace HB := yh (HB.out.alloc (.cells ([.int .i64 0, .int .i64 0, .string ⟨#[]⟩] : List Value).toArray 26)); replace HKV := yh (HKV.out.alloc (.cells ([.int .i64 0, .int .i64 0, .string ⟨#[]⟩] : List Value).toArray 26)); have hlb5 : V.heap.size ≤ V0.heap.size := HKL.out; have HLT := yh (show V0.heap.size < (World.alloc V0 (.cells (([.int .i64 0, .int .i64 0, .string ⟨#[]⟩] : List Value).toArray) 26)).heap.size from by simp); replace HKL := yh (show V.heap.size ≤ (World.alloc V0 (.cells (([.int .i64 0, .int .i64 0, .string ⟨#[]⟩] : List Value).toArray) 26)).heap.size from by have := HKL.out; simp; omega)
    change Pen _ _ _ _ _ _ _ _ (World.alloc V0 (.cells (([.int .i64 0, .int .i64 0, .string ⟨#[]⟩] : List Value).toArray) 26)); generalize hW2 : World.alloc V0 (.cells (([.int .i64 0, .int .i64 0, .string ⟨#[]⟩] : List Value).toArray) 26) = Y11 at *; clear hW2; generalize hbb : V0.heap.size = b5 at *; clear hbb; refine pen_two 8 13 (by rfl) (by rfl) (by decide +kernel) (fun K hK => ?_) (fun K hK => ?_)
    · rw [if_pos (by rfl)]; go_wp2_with fail; refine (HCALL.out _ (HEV.out.keep HKV.out)).mono ?_; rintro e Y12 ⟨rfl, kx⟩; replace HB := yh (HB.out.keep kx (by simp)); replace HKV := yh (HKV.out.trans kx); replace HKL := yh (Nat.le_trans HKL.out kx.size); replace B5 := yh (B5.out.keep kx (by simp)); replace HLT := yh (Nat.lt_of_lt_of_le HLT.out kx.size); clear kx; refine hK.out _ _ (HB.out) ?_; clear hK K; try simp only [Act.put, List.setIfInBounds_toArray, List.set]
      refine pen_stable 9 (by rfl) (by decide +kernel) (fun K hK => ?_); rw [if_pos (by rfl)]; apply Exists.intro; refine ⟨fun w' hS' => ?_, hK _ ?_⟩
      · (try dsimp only at hS')
        go_simp; try with_reducible rfl
      clear hK K; simp only [Act.put, List.setIfInBounds_toArray, List.set]; refine pen_stable 10 (by rfl) (by decide +kernel) (fun K hK => ?_); rw [if_pos (by rfl)]; apply Exists.intro; refine ⟨fun w' hS' => ?_, hK _ ?_⟩
      · (try dsimp only at hS')
        go_simp; try with_reducible rfl
      clear hK K; simp only [Act.put, List.setIfInBounds_toArray, List.set]; refine pen_stable 11 (by rfl) (by decide +kernel) (fun K hK => ?_); rw [if_pos (by rfl)]; apply Exists.intro; refine ⟨fun w' hS' => ?_, hK _ ?_⟩
      · (try dsimp only at hS')
        go_simp; try with_reducible rfl
      clear hK K; simp only [Act.put, List.setIfInBounds_toArray, List.set]; refine pen_stable 12 (by rfl) (by decide +kernel) (fun K hK => ?_); rw [if_pos (by rfl)]; apply Exists.intro; refine ⟨fun w' hS' => ?_, hK _ ?_⟩
      · (try dsimp only at hS')
        go_simp; try with_reducible rfl
      clear hK K; simp only [Act.put, List.setIfInBounds_toArray, List.set]; refine pen_active 13 (by rfl) (by decide +kernel) (fun K hK => ?_); rw [if_pos (by rfl)]; go_simp; refine hK.out _ _ (HB.out.alloc _) ?_; clear hK K; try simp only [Act.put, List.setIfInBounds_toArray, List.set]
      have B3 := yh (Blk.new Y12 Set4.zero.cells 178); replace HB := yh (HB.out.alloc (.cells (Set4.zero.cells : List Value).toArray 178)); replace HKV := yh (HKV.out.alloc (.cells (Set4.zero.cells : List Value).toArray 178)); replace B5 := yh (B5.out.alloc (.cells (Set4.zero.cells : List Value).toArray 178)); have hlb3 : V.heap.size ≤ Y12.heap.size := HKL.out; have hne : b5 ≠ Y12.heap.size := by have := HLT.out; omega
      clear HLT; have HLT := yh (show Y12.heap.size < (World.alloc Y12 (.cells ((Set4.zero.cells : List Value).toArray) 178)).heap.size from by simp); replace HKL := yh (show V.heap.size ≤ (World.alloc Y12 (.cells ((Set4.zero.cells : List Value).toArray) 178)).heap.size from by have := HKL.out; simp; omega); change Pen _ _ _ _ _ _ _ _ (World.alloc Y12 (.cells ((Set4.zero.cells : List Value).toArray) 178)); generalize hW2 : World.alloc Y12 (.cells ((Set4.zero.cells : List Value).toArray) 178) = Y13 at *; clear hW2; generalize hbb : Y12.heap.size = b3 at *; clear hbb; have hc3 := B3.out.cell
      have hf3 := B3.out.frozen; have hc5 := B5.out.cell; have hf5 := B5.out.frozen; have hgb3 : g ≠ b3 := by omega
      have hgb5 : g ≠ b5 := by omega
      unfold Set4.cells at hc3; refine pen_active 15 (by rfl) (by decide +kernel) (fun K hK => ?_); unfold Set4.val; rw [if_pos (by rfl)]; go_simp; refine hK.out _ _ (Blk.far4 HB.out _ _ _ _ hgb3) ?_; clear hK K; try simp only [Act.put, List.setIfInBounds_toArray, List.set]
      refine pen_stable 16 (by rfl) (by decide +kernel) (fun K hK => ?_); rw [if_pos (by rfl)]; apply Exists.intro; refine ⟨fun w' hS' => ?_, hK _ ?_⟩
      · (try dsimp only at hS')
        go_simp; try with_reducible rfl
      clear hK K; simp only [Act.put, List.setIfInBounds_toArray, List.set]; replace HB := yh (Blk.far4 HB.out (.int .u64 t.a) (.int .u64 t.b) (.int .u64 t.c) (.int .u64 t.d) hgb3); refine pen_active 17 (by rfl) (by decide +kernel) (fun K hK => ?_); unfold faultV; rw [if_pos (by rfl)]; go_simp; refine hK.out _ _ (Blk.far3 HB.out _ _ _ hgb5) ?_; clear hK K; try simp only [Act.put, List.setIfInBounds_toArray, List.set]
      refine pen_done (by decide +kernel) ?_; clear hc3 hf3 hc5 hf5; refine hK' _ _ (Met.intro (hJ _ _ ?_))
      (repeat apply Exists.intro)
      refine ⟨?_, rfl⟩; exact ⟨b3, b5, rfl, rfl, rfl, ((((B3.out.set 0 _).set 1 _).set 2 _).set 3 _).far3 _ _ _ (by omega), (B5.out.far4 _ _ _ _ (by omega)).three _ _ _, hgb3, hgb5, (HKV.out.four _ _ _ _ hlb3).three _ _ _ hlb5, by omega⟩
    · rw [if_pos (by rfl)]; go_simp; refine hK.out _ _ (HB.out.alloc _) ?_; clear hK K; try simp only [Act.put, List.setIfInBounds_toArray, List.set]
      have B3 := yh (Blk.new Y11 Set4.zero.cells 178); replace HB := yh (HB.out.alloc (.cells (Set4.zero.cells : List Value).toArray 178)); replace HKV := yh (HKV.out.alloc (.cells (Set4.zero.cells : List Value).toArray 178)); replace B5 := yh (B5.out.alloc (.cells (Set4.zero.cells : List Value).toArray 178)); have hlb3 : V.heap.size ≤ Y11.heap.size := HKL.out; have hne : b5 ≠ Y11.heap.size := by have := HLT.out; omega
      clear HLT; have HLT := yh (show Y11.heap.size < (World.alloc Y11 (.cells ((Set4.zero.cells : List Value).toArray) 178)).heap.size from by simp); replace HKL := yh (show V.heap.size ≤ (World.alloc Y11 (.cells ((Set4.zero.cells : List Value).toArray) 178)).heap.size from by have := HKL.out; simp; omega); change Pen _ _ _ _ _ _ _ _ (World.alloc Y11 (.cells ((Set4.zero.cells : List Value).toArray) 178)); generalize hW2 : World.alloc Y11 (.cells ((Set4.zero.cells : List Value).toArray) 178) = Y14 at *; clear hW2; generalize hbb : Y11.heap.size = b3 at *; clear hbb; refine pen_active 8 (by rfl) (by decide +kernel) (fun K hK => ?_)
      rw [if_pos (by rfl)]; go_wp2_with fail; refine (HCALL.out _ (HEV.out.keep HKV.out)).mono ?_; rintro e Y15 ⟨rfl, kx⟩; replace HB := yh (HB.out.keep kx (by simp)); replace HKV := yh (HKV.out.trans kx); replace HKL := yh (Nat.le_trans HKL.out kx.size); replace B3 := yh (B3.out.keep kx (by simp)); replace B5 := yh (B5.out.keep kx (by simp)); replace HLT := yh (Nat.lt_of_lt_of_le HLT.out kx.size); clear kx; refine hK.out _ _ (HB.out) ?_; clear hK K; try simp only [Act.put, List.setIfInBounds_toArray, List.set]
      refine pen_stable 9 (by rfl) (by decide +kernel) (fun K hK => ?_); rw [if_pos (by rfl)]; apply Exists.intro; refine ⟨fun w' hS' => ?_, hK _ ?_⟩
      · (try dsimp only at hS')
        go_simp; try with_reducible rfl
      clear hK K; simp only [Act.put, List.setIfInBounds_toArray, List.set]; refine pen_stable 10 (by rfl) (by decide +kernel) (fun K hK => ?_); rw [if_pos (by rfl)]; apply Exists.intro; refine ⟨fun w' hS' => ?_, hK _ ?_⟩
      · (try dsimp only at hS')
        go_simp; try with_reducible rfl
      clear hK K; simp only [Act.put, List.setIfInBounds_toArray, List.set]; refine pen_stable 11 (by rfl) (by decide +kernel) (fun K hK => ?_); rw [if_pos (by rfl)]; apply Exists.intro; refine ⟨fun w' hS' => ?_, hK _ ?_⟩
      · (try dsimp only at hS')
        go_simp; try with_reducible rfl
      clear hK K; simp only [Act.put, List.setIfInBounds_toArray, List.set]; refine pen_stable 12 (by rfl) (by decide +kernel) (fun K hK => ?_); rw [if_pos (by rfl)]; apply Exists.intro; refine ⟨fun w' hS' => ?_, hK _ ?_⟩
      · (try dsimp only at hS')
        go_simp; try with_reducible rfl
      clear hK K; simp only [Act.put, List.setIfInBounds_toArray, List.set]; have hc3 := B3.out.cell; have hf3 := B3.out.frozen; have hc5 := B5.out.cell; have hf5 := B5.out.frozen; have hgb3 : g ≠ b3 := by omega
      have hgb5 : g ≠ b5 := by omega
      unfold Set4.cells at hc3; refine pen_active 15 (by rfl) (by decide +kernel) (fun K hK => ?_); unfold Set4.val; rw [if_pos (by rfl)]; go_simp; refine hK.out _ _ (Blk.far4 HB.out _ _ _ _ hgb3) ?_; clear hK K; try simp only [Act.put, List.setIfInBounds_toArray, List.set]
      refine pen_stable 16 (by rfl) (by decide +kernel) (fun K hK => ?_); rw [if_pos (by rfl)]; apply Exists.intro; refine ⟨fun w' hS' => ?_, hK _ ?_⟩
      · (try dsimp only at hS')
        go_simp; try with_reducible rfl
      clear hK K; simp only [Act.put, List.setIfInBounds_toArray, List.set]; replace HB := yh (Blk.far4 HB.out (.int .u64 t.a) (.int .u64 t.b) (.int .u64 t.c) (.int .u64 t.d) hgb3); refine pen_active 17 (by rfl) (by decide +kernel) (fun K hK => ?_); unfold faultV; rw [if_pos (by rfl)]; go_simp; refine hK.out _ _ (Blk.far3 HB.out _ _ _ hgb5) ?_; clear hK K; try simp only [Act.put, List.setIfInBounds_toArray, List.set]
      refine pen_done (by decide +kernel) ?_; clear hc3 hf3 hc5 hf5; refine hK' _ _ (Met.intro (hJ _ _ ?_))
      (repeat apply Exists.intro)
      refine ⟨?_, rfl⟩; exact ⟨b3, b5, rfl, rfl, rfl, ((((B3.out.set 0 _).set 1 _).set 2 _).set 3 _).far3 _ _ _ (by omega), (B5.out.far4 _ _ _ _ (by omega)).three _ _ _, hgb3, hgb5, (HKV.out.four _ _ _ _ hlb3).three _ _ _ hlb5, by omega⟩
 case rest =>
  obtain ⟨b3, b5, rfl, rfl, rfl, h3, h5, hn3, hn5, hk, hl3, hl5⟩ := hcut; have H3 := yh h3; have H5 := yh h5; have HBc := yh (HB.out.keep hk (by simp)); have HOc := yh (own_keep HO.out hk (NotRow.none _ _)); have HKc := yh (HKA.out.trans (RK.of_keep (base := base) hk)); have BRc := yh (BR.out.keep hk (by simp)); have HGW := yh hgl; have hgw : g < w.heap.size := hgl.1; clear h3 h5 hk HB HO HKA BR; have hc5 := H5.out.cell; rcases HCASE.out with ⟨f, hf, rfl, hfc⟩ | ⟨q', hq', rfl, rfl, rfl, hq1, hq2⟩
  · have hRe : R = .error 10 := by
     have h0 := HR.out; rw [hf] at h0; rw [← h0]; simp [hfc]
    subst hRe; clear hf hfc; go_wp2_with fail; exact ⟨rfl, pl, rfl, HKc.out⟩
  · have hRe : R = .ok (.leaf (.cls t), q') := by
     have h0 := HR.out; rw [hq'] at h0; exact h0.symm
    subst hRe; have hcg := HBc.out.cell; have hfg := HBc.out.frozen; have hc3 := H3.out.cell; unfold Set4.cells at hc3; have hn3' : b3 ≠ g := hn3.symm; go_wp2_with fail; clear hc5 hcg hfg hc3; have HS1 := yh (show ScR (wc.setCell ⟨g, 1, none⟩ (.int .i64 (q' : Int))) base g s q' n from ScR.keepG HX.out HBc.out HOc.out HGW.out.2 ((Keep.refl _ _).set _ _ (.inl rfl)) (HBc.out.put1 _)); have HK1 := yh (HKc.out.trans (RK.of_keepG ((Keep.refl _ _).set ⟨g, 1, none⟩ (.int .i64 (q' : Int)) (.inl rfl)) (HBc.out.isVol (.inl rfl)) HGW.out.2)); have BR1 := yh (BRc.out.far ⟨g, 1, none⟩ (.int .i64 (q' : Int)) (by simp; omega))
    generalize World.setCell wc _ _ = X at HS1 HK1 BR1 ⊢; have hl := leaf_any (.cls t) X (fun i => w.heap.size < i) (fun i hi => by have := BR1.out.lt; omega); rw [ndV] at hl; unfold Set4.val at hl; refine hl.mono ?_; clear hl; rintro e x9 ⟨v9, rfl, hv9, kx9⟩; obtain ⟨K9, c9, rfl⟩ := hv9.form; have HV9 := yh hv9; have HS9 := yh (HS1.out.keep kx9); have HK9 := yh (HK1.out.trans (RK.of_keep (base := base) kx9)); have BR9 := yh (BR1.out.keep kx9 (by simp)); clear hv9 kx9; have hcR := BR9.out.cell; have hfR := BR9.out.frozen; go_wp2_with fail; clear hcR hfR; refine bodyPost_ret (results_rule rfl _ _ w.heap.size _ _ rfl ((BR9.out.set 0 _).set 1 _)) rfl ⟨_, rfl, ((HV9.out.set _ _ (by simp)).set _ _ (by simp)).mono fun i _ h => Nat.le_of_lt h, ?_, by omega, hq2, (HK9.out.setNew _ _ (Nat.le_refl _)).setNew _ _ (Nat.le_refl _)⟩
    exact HS9.out.other BR9.out (by decide) (by decide) (by omega) _ _
end Go.Proofs.YtmfabihndpidnaaGreatDoor
