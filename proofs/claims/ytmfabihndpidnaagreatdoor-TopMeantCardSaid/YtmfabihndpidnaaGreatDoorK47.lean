/-
  Terms: show.
-/
import Derived.Test.YtmfabihndpidnaaGreatDoorK46
import Derived.Test.YtmfabihndpidnaaGreatDoorK03
import Derived.Test.YtmfabihndpidnaaGreatDoorK45
namespace Go.Proofs.YtmfabihndpidnaaGreatDoor
set_option maxHeartbeats 4000000
open Go.RowKit
set_option maxRecDepth 100000
set_option linter.unusedVariables false
set_option linter.unusedSimpArgs false
attribute [local go_sem ↓] run_tm_78_78 run_tm_82_78 run_tm_82_82 run_tm_84_78 run_tm_84_82 run_tm_84_84 run_tm_87_78 run_tm_87_82 run_tm_87_84 run_tm_87_87
def ShowOf (w : World) (v : Value) (l : Bs) : Prop := ∀ V, Keep none w V → Calls Tryz.prog 11 #[v] V fun e w' => e = .returned (.string (mkS l)) ∧ Keep none V w'
theorem wp_region_blk {P : Program} {Q : Exit → Act → World → Prop} {V : World} {g : Nat} {cs : List Value} {t : TypeId} (hb : Hid (Blk V g cs t)) (d : Nat) (o : List Nat) {id : Nat} {l : List Oper} {a : Act} (hm : P.follows .mixedOrders = true) (hs : Region.noSelect l.toArray = true) (hQ : Free Q)
 (h : PenL P l.toArray Q (fun w' => Blk w' g cs t) d l.length (Array.replicate l.length false) o a V.drew) : (Code.region id l.toArray true).wp P Q a V := wp_region_penl (fun w' => Blk w' g cs t) d o hm hs hQ hb.out.drew h
def Pow10 (w : World) : Prop := ∀ X, Keep none w X → Lib.TabIs Tryz.prog X "internal/strconv.uint64pow10" .u64 Lib.pow10Tab
theorem Pow10.keep {w V : World} (h : Pow10 w) (k : Keep none w V) : Pow10 V := fun X kx => h X (k.trans kx)
theorem show_leaf (w : World) (t : Tm) (g p : Nat) (l0 : Bs) (wd : Bs) (op : ByteArray) (hop : mkS wd = op) (hwl : wd.length ≤ 10) (hw : op = ⟨#[105, 100]⟩ ∨ op = ⟨#[102, 111, 108, 100]⟩) (t0 : TypeId) (y0 : Value) (h0 : ∀ X, Escs X → Calls Tryz.prog 26 #[.iface t0 y0] X fun e w' => e = .returned (.string (mkS l0)) ∧ Keep none X w') (hb : Blk w g [.int .i64 (p : Int), .string op, .iface t0 y0, .string ⟨#[]⟩, .string ⟨#[]⟩, .pointer none, .pointer none] 86) (hp : p ≤ 1000000000) (hE : Escs w) (hT : Pow10 w) (htm : TmV w t (.iface 84 (ptr g))) (hpl : t.place = p) (hl : (Lib.join [l0] [44]).length ≤ 10000000000000) :
 ShowOf w (.iface 84 (ptr g)) (headT wd p [l0]) := fun V k => by
 have HB := yh (hb.keep k (by simp)); have HE := yh (hE.keep k); have HT := yh (hT.keep k); have HM := yh (htm.keep k); have HPL := yh hpl; have HL := yh hl; have HKK := yh (Keep.refl none V); have H0 := yh h0; have HOP := yh hop; clear hop; unfold ptr at HM HB ⊢; clear hb hE hT htm hpl hl h0; rcases hw with rfl | rfl
 all_goals
  go_enter Tryz.func11, Tryz.ntmps11; have hc := (HB.out.alloc (.cells #[.iface 84 (.pointer (some ⟨g, 0, none⟩))] 23)).cell; go_wp2_with fail; clear hc; replace HB := yh (HB.out.alloc (.cells #[.iface 84 (.pointer (some ⟨g, 0, none⟩))] 23)); have HX := yh (Blk.new V [.iface 84 (.pointer (some ⟨g, 0, none⟩))] 23); replace HKK := yh (HKK.out.alloc (.cells #[.iface 84 (.pointer (some ⟨g, 0, none⟩))] 23)); generalize V.alloc (.cells #[.iface 84 (.pointer (some ⟨g, 0, none⟩))] 23) = V1 at HB HX HKK ⊢; generalize V.heap.size = bx at HX ⊢; refine wp_region_blk HB 99 [0, 1, 2, 3, 4, 5, 6, 7, 8, 9, 10, 11, 12] (by kernel_rfl) (by kernel_rfl) (fun c a d v w h => by cases d <;> exact h) ?_
  simp only [List.length_cons, List.length_nil]; replace HB := yh HB.out.drew; replace HX := yh HX.out.drew; replace HKK := yh HKK.out.drew; generalize V1.drew = V0 at HB HX HKK ⊢; repeat
   (refine penl_stable (getOp rfl) (by decide +kernel) (fun K hK => ?_)
    rw [if_pos (by rfl)]; apply Exists.intro; refine ⟨fun w' hS' => ?_, hK _ ?_⟩
    · replace hS' := Blk.cell hS'; go_simp; try with_reducible rfl
    clear hK K; simp only [Act.put, List.setIfInBounds_toArray, List.set])
  refine penl_active (getOp rfl) (by decide +kernel) (fun K hK => ?_); rw [if_pos (by rfl)]; go_wp2_with fail; refine (H0.out _ (HE.out.keep HKK.out)).mono ?_; rintro e xl ⟨rfl, kx⟩; replace HB := yh (HB.out.keep kx (by simp)); replace HX := yh (HX.out.keep kx (by simp)); replace HKK := yh (HKK.out.trans kx); clear kx; refine hK.out _ _ HB.out ?_; clear hK K; try simp only [Act.put, List.setIfInBounds_toArray, List.set]
  refine penl_active (getOp rfl) (by decide +kernel) (fun K hK => ?_); rw [if_pos (by rfl)]; go_simp; refine hK.out _ _ (HB.out.alloc _) ?_; clear hK K; try simp only [Act.put, List.setIfInBounds_toArray, List.set]
  have NB := yh (Blk.new xl [.string (mkS l0)] 9); replace HB := yh (HB.out.alloc (.cells #[.string (mkS l0)] 9)); replace HX := yh (HX.out.alloc (.cells #[.string (mkS l0)] 9)); replace HKK := yh (HKK.out.alloc (.cells #[.string (mkS l0)] 9)); change PenL _ _ _ _ _ _ _ _ _ (World.alloc xl (.cells #[.string (mkS l0)] 9)); generalize World.alloc xl (.cells #[.string (mkS l0)] 9) = V2 at NB HB HX HKK ⊢; generalize xl.heap.size = nb at NB ⊢; refine penl_active (getOp rfl) (by decide +kernel) (fun K hK => ?_); rw [if_pos (by rfl)]; go_wp2_with fail; have hh := head_walk wd bx nb 1 [l0] t _ _ (HM.out.keep HKK.out) HX.out (by rw [HPL.out]; exact hp) (fun j x hj => by
   match j, hj with
   | 0, hj => cases hj; exact NB.out.cell 0) NB.out.lt (by simp) (by simp) (HT.out.keep HKK.out) (by omega) HL.out
  rw [HPL.out, HOP.out] at hh; refine hh.mono ?_; clear hh; rintro e xl ⟨rfl, kx⟩; replace HB := yh (HB.out.keep kx (by simp)); replace HKK := yh (HKK.out.trans kx); clear kx; refine hK.out _ _ HB.out ?_; clear hK K; try simp only [Act.put, List.setIfInBounds_toArray, List.set]
  repeat
   (refine penl_stable (getOp rfl) (by decide +kernel) (fun K hK => ?_)
    rw [if_pos (by rfl)]; apply Exists.intro; refine ⟨fun w' hS' => ?_, hK _ ?_⟩
    · replace hS' := Blk.cell hS'; go_simp; try with_reducible rfl
    clear hK K; simp only [Act.put, List.setIfInBounds_toArray, List.set])
  refine penl_done (by decide +kernel) ?_; go_wp2_with fail; go_ret; exact ⟨rfl, HKK.out⟩
theorem show_norm (w : World) (t : Tm) (g p : Nat) (l0 l1 l2 : Bs) (t0 : TypeId) (y0 : Value) (h0 : ∀ X, Escs X → Calls Tryz.prog 26 #[.iface t0 y0] X fun e w' => e = .returned (.string (mkS l0)) ∧ Keep none X w') (s1 : ByteArray) (h1 : ∀ X, Calls Tryz.prog 25 #[.string s1] X fun e w' => e = .returned (.string (mkS l1)) ∧ Keep none X w') (s2 : ByteArray) (h2 : ∀ X, Calls Tryz.prog 25 #[.string s2] X fun e w' => e = .returned (.string (mkS l2)) ∧ Keep none X w') (hb : Blk w g [.int .i64 (p : Int), .string ⟨#[110, 111, 114, 109]⟩, .iface t0 y0, .string s1, .string s2, .pointer none, .pointer none] 86) (hp : p ≤ 1000000000) (hE : Escs w) (hT : Pow10 w) (htm : TmV w t (.iface 84 (ptr g))) (hpl : t.place = p) (hl : (Lib.join [l0, l1, l2] [44]).length ≤ 10000000000000) :
 ShowOf w (.iface 84 (ptr g)) (headT [110, 111, 114, 109] p [l0, l1, l2]) := fun V k => by
 have HB := yh (hb.keep k (by simp)); have HE := yh (hE.keep k); have HT := yh (hT.keep k); have HM := yh (htm.keep k); have HPL := yh hpl; have HL := yh hl; have HKK := yh (Keep.refl none V); have H0 := yh h0; have H1 := yh h1; have H2 := yh h2; unfold ptr at HM HB ⊢; clear hb hE hT htm hpl hl h0 h1 h2; go_enter Tryz.func11, Tryz.ntmps11; have hc := (HB.out.alloc (.cells #[.iface 84 (.pointer (some ⟨g, 0, none⟩))] 23)).cell; go_wp2_with fail; clear hc; replace HB := yh (HB.out.alloc (.cells #[.iface 84 (.pointer (some ⟨g, 0, none⟩))] 23)); have HX := yh (Blk.new V [.iface 84 (.pointer (some ⟨g, 0, none⟩))] 23)
 replace HKK := yh (HKK.out.alloc (.cells #[.iface 84 (.pointer (some ⟨g, 0, none⟩))] 23)); generalize V.alloc (.cells #[.iface 84 (.pointer (some ⟨g, 0, none⟩))] 23) = V1 at HB HX HKK ⊢; generalize V.heap.size = bx at HX ⊢; refine wp_region_blk HB 99 [0, 1, 2, 3, 4, 5, 6, 7, 8, 10, 11, 12, 13, 15, 16, 17, 18, 9, 14, 19, 20, 21, 22] (by kernel_rfl) (by kernel_rfl) (fun c a d v w h => by cases d <;> exact h) ?_; simp only [List.length_cons, List.length_nil]; replace HB := yh HB.out.drew; replace HX := yh HX.out.drew; replace HKK := yh HKK.out.drew; generalize V1.drew = V0 at HB HX HKK ⊢
 repeat
  (refine penl_stable (getOp rfl) (by decide +kernel) (fun K hK => ?_)
   rw [if_pos (by rfl)]; apply Exists.intro; refine ⟨fun w' hS' => ?_, hK _ ?_⟩
   · replace hS' := Blk.cell hS'; go_simp; try with_reducible rfl
   clear hK K; simp only [Act.put, List.setIfInBounds_toArray, List.set])
 refine penl_active (getOp rfl) (by decide +kernel) (fun K hK => ?_); rw [if_pos (by rfl)]; go_wp2_with fail; refine (H0.out _ (HE.out.keep HKK.out)).mono ?_; rintro e xl ⟨rfl, kx⟩; replace HB := yh (HB.out.keep kx (by simp)); replace HX := yh (HX.out.keep kx (by simp)); replace HKK := yh (HKK.out.trans kx); clear kx; refine hK.out _ _ HB.out ?_; clear hK K; try simp only [Act.put, List.setIfInBounds_toArray, List.set]
 refine penl_active (getOp rfl) (by decide +kernel) (fun K hK => ?_); rw [if_pos (by rfl)]; go_wp2_with fail; refine (H1.out _).mono ?_; rintro e xl ⟨rfl, kx⟩; replace HB := yh (HB.out.keep kx (by simp)); replace HX := yh (HX.out.keep kx (by simp)); replace HKK := yh (HKK.out.trans kx); clear kx; refine hK.out _ _ HB.out ?_; clear hK K; try simp only [Act.put, List.setIfInBounds_toArray, List.set]
 refine penl_active (getOp rfl) (by decide +kernel) (fun K hK => ?_); rw [if_pos (by rfl)]; go_wp2_with fail; refine (H2.out _).mono ?_; rintro e xl ⟨rfl, kx⟩; replace HB := yh (HB.out.keep kx (by simp)); replace HX := yh (HX.out.keep kx (by simp)); replace HKK := yh (HKK.out.trans kx); clear kx; refine hK.out _ _ HB.out ?_; clear hK K; try simp only [Act.put, List.setIfInBounds_toArray, List.set]
 refine penl_active (getOp rfl) (by decide +kernel) (fun K hK => ?_); rw [if_pos (by rfl)]; go_simp; refine hK.out _ _ (HB.out.alloc _) ?_; clear hK K; try simp only [Act.put, List.setIfInBounds_toArray, List.set]
 have NB := yh (Blk.new xl [.string (mkS l0), .string (mkS l1), .string (mkS l2)] 9); replace HB := yh (HB.out.alloc (.cells #[.string (mkS l0), .string (mkS l1), .string (mkS l2)] 9)); replace HX := yh (HX.out.alloc (.cells #[.string (mkS l0), .string (mkS l1), .string (mkS l2)] 9)); replace HKK := yh (HKK.out.alloc (.cells #[.string (mkS l0), .string (mkS l1), .string (mkS l2)] 9)); change PenL _ _ _ _ _ _ _ _ _ (World.alloc xl (.cells #[.string (mkS l0), .string (mkS l1), .string (mkS l2)] 9)); generalize World.alloc xl (.cells #[.string (mkS l0), .string (mkS l1), .string (mkS l2)] 9) = V2 at NB HB HX HKK ⊢
 generalize xl.heap.size = nb at NB ⊢; refine penl_active (getOp rfl) (by decide +kernel) (fun K hK => ?_); rw [if_pos (by rfl)]; go_wp2_with fail; have hh := head_walk [110, 111, 114, 109] bx nb 3 [l0, l1, l2] t _ _ (HM.out.keep HKK.out) HX.out (by rw [HPL.out]; exact hp) (fun j x hj => by
  match j, hj with
  | 0, hj => cases hj; exact NB.out.cell 0
  | 1, hj => cases hj; exact NB.out.cell 1
  | 2, hj => cases hj; exact NB.out.cell 2) NB.out.lt (by simp) (by simp) (HT.out.keep HKK.out) (by simp) HL.out
 rw [HPL.out] at hh; refine hh.mono ?_; clear hh; rintro e xl ⟨rfl, kx⟩; replace HB := yh (HB.out.keep kx (by simp)); replace HKK := yh (HKK.out.trans kx); clear kx; refine hK.out _ _ HB.out ?_; clear hK K; try simp only [Act.put, List.setIfInBounds_toArray, List.set]
 repeat
  (refine penl_stable (getOp rfl) (by decide +kernel) (fun K hK => ?_)
   rw [if_pos (by rfl)]; apply Exists.intro; refine ⟨fun w' hS' => ?_, hK _ ?_⟩
   · replace hS' := Blk.cell hS'; go_simp; try with_reducible rfl
   clear hK K; simp only [Act.put, List.setIfInBounds_toArray, List.set])
 refine penl_done (by decide +kernel) ?_; go_wp2_with fail; go_ret; exact ⟨rfl, HKK.out⟩
theorem show_cstar (w : World) (t : Tm) (g p : Nat) (l0 : Bs) (g0 : Nat) (h0 : ShowOf w (.iface 84 (ptr g0)) l0) (hb : Blk w g [.int .i64 (p : Int), .string ⟨#[115, 116, 97, 114]⟩, .nilIface, .string ⟨#[]⟩, .string ⟨#[]⟩, ptr g0, .pointer none] 86) (hp : p ≤ 1000000000) (hE : Escs w) (hT : Pow10 w) (htm : TmV w t (.iface 84 (ptr g))) (hpl : t.place = p) (hl : (Lib.join [l0] [44]).length ≤ 10000000000000) :
 ShowOf w (.iface 84 (ptr g)) (headT [115, 116, 97, 114] p [l0]) := fun V k => by
 have HB := yh (hb.keep k (by simp)); have HE := yh (hE.keep k); have HT := yh (hT.keep k); have HM := yh (htm.keep k); have HPL := yh hpl; have HL := yh hl; have HKK := yh (Keep.refl none V); have H0 := yh (fun X (kx : Keep none V X) => h0 X (k.trans kx)); unfold ptr at HM HB ⊢; clear hb hE hT htm hpl hl h0; go_enter Tryz.func11, Tryz.ntmps11; have hc := (HB.out.alloc (.cells #[.iface 84 (.pointer (some ⟨g, 0, none⟩))] 23)).cell; go_wp2_with fail; clear hc; replace HB := yh (HB.out.alloc (.cells #[.iface 84 (.pointer (some ⟨g, 0, none⟩))] 23)); have HX := yh (Blk.new V [.iface 84 (.pointer (some ⟨g, 0, none⟩))] 23)
 replace HKK := yh (HKK.out.alloc (.cells #[.iface 84 (.pointer (some ⟨g, 0, none⟩))] 23)); generalize V.alloc (.cells #[.iface 84 (.pointer (some ⟨g, 0, none⟩))] 23) = V1 at HB HX HKK ⊢; generalize V.heap.size = bx at HX ⊢; refine wp_region_blk HB 99 [0, 1, 2, 3, 4, 5, 6, 7, 8, 9, 10, 11, 12, 13] (by kernel_rfl) (by kernel_rfl) (fun c a d v w h => by cases d <;> exact h) ?_; simp only [List.length_cons, List.length_nil]; replace HB := yh HB.out.drew; replace HX := yh HX.out.drew; replace HKK := yh HKK.out.drew; generalize V1.drew = V0 at HB HX HKK ⊢; repeat
  (refine penl_stable (getOp rfl) (by decide +kernel) (fun K hK => ?_)
   rw [if_pos (by rfl)]; apply Exists.intro; refine ⟨fun w' hS' => ?_, hK _ ?_⟩
   · replace hS' := Blk.cell hS'; go_simp; try with_reducible rfl
   clear hK K; simp only [Act.put, List.setIfInBounds_toArray, List.set])
 refine penl_active (getOp rfl) (by decide +kernel) (fun K hK => ?_); rw [if_pos (by rfl)]; go_wp2_with fail; refine (H0.out _ HKK.out).mono ?_; rintro e xl ⟨rfl, kx⟩; replace HB := yh (HB.out.keep kx (by simp)); replace HX := yh (HX.out.keep kx (by simp)); replace HKK := yh (HKK.out.trans kx); clear kx; refine hK.out _ _ HB.out ?_; clear hK K; try simp only [Act.put, List.setIfInBounds_toArray, List.set]
 refine penl_active (getOp rfl) (by decide +kernel) (fun K hK => ?_); rw [if_pos (by rfl)]; go_simp; refine hK.out _ _ (HB.out.alloc _) ?_; clear hK K; try simp only [Act.put, List.setIfInBounds_toArray, List.set]
 have NB := yh (Blk.new xl [.string (mkS l0)] 9); replace HB := yh (HB.out.alloc (.cells #[.string (mkS l0)] 9)); replace HX := yh (HX.out.alloc (.cells #[.string (mkS l0)] 9)); replace HKK := yh (HKK.out.alloc (.cells #[.string (mkS l0)] 9)); change PenL _ _ _ _ _ _ _ _ _ (World.alloc xl (.cells #[.string (mkS l0)] 9)); generalize World.alloc xl (.cells #[.string (mkS l0)] 9) = V2 at NB HB HX HKK ⊢; generalize xl.heap.size = nb at NB ⊢; refine penl_active (getOp rfl) (by decide +kernel) (fun K hK => ?_); rw [if_pos (by rfl)]; go_wp2_with fail; have hh := head_walk [115, 116, 97, 114] bx nb 1 [l0] t _ _ (HM.out.keep HKK.out) HX.out (by rw [HPL.out]; exact hp) (fun j x hj => by
  match j, hj with
  | 0, hj => cases hj; exact NB.out.cell 0) NB.out.lt (by simp) (by simp) (HT.out.keep HKK.out) (by simp) HL.out
 rw [HPL.out] at hh; refine hh.mono ?_; clear hh; rintro e xl ⟨rfl, kx⟩; replace HB := yh (HB.out.keep kx (by simp)); replace HKK := yh (HKK.out.trans kx); clear kx; refine hK.out _ _ HB.out ?_; clear hK K; try simp only [Act.put, List.setIfInBounds_toArray, List.set]
 repeat
  (refine penl_stable (getOp rfl) (by decide +kernel) (fun K hK => ?_)
   rw [if_pos (by rfl)]; apply Exists.intro; refine ⟨fun w' hS' => ?_, hK _ ?_⟩
   · replace hS' := Blk.cell hS'; go_simp; try with_reducible rfl
   clear hK K; simp only [Act.put, List.setIfInBounds_toArray, List.set])
 refine penl_done (by decide +kernel) ?_; go_wp2_with fail; go_ret; exact ⟨rfl, HKK.out⟩
theorem show_ctwo (w : World) (t : Tm) (g p : Nat) (l0 l1 : Bs) (wd : Bs) (op : ByteArray) (hop : mkS wd = op) (hwl : wd.length ≤ 10) (hw : (op.toList == [105, 100]) = false ∧ (op.toList == [102, 111, 108, 100]) = false ∧ (op.toList == [110, 111, 114, 109]) = false ∧ (op.toList == [115, 116, 97, 114]) = false) (g0 : Nat) (h0 : ShowOf w (.iface 84 (ptr g0)) l0) (g1 : Nat) (h1 : ShowOf w (.iface 84 (ptr g1)) l1) (hb : Blk w g [.int .i64 (p : Int), .string op, .nilIface, .string ⟨#[]⟩, .string ⟨#[]⟩, ptr g0, ptr g1] 86) (hp : p ≤ 1000000000) (hE : Escs w) (hT : Pow10 w) (htm : TmV w t (.iface 84 (ptr g))) (hpl : t.place = p) (hl : (Lib.join [l0, l1] [44]).length ≤ 10000000000000) :
 ShowOf w (.iface 84 (ptr g)) (headT wd p [l0, l1]) := fun V k => by
 have HB := yh (hb.keep k (by simp)); have HE := yh (hE.keep k); have HT := yh (hT.keep k); have HM := yh (htm.keep k); have HPL := yh hpl; have HL := yh hl; have HKK := yh (Keep.refl none V); have H0 := yh (fun X (kx : Keep none V X) => h0 X (k.trans kx)); have H1 := yh (fun X (kx : Keep none V X) => h1 X (k.trans kx)); have HOP := yh hop; clear hop; obtain ⟨n0, n1, n2, n3⟩ := hw; unfold ptr at HM HB ⊢; clear hb hE hT htm hpl hl h0 h1; go_enter Tryz.func11, Tryz.ntmps11; have hc := (HB.out.alloc (.cells #[.iface 84 (.pointer (some ⟨g, 0, none⟩))] 23)).cell
 go_wp2_with fail; clear hc; replace HB := yh (HB.out.alloc (.cells #[.iface 84 (.pointer (some ⟨g, 0, none⟩))] 23)); have HX := yh (Blk.new V [.iface 84 (.pointer (some ⟨g, 0, none⟩))] 23); replace HKK := yh (HKK.out.alloc (.cells #[.iface 84 (.pointer (some ⟨g, 0, none⟩))] 23)); generalize V.alloc (.cells #[.iface 84 (.pointer (some ⟨g, 0, none⟩))] 23) = V1 at HB HX HKK ⊢; generalize V.heap.size = bx at HX ⊢; refine wp_region_blk HB 99 [0, 1, 2, 3, 4, 5, 6, 7, 8, 9, 11, 12, 13, 14, 15, 10, 16, 17, 18, 19] (by kernel_rfl) (by kernel_rfl) (fun c a d v w h => by cases d <;> exact h) ?_
 simp only [List.length_cons, List.length_nil]; replace HB := yh HB.out.drew; replace HX := yh HX.out.drew; replace HKK := yh HKK.out.drew; generalize V1.drew = V0 at HB HX HKK ⊢; repeat
  (refine penl_stable (getOp rfl) (by decide +kernel) (fun K hK => ?_)
   rw [if_pos (by rfl)]; apply Exists.intro; refine ⟨fun w' hS' => ?_, hK _ ?_⟩
   · replace hS' := Blk.cell hS'; go_simp; try with_reducible rfl
   clear hK K; simp only [Act.put, List.setIfInBounds_toArray, List.set])
 refine penl_active (getOp rfl) (by decide +kernel) (fun K hK => ?_); rw [if_pos (by rfl)]; go_wp2_with fail; refine (H0.out _ HKK.out).mono ?_; rintro e xl ⟨rfl, kx⟩; replace HB := yh (HB.out.keep kx (by simp)); replace HX := yh (HX.out.keep kx (by simp)); replace HKK := yh (HKK.out.trans kx); clear kx; refine hK.out _ _ HB.out ?_; clear hK K; try simp only [Act.put, List.setIfInBounds_toArray, List.set]
 refine penl_active (getOp rfl) (by decide +kernel) (fun K hK => ?_); rw [if_pos (by rfl)]; go_wp2_with fail; refine (H1.out _ HKK.out).mono ?_; rintro e xl ⟨rfl, kx⟩; replace HB := yh (HB.out.keep kx (by simp)); replace HX := yh (HX.out.keep kx (by simp)); replace HKK := yh (HKK.out.trans kx); clear kx; refine hK.out _ _ HB.out ?_; clear hK K; try simp only [Act.put, List.setIfInBounds_toArray, List.set]
 refine penl_active (getOp rfl) (by decide +kernel) (fun K hK => ?_); rw [if_pos (by rfl)]; go_simp; refine hK.out _ _ (HB.out.alloc _) ?_; clear hK K; try simp only [Act.put, List.setIfInBounds_toArray, List.set]
 have NB := yh (Blk.new xl [.string (mkS l0), .string (mkS l1)] 9); replace HB := yh (HB.out.alloc (.cells #[.string (mkS l0), .string (mkS l1)] 9)); replace HX := yh (HX.out.alloc (.cells #[.string (mkS l0), .string (mkS l1)] 9)); replace HKK := yh (HKK.out.alloc (.cells #[.string (mkS l0), .string (mkS l1)] 9)); change PenL _ _ _ _ _ _ _ _ _ (World.alloc xl (.cells #[.string (mkS l0), .string (mkS l1)] 9)); generalize World.alloc xl (.cells #[.string (mkS l0), .string (mkS l1)] 9) = V2 at NB HB HX HKK ⊢; generalize xl.heap.size = nb at NB ⊢; refine penl_active (getOp rfl) (by decide +kernel) (fun K hK => ?_)
 rw [if_pos (by rfl)]; go_wp2_with fail; have hh := head_walk wd bx nb 2 [l0, l1] t _ _ (HM.out.keep HKK.out) HX.out (by rw [HPL.out]; exact hp) (fun j x hj => by
  match j, hj with
  | 0, hj => cases hj; exact NB.out.cell 0
  | 1, hj => cases hj; exact NB.out.cell 1) NB.out.lt (by simp) (by simp) (HT.out.keep HKK.out) (by omega) HL.out
 rw [HPL.out, HOP.out] at hh; refine hh.mono ?_; clear hh; rintro e xl ⟨rfl, kx⟩; replace HB := yh (HB.out.keep kx (by simp)); replace HKK := yh (HKK.out.trans kx); clear kx; refine hK.out _ _ HB.out ?_; clear hK K; try simp only [Act.put, List.setIfInBounds_toArray, List.set]
 repeat
  (refine penl_stable (getOp rfl) (by decide +kernel) (fun K hK => ?_)
   rw [if_pos (by rfl)]; apply Exists.intro; refine ⟨fun w' hS' => ?_, hK _ ?_⟩
   · replace hS' := Blk.cell hS'; go_simp; try with_reducible rfl
   clear hK K; simp only [Act.put, List.setIfInBounds_toArray, List.set])
 refine penl_done (by decide +kernel) ?_; go_wp2_with fail; go_ret; exact ⟨rfl, HKK.out⟩
theorem show_copy (w : World) (t : Tm) (g p : Nat) (l0 : Bs) (wd : Bs) (op : ByteArray) (hop : mkS wd = op) (hwl : wd.length ≤ 10) (hw : op = ⟨#[99, 111, 112, 121]⟩ ∨ op = ⟨#[107, 101, 121]⟩) (t0 : TypeId) (y0 : Value) (h0 : ∀ X, Escs X → Calls Tryz.prog 26 #[.iface t0 y0] X fun e w' => e = .returned (.string (mkS l0)) ∧ Keep none X w') (hb : Blk w g [.int .i64 (p : Int), .string op, .iface t0 y0, .string ⟨#[]⟩, .pointer none, .pointer none, .pointer none] 89) (hp : p ≤ 1000000000) (hE : Escs w) (hT : Pow10 w) (htm : TmV w t (.iface 87 (ptr g))) (hpl : t.place = p) (hl : (Lib.join [l0] [44]).length ≤ 10000000000000) :
 ShowOf w (.iface 87 (ptr g)) (headT wd p [l0]) := fun V k => by
 have HB := yh (hb.keep k (by simp)); have HE := yh (hE.keep k); have HT := yh (hT.keep k); have HM := yh (htm.keep k); have HPL := yh hpl; have HL := yh hl; have HKK := yh (Keep.refl none V); have H0 := yh h0; have HOP := yh hop; clear hop; unfold ptr at HM HB ⊢; clear hb hE hT htm hpl hl h0; rcases hw with rfl | rfl
 all_goals
  go_enter Tryz.func11, Tryz.ntmps11; have hc := (HB.out.alloc (.cells #[.iface 87 (.pointer (some ⟨g, 0, none⟩))] 23)).cell; go_wp2_with fail; clear hc; replace HB := yh (HB.out.alloc (.cells #[.iface 87 (.pointer (some ⟨g, 0, none⟩))] 23)); have HX := yh (Blk.new V [.iface 87 (.pointer (some ⟨g, 0, none⟩))] 23); replace HKK := yh (HKK.out.alloc (.cells #[.iface 87 (.pointer (some ⟨g, 0, none⟩))] 23)); generalize V.alloc (.cells #[.iface 87 (.pointer (some ⟨g, 0, none⟩))] 23) = V1 at HB HX HKK ⊢; generalize V.heap.size = bx at HX ⊢; refine wp_region_blk HB 99 [0, 1, 2, 3, 4, 5, 6, 7, 8, 9, 10, 11, 12] (by kernel_rfl) (by kernel_rfl) (fun c a d v w h => by cases d <;> exact h) ?_
  simp only [List.length_cons, List.length_nil]; replace HB := yh HB.out.drew; replace HX := yh HX.out.drew; replace HKK := yh HKK.out.drew; generalize V1.drew = V0 at HB HX HKK ⊢; repeat
   (refine penl_stable (getOp rfl) (by decide +kernel) (fun K hK => ?_)
    rw [if_pos (by rfl)]; apply Exists.intro; refine ⟨fun w' hS' => ?_, hK _ ?_⟩
    · replace hS' := Blk.cell hS'; go_simp; try with_reducible rfl
    clear hK K; simp only [Act.put, List.setIfInBounds_toArray, List.set])
  refine penl_active (getOp rfl) (by decide +kernel) (fun K hK => ?_); rw [if_pos (by rfl)]; go_wp2_with fail; refine (H0.out _ (HE.out.keep HKK.out)).mono ?_; rintro e xl ⟨rfl, kx⟩; replace HB := yh (HB.out.keep kx (by simp)); replace HX := yh (HX.out.keep kx (by simp)); replace HKK := yh (HKK.out.trans kx); clear kx; refine hK.out _ _ HB.out ?_; clear hK K; try simp only [Act.put, List.setIfInBounds_toArray, List.set]
  refine penl_active (getOp rfl) (by decide +kernel) (fun K hK => ?_); rw [if_pos (by rfl)]; go_simp; refine hK.out _ _ (HB.out.alloc _) ?_; clear hK K; try simp only [Act.put, List.setIfInBounds_toArray, List.set]
  have NB := yh (Blk.new xl [.string (mkS l0)] 9); replace HB := yh (HB.out.alloc (.cells #[.string (mkS l0)] 9)); replace HX := yh (HX.out.alloc (.cells #[.string (mkS l0)] 9)); replace HKK := yh (HKK.out.alloc (.cells #[.string (mkS l0)] 9)); change PenL _ _ _ _ _ _ _ _ _ (World.alloc xl (.cells #[.string (mkS l0)] 9)); generalize World.alloc xl (.cells #[.string (mkS l0)] 9) = V2 at NB HB HX HKK ⊢; generalize xl.heap.size = nb at NB ⊢; refine penl_active (getOp rfl) (by decide +kernel) (fun K hK => ?_); rw [if_pos (by rfl)]; go_wp2_with fail; have hh := head_walk wd bx nb 1 [l0] t _ _ (HM.out.keep HKK.out) HX.out (by rw [HPL.out]; exact hp) (fun j x hj => by
   match j, hj with
   | 0, hj => cases hj; exact NB.out.cell 0) NB.out.lt (by simp) (by simp) (HT.out.keep HKK.out) (by omega) HL.out
  rw [HPL.out, HOP.out] at hh; refine hh.mono ?_; clear hh; rintro e xl ⟨rfl, kx⟩; replace HB := yh (HB.out.keep kx (by simp)); replace HKK := yh (HKK.out.trans kx); clear kx; refine hK.out _ _ HB.out ?_; clear hK K; try simp only [Act.put, List.setIfInBounds_toArray, List.set]
  repeat
   (refine penl_stable (getOp rfl) (by decide +kernel) (fun K hK => ?_)
    rw [if_pos (by rfl)]; apply Exists.intro; refine ⟨fun w' hS' => ?_, hK _ ?_⟩
    · replace hS' := Blk.cell hS'; go_simp; try with_reducible rfl
    clear hK K; simp only [Act.put, List.setIfInBounds_toArray, List.set])
  refine penl_done (by decide +kernel) ?_; go_wp2_with fail; go_ret; exact ⟨rfl, HKK.out⟩
theorem show_del (w : World) (t : Tm) (g p : Nat) (l0 l1 : Bs) (t0 : TypeId) (y0 : Value) (h0 : ∀ X, Escs X → Calls Tryz.prog 26 #[.iface t0 y0] X fun e w' => e = .returned (.string (mkS l0)) ∧ Keep none X w') (s1 : ByteArray) (h1 : ∀ X, Calls Tryz.prog 25 #[.string s1] X fun e w' => e = .returned (.string (mkS l1)) ∧ Keep none X w') (hb : Blk w g [.int .i64 (p : Int), .string ⟨#[100, 101, 108]⟩, .iface t0 y0, .string s1, .pointer none, .pointer none, .pointer none] 89) (hp : p ≤ 1000000000) (hE : Escs w) (hT : Pow10 w) (htm : TmV w t (.iface 87 (ptr g))) (hpl : t.place = p) (hl : (Lib.join [l0, l1] [44]).length ≤ 10000000000000) :
 ShowOf w (.iface 87 (ptr g)) (headT [100, 101, 108] p [l0, l1]) := fun V k => by
 have HB := yh (hb.keep k (by simp)); have HE := yh (hE.keep k); have HT := yh (hT.keep k); have HM := yh (htm.keep k); have HPL := yh hpl; have HL := yh hl; have HKK := yh (Keep.refl none V); have H0 := yh h0; have H1 := yh h1; unfold ptr at HM HB ⊢; clear hb hE hT htm hpl hl h0 h1; go_enter Tryz.func11, Tryz.ntmps11; have hc := (HB.out.alloc (.cells #[.iface 87 (.pointer (some ⟨g, 0, none⟩))] 23)).cell; go_wp2_with fail; clear hc; replace HB := yh (HB.out.alloc (.cells #[.iface 87 (.pointer (some ⟨g, 0, none⟩))] 23)); have HX := yh (Blk.new V [.iface 87 (.pointer (some ⟨g, 0, none⟩))] 23)
 replace HKK := yh (HKK.out.alloc (.cells #[.iface 87 (.pointer (some ⟨g, 0, none⟩))] 23)); generalize V.alloc (.cells #[.iface 87 (.pointer (some ⟨g, 0, none⟩))] 23) = V1 at HB HX HKK ⊢; generalize V.heap.size = bx at HX ⊢; refine wp_region_blk HB 99 [0, 1, 2, 3, 4, 5, 6, 7, 8, 10, 11, 12, 13, 9, 14, 15, 16, 17] (by kernel_rfl) (by kernel_rfl) (fun c a d v w h => by cases d <;> exact h) ?_; simp only [List.length_cons, List.length_nil]; replace HB := yh HB.out.drew; replace HX := yh HX.out.drew; replace HKK := yh HKK.out.drew; generalize V1.drew = V0 at HB HX HKK ⊢; repeat
  (refine penl_stable (getOp rfl) (by decide +kernel) (fun K hK => ?_)
   rw [if_pos (by rfl)]; apply Exists.intro; refine ⟨fun w' hS' => ?_, hK _ ?_⟩
   · replace hS' := Blk.cell hS'; go_simp; try with_reducible rfl
   clear hK K; simp only [Act.put, List.setIfInBounds_toArray, List.set])
 refine penl_active (getOp rfl) (by decide +kernel) (fun K hK => ?_); rw [if_pos (by rfl)]; go_wp2_with fail; refine (H0.out _ (HE.out.keep HKK.out)).mono ?_; rintro e xl ⟨rfl, kx⟩; replace HB := yh (HB.out.keep kx (by simp)); replace HX := yh (HX.out.keep kx (by simp)); replace HKK := yh (HKK.out.trans kx); clear kx; refine hK.out _ _ HB.out ?_; clear hK K; try simp only [Act.put, List.setIfInBounds_toArray, List.set]
 refine penl_active (getOp rfl) (by decide +kernel) (fun K hK => ?_); rw [if_pos (by rfl)]; go_wp2_with fail; refine (H1.out _).mono ?_; rintro e xl ⟨rfl, kx⟩; replace HB := yh (HB.out.keep kx (by simp)); replace HX := yh (HX.out.keep kx (by simp)); replace HKK := yh (HKK.out.trans kx); clear kx; refine hK.out _ _ HB.out ?_; clear hK K; try simp only [Act.put, List.setIfInBounds_toArray, List.set]
 refine penl_active (getOp rfl) (by decide +kernel) (fun K hK => ?_); rw [if_pos (by rfl)]; go_simp; refine hK.out _ _ (HB.out.alloc _) ?_; clear hK K; try simp only [Act.put, List.setIfInBounds_toArray, List.set]
 have NB := yh (Blk.new xl [.string (mkS l0), .string (mkS l1)] 9); replace HB := yh (HB.out.alloc (.cells #[.string (mkS l0), .string (mkS l1)] 9)); replace HX := yh (HX.out.alloc (.cells #[.string (mkS l0), .string (mkS l1)] 9)); replace HKK := yh (HKK.out.alloc (.cells #[.string (mkS l0), .string (mkS l1)] 9)); change PenL _ _ _ _ _ _ _ _ _ (World.alloc xl (.cells #[.string (mkS l0), .string (mkS l1)] 9)); generalize World.alloc xl (.cells #[.string (mkS l0), .string (mkS l1)] 9) = V2 at NB HB HX HKK ⊢; generalize xl.heap.size = nb at NB ⊢; refine penl_active (getOp rfl) (by decide +kernel) (fun K hK => ?_)
 rw [if_pos (by rfl)]; go_wp2_with fail; have hh := head_walk [100, 101, 108] bx nb 2 [l0, l1] t _ _ (HM.out.keep HKK.out) HX.out (by rw [HPL.out]; exact hp) (fun j x hj => by
  match j, hj with
  | 0, hj => cases hj; exact NB.out.cell 0
  | 1, hj => cases hj; exact NB.out.cell 1) NB.out.lt (by simp) (by simp) (HT.out.keep HKK.out) (by simp) HL.out
 rw [HPL.out] at hh; refine hh.mono ?_; clear hh; rintro e xl ⟨rfl, kx⟩; replace HB := yh (HB.out.keep kx (by simp)); replace HKK := yh (HKK.out.trans kx); clear kx; refine hK.out _ _ HB.out ?_; clear hK K; try simp only [Act.put, List.setIfInBounds_toArray, List.set]
 repeat
  (refine penl_stable (getOp rfl) (by decide +kernel) (fun K hK => ?_)
   rw [if_pos (by rfl)]; apply Exists.intro; refine ⟨fun w' hS' => ?_, hK _ ?_⟩
   · replace hS' := Blk.cell hS'; go_simp; try with_reducible rfl
   clear hK K; simp only [Act.put, List.setIfInBounds_toArray, List.set])
 refine penl_done (by decide +kernel) ?_; go_wp2_with fail; go_ret; exact ⟨rfl, HKK.out⟩
theorem show_ins (w : World) (t : Tm) (g p : Nat) (l0 : Bs) (s0 : ByteArray) (h0 : ∀ X, Calls Tryz.prog 25 #[.string s0] X fun e w' => e = .returned (.string (mkS l0)) ∧ Keep none X w') (hb : Blk w g [.int .i64 (p : Int), .string ⟨#[105, 110, 115]⟩, .nilIface, .string s0, .pointer none, .pointer none, .pointer none] 89) (hp : p ≤ 1000000000) (hE : Escs w) (hT : Pow10 w) (htm : TmV w t (.iface 87 (ptr g))) (hpl : t.place = p) (hl : (Lib.join [l0] [44]).length ≤ 10000000000000) :
 ShowOf w (.iface 87 (ptr g)) (headT [105, 110, 115] p [l0]) := fun V k => by
 have HB := yh (hb.keep k (by simp)); have HE := yh (hE.keep k); have HT := yh (hT.keep k); have HM := yh (htm.keep k); have HPL := yh hpl; have HL := yh hl; have HKK := yh (Keep.refl none V); have H0 := yh h0; unfold ptr at HM HB ⊢; clear hb hE hT htm hpl hl h0; go_enter Tryz.func11, Tryz.ntmps11; have hc := (HB.out.alloc (.cells #[.iface 87 (.pointer (some ⟨g, 0, none⟩))] 23)).cell; go_wp2_with fail; clear hc; replace HB := yh (HB.out.alloc (.cells #[.iface 87 (.pointer (some ⟨g, 0, none⟩))] 23)); have HX := yh (Blk.new V [.iface 87 (.pointer (some ⟨g, 0, none⟩))] 23)
 replace HKK := yh (HKK.out.alloc (.cells #[.iface 87 (.pointer (some ⟨g, 0, none⟩))] 23)); generalize V.alloc (.cells #[.iface 87 (.pointer (some ⟨g, 0, none⟩))] 23) = V1 at HB HX HKK ⊢; generalize V.heap.size = bx at HX ⊢; refine wp_region_blk HB 99 [0, 1, 2, 3, 4, 5, 6, 7, 8, 9, 10, 11, 12] (by kernel_rfl) (by kernel_rfl) (fun c a d v w h => by cases d <;> exact h) ?_; simp only [List.length_cons, List.length_nil]; replace HB := yh HB.out.drew; replace HX := yh HX.out.drew; replace HKK := yh HKK.out.drew; generalize V1.drew = V0 at HB HX HKK ⊢; repeat
  (refine penl_stable (getOp rfl) (by decide +kernel) (fun K hK => ?_)
   rw [if_pos (by rfl)]; apply Exists.intro; refine ⟨fun w' hS' => ?_, hK _ ?_⟩
   · replace hS' := Blk.cell hS'; go_simp; try with_reducible rfl
   clear hK K; simp only [Act.put, List.setIfInBounds_toArray, List.set])
 refine penl_active (getOp rfl) (by decide +kernel) (fun K hK => ?_); rw [if_pos (by rfl)]; go_wp2_with fail; refine (H0.out _).mono ?_; rintro e xl ⟨rfl, kx⟩; replace HB := yh (HB.out.keep kx (by simp)); replace HX := yh (HX.out.keep kx (by simp)); replace HKK := yh (HKK.out.trans kx); clear kx; refine hK.out _ _ HB.out ?_; clear hK K; try simp only [Act.put, List.setIfInBounds_toArray, List.set]
 refine penl_active (getOp rfl) (by decide +kernel) (fun K hK => ?_); rw [if_pos (by rfl)]; go_simp; refine hK.out _ _ (HB.out.alloc _) ?_; clear hK K; try simp only [Act.put, List.setIfInBounds_toArray, List.set]
 have NB := yh (Blk.new xl [.string (mkS l0)] 9); replace HB := yh (HB.out.alloc (.cells #[.string (mkS l0)] 9)); replace HX := yh (HX.out.alloc (.cells #[.string (mkS l0)] 9)); replace HKK := yh (HKK.out.alloc (.cells #[.string (mkS l0)] 9)); change PenL _ _ _ _ _ _ _ _ _ (World.alloc xl (.cells #[.string (mkS l0)] 9)); generalize World.alloc xl (.cells #[.string (mkS l0)] 9) = V2 at NB HB HX HKK ⊢; generalize xl.heap.size = nb at NB ⊢; refine penl_active (getOp rfl) (by decide +kernel) (fun K hK => ?_); rw [if_pos (by rfl)]; go_wp2_with fail; have hh := head_walk [105, 110, 115] bx nb 1 [l0] t _ _ (HM.out.keep HKK.out) HX.out (by rw [HPL.out]; exact hp) (fun j x hj => by
  match j, hj with
  | 0, hj => cases hj; exact NB.out.cell 0) NB.out.lt (by simp) (by simp) (HT.out.keep HKK.out) (by simp) HL.out
 rw [HPL.out] at hh; refine hh.mono ?_; clear hh; rintro e xl ⟨rfl, kx⟩; replace HB := yh (HB.out.keep kx (by simp)); replace HKK := yh (HKK.out.trans kx); clear kx; refine hK.out _ _ HB.out ?_; clear hK K; try simp only [Act.put, List.setIfInBounds_toArray, List.set]
 repeat
  (refine penl_stable (getOp rfl) (by decide +kernel) (fun K hK => ?_)
   rw [if_pos (by rfl)]; apply Exists.intro; refine ⟨fun w' hS' => ?_, hK _ ?_⟩
   · replace hS' := Blk.cell hS'; go_simp; try with_reducible rfl
   clear hK K; simp only [Act.put, List.setIfInBounds_toArray, List.set])
 refine penl_done (by decide +kernel) ?_; go_wp2_with fail; go_ret; exact ⟨rfl, HKK.out⟩
theorem show_lstar (w : World) (t : Tm) (g p : Nat) (l0 : Bs) (wd : Bs) (op : ByteArray) (hop : mkS wd = op) (hwl : wd.length ≤ 10) (hw : op = ⟨#[115, 116, 97, 114]⟩ ∨ op = ⟨#[107, 101, 121, 101, 100]⟩) (g0 : Nat) (h0 : ShowOf w (.iface 87 (ptr g0)) l0) (hb : Blk w g [.int .i64 (p : Int), .string op, .nilIface, .string ⟨#[]⟩, .pointer none, ptr g0, .pointer none] 89) (hp : p ≤ 1000000000) (hE : Escs w) (hT : Pow10 w) (htm : TmV w t (.iface 87 (ptr g))) (hpl : t.place = p) (hl : (Lib.join [l0] [44]).length ≤ 10000000000000) :
 ShowOf w (.iface 87 (ptr g)) (headT wd p [l0]) := fun V k => by
 have HB := yh (hb.keep k (by simp)); have HE := yh (hE.keep k); have HT := yh (hT.keep k); have HM := yh (htm.keep k); have HPL := yh hpl; have HL := yh hl; have HKK := yh (Keep.refl none V); have H0 := yh (fun X (kx : Keep none V X) => h0 X (k.trans kx)); have HOP := yh hop; clear hop; unfold ptr at HM HB ⊢; clear hb hE hT htm hpl hl h0; rcases hw with rfl | rfl
 all_goals
  go_enter Tryz.func11, Tryz.ntmps11; have hc := (HB.out.alloc (.cells #[.iface 87 (.pointer (some ⟨g, 0, none⟩))] 23)).cell; go_wp2_with fail; clear hc; replace HB := yh (HB.out.alloc (.cells #[.iface 87 (.pointer (some ⟨g, 0, none⟩))] 23)); have HX := yh (Blk.new V [.iface 87 (.pointer (some ⟨g, 0, none⟩))] 23); replace HKK := yh (HKK.out.alloc (.cells #[.iface 87 (.pointer (some ⟨g, 0, none⟩))] 23)); generalize V.alloc (.cells #[.iface 87 (.pointer (some ⟨g, 0, none⟩))] 23) = V1 at HB HX HKK ⊢; generalize V.heap.size = bx at HX ⊢; refine wp_region_blk HB 99 [0, 1, 2, 3, 4, 5, 6, 7, 8, 9, 10, 11, 12, 13] (by kernel_rfl) (by kernel_rfl) (fun c a d v w h => by cases d <;> exact h) ?_
  simp only [List.length_cons, List.length_nil]; replace HB := yh HB.out.drew; replace HX := yh HX.out.drew; replace HKK := yh HKK.out.drew; generalize V1.drew = V0 at HB HX HKK ⊢; repeat
   (refine penl_stable (getOp rfl) (by decide +kernel) (fun K hK => ?_)
    rw [if_pos (by rfl)]; apply Exists.intro; refine ⟨fun w' hS' => ?_, hK _ ?_⟩
    · replace hS' := Blk.cell hS'; go_simp; try with_reducible rfl
    clear hK K; simp only [Act.put, List.setIfInBounds_toArray, List.set])
  refine penl_active (getOp rfl) (by decide +kernel) (fun K hK => ?_); rw [if_pos (by rfl)]; go_wp2_with fail; refine (H0.out _ HKK.out).mono ?_; rintro e xl ⟨rfl, kx⟩; replace HB := yh (HB.out.keep kx (by simp)); replace HX := yh (HX.out.keep kx (by simp)); replace HKK := yh (HKK.out.trans kx); clear kx; refine hK.out _ _ HB.out ?_; clear hK K; try simp only [Act.put, List.setIfInBounds_toArray, List.set]
  refine penl_active (getOp rfl) (by decide +kernel) (fun K hK => ?_); rw [if_pos (by rfl)]; go_simp; refine hK.out _ _ (HB.out.alloc _) ?_; clear hK K; try simp only [Act.put, List.setIfInBounds_toArray, List.set]
  have NB := yh (Blk.new xl [.string (mkS l0)] 9); replace HB := yh (HB.out.alloc (.cells #[.string (mkS l0)] 9)); replace HX := yh (HX.out.alloc (.cells #[.string (mkS l0)] 9)); replace HKK := yh (HKK.out.alloc (.cells #[.string (mkS l0)] 9)); change PenL _ _ _ _ _ _ _ _ _ (World.alloc xl (.cells #[.string (mkS l0)] 9)); generalize World.alloc xl (.cells #[.string (mkS l0)] 9) = V2 at NB HB HX HKK ⊢; generalize xl.heap.size = nb at NB ⊢; refine penl_active (getOp rfl) (by decide +kernel) (fun K hK => ?_); rw [if_pos (by rfl)]; go_wp2_with fail; have hh := head_walk wd bx nb 1 [l0] t _ _ (HM.out.keep HKK.out) HX.out (by rw [HPL.out]; exact hp) (fun j x hj => by
   match j, hj with
   | 0, hj => cases hj; exact NB.out.cell 0) NB.out.lt (by simp) (by simp) (HT.out.keep HKK.out) (by omega) HL.out
  rw [HPL.out, HOP.out] at hh; refine hh.mono ?_; clear hh; rintro e xl ⟨rfl, kx⟩; replace HB := yh (HB.out.keep kx (by simp)); replace HKK := yh (HKK.out.trans kx); clear kx; refine hK.out _ _ HB.out ?_; clear hK K; try simp only [Act.put, List.setIfInBounds_toArray, List.set]
  repeat
   (refine penl_stable (getOp rfl) (by decide +kernel) (fun K hK => ?_)
    rw [if_pos (by rfl)]; apply Exists.intro; refine ⟨fun w' hS' => ?_, hK _ ?_⟩
    · replace hS' := Blk.cell hS'; go_simp; try with_reducible rfl
    clear hK K; simp only [Act.put, List.setIfInBounds_toArray, List.set])
  refine penl_done (by decide +kernel) ?_; go_wp2_with fail; go_ret; exact ⟨rfl, HKK.out⟩
theorem show_left (w : World) (t : Tm) (g p : Nat) (l0 l1 : Bs) (g0 : Nat) (h0 : ShowOf w (.iface 84 (ptr g0)) l0) (g1 : Nat) (h1 : ShowOf w (.iface 87 (ptr g1)) l1) (hb : Blk w g [.int .i64 (p : Int), .string ⟨#[108, 101, 102, 116]⟩, .nilIface, .string ⟨#[]⟩, ptr g0, ptr g1, .pointer none] 89) (hp : p ≤ 1000000000) (hE : Escs w) (hT : Pow10 w) (htm : TmV w t (.iface 87 (ptr g))) (hpl : t.place = p) (hl : (Lib.join [l0, l1] [44]).length ≤ 10000000000000) :
 ShowOf w (.iface 87 (ptr g)) (headT [108, 101, 102, 116] p [l0, l1]) := fun V k => by
 have HB := yh (hb.keep k (by simp)); have HE := yh (hE.keep k); have HT := yh (hT.keep k); have HM := yh (htm.keep k); have HPL := yh hpl; have HL := yh hl; have HKK := yh (Keep.refl none V); have H0 := yh (fun X (kx : Keep none V X) => h0 X (k.trans kx)); have H1 := yh (fun X (kx : Keep none V X) => h1 X (k.trans kx)); unfold ptr at HM HB ⊢; clear hb hE hT htm hpl hl h0 h1; go_enter Tryz.func11, Tryz.ntmps11; have hc := (HB.out.alloc (.cells #[.iface 87 (.pointer (some ⟨g, 0, none⟩))] 23)).cell; go_wp2_with fail; clear hc; replace HB := yh (HB.out.alloc (.cells #[.iface 87 (.pointer (some ⟨g, 0, none⟩))] 23))
 have HX := yh (Blk.new V [.iface 87 (.pointer (some ⟨g, 0, none⟩))] 23); replace HKK := yh (HKK.out.alloc (.cells #[.iface 87 (.pointer (some ⟨g, 0, none⟩))] 23)); generalize V.alloc (.cells #[.iface 87 (.pointer (some ⟨g, 0, none⟩))] 23) = V1 at HB HX HKK ⊢; generalize V.heap.size = bx at HX ⊢; refine wp_region_blk HB 99 [0, 1, 2, 3, 4, 5, 6, 7, 8, 9, 11, 12, 13, 14, 15, 10, 16, 17, 18, 19] (by kernel_rfl) (by kernel_rfl) (fun c a d v w h => by cases d <;> exact h) ?_; simp only [List.length_cons, List.length_nil]; replace HB := yh HB.out.drew; replace HX := yh HX.out.drew
 replace HKK := yh HKK.out.drew; generalize V1.drew = V0 at HB HX HKK ⊢; repeat
  (refine penl_stable (getOp rfl) (by decide +kernel) (fun K hK => ?_)
   rw [if_pos (by rfl)]; apply Exists.intro; refine ⟨fun w' hS' => ?_, hK _ ?_⟩
   · replace hS' := Blk.cell hS'; go_simp; try with_reducible rfl
   clear hK K; simp only [Act.put, List.setIfInBounds_toArray, List.set])
 refine penl_active (getOp rfl) (by decide +kernel) (fun K hK => ?_); rw [if_pos (by rfl)]; go_wp2_with fail; refine (H0.out _ HKK.out).mono ?_; rintro e xl ⟨rfl, kx⟩; replace HB := yh (HB.out.keep kx (by simp)); replace HX := yh (HX.out.keep kx (by simp)); replace HKK := yh (HKK.out.trans kx); clear kx; refine hK.out _ _ HB.out ?_; clear hK K; try simp only [Act.put, List.setIfInBounds_toArray, List.set]
 refine penl_active (getOp rfl) (by decide +kernel) (fun K hK => ?_); rw [if_pos (by rfl)]; go_wp2_with fail; refine (H1.out _ HKK.out).mono ?_; rintro e xl ⟨rfl, kx⟩; replace HB := yh (HB.out.keep kx (by simp)); replace HX := yh (HX.out.keep kx (by simp)); replace HKK := yh (HKK.out.trans kx); clear kx; refine hK.out _ _ HB.out ?_; clear hK K; try simp only [Act.put, List.setIfInBounds_toArray, List.set]
 refine penl_active (getOp rfl) (by decide +kernel) (fun K hK => ?_); rw [if_pos (by rfl)]; go_simp; refine hK.out _ _ (HB.out.alloc _) ?_; clear hK K; try simp only [Act.put, List.setIfInBounds_toArray, List.set]
 have NB := yh (Blk.new xl [.string (mkS l0), .string (mkS l1)] 9); replace HB := yh (HB.out.alloc (.cells #[.string (mkS l0), .string (mkS l1)] 9)); replace HX := yh (HX.out.alloc (.cells #[.string (mkS l0), .string (mkS l1)] 9)); replace HKK := yh (HKK.out.alloc (.cells #[.string (mkS l0), .string (mkS l1)] 9)); change PenL _ _ _ _ _ _ _ _ _ (World.alloc xl (.cells #[.string (mkS l0), .string (mkS l1)] 9)); generalize World.alloc xl (.cells #[.string (mkS l0), .string (mkS l1)] 9) = V2 at NB HB HX HKK ⊢; generalize xl.heap.size = nb at NB ⊢; refine penl_active (getOp rfl) (by decide +kernel) (fun K hK => ?_)
 rw [if_pos (by rfl)]; go_wp2_with fail; have hh := head_walk [108, 101, 102, 116] bx nb 2 [l0, l1] t _ _ (HM.out.keep HKK.out) HX.out (by rw [HPL.out]; exact hp) (fun j x hj => by
  match j, hj with
  | 0, hj => cases hj; exact NB.out.cell 0
  | 1, hj => cases hj; exact NB.out.cell 1) NB.out.lt (by simp) (by simp) (HT.out.keep HKK.out) (by simp) HL.out
 rw [HPL.out] at hh; refine hh.mono ?_; clear hh; rintro e xl ⟨rfl, kx⟩; replace HB := yh (HB.out.keep kx (by simp)); replace HKK := yh (HKK.out.trans kx); clear kx; refine hK.out _ _ HB.out ?_; clear hK K; try simp only [Act.put, List.setIfInBounds_toArray, List.set]
 repeat
  (refine penl_stable (getOp rfl) (by decide +kernel) (fun K hK => ?_)
   rw [if_pos (by rfl)]; apply Exists.intro; refine ⟨fun w' hS' => ?_, hK _ ?_⟩
   · replace hS' := Blk.cell hS'; go_simp; try with_reducible rfl
   clear hK K; simp only [Act.put, List.setIfInBounds_toArray, List.set])
 refine penl_done (by decide +kernel) ?_; go_wp2_with fail; go_ret; exact ⟨rfl, HKK.out⟩
theorem show_right (w : World) (t : Tm) (g p : Nat) (l0 l1 : Bs) (g0 : Nat) (h0 : ShowOf w (.iface 87 (ptr g0)) l0) (g1 : Nat) (h1 : ShowOf w (.iface 84 (ptr g1)) l1) (hb : Blk w g [.int .i64 (p : Int), .string ⟨#[114, 105, 103, 104, 116]⟩, .nilIface, .string ⟨#[]⟩, ptr g1, ptr g0, .pointer none] 89) (hp : p ≤ 1000000000) (hE : Escs w) (hT : Pow10 w) (htm : TmV w t (.iface 87 (ptr g))) (hpl : t.place = p) (hl : (Lib.join [l0, l1] [44]).length ≤ 10000000000000) :
 ShowOf w (.iface 87 (ptr g)) (headT [114, 105, 103, 104, 116] p [l0, l1]) := fun V k => by
 have HB := yh (hb.keep k (by simp)); have HE := yh (hE.keep k); have HT := yh (hT.keep k); have HM := yh (htm.keep k); have HPL := yh hpl; have HL := yh hl; have HKK := yh (Keep.refl none V); have H0 := yh (fun X (kx : Keep none V X) => h0 X (k.trans kx)); have H1 := yh (fun X (kx : Keep none V X) => h1 X (k.trans kx)); unfold ptr at HM HB ⊢; clear hb hE hT htm hpl hl h0 h1; go_enter Tryz.func11, Tryz.ntmps11; have hc := (HB.out.alloc (.cells #[.iface 87 (.pointer (some ⟨g, 0, none⟩))] 23)).cell; go_wp2_with fail; clear hc; replace HB := yh (HB.out.alloc (.cells #[.iface 87 (.pointer (some ⟨g, 0, none⟩))] 23))
 have HX := yh (Blk.new V [.iface 87 (.pointer (some ⟨g, 0, none⟩))] 23); replace HKK := yh (HKK.out.alloc (.cells #[.iface 87 (.pointer (some ⟨g, 0, none⟩))] 23)); generalize V.alloc (.cells #[.iface 87 (.pointer (some ⟨g, 0, none⟩))] 23) = V1 at HB HX HKK ⊢; generalize V.heap.size = bx at HX ⊢; refine wp_region_blk HB 99 [0, 1, 2, 3, 4, 5, 6, 7, 8, 9, 11, 12, 13, 14, 15, 10, 16, 17, 18, 19] (by kernel_rfl) (by kernel_rfl) (fun c a d v w h => by cases d <;> exact h) ?_; simp only [List.length_cons, List.length_nil]; replace HB := yh HB.out.drew; replace HX := yh HX.out.drew
 replace HKK := yh HKK.out.drew; generalize V1.drew = V0 at HB HX HKK ⊢; repeat
  (refine penl_stable (getOp rfl) (by decide +kernel) (fun K hK => ?_)
   rw [if_pos (by rfl)]; apply Exists.intro; refine ⟨fun w' hS' => ?_, hK _ ?_⟩
   · replace hS' := Blk.cell hS'; go_simp; try with_reducible rfl
   clear hK K; simp only [Act.put, List.setIfInBounds_toArray, List.set])
 refine penl_active (getOp rfl) (by decide +kernel) (fun K hK => ?_); rw [if_pos (by rfl)]; go_wp2_with fail; refine (H0.out _ HKK.out).mono ?_; rintro e xl ⟨rfl, kx⟩; replace HB := yh (HB.out.keep kx (by simp)); replace HX := yh (HX.out.keep kx (by simp)); replace HKK := yh (HKK.out.trans kx); clear kx; refine hK.out _ _ HB.out ?_; clear hK K; try simp only [Act.put, List.setIfInBounds_toArray, List.set]
 refine penl_active (getOp rfl) (by decide +kernel) (fun K hK => ?_); rw [if_pos (by rfl)]; go_wp2_with fail; refine (H1.out _ HKK.out).mono ?_; rintro e xl ⟨rfl, kx⟩; replace HB := yh (HB.out.keep kx (by simp)); replace HX := yh (HX.out.keep kx (by simp)); replace HKK := yh (HKK.out.trans kx); clear kx; refine hK.out _ _ HB.out ?_; clear hK K; try simp only [Act.put, List.setIfInBounds_toArray, List.set]
 refine penl_active (getOp rfl) (by decide +kernel) (fun K hK => ?_); rw [if_pos (by rfl)]; go_simp; refine hK.out _ _ (HB.out.alloc _) ?_; clear hK K; try simp only [Act.put, List.setIfInBounds_toArray, List.set]
 have NB := yh (Blk.new xl [.string (mkS l0), .string (mkS l1)] 9); replace HB := yh (HB.out.alloc (.cells #[.string (mkS l0), .string (mkS l1)] 9)); replace HX := yh (HX.out.alloc (.cells #[.string (mkS l0), .string (mkS l1)] 9)); replace HKK := yh (HKK.out.alloc (.cells #[.string (mkS l0), .string (mkS l1)] 9)); change PenL _ _ _ _ _ _ _ _ _ (World.alloc xl (.cells #[.string (mkS l0), .string (mkS l1)] 9)); generalize World.alloc xl (.cells #[.string (mkS l0), .string (mkS l1)] 9) = V2 at NB HB HX HKK ⊢; generalize xl.heap.size = nb at NB ⊢; refine penl_active (getOp rfl) (by decide +kernel) (fun K hK => ?_)
 rw [if_pos (by rfl)]; go_wp2_with fail; have hh := head_walk [114, 105, 103, 104, 116] bx nb 2 [l0, l1] t _ _ (HM.out.keep HKK.out) HX.out (by rw [HPL.out]; exact hp) (fun j x hj => by
  match j, hj with
  | 0, hj => cases hj; exact NB.out.cell 0
  | 1, hj => cases hj; exact NB.out.cell 1) NB.out.lt (by simp) (by simp) (HT.out.keep HKK.out) (by simp) HL.out
 rw [HPL.out] at hh; refine hh.mono ?_; clear hh; rintro e xl ⟨rfl, kx⟩; replace HB := yh (HB.out.keep kx (by simp)); replace HKK := yh (HKK.out.trans kx); clear kx; refine hK.out _ _ HB.out ?_; clear hK K; try simp only [Act.put, List.setIfInBounds_toArray, List.set]
 repeat
  (refine penl_stable (getOp rfl) (by decide +kernel) (fun K hK => ?_)
   rw [if_pos (by rfl)]; apply Exists.intro; refine ⟨fun w' hS' => ?_, hK _ ?_⟩
   · replace hS' := Blk.cell hS'; go_simp; try with_reducible rfl
   clear hK K; simp only [Act.put, List.setIfInBounds_toArray, List.set])
 refine penl_done (by decide +kernel) ?_; go_wp2_with fail; go_ret; exact ⟨rfl, HKK.out⟩
theorem show_deflt (w : World) (t : Tm) (g p : Nat) (l0 l1 : Bs) (g0 : Nat) (h0 : ShowOf w (.iface 87 (ptr g0)) l0) (s1 : ByteArray) (h1 : ∀ X, Calls Tryz.prog 25 #[.string s1] X fun e w' => e = .returned (.string (mkS l1)) ∧ Keep none X w') (hb : Blk w g [.int .i64 (p : Int), .string ⟨#[100, 101, 102, 97, 117, 108, 116]⟩, .nilIface, .string s1, .pointer none, ptr g0, .pointer none] 89) (hp : p ≤ 1000000000) (hE : Escs w) (hT : Pow10 w) (htm : TmV w t (.iface 87 (ptr g))) (hpl : t.place = p) (hl : (Lib.join [l0, l1] [44]).length ≤ 10000000000000) :
 ShowOf w (.iface 87 (ptr g)) (headT [100, 101, 102, 97, 117, 108, 116] p [l0, l1]) := fun V k => by
 have HB := yh (hb.keep k (by simp)); have HE := yh (hE.keep k); have HT := yh (hT.keep k); have HM := yh (htm.keep k); have HPL := yh hpl; have HL := yh hl; have HKK := yh (Keep.refl none V); have H0 := yh (fun X (kx : Keep none V X) => h0 X (k.trans kx)); have H1 := yh h1; unfold ptr at HM HB ⊢; clear hb hE hT htm hpl hl h0 h1; go_enter Tryz.func11, Tryz.ntmps11; have hc := (HB.out.alloc (.cells #[.iface 87 (.pointer (some ⟨g, 0, none⟩))] 23)).cell; go_wp2_with fail; clear hc; replace HB := yh (HB.out.alloc (.cells #[.iface 87 (.pointer (some ⟨g, 0, none⟩))] 23))
 have HX := yh (Blk.new V [.iface 87 (.pointer (some ⟨g, 0, none⟩))] 23); replace HKK := yh (HKK.out.alloc (.cells #[.iface 87 (.pointer (some ⟨g, 0, none⟩))] 23)); generalize V.alloc (.cells #[.iface 87 (.pointer (some ⟨g, 0, none⟩))] 23) = V1 at HB HX HKK ⊢; generalize V.heap.size = bx at HX ⊢; refine wp_region_blk HB 99 [0, 1, 2, 3, 4, 5, 6, 7, 8, 9, 11, 12, 13, 14, 10, 15, 16, 17, 18] (by kernel_rfl) (by kernel_rfl) (fun c a d v w h => by cases d <;> exact h) ?_; simp only [List.length_cons, List.length_nil]; replace HB := yh HB.out.drew; replace HX := yh HX.out.drew; replace HKK := yh HKK.out.drew
 generalize V1.drew = V0 at HB HX HKK ⊢; repeat
  (refine penl_stable (getOp rfl) (by decide +kernel) (fun K hK => ?_)
   rw [if_pos (by rfl)]; apply Exists.intro; refine ⟨fun w' hS' => ?_, hK _ ?_⟩
   · replace hS' := Blk.cell hS'; go_simp; try with_reducible rfl
   clear hK K; simp only [Act.put, List.setIfInBounds_toArray, List.set])
 refine penl_active (getOp rfl) (by decide +kernel) (fun K hK => ?_); rw [if_pos (by rfl)]; go_wp2_with fail; refine (H0.out _ HKK.out).mono ?_; rintro e xl ⟨rfl, kx⟩; replace HB := yh (HB.out.keep kx (by simp)); replace HX := yh (HX.out.keep kx (by simp)); replace HKK := yh (HKK.out.trans kx); clear kx; refine hK.out _ _ HB.out ?_; clear hK K; try simp only [Act.put, List.setIfInBounds_toArray, List.set]
 refine penl_active (getOp rfl) (by decide +kernel) (fun K hK => ?_); rw [if_pos (by rfl)]; go_wp2_with fail; refine (H1.out _).mono ?_; rintro e xl ⟨rfl, kx⟩; replace HB := yh (HB.out.keep kx (by simp)); replace HX := yh (HX.out.keep kx (by simp)); replace HKK := yh (HKK.out.trans kx); clear kx; refine hK.out _ _ HB.out ?_; clear hK K; try simp only [Act.put, List.setIfInBounds_toArray, List.set]
 refine penl_active (getOp rfl) (by decide +kernel) (fun K hK => ?_); rw [if_pos (by rfl)]; go_simp; refine hK.out _ _ (HB.out.alloc _) ?_; clear hK K; try simp only [Act.put, List.setIfInBounds_toArray, List.set]
 have NB := yh (Blk.new xl [.string (mkS l0), .string (mkS l1)] 9); replace HB := yh (HB.out.alloc (.cells #[.string (mkS l0), .string (mkS l1)] 9)); replace HX := yh (HX.out.alloc (.cells #[.string (mkS l0), .string (mkS l1)] 9)); replace HKK := yh (HKK.out.alloc (.cells #[.string (mkS l0), .string (mkS l1)] 9)); change PenL _ _ _ _ _ _ _ _ _ (World.alloc xl (.cells #[.string (mkS l0), .string (mkS l1)] 9)); generalize World.alloc xl (.cells #[.string (mkS l0), .string (mkS l1)] 9) = V2 at NB HB HX HKK ⊢; generalize xl.heap.size = nb at NB ⊢; refine penl_active (getOp rfl) (by decide +kernel) (fun K hK => ?_)
 rw [if_pos (by rfl)]; go_wp2_with fail; have hh := head_walk [100, 101, 102, 97, 117, 108, 116] bx nb 2 [l0, l1] t _ _ (HM.out.keep HKK.out) HX.out (by rw [HPL.out]; exact hp) (fun j x hj => by
  match j, hj with
  | 0, hj => cases hj; exact NB.out.cell 0
  | 1, hj => cases hj; exact NB.out.cell 1) NB.out.lt (by simp) (by simp) (HT.out.keep HKK.out) (by simp) HL.out
 rw [HPL.out] at hh; refine hh.mono ?_; clear hh; rintro e xl ⟨rfl, kx⟩; replace HB := yh (HB.out.keep kx (by simp)); replace HKK := yh (HKK.out.trans kx); clear kx; refine hK.out _ _ HB.out ?_; clear hK K; try simp only [Act.put, List.setIfInBounds_toArray, List.set]
 repeat
  (refine penl_stable (getOp rfl) (by decide +kernel) (fun K hK => ?_)
   rw [if_pos (by rfl)]; apply Exists.intro; refine ⟨fun w' hS' => ?_, hK _ ?_⟩
   · replace hS' := Blk.cell hS'; go_simp; try with_reducible rfl
   clear hK K; simp only [Act.put, List.setIfInBounds_toArray, List.set])
 refine penl_done (by decide +kernel) ?_; go_wp2_with fail; go_ret; exact ⟨rfl, HKK.out⟩
theorem show_ltwo (w : World) (t : Tm) (g p : Nat) (l0 l1 : Bs) (wd : Bs) (op : ByteArray) (hop : mkS wd = op) (hwl : wd.length ≤ 10) (hw : (op.toList == [99, 111, 112, 121]) = false ∧ (op.toList == [107, 101, 121]) = false ∧ (op.toList == [100, 101, 108]) = false ∧ (op.toList == [105, 110, 115]) = false ∧ (op.toList == [115, 116, 97, 114]) = false ∧ (op.toList == [107, 101, 121, 101, 100]) = false ∧ (op.toList == [108, 101, 102, 116]) = false ∧ (op.toList == [114, 105, 103, 104, 116]) = false ∧ (op.toList == [100, 101, 102, 97, 117, 108, 116]) = false) (g0 : Nat) (h0 : ShowOf w (.iface 87 (ptr g0)) l0) (g1 : Nat) (h1 : ShowOf w (.iface 87 (ptr g1)) l1) (hb : Blk w g [.int .i64 (p : Int), .string op, .nilIface, .string ⟨#[]⟩, .pointer none, ptr g0, ptr g1] 89) (hp : p ≤ 1000000000) (hE : Escs w) (hT : Pow10 w) (htm : TmV w t (.iface 87 (ptr g))) (hpl : t.place = p) (hl : (Lib.join [l0, l1] [44]).length ≤ 10000000000000) :
 ShowOf w (.iface 87 (ptr g)) (headT wd p [l0, l1]) := fun V k => by
 have HB := yh (hb.keep k (by simp)); have HE := yh (hE.keep k); have HT := yh (hT.keep k); have HM := yh (htm.keep k); have HPL := yh hpl; have HL := yh hl; have HKK := yh (Keep.refl none V); have H0 := yh (fun X (kx : Keep none V X) => h0 X (k.trans kx)); have H1 := yh (fun X (kx : Keep none V X) => h1 X (k.trans kx)); have HOP := yh hop; clear hop; obtain ⟨n0, n1, n2, n3, n4, n5, n6, n7, n8⟩ := hw; unfold ptr at HM HB ⊢; clear hb hE hT htm hpl hl h0 h1; go_enter Tryz.func11, Tryz.ntmps11; have hc := (HB.out.alloc (.cells #[.iface 87 (.pointer (some ⟨g, 0, none⟩))] 23)).cell
 go_wp2_with fail; clear hc; replace HB := yh (HB.out.alloc (.cells #[.iface 87 (.pointer (some ⟨g, 0, none⟩))] 23)); have HX := yh (Blk.new V [.iface 87 (.pointer (some ⟨g, 0, none⟩))] 23); replace HKK := yh (HKK.out.alloc (.cells #[.iface 87 (.pointer (some ⟨g, 0, none⟩))] 23)); generalize V.alloc (.cells #[.iface 87 (.pointer (some ⟨g, 0, none⟩))] 23) = V1 at HB HX HKK ⊢; generalize V.heap.size = bx at HX ⊢; refine wp_region_blk HB 99 [0, 1, 2, 3, 4, 5, 6, 7, 8, 9, 11, 12, 13, 14, 15, 10, 16, 17, 18, 19] (by kernel_rfl) (by kernel_rfl) (fun c a d v w h => by cases d <;> exact h) ?_
 simp only [List.length_cons, List.length_nil]; replace HB := yh HB.out.drew; replace HX := yh HX.out.drew; replace HKK := yh HKK.out.drew; generalize V1.drew = V0 at HB HX HKK ⊢; repeat
  (refine penl_stable (getOp rfl) (by decide +kernel) (fun K hK => ?_)
   rw [if_pos (by rfl)]; apply Exists.intro; refine ⟨fun w' hS' => ?_, hK _ ?_⟩
   · replace hS' := Blk.cell hS'; go_simp; try with_reducible rfl
   clear hK K; simp only [Act.put, List.setIfInBounds_toArray, List.set])
 refine penl_active (getOp rfl) (by decide +kernel) (fun K hK => ?_); rw [if_pos (by rfl)]; go_wp2_with fail; refine (H0.out _ HKK.out).mono ?_; rintro e xl ⟨rfl, kx⟩; replace HB := yh (HB.out.keep kx (by simp)); replace HX := yh (HX.out.keep kx (by simp)); replace HKK := yh (HKK.out.trans kx); clear kx; refine hK.out _ _ HB.out ?_; clear hK K; try simp only [Act.put, List.setIfInBounds_toArray, List.set]
 refine penl_active (getOp rfl) (by decide +kernel) (fun K hK => ?_); rw [if_pos (by rfl)]; go_wp2_with fail; refine (H1.out _ HKK.out).mono ?_; rintro e xl ⟨rfl, kx⟩; replace HB := yh (HB.out.keep kx (by simp)); replace HX := yh (HX.out.keep kx (by simp)); replace HKK := yh (HKK.out.trans kx); clear kx; refine hK.out _ _ HB.out ?_; clear hK K; try simp only [Act.put, List.setIfInBounds_toArray, List.set]
 refine penl_active (getOp rfl) (by decide +kernel) (fun K hK => ?_); rw [if_pos (by rfl)]; go_simp; refine hK.out _ _ (HB.out.alloc _) ?_; clear hK K; try simp only [Act.put, List.setIfInBounds_toArray, List.set]
 have NB := yh (Blk.new xl [.string (mkS l0), .string (mkS l1)] 9); replace HB := yh (HB.out.alloc (.cells #[.string (mkS l0), .string (mkS l1)] 9)); replace HX := yh (HX.out.alloc (.cells #[.string (mkS l0), .string (mkS l1)] 9)); replace HKK := yh (HKK.out.alloc (.cells #[.string (mkS l0), .string (mkS l1)] 9)); change PenL _ _ _ _ _ _ _ _ _ (World.alloc xl (.cells #[.string (mkS l0), .string (mkS l1)] 9)); generalize World.alloc xl (.cells #[.string (mkS l0), .string (mkS l1)] 9) = V2 at NB HB HX HKK ⊢; generalize xl.heap.size = nb at NB ⊢; refine penl_active (getOp rfl) (by decide +kernel) (fun K hK => ?_)
 rw [if_pos (by rfl)]; go_wp2_with fail; have hh := head_walk wd bx nb 2 [l0, l1] t _ _ (HM.out.keep HKK.out) HX.out (by rw [HPL.out]; exact hp) (fun j x hj => by
  match j, hj with
  | 0, hj => cases hj; exact NB.out.cell 0
  | 1, hj => cases hj; exact NB.out.cell 1) NB.out.lt (by simp) (by simp) (HT.out.keep HKK.out) (by omega) HL.out
 rw [HPL.out, HOP.out] at hh; refine hh.mono ?_; clear hh; rintro e xl ⟨rfl, kx⟩; replace HB := yh (HB.out.keep kx (by simp)); replace HKK := yh (HKK.out.trans kx); clear kx; refine hK.out _ _ HB.out ?_; clear hK K; try simp only [Act.put, List.setIfInBounds_toArray, List.set]
 repeat
  (refine penl_stable (getOp rfl) (by decide +kernel) (fun K hK => ?_)
   rw [if_pos (by rfl)]; apply Exists.intro; refine ⟨fun w' hS' => ?_, hK _ ?_⟩
   · replace hS' := Blk.cell hS'; go_simp; try with_reducible rfl
   clear hK K; simp only [Act.put, List.setIfInBounds_toArray, List.set])
 refine penl_done (by decide +kernel) ?_; go_wp2_with fail; go_ret; exact ⟨rfl, HKK.out⟩
end Go.Proofs.YtmfabihndpidnaaGreatDoor
