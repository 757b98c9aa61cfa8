/-
  Terms: a sign between two expressions.
-/
import Derived.Test.YtmfabihndpidnaaGreatDoorK33
import Derived.Maps.OwnOps
import Derived.Test.YtmfabihndpidnaaGreatDoorK03
namespace Go.Proofs.YtmfabihndpidnaaGreatDoor
set_option maxHeartbeats 4000000
open Go.RowKit Go.Maps
set_option maxRecDepth 100000
set_option linter.unusedVariables false
set_option linter.unusedSimpArgs false
theorem keyed9 : Keyed Tryz.prog 9 := string_keyed Tryz.underlying9
theorem zero3 (w : World) : (zeroValue 3).run Tryz.prog w = .ok (.int .i64 0) w := by kernel_rfl
theorem key9 (l : Bs) (h : l.length ≤ 1000) : keyOf Tryz.prog 9 (.string (mkS l)) = some (.string l) := by
 have := WideMaps.keyOf_string_mk Tryz.underlying9 (s := mkS l) (by rw [mkS_size]; unfold maxLen; omega); simpa using this
def signs : DataW Unit := ((((DataW.map []).put (.string [124]) (.lit (.int .i64 1))).put (.string [46]) (.lit (.int .i64 2))).put (.string [126]) (.lit (.int .i64 3))).put (.string [62, 62]) (.lit (.int .i64 4))
theorem sign_map (W : World) (op : Bs) (hop : op.length ≤ 1000) : ∃ (M1 M2 M3 M4 : World) (c : Int),
 (Instr.mapUpdate 152 (.map (some W.heap.size)) (.string ⟨#[124]⟩) (.int .i64 1)).run Tryz.prog (W.alloc (.map #[] 0)) = .ok () M1 ∧
 (Instr.mapUpdate 152 (.map (some W.heap.size)) (.string ⟨#[46]⟩) (.int .i64 2)).run Tryz.prog M1 = .ok () M2 ∧
 (Instr.mapUpdate 152 (.map (some W.heap.size)) (.string ⟨#[126]⟩) (.int .i64 3)).run Tryz.prog M2 = .ok () M3 ∧
 (Instr.mapUpdate 152 (.map (some W.heap.size)) (.string ⟨#[62, 62]⟩) (.int .i64 4)).run Tryz.prog M3 = .ok () M4 ∧
 (Instr.lookup 152 (.map (some W.heap.size)) (.string (mkS op)) false).run Tryz.prog M4 = .ok (.int .i64 c) M4 ∧
 signs.atKey (.string op) (.lit (.int .i64 0)) = .lit (.int .i64 c) ∧ Keep none W M4 := by
 have h0 := World.ownsMap_made (H := Unit) W Tryz.prog 9 (plainElem Tryz.prog 3); obtain ⟨M1, r1, h1, g1⟩ := h0.update keyed9 Tryz.underlying152 (by unfold maxLen; omega) (key := .string (mkS [124])) (val := .int .i64 1) (key9 _ (by decide)) (plainElem_int Tryz.underlying3 (by decide)); obtain ⟨M2, r2, h2, g2⟩ := h1.update keyed9 Tryz.underlying152 (by unfold maxLen; omega) (key := .string (mkS [46])) (val := .int .i64 2) (key9 _ (by decide)) (plainElem_int Tryz.underlying3 (by decide)); obtain ⟨M3, r3, h3, g3⟩ := h2.update keyed9 Tryz.underlying152 (by unfold maxLen; omega) (key := .string (mkS [126])) (val := .int .i64 3) (key9 _ (by decide)) (plainElem_int Tryz.underlying3 (by decide))
 obtain ⟨M4, r4, h4, g4⟩ := h3.update keyed9 Tryz.underlying152 (by unfold maxLen; omega) (key := .string (mkS [62, 62])) (val := .int .i64 4) (key9 _ (by decide)) (plainElem_int Tryz.underlying3 (by decide)); obtain ⟨c, r5, hat, _⟩ := h4.lookup_int keyed9 Tryz.underlying152 Tryz.underlying3 (zero3 _) (key9 op hop); have hr : ∀ k, some W.heap.size = some k → some k = none ∨ W.heap.size ≤ k := fun k hk => .inr (by simp at hk; omega)
 exact ⟨M1, M2, M3, M4, c, r1, r2, r3, r4, r5, hat, ((((((Keep.refl none W).alloc _).grown g1 hr).grown g2 hr).grown g3 hr).grown g4 hr)⟩
def NotLn (v : Value) : Prop := ∀ w, (Instr.typeAssert v 23 87 true).run Tryz.prog w = .ok (.tuple #[nop, .bool false]) w
def NotCn (v : Value) : Prop := ∀ w, (Instr.typeAssert v 23 84 true).run Tryz.prog w = .ok (.tuple #[nop, .bool false]) w
theorem TmV.notLn {w : World} {t : Tm} {v : Value} (h : TmV w t v) (ht : t.lens? = none) : NotLn v := by
 cases t with
 | text p s => obtain rfl : v = _ := h; exact fun w => run_tm_78_87 _ w
 | rx p n => obtain rfl : v = _ := h; exact fun w => run_tm_82_87 _ w
 | canon c => obtain ⟨g, rfl, _⟩ := h; exact fun w => run_tm_84_87 _ w
 | lens l => simp [Tm.lens?] at ht
theorem TmV.notCn {w : World} {t : Tm} {v : Value} (h : TmV w t v) (ht : t.canon? = none) : NotCn v := by
 cases t with
 | text p s => obtain rfl : v = _ := h; exact fun w => run_tm_78_84 _ w
 | rx p n => obtain rfl : v = _ := h; exact fun w => run_tm_82_84 _ w
 | canon c => simp [Tm.canon?] at ht
 | lens l => obtain ⟨g, rfl, _⟩ := h; exact fun w => run_tm_87_84 _ w
structure NodeOf (w : World) (v : Value) (nv : Value) (ok : Bool) : Prop where
 call : ∀ V, Keep none w V → Calls Tryz.prog 63 #[v] V fun e w' => e = .returned (.tuple #[nv, .bool ok]) ∧ Keep none V w'
theorem NodeOf.some {w : World} {t : Tm} {v : Value} {n : Nd} (h : TmV w t v) (hn : t.node? = some n) (hs : t.small) : NodeOf w v (ndV n) true :=
 ⟨fun V k => asNode_some t n hn hs v V (h.keep k)⟩
theorem NodeOf.none {w : World} {t : Tm} {v : Value} (h : TmV w t v) (hn : t.node? = none) : NodeOf w v .nilIface false :=
 ⟨fun V k => (asNode_none t hn v V (h.keep k)).mono fun _ _ ⟨h1, h2⟩ => ⟨h1, by rw [h2]; exact Keep.refl _ _⟩⟩
theorem bin_na (p : Nat) (ta tb : TypeId) (ya yb : Value) (op : Bs) (hop : op.length ≤ 1000) (n : Nd) (tv tu : TypeId) (v u : Value) (w : World) (hna : NodeOf w (.iface tv v) (ndV n) true) (hnb : NodeOf w (.iface tu u) .nilIface false) (h1 : NotLn (.iface tv v)) (h2 : NotCn (.iface tv v)) :
 Calls Tryz.prog 43 #[.agg #[.int .i64 (p : Int), .string (mkS op), .iface ta ya, .iface tb yb], .iface tv v, .iface tu u] w (TOut w (.error 72)) := by
 have HNA := yh hna; have HNB := yh hnb; clear hna hnb; unfold NotLn nop at h1; unfold NotCn nop at h2; obtain ⟨tn, yn, hnd⟩ := ndV_iface n; rw [hnd] at HNA; clear hnd; go_enter Tryz.func43, Tryz.ntmps43; go_wp2_with fail; refine (HNA.out.call _ ((Keep.refl _ _).alloc _)).mono ?_; rintro e x1 ⟨rfl, k1⟩; have HK1 := yh (((Keep.refl none w).alloc (.cells #[.int .i64 (p : Int), .string (mkS op), .iface ta ya, .iface tb yb] 103)).trans k1); have HB1 := yh ((Blk.new w [.int .i64 (p : Int), .string (mkS op), .iface ta ya, .iface tb yb] 103).keep k1 (by simp)); clear k1; go_wp2_with fail
 refine (HNB.out.call _ HK1.out).mono ?_; rintro e x2 ⟨rfl, k2⟩; replace HB1 := yh (HB1.out.keep k2 (by simp)); replace HK1 := yh (HK1.out.trans k2); clear k2; have hmm := @run_makeMap Tryz.prog; obtain ⟨M1, M2, M3, M4, c, r1, r2, r3, r4, r5, hat, hkm⟩ := sign_map x2 op hop; have hcB0 := HB1.out.cell; have HBL := yh HB1.out.lt; replace HB1 := yh (HB1.out.keep hkm (by simp)); replace HK1 := yh (HK1.out.trans hkm); have hcB := HB1.out.cell; have hm4 : w.heap.size < M4.heap.size := HB1.out.lt; have hm5 : w.heap.size ≠ M4.heap.size := by omega
 have hm6 : w.heap.size < M4.heap.size + 1 := by omega
 have HAT := yh hat; clear hkm hat; go_wp2_with fail; refine (tm_fail _ _ _).mono ?_; rintro e x3 ⟨rfl, rfl⟩; exact ⟨rfl, _, rfl, HK1.out.alloc _⟩
theorem bin_nn_no0 (p : Nat) (ta tb : TypeId) (ya yb : Value) (n m : Nd) (tv tu : TypeId) (v u : Value) (w : World) (hna : NodeOf w (.iface tv v) (ndV n) true) (hnb : NodeOf w (.iface tu u) (ndV m) true) (h1 : NotLn (.iface tv v)) (h2 : NotCn (.iface tv v)) :
 Calls Tryz.prog 43 #[.agg #[.int .i64 (p : Int), .string (mkS [62, 62]), .iface ta ya, .iface tb yb], .iface tv v, .iface tu u] w (TOut w (.error 72)) := by
 have HNA := yh hna; have HNB := yh hnb; clear hna hnb; unfold NotLn nop at h1; unfold NotCn nop at h2; obtain ⟨tn, yn, hnd⟩ := ndV_iface n; rw [hnd] at HNA; obtain ⟨tm, ym, hmd⟩ := ndV_iface m; rw [hmd] at HNB; clear hnd hmd; go_enter Tryz.func43, Tryz.ntmps43; go_wp2_with fail; refine (HNA.out.call _ ((Keep.refl _ _).alloc _)).mono ?_; rintro e x1 ⟨rfl, k1⟩; have HK1 := yh (((Keep.refl none w).alloc (.cells #[.int .i64 (p : Int), .string (mkS [62, 62]), .iface ta ya, .iface tb yb] 103)).trans k1); have HB1 := yh ((Blk.new w [.int .i64 (p : Int), .string (mkS [62, 62]), .iface ta ya, .iface tb yb] 103).keep k1 (by simp))
 clear k1; go_wp2_with fail; refine (HNB.out.call _ HK1.out).mono ?_; rintro e x2 ⟨rfl, k2⟩; replace HB1 := yh (HB1.out.keep k2 (by simp)); replace HK1 := yh (HK1.out.trans k2); clear k2; have hmm := @run_makeMap Tryz.prog; obtain ⟨M1, M2, M3, M4, c, r1, r2, r3, r4, r5, hat, hkm⟩ := sign_map x2 [62, 62] (by decide); have hcB0 := HB1.out.cell; have HBL := yh HB1.out.lt; replace HB1 := yh (HB1.out.keep hkm (by simp)); replace HK1 := yh (HK1.out.trans hkm); have hcB := HB1.out.cell; have hm4 : w.heap.size < M4.heap.size := HB1.out.lt; have hm5 : w.heap.size ≠ M4.heap.size := by omega
 have hm6 : w.heap.size < M4.heap.size + 1 := by omega
 have HAT := yh hat; clear hkm hat; go_wp2_with fail; refine (tm_fail _ _ _).mono ?_; rintro e x3 ⟨rfl, rfl⟩; exact ⟨rfl, _, rfl, HK1.out.alloc _⟩
theorem bin_nn_no1 (p : Nat) (ta tb : TypeId) (ya yb : Value) (n m : Nd) (tv tu : TypeId) (v u : Value) (w : World) (hna : NodeOf w (.iface tv v) (ndV n) true) (hnb : NodeOf w (.iface tu u) (ndV m) true) (h1 : NotLn (.iface tv v)) (h2 : NotCn (.iface tv v)) :
 Calls Tryz.prog 43 #[.agg #[.int .i64 (p : Int), .string (mkS [126]), .iface ta ya, .iface tb yb], .iface tv v, .iface tu u] w (TOut w (.error 72)) := by
 have HNA := yh hna; have HNB := yh hnb; clear hna hnb; unfold NotLn nop at h1; unfold NotCn nop at h2; obtain ⟨tn, yn, hnd⟩ := ndV_iface n; rw [hnd] at HNA; obtain ⟨tm, ym, hmd⟩ := ndV_iface m; rw [hmd] at HNB; clear hnd hmd; go_enter Tryz.func43, Tryz.ntmps43; go_wp2_with fail; refine (HNA.out.call _ ((Keep.refl _ _).alloc _)).mono ?_; rintro e x1 ⟨rfl, k1⟩; have HK1 := yh (((Keep.refl none w).alloc (.cells #[.int .i64 (p : Int), .string (mkS [126]), .iface ta ya, .iface tb yb] 103)).trans k1); have HB1 := yh ((Blk.new w [.int .i64 (p : Int), .string (mkS [126]), .iface ta ya, .iface tb yb] 103).keep k1 (by simp))
 clear k1; go_wp2_with fail; refine (HNB.out.call _ HK1.out).mono ?_; rintro e x2 ⟨rfl, k2⟩; replace HB1 := yh (HB1.out.keep k2 (by simp)); replace HK1 := yh (HK1.out.trans k2); clear k2; have hmm := @run_makeMap Tryz.prog; obtain ⟨M1, M2, M3, M4, c, r1, r2, r3, r4, r5, hat, hkm⟩ := sign_map x2 [126] (by decide); have hcB0 := HB1.out.cell; have HBL := yh HB1.out.lt; replace HB1 := yh (HB1.out.keep hkm (by simp)); replace HK1 := yh (HK1.out.trans hkm); have hcB := HB1.out.cell; have hm4 : w.heap.size < M4.heap.size := HB1.out.lt; have hm5 : w.heap.size ≠ M4.heap.size := by omega
 have hm6 : w.heap.size < M4.heap.size + 1 := by omega
 have HAT := yh hat; clear hkm hat; go_wp2_with fail; refine (tm_fail _ _ _).mono ?_; rintro e x3 ⟨rfl, rfl⟩; exact ⟨rfl, _, rfl, HK1.out.alloc _⟩
theorem bin_nn0 (p : Nat) (ta tb : TypeId) (ya yb : Value) (n m : Nd) (tv tu : TypeId) (v u : Value) (w : World) (hna : NodeOf w (.iface tv v) (ndV n) true) (hnb : NodeOf w (.iface tu u) (ndV m) true) :
 Calls Tryz.prog 43 #[.agg #[.int .i64 (p : Int), .string (mkS [124]), .iface ta ya, .iface tb yb], .iface tv v, .iface tu u] w (TOut w (.ok (.rx p (.alt n m)))) := by
 have HNA := yh hna; have HNB := yh hnb; clear hna hnb; obtain ⟨tn, yn, hnd⟩ := ndV_iface n; rw [hnd] at HNA; obtain ⟨tm, ym, hmd⟩ := ndV_iface m; rw [hmd] at HNB; have HND := yh hnd; have HMD := yh hmd; clear hnd hmd; go_enter Tryz.func43, Tryz.ntmps43; go_wp2_with fail; refine (HNA.out.call _ ((Keep.refl _ _).alloc _)).mono ?_; rintro e x1 ⟨rfl, k1⟩; have HK1 := yh (((Keep.refl none w).alloc (.cells #[.int .i64 (p : Int), .string (mkS [124]), .iface ta ya, .iface tb yb] 103)).trans k1); have HB1 := yh ((Blk.new w [.int .i64 (p : Int), .string (mkS [124]), .iface ta ya, .iface tb yb] 103).keep k1 (by simp))
 clear k1; go_wp2_with fail; refine (HNB.out.call _ HK1.out).mono ?_; rintro e x2 ⟨rfl, k2⟩; replace HB1 := yh (HB1.out.keep k2 (by simp)); replace HK1 := yh (HK1.out.trans k2); clear k2; have hcB := HB1.out.cell; go_wp2_with fail; clear hcB; go_ret; exact ⟨_, rfl, by simp only [TmV, ndV, HND.out, HMD.out]; rfl, HK1.out⟩
theorem bin_nn1 (p : Nat) (ta tb : TypeId) (ya yb : Value) (n m : Nd) (tv tu : TypeId) (v u : Value) (w : World) (hna : NodeOf w (.iface tv v) (ndV n) true) (hnb : NodeOf w (.iface tu u) (ndV m) true) :
 Calls Tryz.prog 43 #[.agg #[.int .i64 (p : Int), .string (mkS [46]), .iface ta ya, .iface tb yb], .iface tv v, .iface tu u] w (TOut w (.ok (.rx p (.cat n m)))) := by
 have HNA := yh hna; have HNB := yh hnb; clear hna hnb; obtain ⟨tn, yn, hnd⟩ := ndV_iface n; rw [hnd] at HNA; obtain ⟨tm, ym, hmd⟩ := ndV_iface m; rw [hmd] at HNB; have HND := yh hnd; have HMD := yh hmd; clear hnd hmd; go_enter Tryz.func43, Tryz.ntmps43; go_wp2_with fail; refine (HNA.out.call _ ((Keep.refl _ _).alloc _)).mono ?_; rintro e x1 ⟨rfl, k1⟩; have HK1 := yh (((Keep.refl none w).alloc (.cells #[.int .i64 (p : Int), .string (mkS [46]), .iface ta ya, .iface tb yb] 103)).trans k1); have HB1 := yh ((Blk.new w [.int .i64 (p : Int), .string (mkS [46]), .iface ta ya, .iface tb yb] 103).keep k1 (by simp))
 clear k1; go_wp2_with fail; refine (HNB.out.call _ HK1.out).mono ?_; rintro e x2 ⟨rfl, k2⟩; replace HB1 := yh (HB1.out.keep k2 (by simp)); replace HK1 := yh (HK1.out.trans k2); clear k2; have hcB := HB1.out.cell; go_wp2_with fail; clear hcB; go_ret; exact ⟨_, rfl, by simp only [TmV, ndV, HND.out, HMD.out]; rfl, HK1.out⟩
theorem bin_nn2 (p : Nat) (ta tb : TypeId) (ya yb : Value) (n m : Nd) (tv tu : TypeId) (v u : Value) (w : World) (hna : NodeOf w (.iface tv v) (ndV n) true) (hnb : NodeOf w (.iface tu u) (ndV m) true) :
 Calls Tryz.prog 43 #[.agg #[.int .i64 (p : Int), .string (mkS [38]), .iface ta ya, .iface tb yb], .iface tv v, .iface tu u] w (TOut w (.ok (.rx p (.and n m)))) := by
 have HNA := yh hna; have HNB := yh hnb; clear hna hnb; obtain ⟨tn, yn, hnd⟩ := ndV_iface n; rw [hnd] at HNA; obtain ⟨tm, ym, hmd⟩ := ndV_iface m; rw [hmd] at HNB; have HND := yh hnd; have HMD := yh hmd; clear hnd hmd; go_enter Tryz.func43, Tryz.ntmps43; go_wp2_with fail; refine (HNA.out.call _ ((Keep.refl _ _).alloc _)).mono ?_; rintro e x1 ⟨rfl, k1⟩; have HK1 := yh (((Keep.refl none w).alloc (.cells #[.int .i64 (p : Int), .string (mkS [38]), .iface ta ya, .iface tb yb] 103)).trans k1); have HB1 := yh ((Blk.new w [.int .i64 (p : Int), .string (mkS [38]), .iface ta ya, .iface tb yb] 103).keep k1 (by simp))
 clear k1; go_wp2_with fail; refine (HNB.out.call _ HK1.out).mono ?_; rintro e x2 ⟨rfl, k2⟩; replace HB1 := yh (HB1.out.keep k2 (by simp)); replace HK1 := yh (HK1.out.trans k2); clear k2; have hcB := HB1.out.cell; go_wp2_with fail; clear hcB; go_ret; exact ⟨_, rfl, by simp only [TmV, ndV, HND.out, HMD.out]; rfl, HK1.out⟩
theorem bin_nn3 (p : Nat) (ta tb : TypeId) (ya yb : Value) (n m : Nd) (tv tu : TypeId) (v u : Value) (w : World) (hna : NodeOf w (.iface tv v) (ndV n) true) (hnb : NodeOf w (.iface tu u) (ndV m) true) :
 Calls Tryz.prog 43 #[.agg #[.int .i64 (p : Int), .string (mkS [45]), .iface ta ya, .iface tb yb], .iface tv v, .iface tu u] w (TOut w (.ok (.rx p (.minus n m)))) := by
 have HNA := yh hna; have HNB := yh hnb; clear hna hnb; obtain ⟨tn, yn, hnd⟩ := ndV_iface n; rw [hnd] at HNA; obtain ⟨tm, ym, hmd⟩ := ndV_iface m; rw [hmd] at HNB; have HND := yh hnd; have HMD := yh hmd; clear hnd hmd; go_enter Tryz.func43, Tryz.ntmps43; go_wp2_with fail; refine (HNA.out.call _ ((Keep.refl _ _).alloc _)).mono ?_; rintro e x1 ⟨rfl, k1⟩; have HK1 := yh (((Keep.refl none w).alloc (.cells #[.int .i64 (p : Int), .string (mkS [45]), .iface ta ya, .iface tb yb] 103)).trans k1); have HB1 := yh ((Blk.new w [.int .i64 (p : Int), .string (mkS [45]), .iface ta ya, .iface tb yb] 103).keep k1 (by simp))
 clear k1; go_wp2_with fail; refine (HNB.out.call _ HK1.out).mono ?_; rintro e x2 ⟨rfl, k2⟩; replace HB1 := yh (HB1.out.keep k2 (by simp)); replace HK1 := yh (HK1.out.trans k2); clear k2; have hcB := HB1.out.cell; go_wp2_with fail; clear hcB; go_ret; exact ⟨_, rfl, by simp only [TmV, ndV, HND.out, HMD.out]; rfl, HK1.out⟩
attribute [local go_sem ↓] run_tm_84_84 run_tm_87_84 run_tm_87_87 run_tm_84_87
theorem bin_ln (p : Nat) (ta tb : TypeId) (ya yb : Value) (op : Bs) (hop : op.length ≤ 1000) (ga : Nat) (nb : Value) (okb : Bool) (tu : TypeId) (u : Value) (w : World) (hna : NodeOf w (.iface 87 (ptr ga)) .nilIface false) (hnb : NodeOf w (.iface tu u) nb okb) (h1 : NotLn (.iface tu u)) :
 Calls Tryz.prog 43 #[.agg #[.int .i64 (p : Int), .string (mkS op), .iface ta ya, .iface tb yb], .iface 87 (ptr ga), .iface tu u] w (TOut w (.error 72)) := by
 have HNA := yh hna; have HNB := yh hnb; clear hna hnb; unfold NotLn nop at h1; unfold ptr at *; go_enter Tryz.func43, Tryz.ntmps43; go_wp2_with fail; refine (HNA.out.call _ ((Keep.refl _ _).alloc _)).mono ?_; rintro e x1 ⟨rfl, k1⟩; have HK1 := yh (((Keep.refl none w).alloc (.cells #[.int .i64 (p : Int), .string (mkS op), .iface ta ya, .iface tb yb] 103)).trans k1); have HB1 := yh ((Blk.new w [.int .i64 (p : Int), .string (mkS op), .iface ta ya, .iface tb yb] 103).keep k1 (by simp)); clear k1; go_wp2_with fail; refine (HNB.out.call _ HK1.out).mono ?_; rintro e x2 ⟨rfl, k2⟩; replace HB1 := yh (HB1.out.keep k2 (by simp))
 replace HK1 := yh (HK1.out.trans k2); clear k2; have hmm := @run_makeMap Tryz.prog; obtain ⟨M1, M2, M3, M4, c, r1, r2, r3, r4, r5, hat, hkm⟩ := sign_map x2 op hop; have hcB0 := HB1.out.cell; have HBL := yh HB1.out.lt; replace HB1 := yh (HB1.out.keep hkm (by simp)); replace HK1 := yh (HK1.out.trans hkm); have hcB := HB1.out.cell; have hm4 : w.heap.size < M4.heap.size := HB1.out.lt; have hm5 : w.heap.size ≠ M4.heap.size := by omega
 have hm6 : w.heap.size < M4.heap.size + 1 := by omega
 have HAT := yh hat; clear hkm hat; go_wp2_with fail; refine (tm_fail _ _ _).mono ?_; rintro e x3 ⟨rfl, rfl⟩; exact ⟨rfl, _, rfl, HK1.out.alloc _⟩
theorem bin_cn (p : Nat) (ta tb : TypeId) (ya yb : Value) (op : Bs) (hop : op.length ≤ 1000) (ga : Nat) (nb : Value) (okb : Bool) (tu : TypeId) (u : Value) (w : World) (hna : NodeOf w (.iface 84 (ptr ga)) .nilIface false) (hnb : NodeOf w (.iface tu u) nb okb) (h1 : NotCn (.iface tu u)) :
 Calls Tryz.prog 43 #[.agg #[.int .i64 (p : Int), .string (mkS op), .iface ta ya, .iface tb yb], .iface 84 (ptr ga), .iface tu u] w (TOut w (.error 72)) := by
 have HNA := yh hna; have HNB := yh hnb; clear hna hnb; unfold NotCn nop at h1; unfold ptr at *; go_enter Tryz.func43, Tryz.ntmps43; go_wp2_with fail; refine (HNA.out.call _ ((Keep.refl _ _).alloc _)).mono ?_; rintro e x1 ⟨rfl, k1⟩; have HK1 := yh (((Keep.refl none w).alloc (.cells #[.int .i64 (p : Int), .string (mkS op), .iface ta ya, .iface tb yb] 103)).trans k1); have HB1 := yh ((Blk.new w [.int .i64 (p : Int), .string (mkS op), .iface ta ya, .iface tb yb] 103).keep k1 (by simp)); clear k1; go_wp2_with fail; refine (HNB.out.call _ HK1.out).mono ?_; rintro e x2 ⟨rfl, k2⟩; replace HB1 := yh (HB1.out.keep k2 (by simp))
 replace HK1 := yh (HK1.out.trans k2); clear k2; have hmm := @run_makeMap Tryz.prog; obtain ⟨M1, M2, M3, M4, c, r1, r2, r3, r4, r5, hat, hkm⟩ := sign_map x2 op hop; have hcB0 := HB1.out.cell; have HBL := yh HB1.out.lt; replace HB1 := yh (HB1.out.keep hkm (by simp)); replace HK1 := yh (HK1.out.trans hkm); have hcB := HB1.out.cell; have hm4 : w.heap.size < M4.heap.size := HB1.out.lt; have hm5 : w.heap.size ≠ M4.heap.size := by omega
 have hm6 : w.heap.size < M4.heap.size + 1 := by omega
 have HAT := yh hat; clear hkm hat; go_wp2_with fail; refine (tm_fail _ _ _).mono ?_; rintro e x3 ⟨rfl, rfl⟩; exact ⟨rfl, _, rfl, HK1.out.alloc _⟩
theorem bin_ll0 (p : Nat) (ta tb : TypeId) (ya yb : Value) (ga gb : Nat) (x y : Ln)  (w : World) (hna : NodeOf w (.iface 87 (ptr ga)) .nilIface false) (hnb : NodeOf w (.iface 87 (ptr gb)) .nilIface false) (hx : LnV w x ga) (hy : LnV w y gb) :
 Calls Tryz.prog 43 #[.agg #[.int .i64 (p : Int), .string (mkS [124]), .iface ta ya, .iface tb yb], .iface 87 (ptr ga), .iface 87 (ptr gb)] w (TOut w (.ok (.lens (.two .alt p x y)))) := by
 have HNA := yh hna; have HNB := yh hnb; clear hna hnb; have HX := yh hx; have HY := yh hy; clear hx hy; unfold ptr at *; go_enter Tryz.func43, Tryz.ntmps43; go_wp2_with fail; refine (HNA.out.call _ ((Keep.refl _ _).alloc _)).mono ?_; rintro e x1 ⟨rfl, k1⟩; have HK1 := yh (((Keep.refl none w).alloc (.cells #[.int .i64 (p : Int), .string (mkS [124]), .iface ta ya, .iface tb yb] 103)).trans k1); have HB1 := yh ((Blk.new w [.int .i64 (p : Int), .string (mkS [124]), .iface ta ya, .iface tb yb] 103).keep k1 (by simp)); clear k1; go_wp2_with fail; refine (HNB.out.call _ HK1.out).mono ?_
 rintro e x2 ⟨rfl, k2⟩; replace HB1 := yh (HB1.out.keep k2 (by simp)); replace HK1 := yh (HK1.out.trans k2); clear k2; have hmm := @run_makeMap Tryz.prog; obtain ⟨M1, M2, M3, M4, c, r1, r2, r3, r4, r5, hat, hkm⟩ := sign_map x2 [124] (by decide); have hcB0 := HB1.out.cell; have HBL := yh HB1.out.lt; replace HB1 := yh (HB1.out.keep hkm (by simp)); replace HK1 := yh (HK1.out.trans hkm); have hcB := HB1.out.cell; have hm4 : w.heap.size < M4.heap.size := HB1.out.lt; have hm5 : w.heap.size ≠ M4.heap.size := by omega
 have hm6 : w.heap.size < M4.heap.size + 1 := by omega
 have HAT := yh hat; clear hkm hat; obtain rfl : c = 1 := by
  have e : signs.atKey (.string [124]) (.lit (.int .i64 0)) = .lit (.int .i64 1) := by rfl
  have h0 := HAT.out; rw [e] at h0; cases h0; rfl
 go_wp2_with fail; have HN := yh (Blk.new M4 [.string ⟨#[]⟩, .string ⟨#[97, 108, 116]⟩, .string ⟨#[99, 97, 116]⟩, .string ⟨#[115, 119, 97, 112]⟩, .string ⟨#[99, 104, 97, 105, 110]⟩] 132); replace HB1 := yh (HB1.out.alloc (.cells #[.string ⟨#[]⟩, .string ⟨#[97, 108, 116]⟩, .string ⟨#[99, 97, 116]⟩, .string ⟨#[115, 119, 97, 112]⟩, .string ⟨#[99, 104, 97, 105, 110]⟩] 132)); replace HK1 := yh (HK1.out.alloc (.cells #[.string ⟨#[]⟩, .string ⟨#[97, 108, 116]⟩, .string ⟨#[99, 97, 116]⟩, .string ⟨#[115, 119, 97, 112]⟩, .string ⟨#[99, 104, 97, 105, 110]⟩] 132)); clear hcB hcB0 hm4 hm5 hm6
 generalize World.alloc M4 _ = V at HN HB1 HK1 ⊢; generalize M4.heap.size = mb at HN ⊢; refine wp_region_pen (fun w' => (∀ q, w'.cell? ⟨w.heap.size, q, none⟩ = [Value.int .i64 (p : Int), .string (mkS [124]), .iface ta ya, .iface tb yb][q]?) ∧ w'.cell? ⟨mb, 1, none⟩ = some (.string ⟨#[97, 108, 116]⟩)) 99 (by kernel_rfl) (by kernel_rfl) (fun c a d v w h => by cases d <;> exact h) (by exact ⟨HB1.out.drew.cell, HN.out.drew.cell 1⟩) ?_; simp only [List.length_cons, List.length_nil]; replace HB1 := yh HB1.out.drew; replace HK1 := yh HK1.out.drew; replace HN := yh HN.out.drew; generalize V.drew = V0 at HN HB1 HK1 ⊢
 refine pen_list [0, 1, 2, 3, 4, 5, 6, 7] ?_; repeat
  (refine penl_stable (getOp rfl) (by decide +kernel) (fun K hK => ?_)
   rw [if_pos (by rfl)]; apply Exists.intro; refine ⟨fun w' hS' => ?_, hK _ ?_⟩
   · obtain ⟨hS1, hS2⟩ := hS'; go_simp; try with_reducible rfl
   clear hK K; simp only [Act.put, List.setIfInBounds_toArray, List.set])
 refine penl_end ?_; refine pen_active 8 (getOp rfl) (by decide +kernel) (fun K hK => ?_); rw [if_pos (by rfl)]; go_simp; refine hK.out _ _ (⟨(HB1.out.alloc _).cell, (HN.out.alloc _).cell 1⟩) ?_; clear hK K; try simp only [Act.put, List.setIfInBounds_toArray, List.set]
 refine pen_list [9, 10] ?_; repeat
  (refine penl_stable (getOp rfl) (by decide +kernel) (fun K hK => ?_)
   rw [if_pos (by rfl)]; apply Exists.intro; refine ⟨fun w' hS' => ?_, hK _ ?_⟩
   · (try dsimp only at hS')
     go_simp; try with_reducible rfl
   clear hK K; simp only [Act.put, List.setIfInBounds_toArray, List.set])
 refine penl_end ?_; refine pen_done (by decide +kernel) ?_; go_wp2_with fail; go_ret; have kk := (Keep.refl none V0).alloc (.cells ([.int .i64 (p : Int), .string ⟨#[97, 108, 116]⟩, .nilIface, .string ⟨#[]⟩, .pointer none, .pointer (some ⟨ga, 0, none⟩), .pointer (some ⟨gb, 0, none⟩)] : List Value).toArray 89); exact ⟨_, rfl, ⟨V0.heap.size, rfl, ga, gb, Blk.new V0 [.int .i64 (p : Int), .string ⟨#[97, 108, 116]⟩, .nilIface, .string ⟨#[]⟩, .pointer none, .pointer (some ⟨ga, 0, none⟩), .pointer (some ⟨gb, 0, none⟩)] 89, (HX.out.keep HK1.out).keep kk, (HY.out.keep HK1.out).keep kk⟩, HK1.out.trans kk⟩
theorem bin_ll1 (p : Nat) (ta tb : TypeId) (ya yb : Value) (ga gb : Nat) (x y : Ln)  (w : World) (hna : NodeOf w (.iface 87 (ptr ga)) .nilIface false) (hnb : NodeOf w (.iface 87 (ptr gb)) .nilIface false) (hx : LnV w x ga) (hy : LnV w y gb) :
 Calls Tryz.prog 43 #[.agg #[.int .i64 (p : Int), .string (mkS [46]), .iface ta ya, .iface tb yb], .iface 87 (ptr ga), .iface 87 (ptr gb)] w (TOut w (.ok (.lens (.two .cat p x y)))) := by
 have HNA := yh hna; have HNB := yh hnb; clear hna hnb; have HX := yh hx; have HY := yh hy; clear hx hy; unfold ptr at *; go_enter Tryz.func43, Tryz.ntmps43; go_wp2_with fail; refine (HNA.out.call _ ((Keep.refl _ _).alloc _)).mono ?_; rintro e x1 ⟨rfl, k1⟩; have HK1 := yh (((Keep.refl none w).alloc (.cells #[.int .i64 (p : Int), .string (mkS [46]), .iface ta ya, .iface tb yb] 103)).trans k1); have HB1 := yh ((Blk.new w [.int .i64 (p : Int), .string (mkS [46]), .iface ta ya, .iface tb yb] 103).keep k1 (by simp)); clear k1; go_wp2_with fail; refine (HNB.out.call _ HK1.out).mono ?_
 rintro e x2 ⟨rfl, k2⟩; replace HB1 := yh (HB1.out.keep k2 (by simp)); replace HK1 := yh (HK1.out.trans k2); clear k2; have hmm := @run_makeMap Tryz.prog; obtain ⟨M1, M2, M3, M4, c, r1, r2, r3, r4, r5, hat, hkm⟩ := sign_map x2 [46] (by decide); have hcB0 := HB1.out.cell; have HBL := yh HB1.out.lt; replace HB1 := yh (HB1.out.keep hkm (by simp)); replace HK1 := yh (HK1.out.trans hkm); have hcB := HB1.out.cell; have hm4 : w.heap.size < M4.heap.size := HB1.out.lt; have hm5 : w.heap.size ≠ M4.heap.size := by omega
 have hm6 : w.heap.size < M4.heap.size + 1 := by omega
 have HAT := yh hat; clear hkm hat; obtain rfl : c = 2 := by
  have e : signs.atKey (.string [46]) (.lit (.int .i64 0)) = .lit (.int .i64 2) := by rfl
  have h0 := HAT.out; rw [e] at h0; cases h0; rfl
 go_wp2_with fail; have HN := yh (Blk.new M4 [.string ⟨#[]⟩, .string ⟨#[97, 108, 116]⟩, .string ⟨#[99, 97, 116]⟩, .string ⟨#[115, 119, 97, 112]⟩, .string ⟨#[99, 104, 97, 105, 110]⟩] 132); replace HB1 := yh (HB1.out.alloc (.cells #[.string ⟨#[]⟩, .string ⟨#[97, 108, 116]⟩, .string ⟨#[99, 97, 116]⟩, .string ⟨#[115, 119, 97, 112]⟩, .string ⟨#[99, 104, 97, 105, 110]⟩] 132)); replace HK1 := yh (HK1.out.alloc (.cells #[.string ⟨#[]⟩, .string ⟨#[97, 108, 116]⟩, .string ⟨#[99, 97, 116]⟩, .string ⟨#[115, 119, 97, 112]⟩, .string ⟨#[99, 104, 97, 105, 110]⟩] 132)); clear hcB hcB0 hm4 hm5 hm6
 generalize World.alloc M4 _ = V at HN HB1 HK1 ⊢; generalize M4.heap.size = mb at HN ⊢; refine wp_region_pen (fun w' => (∀ q, w'.cell? ⟨w.heap.size, q, none⟩ = [Value.int .i64 (p : Int), .string (mkS [46]), .iface ta ya, .iface tb yb][q]?) ∧ w'.cell? ⟨mb, 2, none⟩ = some (.string ⟨#[99, 97, 116]⟩)) 99 (by kernel_rfl) (by kernel_rfl) (fun c a d v w h => by cases d <;> exact h) (by exact ⟨HB1.out.drew.cell, HN.out.drew.cell 2⟩) ?_; simp only [List.length_cons, List.length_nil]; replace HB1 := yh HB1.out.drew; replace HK1 := yh HK1.out.drew; replace HN := yh HN.out.drew; generalize V.drew = V0 at HN HB1 HK1 ⊢
 refine pen_list [0, 1, 2, 3, 4, 5, 6, 7] ?_; repeat
  (refine penl_stable (getOp rfl) (by decide +kernel) (fun K hK => ?_)
   rw [if_pos (by rfl)]; apply Exists.intro; refine ⟨fun w' hS' => ?_, hK _ ?_⟩
   · obtain ⟨hS1, hS2⟩ := hS'; go_simp; try with_reducible rfl
   clear hK K; simp only [Act.put, List.setIfInBounds_toArray, List.set])
 refine penl_end ?_; refine pen_active 8 (getOp rfl) (by decide +kernel) (fun K hK => ?_); rw [if_pos (by rfl)]; go_simp; refine hK.out _ _ (⟨(HB1.out.alloc _).cell, (HN.out.alloc _).cell 2⟩) ?_; clear hK K; try simp only [Act.put, List.setIfInBounds_toArray, List.set]
 refine pen_list [9, 10] ?_; repeat
  (refine penl_stable (getOp rfl) (by decide +kernel) (fun K hK => ?_)
   rw [if_pos (by rfl)]; apply Exists.intro; refine ⟨fun w' hS' => ?_, hK _ ?_⟩
   · (try dsimp only at hS')
     go_simp; try with_reducible rfl
   clear hK K; simp only [Act.put, List.setIfInBounds_toArray, List.set])
 refine penl_end ?_; refine pen_done (by decide +kernel) ?_; go_wp2_with fail; go_ret; have kk := (Keep.refl none V0).alloc (.cells ([.int .i64 (p : Int), .string ⟨#[99, 97, 116]⟩, .nilIface, .string ⟨#[]⟩, .pointer none, .pointer (some ⟨ga, 0, none⟩), .pointer (some ⟨gb, 0, none⟩)] : List Value).toArray 89); exact ⟨_, rfl, ⟨V0.heap.size, rfl, ga, gb, Blk.new V0 [.int .i64 (p : Int), .string ⟨#[99, 97, 116]⟩, .nilIface, .string ⟨#[]⟩, .pointer none, .pointer (some ⟨ga, 0, none⟩), .pointer (some ⟨gb, 0, none⟩)] 89, (HX.out.keep HK1.out).keep kk, (HY.out.keep HK1.out).keep kk⟩, HK1.out.trans kk⟩
theorem bin_ll2 (p : Nat) (ta tb : TypeId) (ya yb : Value) (ga gb : Nat) (x y : Ln)  (w : World) (hna : NodeOf w (.iface 87 (ptr ga)) .nilIface false) (hnb : NodeOf w (.iface 87 (ptr gb)) .nilIface false) (hx : LnV w x ga) (hy : LnV w y gb) :
 Calls Tryz.prog 43 #[.agg #[.int .i64 (p : Int), .string (mkS [126]), .iface ta ya, .iface tb yb], .iface 87 (ptr ga), .iface 87 (ptr gb)] w (TOut w (.ok (.lens (.two .swap p x y)))) := by
 have HNA := yh hna; have HNB := yh hnb; clear hna hnb; have HX := yh hx; have HY := yh hy; clear hx hy; unfold ptr at *; go_enter Tryz.func43, Tryz.ntmps43; go_wp2_with fail; refine (HNA.out.call _ ((Keep.refl _ _).alloc _)).mono ?_; rintro e x1 ⟨rfl, k1⟩; have HK1 := yh (((Keep.refl none w).alloc (.cells #[.int .i64 (p : Int), .string (mkS [126]), .iface ta ya, .iface tb yb] 103)).trans k1); have HB1 := yh ((Blk.new w [.int .i64 (p : Int), .string (mkS [126]), .iface ta ya, .iface tb yb] 103).keep k1 (by simp)); clear k1; go_wp2_with fail; refine (HNB.out.call _ HK1.out).mono ?_
 rintro e x2 ⟨rfl, k2⟩; replace HB1 := yh (HB1.out.keep k2 (by simp)); replace HK1 := yh (HK1.out.trans k2); clear k2; have hmm := @run_makeMap Tryz.prog; obtain ⟨M1, M2, M3, M4, c, r1, r2, r3, r4, r5, hat, hkm⟩ := sign_map x2 [126] (by decide); have hcB0 := HB1.out.cell; have HBL := yh HB1.out.lt; replace HB1 := yh (HB1.out.keep hkm (by simp)); replace HK1 := yh (HK1.out.trans hkm); have hcB := HB1.out.cell; have hm4 : w.heap.size < M4.heap.size := HB1.out.lt; have hm5 : w.heap.size ≠ M4.heap.size := by omega
 have hm6 : w.heap.size < M4.heap.size + 1 := by omega
 have HAT := yh hat; clear hkm hat; obtain rfl : c = 3 := by
  have e : signs.atKey (.string [126]) (.lit (.int .i64 0)) = .lit (.int .i64 3) := by rfl
  have h0 := HAT.out; rw [e] at h0; cases h0; rfl
 go_wp2_with fail; have HN := yh (Blk.new M4 [.string ⟨#[]⟩, .string ⟨#[97, 108, 116]⟩, .string ⟨#[99, 97, 116]⟩, .string ⟨#[115, 119, 97, 112]⟩, .string ⟨#[99, 104, 97, 105, 110]⟩] 132); replace HB1 := yh (HB1.out.alloc (.cells #[.string ⟨#[]⟩, .string ⟨#[97, 108, 116]⟩, .string ⟨#[99, 97, 116]⟩, .string ⟨#[115, 119, 97, 112]⟩, .string ⟨#[99, 104, 97, 105, 110]⟩] 132)); replace HK1 := yh (HK1.out.alloc (.cells #[.string ⟨#[]⟩, .string ⟨#[97, 108, 116]⟩, .string ⟨#[99, 97, 116]⟩, .string ⟨#[115, 119, 97, 112]⟩, .string ⟨#[99, 104, 97, 105, 110]⟩] 132)); clear hcB hcB0 hm4 hm5 hm6
 generalize World.alloc M4 _ = V at HN HB1 HK1 ⊢; generalize M4.heap.size = mb at HN ⊢; refine wp_region_pen (fun w' => (∀ q, w'.cell? ⟨w.heap.size, q, none⟩ = [Value.int .i64 (p : Int), .string (mkS [126]), .iface ta ya, .iface tb yb][q]?) ∧ w'.cell? ⟨mb, 3, none⟩ = some (.string ⟨#[115, 119, 97, 112]⟩)) 99 (by kernel_rfl) (by kernel_rfl) (fun c a d v w h => by cases d <;> exact h) (by exact ⟨HB1.out.drew.cell, HN.out.drew.cell 3⟩) ?_; simp only [List.length_cons, List.length_nil]; replace HB1 := yh HB1.out.drew; replace HK1 := yh HK1.out.drew; replace HN := yh HN.out.drew; generalize V.drew = V0 at HN HB1 HK1 ⊢
 refine pen_list [0, 1, 2, 3, 4, 5, 6, 7] ?_; repeat
  (refine penl_stable (getOp rfl) (by decide +kernel) (fun K hK => ?_)
   rw [if_pos (by rfl)]; apply Exists.intro; refine ⟨fun w' hS' => ?_, hK _ ?_⟩
   · obtain ⟨hS1, hS2⟩ := hS'; go_simp; try with_reducible rfl
   clear hK K; simp only [Act.put, List.setIfInBounds_toArray, List.set])
 refine penl_end ?_; refine pen_active 8 (getOp rfl) (by decide +kernel) (fun K hK => ?_); rw [if_pos (by rfl)]; go_simp; refine hK.out _ _ (⟨(HB1.out.alloc _).cell, (HN.out.alloc _).cell 3⟩) ?_; clear hK K; try simp only [Act.put, List.setIfInBounds_toArray, List.set]
 refine pen_list [9, 10] ?_; repeat
  (refine penl_stable (getOp rfl) (by decide +kernel) (fun K hK => ?_)
   rw [if_pos (by rfl)]; apply Exists.intro; refine ⟨fun w' hS' => ?_, hK _ ?_⟩
   · (try dsimp only at hS')
     go_simp; try with_reducible rfl
   clear hK K; simp only [Act.put, List.setIfInBounds_toArray, List.set])
 refine penl_end ?_; refine pen_done (by decide +kernel) ?_; go_wp2_with fail; go_ret; have kk := (Keep.refl none V0).alloc (.cells ([.int .i64 (p : Int), .string ⟨#[115, 119, 97, 112]⟩, .nilIface, .string ⟨#[]⟩, .pointer none, .pointer (some ⟨ga, 0, none⟩), .pointer (some ⟨gb, 0, none⟩)] : List Value).toArray 89); exact ⟨_, rfl, ⟨V0.heap.size, rfl, ga, gb, Blk.new V0 [.int .i64 (p : Int), .string ⟨#[115, 119, 97, 112]⟩, .nilIface, .string ⟨#[]⟩, .pointer none, .pointer (some ⟨ga, 0, none⟩), .pointer (some ⟨gb, 0, none⟩)] 89, (HX.out.keep HK1.out).keep kk, (HY.out.keep HK1.out).keep kk⟩, HK1.out.trans kk⟩
theorem bin_ll3 (p : Nat) (ta tb : TypeId) (ya yb : Value) (ga gb : Nat) (x y : Ln)  (w : World) (hna : NodeOf w (.iface 87 (ptr ga)) .nilIface false) (hnb : NodeOf w (.iface 87 (ptr gb)) .nilIface false) (hx : LnV w x ga) (hy : LnV w y gb) :
 Calls Tryz.prog 43 #[.agg #[.int .i64 (p : Int), .string (mkS [62, 62]), .iface ta ya, .iface tb yb], .iface 87 (ptr ga), .iface 87 (ptr gb)] w (TOut w (.ok (.lens (.two .chain p x y)))) := by
 have HNA := yh hna; have HNB := yh hnb; clear hna hnb; have HX := yh hx; have HY := yh hy; clear hx hy; unfold ptr at *; go_enter Tryz.func43, Tryz.ntmps43; go_wp2_with fail; refine (HNA.out.call _ ((Keep.refl _ _).alloc _)).mono ?_; rintro e x1 ⟨rfl, k1⟩; have HK1 := yh (((Keep.refl none w).alloc (.cells #[.int .i64 (p : Int), .string (mkS [62, 62]), .iface ta ya, .iface tb yb] 103)).trans k1); have HB1 := yh ((Blk.new w [.int .i64 (p : Int), .string (mkS [62, 62]), .iface ta ya, .iface tb yb] 103).keep k1 (by simp)); clear k1; go_wp2_with fail; refine (HNB.out.call _ HK1.out).mono ?_
 rintro e x2 ⟨rfl, k2⟩; replace HB1 := yh (HB1.out.keep k2 (by simp)); replace HK1 := yh (HK1.out.trans k2); clear k2; have hmm := @run_makeMap Tryz.prog; obtain ⟨M1, M2, M3, M4, c, r1, r2, r3, r4, r5, hat, hkm⟩ := sign_map x2 [62, 62] (by decide); have hcB0 := HB1.out.cell; have HBL := yh HB1.out.lt; replace HB1 := yh (HB1.out.keep hkm (by simp)); replace HK1 := yh (HK1.out.trans hkm); have hcB := HB1.out.cell; have hm4 : w.heap.size < M4.heap.size := HB1.out.lt; have hm5 : w.heap.size ≠ M4.heap.size := by omega
 have hm6 : w.heap.size < M4.heap.size + 1 := by omega
 have HAT := yh hat; clear hkm hat; obtain rfl : c = 4 := by
  have e : signs.atKey (.string [62, 62]) (.lit (.int .i64 0)) = .lit (.int .i64 4) := by rfl
  have h0 := HAT.out; rw [e] at h0; cases h0; rfl
 go_wp2_with fail; have HN := yh (Blk.new M4 [.string ⟨#[]⟩, .string ⟨#[97, 108, 116]⟩, .string ⟨#[99, 97, 116]⟩, .string ⟨#[115, 119, 97, 112]⟩, .string ⟨#[99, 104, 97, 105, 110]⟩] 132); replace HB1 := yh (HB1.out.alloc (.cells #[.string ⟨#[]⟩, .string ⟨#[97, 108, 116]⟩, .string ⟨#[99, 97, 116]⟩, .string ⟨#[115, 119, 97, 112]⟩, .string ⟨#[99, 104, 97, 105, 110]⟩] 132)); replace HK1 := yh (HK1.out.alloc (.cells #[.string ⟨#[]⟩, .string ⟨#[97, 108, 116]⟩, .string ⟨#[99, 97, 116]⟩, .string ⟨#[115, 119, 97, 112]⟩, .string ⟨#[99, 104, 97, 105, 110]⟩] 132)); clear hcB hcB0 hm4 hm5 hm6
 generalize World.alloc M4 _ = V at HN HB1 HK1 ⊢; generalize M4.heap.size = mb at HN ⊢; refine wp_region_pen (fun w' => (∀ q, w'.cell? ⟨w.heap.size, q, none⟩ = [Value.int .i64 (p : Int), .string (mkS [62, 62]), .iface ta ya, .iface tb yb][q]?) ∧ w'.cell? ⟨mb, 4, none⟩ = some (.string ⟨#[99, 104, 97, 105, 110]⟩)) 99 (by kernel_rfl) (by kernel_rfl) (fun c a d v w h => by cases d <;> exact h) (by exact ⟨HB1.out.drew.cell, HN.out.drew.cell 4⟩) ?_; simp only [List.length_cons, List.length_nil]; replace HB1 := yh HB1.out.drew; replace HK1 := yh HK1.out.drew; replace HN := yh HN.out.drew
 generalize V.drew = V0 at HN HB1 HK1 ⊢; refine pen_list [0, 1, 2, 3, 4, 5, 6, 7] ?_; repeat
  (refine penl_stable (getOp rfl) (by decide +kernel) (fun K hK => ?_)
   rw [if_pos (by rfl)]; apply Exists.intro; refine ⟨fun w' hS' => ?_, hK _ ?_⟩
   · obtain ⟨hS1, hS2⟩ := hS'; go_simp; try with_reducible rfl
   clear hK K; simp only [Act.put, List.setIfInBounds_toArray, List.set])
 refine penl_end ?_; refine pen_active 8 (getOp rfl) (by decide +kernel) (fun K hK => ?_); rw [if_pos (by rfl)]; go_simp; refine hK.out _ _ (⟨(HB1.out.alloc _).cell, (HN.out.alloc _).cell 4⟩) ?_; clear hK K; try simp only [Act.put, List.setIfInBounds_toArray, List.set]
 refine pen_list [9, 10] ?_; repeat
  (refine penl_stable (getOp rfl) (by decide +kernel) (fun K hK => ?_)
   rw [if_pos (by rfl)]; apply Exists.intro; refine ⟨fun w' hS' => ?_, hK _ ?_⟩
   · (try dsimp only at hS')
     go_simp; try with_reducible rfl
   clear hK K; simp only [Act.put, List.setIfInBounds_toArray, List.set])
 refine penl_end ?_; refine pen_done (by decide +kernel) ?_; go_wp2_with fail; go_ret; have kk := (Keep.refl none V0).alloc (.cells ([.int .i64 (p : Int), .string ⟨#[99, 104, 97, 105, 110]⟩, .nilIface, .string ⟨#[]⟩, .pointer none, .pointer (some ⟨ga, 0, none⟩), .pointer (some ⟨gb, 0, none⟩)] : List Value).toArray 89); exact ⟨_, rfl, ⟨V0.heap.size, rfl, ga, gb, Blk.new V0 [.int .i64 (p : Int), .string ⟨#[99, 104, 97, 105, 110]⟩, .nilIface, .string ⟨#[]⟩, .pointer none, .pointer (some ⟨ga, 0, none⟩), .pointer (some ⟨gb, 0, none⟩)] 89, (HX.out.keep HK1.out).keep kk, (HY.out.keep HK1.out).keep kk⟩, HK1.out.trans kk⟩
theorem bin_ll4 (p : Nat) (ta tb : TypeId) (ya yb : Value) (ga gb : Nat) (x y : Ln)  (w : World) (hna : NodeOf w (.iface 87 (ptr ga)) .nilIface false) (hnb : NodeOf w (.iface 87 (ptr gb)) .nilIface false) (hx : LnV w x ga) (hy : LnV w y gb) :
 Calls Tryz.prog 43 #[.agg #[.int .i64 (p : Int), .string (mkS [38]), .iface ta ya, .iface tb yb], .iface 87 (ptr ga), .iface 87 (ptr gb)] w (TOut w (.error 72)) := by
 have HNA := yh hna; have HNB := yh hnb; clear hna hnb; have HX := yh hx; have HY := yh hy; clear hx hy; unfold ptr at *; go_enter Tryz.func43, Tryz.ntmps43; go_wp2_with fail; refine (HNA.out.call _ ((Keep.refl _ _).alloc _)).mono ?_; rintro e x1 ⟨rfl, k1⟩; have HK1 := yh (((Keep.refl none w).alloc (.cells #[.int .i64 (p : Int), .string (mkS [38]), .iface ta ya, .iface tb yb] 103)).trans k1); have HB1 := yh ((Blk.new w [.int .i64 (p : Int), .string (mkS [38]), .iface ta ya, .iface tb yb] 103).keep k1 (by simp)); clear k1; go_wp2_with fail; refine (HNB.out.call _ HK1.out).mono ?_
 rintro e x2 ⟨rfl, k2⟩; replace HB1 := yh (HB1.out.keep k2 (by simp)); replace HK1 := yh (HK1.out.trans k2); clear k2; have hmm := @run_makeMap Tryz.prog; obtain ⟨M1, M2, M3, M4, c, r1, r2, r3, r4, r5, hat, hkm⟩ := sign_map x2 [38] (by decide); have hcB0 := HB1.out.cell; have HBL := yh HB1.out.lt; replace HB1 := yh (HB1.out.keep hkm (by simp)); replace HK1 := yh (HK1.out.trans hkm); have hcB := HB1.out.cell; have hm4 : w.heap.size < M4.heap.size := HB1.out.lt; have hm5 : w.heap.size ≠ M4.heap.size := by omega
 have hm6 : w.heap.size < M4.heap.size + 1 := by omega
 have HAT := yh hat; clear hkm hat; obtain rfl : c = 0 := by
  have e : signs.atKey (.string [38]) (.lit (.int .i64 0)) = .lit (.int .i64 0) := by rfl
  have h0 := HAT.out; rw [e] at h0; cases h0; rfl
 go_wp2_with fail; refine (tm_fail _ _ _).mono ?_; rintro e x3 ⟨rfl, rfl⟩; exact ⟨rfl, _, rfl, HK1.out.alloc _⟩
theorem bin_ll5 (p : Nat) (ta tb : TypeId) (ya yb : Value) (ga gb : Nat) (x y : Ln)  (w : World) (hna : NodeOf w (.iface 87 (ptr ga)) .nilIface false) (hnb : NodeOf w (.iface 87 (ptr gb)) .nilIface false) (hx : LnV w x ga) (hy : LnV w y gb) :
 Calls Tryz.prog 43 #[.agg #[.int .i64 (p : Int), .string (mkS [45]), .iface ta ya, .iface tb yb], .iface 87 (ptr ga), .iface 87 (ptr gb)] w (TOut w (.error 72)) := by
 have HNA := yh hna; have HNB := yh hnb; clear hna hnb; have HX := yh hx; have HY := yh hy; clear hx hy; unfold ptr at *; go_enter Tryz.func43, Tryz.ntmps43; go_wp2_with fail; refine (HNA.out.call _ ((Keep.refl _ _).alloc _)).mono ?_; rintro e x1 ⟨rfl, k1⟩; have HK1 := yh (((Keep.refl none w).alloc (.cells #[.int .i64 (p : Int), .string (mkS [45]), .iface ta ya, .iface tb yb] 103)).trans k1); have HB1 := yh ((Blk.new w [.int .i64 (p : Int), .string (mkS [45]), .iface ta ya, .iface tb yb] 103).keep k1 (by simp)); clear k1; go_wp2_with fail; refine (HNB.out.call _ HK1.out).mono ?_
 rintro e x2 ⟨rfl, k2⟩; replace HB1 := yh (HB1.out.keep k2 (by simp)); replace HK1 := yh (HK1.out.trans k2); clear k2; have hmm := @run_makeMap Tryz.prog; obtain ⟨M1, M2, M3, M4, c, r1, r2, r3, r4, r5, hat, hkm⟩ := sign_map x2 [45] (by decide); have hcB0 := HB1.out.cell; have HBL := yh HB1.out.lt; replace HB1 := yh (HB1.out.keep hkm (by simp)); replace HK1 := yh (HK1.out.trans hkm); have hcB := HB1.out.cell; have hm4 : w.heap.size < M4.heap.size := HB1.out.lt; have hm5 : w.heap.size ≠ M4.heap.size := by omega
 have hm6 : w.heap.size < M4.heap.size + 1 := by omega
 have HAT := yh hat; clear hkm hat; obtain rfl : c = 0 := by
  have e : signs.atKey (.string [45]) (.lit (.int .i64 0)) = .lit (.int .i64 0) := by rfl
  have h0 := HAT.out; rw [e] at h0; cases h0; rfl
 go_wp2_with fail; refine (tm_fail _ _ _).mono ?_; rintro e x3 ⟨rfl, rfl⟩; exact ⟨rfl, _, rfl, HK1.out.alloc _⟩
theorem bin_cc0 (p : Nat) (ta tb : TypeId) (ya yb : Value) (ga gb : Nat) (x y : Cn)  (w : World) (hna : NodeOf w (.iface 84 (ptr ga)) .nilIface false) (hnb : NodeOf w (.iface 84 (ptr gb)) .nilIface false) (hx : CnV w x ga) (hy : CnV w y gb) :
 Calls Tryz.prog 43 #[.agg #[.int .i64 (p : Int), .string (mkS [124]), .iface ta ya, .iface tb yb], .iface 84 (ptr ga), .iface 84 (ptr gb)] w (TOut w (.ok (.canon (.two false p x y)))) := by
 have HNA := yh hna; have HNB := yh hnb; clear hna hnb; have HX := yh hx; have HY := yh hy; clear hx hy; unfold ptr at *; go_enter Tryz.func43, Tryz.ntmps43; go_wp2_with fail; refine (HNA.out.call _ ((Keep.refl _ _).alloc _)).mono ?_; rintro e x1 ⟨rfl, k1⟩; have HK1 := yh (((Keep.refl none w).alloc (.cells #[.int .i64 (p : Int), .string (mkS [124]), .iface ta ya, .iface tb yb] 103)).trans k1); have HB1 := yh ((Blk.new w [.int .i64 (p : Int), .string (mkS [124]), .iface ta ya, .iface tb yb] 103).keep k1 (by simp)); clear k1; go_wp2_with fail; refine (HNB.out.call _ HK1.out).mono ?_
 rintro e x2 ⟨rfl, k2⟩; replace HB1 := yh (HB1.out.keep k2 (by simp)); replace HK1 := yh (HK1.out.trans k2); clear k2; have hmm := @run_makeMap Tryz.prog; obtain ⟨M1, M2, M3, M4, c, r1, r2, r3, r4, r5, hat, hkm⟩ := sign_map x2 [124] (by decide); have hcB0 := HB1.out.cell; have HBL := yh HB1.out.lt; replace HB1 := yh (HB1.out.keep hkm (by simp)); replace HK1 := yh (HK1.out.trans hkm); have hcB := HB1.out.cell; have hm4 : w.heap.size < M4.heap.size := HB1.out.lt; have hm5 : w.heap.size ≠ M4.heap.size := by omega
 have hm6 : w.heap.size < M4.heap.size + 1 := by omega
 have HAT := yh hat; clear hkm hat; obtain rfl : c = 1 := by
  have e : signs.atKey (.string [124]) (.lit (.int .i64 0)) = .lit (.int .i64 1) := by rfl
  have h0 := HAT.out; rw [e] at h0; cases h0; rfl
 go_wp2_with fail; have HN := yh (Blk.new M4 [.string ⟨#[]⟩, .string ⟨#[97, 108, 116]⟩, .string ⟨#[99, 97, 116]⟩, .string ⟨#[115, 119, 97, 112]⟩, .string ⟨#[99, 104, 97, 105, 110]⟩] 132); replace HB1 := yh (HB1.out.alloc (.cells #[.string ⟨#[]⟩, .string ⟨#[97, 108, 116]⟩, .string ⟨#[99, 97, 116]⟩, .string ⟨#[115, 119, 97, 112]⟩, .string ⟨#[99, 104, 97, 105, 110]⟩] 132)); replace HK1 := yh (HK1.out.alloc (.cells #[.string ⟨#[]⟩, .string ⟨#[97, 108, 116]⟩, .string ⟨#[99, 97, 116]⟩, .string ⟨#[115, 119, 97, 112]⟩, .string ⟨#[99, 104, 97, 105, 110]⟩] 132)); clear hcB hcB0 hm4 hm5 hm6
 generalize World.alloc M4 _ = V at HN HB1 HK1 ⊢; generalize M4.heap.size = mb at HN ⊢; refine wp_region_pen (fun w' => (∀ q, w'.cell? ⟨w.heap.size, q, none⟩ = [Value.int .i64 (p : Int), .string (mkS [124]), .iface ta ya, .iface tb yb][q]?) ∧ w'.cell? ⟨mb, 1, none⟩ = some (.string ⟨#[97, 108, 116]⟩)) 99 (by kernel_rfl) (by kernel_rfl) (fun c a d v w h => by cases d <;> exact h) (by exact ⟨HB1.out.drew.cell, HN.out.drew.cell 1⟩) ?_; simp only [List.length_cons, List.length_nil]; replace HB1 := yh HB1.out.drew; replace HK1 := yh HK1.out.drew; replace HN := yh HN.out.drew; generalize V.drew = V0 at HN HB1 HK1 ⊢
 refine pen_list [0, 1, 2, 3, 4, 5, 6, 7] ?_; repeat
  (refine penl_stable (getOp rfl) (by decide +kernel) (fun K hK => ?_)
   rw [if_pos (by rfl)]; apply Exists.intro; refine ⟨fun w' hS' => ?_, hK _ ?_⟩
   · obtain ⟨hS1, hS2⟩ := hS'; go_simp; try with_reducible rfl
   clear hK K; simp only [Act.put, List.setIfInBounds_toArray, List.set])
 refine penl_end ?_; refine pen_active 8 (getOp rfl) (by decide +kernel) (fun K hK => ?_); rw [if_pos (by rfl)]; go_simp; refine hK.out _ _ (⟨(HB1.out.alloc _).cell, (HN.out.alloc _).cell 1⟩) ?_; clear hK K; try simp only [Act.put, List.setIfInBounds_toArray, List.set]
 refine pen_list [9, 10] ?_; repeat
  (refine penl_stable (getOp rfl) (by decide +kernel) (fun K hK => ?_)
   rw [if_pos (by rfl)]; apply Exists.intro; refine ⟨fun w' hS' => ?_, hK _ ?_⟩
   · (try dsimp only at hS')
     go_simp; try with_reducible rfl
   clear hK K; simp only [Act.put, List.setIfInBounds_toArray, List.set])
 refine penl_end ?_; refine pen_done (by decide +kernel) ?_; go_wp2_with fail; go_ret; have kk := (Keep.refl none V0).alloc (.cells ([.int .i64 (p : Int), .string ⟨#[97, 108, 116]⟩, .nilIface, .string ⟨#[]⟩, .string ⟨#[]⟩, .pointer (some ⟨ga, 0, none⟩), .pointer (some ⟨gb, 0, none⟩)] : List Value).toArray 86); exact ⟨_, rfl, ⟨V0.heap.size, rfl, ga, gb, Blk.new V0 [.int .i64 (p : Int), .string ⟨#[97, 108, 116]⟩, .nilIface, .string ⟨#[]⟩, .string ⟨#[]⟩, .pointer (some ⟨ga, 0, none⟩), .pointer (some ⟨gb, 0, none⟩)] 86, (HX.out.keep HK1.out).keep kk, (HY.out.keep HK1.out).keep kk⟩, HK1.out.trans kk⟩
theorem bin_cc1 (p : Nat) (ta tb : TypeId) (ya yb : Value) (ga gb : Nat) (x y : Cn)  (w : World) (hna : NodeOf w (.iface 84 (ptr ga)) .nilIface false) (hnb : NodeOf w (.iface 84 (ptr gb)) .nilIface false) (hx : CnV w x ga) (hy : CnV w y gb) :
 Calls Tryz.prog 43 #[.agg #[.int .i64 (p : Int), .string (mkS [46]), .iface ta ya, .iface tb yb], .iface 84 (ptr ga), .iface 84 (ptr gb)] w (TOut w (.ok (.canon (.two true p x y)))) := by
 have HNA := yh hna; have HNB := yh hnb; clear hna hnb; have HX := yh hx; have HY := yh hy; clear hx hy; unfold ptr at *; go_enter Tryz.func43, Tryz.ntmps43; go_wp2_with fail; refine (HNA.out.call _ ((Keep.refl _ _).alloc _)).mono ?_; rintro e x1 ⟨rfl, k1⟩; have HK1 := yh (((Keep.refl none w).alloc (.cells #[.int .i64 (p : Int), .string (mkS [46]), .iface ta ya, .iface tb yb] 103)).trans k1); have HB1 := yh ((Blk.new w [.int .i64 (p : Int), .string (mkS [46]), .iface ta ya, .iface tb yb] 103).keep k1 (by simp)); clear k1; go_wp2_with fail; refine (HNB.out.call _ HK1.out).mono ?_
 rintro e x2 ⟨rfl, k2⟩; replace HB1 := yh (HB1.out.keep k2 (by simp)); replace HK1 := yh (HK1.out.trans k2); clear k2; have hmm := @run_makeMap Tryz.prog; obtain ⟨M1, M2, M3, M4, c, r1, r2, r3, r4, r5, hat, hkm⟩ := sign_map x2 [46] (by decide); have hcB0 := HB1.out.cell; have HBL := yh HB1.out.lt; replace HB1 := yh (HB1.out.keep hkm (by simp)); replace HK1 := yh (HK1.out.trans hkm); have hcB := HB1.out.cell; have hm4 : w.heap.size < M4.heap.size := HB1.out.lt; have hm5 : w.heap.size ≠ M4.heap.size := by omega
 have hm6 : w.heap.size < M4.heap.size + 1 := by omega
 have HAT := yh hat; clear hkm hat; obtain rfl : c = 2 := by
  have e : signs.atKey (.string [46]) (.lit (.int .i64 0)) = .lit (.int .i64 2) := by rfl
  have h0 := HAT.out; rw [e] at h0; cases h0; rfl
 go_wp2_with fail; have HN := yh (Blk.new M4 [.string ⟨#[]⟩, .string ⟨#[97, 108, 116]⟩, .string ⟨#[99, 97, 116]⟩, .string ⟨#[115, 119, 97, 112]⟩, .string ⟨#[99, 104, 97, 105, 110]⟩] 132); replace HB1 := yh (HB1.out.alloc (.cells #[.string ⟨#[]⟩, .string ⟨#[97, 108, 116]⟩, .string ⟨#[99, 97, 116]⟩, .string ⟨#[115, 119, 97, 112]⟩, .string ⟨#[99, 104, 97, 105, 110]⟩] 132)); replace HK1 := yh (HK1.out.alloc (.cells #[.string ⟨#[]⟩, .string ⟨#[97, 108, 116]⟩, .string ⟨#[99, 97, 116]⟩, .string ⟨#[115, 119, 97, 112]⟩, .string ⟨#[99, 104, 97, 105, 110]⟩] 132)); clear hcB hcB0 hm4 hm5 hm6
 generalize World.alloc M4 _ = V at HN HB1 HK1 ⊢; generalize M4.heap.size = mb at HN ⊢; refine wp_region_pen (fun w' => (∀ q, w'.cell? ⟨w.heap.size, q, none⟩ = [Value.int .i64 (p : Int), .string (mkS [46]), .iface ta ya, .iface tb yb][q]?) ∧ w'.cell? ⟨mb, 2, none⟩ = some (.string ⟨#[99, 97, 116]⟩)) 99 (by kernel_rfl) (by kernel_rfl) (fun c a d v w h => by cases d <;> exact h) (by exact ⟨HB1.out.drew.cell, HN.out.drew.cell 2⟩) ?_; simp only [List.length_cons, List.length_nil]; replace HB1 := yh HB1.out.drew; replace HK1 := yh HK1.out.drew; replace HN := yh HN.out.drew; generalize V.drew = V0 at HN HB1 HK1 ⊢
 refine pen_list [0, 1, 2, 3, 4, 5, 6, 7] ?_; repeat
  (refine penl_stable (getOp rfl) (by decide +kernel) (fun K hK => ?_)
   rw [if_pos (by rfl)]; apply Exists.intro; refine ⟨fun w' hS' => ?_, hK _ ?_⟩
   · obtain ⟨hS1, hS2⟩ := hS'; go_simp; try with_reducible rfl
   clear hK K; simp only [Act.put, List.setIfInBounds_toArray, List.set])
 refine penl_end ?_; refine pen_active 8 (getOp rfl) (by decide +kernel) (fun K hK => ?_); rw [if_pos (by rfl)]; go_simp; refine hK.out _ _ (⟨(HB1.out.alloc _).cell, (HN.out.alloc _).cell 2⟩) ?_; clear hK K; try simp only [Act.put, List.setIfInBounds_toArray, List.set]
 refine pen_list [9, 10] ?_; repeat
  (refine penl_stable (getOp rfl) (by decide +kernel) (fun K hK => ?_)
   rw [if_pos (by rfl)]; apply Exists.intro; refine ⟨fun w' hS' => ?_, hK _ ?_⟩
   · (try dsimp only at hS')
     go_simp; try with_reducible rfl
   clear hK K; simp only [Act.put, List.setIfInBounds_toArray, List.set])
 refine penl_end ?_; refine pen_done (by decide +kernel) ?_; go_wp2_with fail; go_ret; have kk := (Keep.refl none V0).alloc (.cells ([.int .i64 (p : Int), .string ⟨#[99, 97, 116]⟩, .nilIface, .string ⟨#[]⟩, .string ⟨#[]⟩, .pointer (some ⟨ga, 0, none⟩), .pointer (some ⟨gb, 0, none⟩)] : List Value).toArray 86); exact ⟨_, rfl, ⟨V0.heap.size, rfl, ga, gb, Blk.new V0 [.int .i64 (p : Int), .string ⟨#[99, 97, 116]⟩, .nilIface, .string ⟨#[]⟩, .string ⟨#[]⟩, .pointer (some ⟨ga, 0, none⟩), .pointer (some ⟨gb, 0, none⟩)] 86, (HX.out.keep HK1.out).keep kk, (HY.out.keep HK1.out).keep kk⟩, HK1.out.trans kk⟩
theorem bin_cc2 (p : Nat) (ta tb : TypeId) (ya yb : Value) (ga gb : Nat) (x y : Cn)  (w : World) (hna : NodeOf w (.iface 84 (ptr ga)) .nilIface false) (hnb : NodeOf w (.iface 84 (ptr gb)) .nilIface false) (hx : CnV w x ga) (hy : CnV w y gb) :
 Calls Tryz.prog 43 #[.agg #[.int .i64 (p : Int), .string (mkS [126]), .iface ta ya, .iface tb yb], .iface 84 (ptr ga), .iface 84 (ptr gb)] w (TOut w (.error 72)) := by
 have HNA := yh hna; have HNB := yh hnb; clear hna hnb; have HX := yh hx; have HY := yh hy; clear hx hy; unfold ptr at *; go_enter Tryz.func43, Tryz.ntmps43; go_wp2_with fail; refine (HNA.out.call _ ((Keep.refl _ _).alloc _)).mono ?_; rintro e x1 ⟨rfl, k1⟩; have HK1 := yh (((Keep.refl none w).alloc (.cells #[.int .i64 (p : Int), .string (mkS [126]), .iface ta ya, .iface tb yb] 103)).trans k1); have HB1 := yh ((Blk.new w [.int .i64 (p : Int), .string (mkS [126]), .iface ta ya, .iface tb yb] 103).keep k1 (by simp)); clear k1; go_wp2_with fail; refine (HNB.out.call _ HK1.out).mono ?_
 rintro e x2 ⟨rfl, k2⟩; replace HB1 := yh (HB1.out.keep k2 (by simp)); replace HK1 := yh (HK1.out.trans k2); clear k2; have hmm := @run_makeMap Tryz.prog; obtain ⟨M1, M2, M3, M4, c, r1, r2, r3, r4, r5, hat, hkm⟩ := sign_map x2 [126] (by decide); have hcB0 := HB1.out.cell; have HBL := yh HB1.out.lt; replace HB1 := yh (HB1.out.keep hkm (by simp)); replace HK1 := yh (HK1.out.trans hkm); have hcB := HB1.out.cell; have hm4 : w.heap.size < M4.heap.size := HB1.out.lt; have hm5 : w.heap.size ≠ M4.heap.size := by omega
 have hm6 : w.heap.size < M4.heap.size + 1 := by omega
 have HAT := yh hat; clear hkm hat; obtain rfl : c = 3 := by
  have e : signs.atKey (.string [126]) (.lit (.int .i64 0)) = .lit (.int .i64 3) := by rfl
  have h0 := HAT.out; rw [e] at h0; cases h0; rfl
 go_wp2_with fail; refine (tm_fail _ _ _).mono ?_; rintro e x3 ⟨rfl, rfl⟩; exact ⟨rfl, _, rfl, HK1.out.alloc _⟩
theorem bin_cc3 (p : Nat) (ta tb : TypeId) (ya yb : Value) (ga gb : Nat) (x y : Cn)  (w : World) (hna : NodeOf w (.iface 84 (ptr ga)) .nilIface false) (hnb : NodeOf w (.iface 84 (ptr gb)) .nilIface false) (hx : CnV w x ga) (hy : CnV w y gb) :
 Calls Tryz.prog 43 #[.agg #[.int .i64 (p : Int), .string (mkS [62, 62]), .iface ta ya, .iface tb yb], .iface 84 (ptr ga), .iface 84 (ptr gb)] w (TOut w (.error 72)) := by
 have HNA := yh hna; have HNB := yh hnb; clear hna hnb; have HX := yh hx; have HY := yh hy; clear hx hy; unfold ptr at *; go_enter Tryz.func43, Tryz.ntmps43; go_wp2_with fail; refine (HNA.out.call _ ((Keep.refl _ _).alloc _)).mono ?_; rintro e x1 ⟨rfl, k1⟩; have HK1 := yh (((Keep.refl none w).alloc (.cells #[.int .i64 (p : Int), .string (mkS [62, 62]), .iface ta ya, .iface tb yb] 103)).trans k1); have HB1 := yh ((Blk.new w [.int .i64 (p : Int), .string (mkS [62, 62]), .iface ta ya, .iface tb yb] 103).keep k1 (by simp)); clear k1; go_wp2_with fail; refine (HNB.out.call _ HK1.out).mono ?_
 rintro e x2 ⟨rfl, k2⟩; replace HB1 := yh (HB1.out.keep k2 (by simp)); replace HK1 := yh (HK1.out.trans k2); clear k2; have hmm := @run_makeMap Tryz.prog; obtain ⟨M1, M2, M3, M4, c, r1, r2, r3, r4, r5, hat, hkm⟩ := sign_map x2 [62, 62] (by decide); have hcB0 := HB1.out.cell; have HBL := yh HB1.out.lt; replace HB1 := yh (HB1.out.keep hkm (by simp)); replace HK1 := yh (HK1.out.trans hkm); have hcB := HB1.out.cell; have hm4 : w.heap.size < M4.heap.size := HB1.out.lt; have hm5 : w.heap.size ≠ M4.heap.size := by omega
 have hm6 : w.heap.size < M4.heap.size + 1 := by omega
 have HAT := yh hat; clear hkm hat; obtain rfl : c = 4 := by
  have e : signs.atKey (.string [62, 62]) (.lit (.int .i64 0)) = .lit (.int .i64 4) := by rfl
  have h0 := HAT.out; rw [e] at h0; cases h0; rfl
 go_wp2_with fail; refine (tm_fail _ _ _).mono ?_; rintro e x3 ⟨rfl, rfl⟩; exact ⟨rfl, _, rfl, HK1.out.alloc _⟩
theorem bin_cc4 (p : Nat) (ta tb : TypeId) (ya yb : Value) (ga gb : Nat) (x y : Cn)  (w : World) (hna : NodeOf w (.iface 84 (ptr ga)) .nilIface false) (hnb : NodeOf w (.iface 84 (ptr gb)) .nilIface false) (hx : CnV w x ga) (hy : CnV w y gb) :
 Calls Tryz.prog 43 #[.agg #[.int .i64 (p : Int), .string (mkS [38]), .iface ta ya, .iface tb yb], .iface 84 (ptr ga), .iface 84 (ptr gb)] w (TOut w (.error 72)) := by
 have HNA := yh hna; have HNB := yh hnb; clear hna hnb; have HX := yh hx; have HY := yh hy; clear hx hy; unfold ptr at *; go_enter Tryz.func43, Tryz.ntmps43; go_wp2_with fail; refine (HNA.out.call _ ((Keep.refl _ _).alloc _)).mono ?_; rintro e x1 ⟨rfl, k1⟩; have HK1 := yh (((Keep.refl none w).alloc (.cells #[.int .i64 (p : Int), .string (mkS [38]), .iface ta ya, .iface tb yb] 103)).trans k1); have HB1 := yh ((Blk.new w [.int .i64 (p : Int), .string (mkS [38]), .iface ta ya, .iface tb yb] 103).keep k1 (by simp)); clear k1; go_wp2_with fail; refine (HNB.out.call _ HK1.out).mono ?_
 rintro e x2 ⟨rfl, k2⟩; replace HB1 := yh (HB1.out.keep k2 (by simp)); replace HK1 := yh (HK1.out.trans k2); clear k2; have hmm := @run_makeMap Tryz.prog; obtain ⟨M1, M2, M3, M4, c, r1, r2, r3, r4, r5, hat, hkm⟩ := sign_map x2 [38] (by decide); have hcB0 := HB1.out.cell; have HBL := yh HB1.out.lt; replace HB1 := yh (HB1.out.keep hkm (by simp)); replace HK1 := yh (HK1.out.trans hkm); have hcB := HB1.out.cell; have hm4 : w.heap.size < M4.heap.size := HB1.out.lt; have hm5 : w.heap.size ≠ M4.heap.size := by omega
 have hm6 : w.heap.size < M4.heap.size + 1 := by omega
 have HAT := yh hat; clear hkm hat; obtain rfl : c = 0 := by
  have e : signs.atKey (.string [38]) (.lit (.int .i64 0)) = .lit (.int .i64 0) := by rfl
  have h0 := HAT.out; rw [e] at h0; cases h0; rfl
 go_wp2_with fail; refine (tm_fail _ _ _).mono ?_; rintro e x3 ⟨rfl, rfl⟩; exact ⟨rfl, _, rfl, HK1.out.alloc _⟩
theorem bin_cc5 (p : Nat) (ta tb : TypeId) (ya yb : Value) (ga gb : Nat) (x y : Cn)  (w : World) (hna : NodeOf w (.iface 84 (ptr ga)) .nilIface false) (hnb : NodeOf w (.iface 84 (ptr gb)) .nilIface false) (hx : CnV w x ga) (hy : CnV w y gb) :
 Calls Tryz.prog 43 #[.agg #[.int .i64 (p : Int), .string (mkS [45]), .iface ta ya, .iface tb yb], .iface 84 (ptr ga), .iface 84 (ptr gb)] w (TOut w (.error 72)) := by
 have HNA := yh hna; have HNB := yh hnb; clear hna hnb; have HX := yh hx; have HY := yh hy; clear hx hy; unfold ptr at *; go_enter Tryz.func43, Tryz.ntmps43; go_wp2_with fail; refine (HNA.out.call _ ((Keep.refl _ _).alloc _)).mono ?_; rintro e x1 ⟨rfl, k1⟩; have HK1 := yh (((Keep.refl none w).alloc (.cells #[.int .i64 (p : Int), .string (mkS [45]), .iface ta ya, .iface tb yb] 103)).trans k1); have HB1 := yh ((Blk.new w [.int .i64 (p : Int), .string (mkS [45]), .iface ta ya, .iface tb yb] 103).keep k1 (by simp)); clear k1; go_wp2_with fail; refine (HNB.out.call _ HK1.out).mono ?_
 rintro e x2 ⟨rfl, k2⟩; replace HB1 := yh (HB1.out.keep k2 (by simp)); replace HK1 := yh (HK1.out.trans k2); clear k2; have hmm := @run_makeMap Tryz.prog; obtain ⟨M1, M2, M3, M4, c, r1, r2, r3, r4, r5, hat, hkm⟩ := sign_map x2 [45] (by decide); have hcB0 := HB1.out.cell; have HBL := yh HB1.out.lt; replace HB1 := yh (HB1.out.keep hkm (by simp)); replace HK1 := yh (HK1.out.trans hkm); have hcB := HB1.out.cell; have hm4 : w.heap.size < M4.heap.size := HB1.out.lt; have hm5 : w.heap.size ≠ M4.heap.size := by omega
 have hm6 : w.heap.size < M4.heap.size + 1 := by omega
 have HAT := yh hat; clear hkm hat; obtain rfl : c = 0 := by
  have e : signs.atKey (.string [45]) (.lit (.int .i64 0)) = .lit (.int .i64 0) := by rfl
  have h0 := HAT.out; rw [e] at h0; cases h0; rfl
 go_wp2_with fail; refine (tm_fail _ _ _).mono ?_; rintro e x3 ⟨rfl, rfl⟩; exact ⟨rfl, _, rfl, HK1.out.alloc _⟩
theorem binary_any (p : Nat) (op : Bs) (hop : op = [124] ∨ op = [46] ∨ op = [38] ∨ op = [45] ∨ op = [62, 62] ∨ op = [126]) (ta tb : TypeId) (ya yb : Value) (a b : Tm) (ha : a.small) (hb : b.small) (v u : Value) (w : World) (hv : TmV w a v) (hu : TmV w b u) :
 Calls Tryz.prog 43 #[.agg #[.int .i64 (p : Int), .string (mkS op), .iface ta ya, .iface tb yb], v, u] w (TOut w (mkBinary p op a b)) := by
 have hopl : op.length ≤ 1000 := by rcases hop with rfl | rfl | rfl | rfl | rfl | rfl <;> decide
 obtain ⟨tv, yv, rfl⟩ := hv.iface; obtain ⟨tu, yu, rfl⟩ := hu.iface; cases hna : a.node? with
 | some n =>
  have h1 : NotLn (.iface tv yv) := hv.notLn (by cases a <;> simp_all [Tm.node?, Tm.lens?]); have h2 : NotCn (.iface tv yv) := hv.notCn (by cases a <;> simp_all [Tm.node?, Tm.canon?]); cases hnb : b.node? with
  | some m =>
   have ka := NodeOf.some hv hna ha; have kb := NodeOf.some hu hnb hb; have e : mkBinary p op a b = (match rxOp op n m with | some n => .ok (.rx p n) | none => .error 72) := by unfold mkBinary; simp only [hna, hnb]; rfl
   rw [e]; rcases hop with rfl | rfl | rfl | rfl | rfl | rfl
   · exact bin_nn0 p ta tb ya yb n m tv tu yv yu w ka kb
   · exact bin_nn1 p ta tb ya yb n m tv tu yv yu w ka kb
   · exact bin_nn2 p ta tb ya yb n m tv tu yv yu w ka kb
   · exact bin_nn3 p ta tb ya yb n m tv tu yv yu w ka kb
   · exact bin_nn_no0 p ta tb ya yb n m tv tu yv yu w ka kb h1 h2
   · exact bin_nn_no1 p ta tb ya yb n m tv tu yv yu w ka kb h1 h2
  | none =>
   have e : mkBinary p op a b = .error 72 := by
    unfold mkBinary; cases a <;> simp_all [Tm.node?]
   rw [e]; exact bin_na p ta tb ya yb op hopl n tv tu yv yu w (NodeOf.some hv hna ha) (NodeOf.none hu hnb) h1 h2
 | none =>
  have ka := NodeOf.none hv hna; obtain ⟨nb, okb, kb⟩ : ∃ nb okb, NodeOf w (.iface tu yu) nb okb := by
   cases hnb : b.node? with
   | some m => exact ⟨_, _, NodeOf.some hu hnb hb⟩
   | none => exact ⟨_, _, NodeOf.none hu hnb⟩
  cases a with
  | text p s => simp [Tm.node?] at hna
  | rx p s => simp [Tm.node?] at hna
  | lens x =>
   obtain ⟨ga, hga, hx⟩ := hv; cases hga; by_cases hl : b.lens? = none
   · have e : mkBinary p op (.lens x) b = .error 72 := by
      unfold mkBinary; cases b <;> simp_all [Tm.node?, Tm.lens?]
     rw [e]; exact bin_ln p ta tb ya yb op hopl ga nb okb tu yu w ka kb (hu.notLn hl)
   · cases b with
     | text p s => simp [Tm.lens?] at hl
     | rx p s => simp [Tm.lens?] at hl
     | canon c => simp [Tm.lens?] at hl
     | lens y =>
      obtain ⟨gb, hgb, hy⟩ := hu; cases hgb; have kb := NodeOf.none (w := w) (t := .lens y) (v := .iface 87 (ptr gb)) ⟨gb, rfl, hy⟩ rfl; rcases hop with rfl | rfl | rfl | rfl | rfl | rfl
      · exact bin_ll0 p ta tb ya yb ga gb x y w ka kb hx hy
      · exact bin_ll1 p ta tb ya yb ga gb x y w ka kb hx hy
      · exact bin_ll4 p ta tb ya yb ga gb x y w ka kb hx hy
      · exact bin_ll5 p ta tb ya yb ga gb x y w ka kb hx hy
      · exact bin_ll3 p ta tb ya yb ga gb x y w ka kb hx hy
      · exact bin_ll2 p ta tb ya yb ga gb x y w ka kb hx hy
  | canon x =>
   obtain ⟨ga, hga, hx⟩ := hv; cases hga; by_cases hl : b.canon? = none
   · have e : mkBinary p op (.canon x) b = .error 72 := by
      unfold mkBinary; cases b <;> simp_all [Tm.node?, Tm.canon?]
     rw [e]; exact bin_cn p ta tb ya yb op hopl ga nb okb tu yu w ka kb (hu.notCn hl)
   · cases b with
     | text p s => simp [Tm.canon?] at hl
     | rx p s => simp [Tm.canon?] at hl
     | lens c => simp [Tm.canon?] at hl
     | canon y =>
      obtain ⟨gb, hgb, hy⟩ := hu; cases hgb; have kb := NodeOf.none (w := w) (t := .canon y) (v := .iface 84 (ptr gb)) ⟨gb, rfl, hy⟩ rfl; rcases hop with rfl | rfl | rfl | rfl | rfl | rfl
      · exact bin_cc0 p ta tb ya yb ga gb x y w ka kb hx hy
      · exact bin_cc1 p ta tb ya yb ga gb x y w ka kb hx hy
      · exact bin_cc4 p ta tb ya yb ga gb x y w ka kb hx hy
      · exact bin_cc5 p ta tb ya yb ga gb x y w ka kb hx hy
      · exact bin_cc3 p ta tb ya yb ga gb x y w ka kb hx hy
      · exact bin_cc2 p ta tb ya yb ga gb x y w ka kb hx hy
end Go.Proofs.YtmfabihndpidnaaGreatDoor
