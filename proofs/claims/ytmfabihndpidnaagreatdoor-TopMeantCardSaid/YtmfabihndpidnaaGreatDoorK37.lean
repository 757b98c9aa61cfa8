/-
  Terms: a call's arguments are made: what the loop leaves, and each argument in turn.
-/
import Derived.Test.YtmfabihndpidnaaGreatDoorK35
import Derived.Deep.AppendLies
namespace Go.Proofs.YtmfabihndpidnaaGreatDoor
open Go.RowKit
set_option maxRecDepth 100000
set_option linter.unusedVariables false
set_option linter.unusedSimpArgs false
theorem info23 : (Tryz.prog.info? 23).map (fun i => (i.zero, i.size, i.bytes)) = some (some .nilIface, 1, 16) := by kernel_rfl
def mkArgs (env : Env) : List Ex → Except Nat (List Tm)
 | [] => .ok []
 | x :: r => andThen (mk env x) fun t => andThen (mkArgs env r) fun ts => .ok (t :: ts)
def mkCallL (p : Nat) (wd : Bs) : List Tm → Except Nat Tm
 | [a] => mkCall1 p wd a
 | [a, b] => mkCall2 p wd a b
 | [a, b, c] => mkCall3 p a b c
 | _ => .error 0
def TmsV (w : World) : List Tm → List Value → Prop
 | [], [] => True
 | t :: ts, v :: vs => TmV w t v ∧ TmsV w ts vs
 | _, _ => False
theorem TmsV.keepA {w w' : World} {a : Option Nat} (k : Keep a w w') (h86 : NotRow 86 a w) (h89 : NotRow 89 a w) : ∀ {ts : List Tm} {vs : List Value}, TmsV w ts vs → TmsV w' ts vs
 | [], [], h => h
 | _ :: _, _ :: _, h => ⟨h.1.keepA k h86 h89, TmsV.keepA k h86 h89 h.2⟩
 | [], _ :: _, h => h.elim
 | _ :: _, [], h => h.elim
theorem TmsV.keep {w w' : World} (k : Keep none w w') {ts : List Tm} {vs : List Value} (h : TmsV w ts vs) : TmsV w' ts vs := h.keepA k (NotRow.none _ _) (NotRow.none _ _)
theorem TmsV.len {w : World} : ∀ {ts : List Tm} {vs : List Value}, TmsV w ts vs → ts.length = vs.length
 | [], [], h => rfl
 | _ :: _, _ :: _, h => by simp [TmsV.len h.2]
 | [], _ :: _, h => h.elim
 | _ :: _, [], h => h.elim
theorem TmsV.snoc {w : World} {t : Tm} {v : Value} (ht : TmV w t v) : ∀ {ts : List Tm} {vs : List Value}, TmsV w ts vs → TmsV w (ts ++ [t]) (vs ++ [v])
 | [], [], h => ⟨ht, trivial⟩
 | _ :: _, _ :: _, h => ⟨h.1, TmsV.snoc ht h.2⟩
 | [], _ :: _, h => h.elim
 | _ :: _, [], h => h.elim
structure CallI (w V : World) (g p : Nat) (wd : Bs) (ab ac n : Nat) (es : List Value) (st : Value) (ts : List Tm) (vs : List Value) : Prop where
 box : Blk V w.heap.size [.int .i64 (p : Int), .string (mkS wd), .slice (some ⟨ab, 0, none⟩) n ac] 114
 arg : Blk V g [.int .i64 (p : Int), .string (mkS wd), .slice (some ⟨ab, 0, none⟩) n ac, st, .int .i64 0] 157
 own : V.ownsRow w.heap.size 23 1 st vs.length vs
 tms : TmsV V ts vs
 ex : ExRow V ab es
 k : Keep none w V
 gg : g = w.heap.size + 1
theorem CallI.keep {w V X : World} {g p : Nat} {wd : Bs} {ab ac n : Nat} {es : List Value} {st : Value} {ts : List Tm} {vs : List Value} (h : CallI w V g p wd ab ac n es st ts vs) (k : Keep none V X) : CallI w X g p wd ab ac n es st ts vs :=
 ⟨h.box.keep k (by simp), h.arg.keep k (by simp), own_keep h.own k (NotRow.none _ _), h.tms.keep k, h.ex.keep k (NotRow.none _ _), h.k.trans k, h.gg⟩
theorem ag_node (g p : Nat) (wd : Bs) (ab ac : Nat) (es : List Value) (tb tc : Nat) (vs : List Value) (i : Nat) (hi : i < vs.length) (hp : ∀ v ∈ es, PlaceAt v) (t : Tm) (v : Value) (hv : vs[i]? = some v) (w : World) (h : ArgS w g p wd ab ac es tb tc vs i) (ht : TmV w t v) (hs : t.small) :
 Calls Tryz.prog 64 #[.pointer (some ⟨g, 0, none⟩)] w (AOut g p wd ab ac es tb tc vs i w (t.node?.map ndV)) := by
 obtain ⟨tv, yv, rfl⟩ := ht.iface; cases hn : t.node? with
 | some n => exact ag_node_ok g p wd ab ac es tb tc vs i hi hp t n tv yv hv w h ht hn hs
 | none => exact ag_node_no g p wd ab ac es tb tc vs i hi hp t tv yv hv w h ht hn
theorem ag_text (g p : Nat) (wd : Bs) (ab ac : Nat) (es : List Value) (tb tc : Nat) (vs : List Value) (i : Nat) (hi : i < vs.length) (hp : ∀ v ∈ es, PlaceAt v) (t : Tm) (v : Value) (hv : vs[i]? = some v) (w0 w : World) (h : ArgS w g p wd ab ac es tb tc vs i) (ht : TmV w0 t v) :
 Calls Tryz.prog 65 #[.pointer (some ⟨g, 0, none⟩)] w (AOut g p wd ab ac es tb tc vs i w (t.text?.map fun s => .string (mkS s))) := by
 cases t with
 | text tp s =>
  obtain rfl : v = _ := ht; exact ag_text_ok g p wd ab ac es tb tc vs i hi hp tp s hv w h
 | rx tp n =>
  obtain rfl : v = _ := ht; exact ag_text_no g p wd ab ac es tb tc vs i hi hp _ _ hv w h (fun w => run_tm_82_78 _ w)
 | canon c =>
  obtain ⟨q, rfl, _⟩ := ht; exact ag_text_no g p wd ab ac es tb tc vs i hi hp _ _ hv w h (fun w => run_tm_84_78 _ w)
 | lens l =>
  obtain ⟨q, rfl, _⟩ := ht; exact ag_text_no g p wd ab ac es tb tc vs i hi hp _ _ hv w h (fun w => run_tm_87_78 _ w)
def canPtr (t : Tm) (v : Value) : Option Value := match t, v with | .canon _, .iface _ y => some y | _, _ => none
def lensPtr (t : Tm) (v : Value) : Option Value := match t, v with | .lens _, .iface _ y => some y | _, _ => none
theorem ag_canon (g p : Nat) (wd : Bs) (ab ac : Nat) (es : List Value) (tb tc : Nat) (vs : List Value) (i : Nat) (hi : i < vs.length) (hp : ∀ v ∈ es, PlaceAt v) (t : Tm) (v : Value) (hv : vs[i]? = some v) (w0 w : World) (h : ArgS w g p wd ab ac es tb tc vs i) (ht : TmV w0 t v) :
 Calls Tryz.prog 66 #[.pointer (some ⟨g, 0, none⟩)] w (AOut g p wd ab ac es tb tc vs i w (canPtr t v)) := by
 cases t with
 | text tp s =>
  obtain rfl : v = _ := ht; exact ag_canon_no g p wd ab ac es tb tc vs i hi hp _ _ hv w h (fun w => run_tm_78_84 _ w)
 | rx tp n =>
  obtain rfl : v = _ := ht; exact ag_canon_no g p wd ab ac es tb tc vs i hi hp _ _ hv w h (fun w => run_tm_82_84 _ w)
 | canon c =>
  obtain ⟨q, rfl, _⟩ := ht; exact ag_canon_ok g p wd ab ac es tb tc vs i hi hp q hv w h
 | lens l =>
  obtain ⟨q, rfl, _⟩ := ht; exact ag_canon_no g p wd ab ac es tb tc vs i hi hp _ _ hv w h (fun w => run_tm_87_84 _ w)
theorem ag_lens (g p : Nat) (wd : Bs) (ab ac : Nat) (es : List Value) (tb tc : Nat) (vs : List Value) (i : Nat) (hi : i < vs.length) (hp : ∀ v ∈ es, PlaceAt v) (t : Tm) (v : Value) (hv : vs[i]? = some v) (w0 w : World) (h : ArgS w g p wd ab ac es tb tc vs i) (ht : TmV w0 t v) :
 Calls Tryz.prog 67 #[.pointer (some ⟨g, 0, none⟩)] w (AOut g p wd ab ac es tb tc vs i w (lensPtr t v)) := by
 cases t with
 | text tp s =>
  obtain rfl : v = _ := ht; exact ag_lens_no g p wd ab ac es tb tc vs i hi hp _ _ hv w h (fun w => run_tm_78_87 _ w)
 | rx tp n =>
  obtain rfl : v = _ := ht; exact ag_lens_no g p wd ab ac es tb tc vs i hi hp _ _ hv w h (fun w => run_tm_82_87 _ w)
 | canon c =>
  obtain ⟨q, rfl, _⟩ := ht; exact ag_lens_no g p wd ab ac es tb tc vs i hi hp _ _ hv w h (fun w => run_tm_84_87 _ w)
 | lens l =>
  obtain ⟨q, rfl, _⟩ := ht; exact ag_lens_ok g p wd ab ac es tb tc vs i hi hp q hv w h
theorem canon_cases (t : Tm) (v : Value) (w : World) (h : TmV w t v) : (canPtr t v = none ∧ t.canon? = none) ∨ ∃ c q, canPtr t v = some (ptr q) ∧ t.canon? = some c ∧ CnV w c q := by
 cases t with
 | text tp s => exact .inl ⟨rfl, rfl⟩
 | rx tp n => exact .inl ⟨rfl, rfl⟩
 | canon c =>
  obtain ⟨q, rfl, h2⟩ := h; exact .inr ⟨c, q, rfl, rfl, h2⟩
 | lens l => exact .inl ⟨rfl, rfl⟩
theorem lens_cases (t : Tm) (v : Value) (w : World) (h : TmV w t v) : (lensPtr t v = none ∧ t.lens? = none) ∨ ∃ c q, lensPtr t v = some (ptr q) ∧ t.lens? = some c ∧ LnV w c q := by
 cases t with
 | text tp s => exact .inl ⟨rfl, rfl⟩
 | rx tp n => exact .inl ⟨rfl, rfl⟩
 | canon c => exact .inl ⟨rfl, rfl⟩
 | lens l =>
  obtain ⟨q, rfl, h2⟩ := h; exact .inr ⟨l, q, rfl, rfl, h2⟩
structure Mid (V0 V : World) (g p : Nat) (wd : Bs) (ab ac : Nat) (es : List Value) (tb tc : Nat) (vs : List Value) (i : Nat) (d : Nat) (cs : List Value) (ty : TypeId) : Prop where
 k : Keep (some g) V0 V
 arg : ArgS V g p wd ab ac es tb tc vs i
 blk : Blk V d cs ty
 hd : V0.heap.size ≤ d
 hg : g < V0.heap.size
 hty : ty = 86 ∨ ty = 89
theorem Mid.call {V0 V V' : World} {g p : Nat} {wd : Bs} {ab ac : Nat} {es : List Value} {tb tc : Nat} {vs : List Value} {i i' d : Nat} {cs : List Value} {ty : TypeId} (h : Mid V0 V g p wd ab ac es tb tc vs i d cs ty) (ha : ArgS V' g p wd ab ac es tb tc vs i') (k : Keep (some g) V V') : Mid V0 V' g p wd ab ac es tb tc vs i' d cs ty :=
 ⟨h.k.trans k, ha, h.blk.keep k (by have := h.hd; have := h.hg; simp; omega), h.hd, h.hg, h.hty⟩
theorem Mid.put {V0 V : World} {g p : Nat} {wd : Bs} {ab ac : Nat} {es : List Value} {tb tc : Nat} {vs : List Value} {i d : Nat} {cs : List Value} {ty : TypeId} (h : Mid V0 V g p wd ab ac es tb tc vs i d cs ty) (j : Nat) (v : Value) : Mid V0 (V.setCell ⟨d, j, none⟩ v) g p wd ab ac es tb tc vs i d (cs.set j v) ty := by
 have hd := h.hd; have hg := h.hg; have k := (Keep.refl (some d) V).set ⟨d, j, none⟩ v (.inl rfl); have n (t : TypeId) (ht : t ≠ 86) (ht2 : t ≠ 89) : NotRow t (some d) V := NotRow.blk h.blk (by
  rcases h.hty with e | e
  · rw [e]; exact fun e => ht e.symm
  · rw [e]; exact fun e => ht2 e.symm)
 refine ⟨h.k.set _ _ (.inr hd), ?_, h.blk.set j v, hd, hg, h.hty⟩; obtain ⟨cs', fr, r1, r2⟩ := h.arg.row; exact ⟨h.arg.blk.keep k (by simp; omega), ⟨cs', fr, (k.block tb (lt_of_block r1) (n 23 (by decide) (by decide) _ _ _ r1)).trans r1, r2⟩, h.arg.ex.keep k (n 55 (by decide) (by decide)), h.arg.len, h.arg.le⟩
theorem Mid.cn {V0 V : World} {g p : Nat} {wd : Bs} {ab ac : Nat} {es : List Value} {tb tc : Nat} {vs : List Value} {i d : Nat} {cs : List Value} {ty : TypeId} (h : Mid V0 V g p wd ab ac es tb tc vs i d cs ty) {B : World} (hB : Keep none B V0) (hBg : Blk B g [.int .i64 (p : Int), .string (mkS wd), .slice (some ⟨ab, 0, none⟩) vs.length ac, .slice (some ⟨tb, 0, none⟩) vs.length tc, .int .i64 0] 157) {c : Cn} {q : Nat} (hc : CnV B c q) : CnV V c q :=
 hc.keepA (hB.of_none.trans h.k) (NotRow.blk hBg (by decide))
theorem Mid.ln {V0 V : World} {g p : Nat} {wd : Bs} {ab ac : Nat} {es : List Value} {tb tc : Nat} {vs : List Value} {i d : Nat} {cs : List Value} {ty : TypeId} (h : Mid V0 V g p wd ab ac es tb tc vs i d cs ty) {B : World} (hB : Keep none B V0) (hBg : Blk B g [.int .i64 (p : Int), .string (mkS wd), .slice (some ⟨ab, 0, none⟩) vs.length ac, .slice (some ⟨tb, 0, none⟩) vs.length tc, .int .i64 0] 157) {c : Ln} {q : Nat} (hc : LnV B c q) : LnV V c q :=
 hc.keepA (hB.of_none.trans h.k) (NotRow.blk hBg (by decide)) (NotRow.blk hBg (by decide))
theorem CallI.args {w V : World} {g p : Nat} {wd : Bs} {ab ac n : Nat} {es : List Value} {st : Value} {ts : List Tm} {vs : List Value} (h : CallI w V g p wd ab ac n es st ts vs) (hn : n = vs.length) (h1 : 1 ≤ n) (hel : es.length = n) (h3 : n ≤ 3) :
 ∃ tb tc, st = .slice (some ⟨tb, 0, none⟩) vs.length tc ∧ ArgS V g p wd ab ac es tb tc vs 0 := by
 rcases h.own.2 with ⟨_, h0⟩ | ⟨tb, tc, cur, e, h2⟩
 · omega
 · refine ⟨tb, tc, e, ?_⟩; have hb := h.arg; rw [e, hn] at hb; refine ⟨hb, ⟨cur, (0, 0), h2.2.1, fun j hj => ?_⟩, h.ex, by omega, by omega⟩; have h5 := h2.2.2.2.2.2; rw [Nat.mul_one] at h5; have h6 : (List.take vs.length cur.toList)[j]? = vs[j]? := by rw [h5]
   rw [List.getElem?_take, if_pos hj] at h6; simpa using h6
end Go.Proofs.YtmfabihndpidnaaGreatDoor
