/-
  Terms: places of expressions; the names bound; make.
-/
import Derived.Test.YtmfabihndpidnaaGreatDoorK38
import Derived.Test.YtmfabihndpidnaaGreatDoorK39
import Derived.Maps.Own
import Derived.Maps.Views
namespace Go.Proofs.YtmfabihndpidnaaGreatDoor
open Go.RowKit
set_option maxRecDepth 100000
set_option linter.unusedVariables false
set_option linter.unusedSimpArgs false
theorem place_103 (p : Nat) (op : ByteArray) (a b : Value) (ha : ∃ ty y, a = .iface ty y) (hb : ∃ ty y, b = .iface ty y) : PlaceAt (.iface 103 (.agg #[.int .i64 (p : Int), .string op, a, b])) := by
 obtain ⟨ta, ya, rfl⟩ := ha; obtain ⟨tb, yb, rfl⟩ := hb; refine ⟨103, _, 165, (p : Int), rfl, fun w => by kernel_rfl, fun args w => Tryz.call165 args w, fun w => ?_⟩; go_enter Tryz.func165, Tryz.ntmps165; go_wp2_with fail; go_ret; exact ⟨rfl, (Keep.refl _ _).alloc _⟩
theorem place_105 (p : Nat) (op : ByteArray) (a : Value) (ha : ∃ ty y, a = .iface ty y) : PlaceAt (.iface 105 (.agg #[.int .i64 (p : Int), .string op, a])) := by
 obtain ⟨ta, ya, rfl⟩ := ha; refine ⟨105, _, 166, (p : Int), rfl, fun w => by kernel_rfl, fun args w => Tryz.call166 args w, fun w => ?_⟩; go_enter Tryz.func166, Tryz.ntmps166; go_wp2_with fail; go_ret; exact ⟨rfl, (Keep.refl _ _).alloc _⟩
theorem place_107 (p : Nat) (s : ByteArray) : PlaceAt (.iface 107 (.agg #[.int .i64 (p : Int), .string s])) := by
 refine ⟨107, _, 167, (p : Int), rfl, fun w => by kernel_rfl, fun args w => Tryz.call167 args w, fun w => ?_⟩; go_enter Tryz.func167, Tryz.ntmps167; go_wp2_with fail; go_ret; exact ⟨rfl, (Keep.refl _ _).alloc _⟩
theorem place_108 (p : Nat) (s : ByteArray) : PlaceAt (.iface 108 (.agg #[.int .i64 (p : Int), .string s])) := by
 refine ⟨108, _, 168, (p : Int), rfl, fun w => by kernel_rfl, fun args w => Tryz.call168 args w, fun w => ?_⟩; go_enter Tryz.func168, Tryz.ntmps168; go_wp2_with fail; go_ret; exact ⟨rfl, (Keep.refl _ _).alloc _⟩
theorem place_109 (p : Nat) (s : ByteArray) : PlaceAt (.iface 109 (.agg #[.int .i64 (p : Int), .string s])) := by
 refine ⟨109, _, 169, (p : Int), rfl, fun w => by kernel_rfl, fun args w => Tryz.call169 args w, fun w => ?_⟩; go_enter Tryz.func169, Tryz.ntmps169; go_wp2_with fail; go_ret; exact ⟨rfl, (Keep.refl _ _).alloc _⟩
theorem place_111 (p : Nat) (a : Value) (ha : ∃ ty y, a = .iface ty y) : PlaceAt (.iface 111 (.agg #[.int .i64 (p : Int), a])) := by
 obtain ⟨ta, ya, rfl⟩ := ha; refine ⟨111, _, 170, (p : Int), rfl, fun w => by kernel_rfl, fun args w => Tryz.call170 args w, fun w => ?_⟩; go_enter Tryz.func170, Tryz.ntmps170; go_wp2_with fail; go_ret; exact ⟨rfl, (Keep.refl _ _).alloc _⟩
theorem place_114 (p : Nat) (s : ByteArray) (b n c : Nat) : PlaceAt (.iface 114 (.agg #[.int .i64 (p : Int), .string s, .slice (some ⟨b, 0, none⟩) n c])) := by
 refine ⟨114, _, 171, (p : Int), rfl, fun w => by kernel_rfl, fun args w => Tryz.call171 args w, fun w => ?_⟩; go_enter Tryz.func171, Tryz.ntmps171; go_wp2_with fail; go_ret; exact ⟨rfl, (Keep.refl _ _).alloc _⟩
theorem ExV.place {w : World} {ok : Nat → Prop} {x : Ex} {v : Value} (h : ExV w ok x v) : PlaceAt v := by
 cases x with
 | name p s =>
  obtain rfl : v = _ := h; exact place_107 p _
 | text p s =>
  obtain rfl : v = _ := h; exact place_108 p _
 | rx p s =>
  obtain rfl : v = _ := h; exact place_109 p _
 | call1 p wd a =>
  obtain ⟨b, c, va, h1, h2, h3, rfl⟩ := h; exact place_114 p _ b 1 c
 | call2 p wd a1 a2 =>
  obtain ⟨b, c, va, vb, h1, h2, h3, h4, rfl⟩ := h; exact place_114 p _ b 2 c
 | call3 p wd a1 a2 a3 =>
  obtain ⟨b, c, va, vb, vc, h1, h2, h3, h4, h5, rfl⟩ := h; exact place_114 p _ b 3 c
 | keyed p a =>
  obtain ⟨va, h1, rfl⟩ := h; exact place_111 p _ h1.iface
 | unary p op a =>
  obtain ⟨va, h1, rfl⟩ := h; exact place_105 p _ _ h1.iface
 | binary p op a1 a2 =>
  obtain ⟨va, vb, h1, h2, rfl⟩ := h; exact place_103 p _ _ _ h1.iface h2.iface
def RV (v : Value) : Option (DataW Value × List MemPlace) := some (.held v, [])
def EnvV (w : World) (b : Nat) (env : Env) : Prop :=
 ∃ D : DataW Value, w.ownsMap Tryz.prog 9 RV b env.length D ∧ Maps.IsMap D ∧ ∀ s : Bs, match env.get s with
  | some t => ∃ v, D.atKey (.string s) .nil = .held v ∧ TmV w t v
  | none => D.atKey (.string s) .nil = .nil
theorem EnvV.keepA {w w' : World} {b : Nat} {env : Env} {a : Option Nat} (h : EnvV w b env) (k : Keep a w w') (hb : some b ≠ a) (h86 : NotRow 86 a w) (h89 : NotRow 89 a w) : EnvV w' b env := by
 obtain ⟨D, h1, h2, h3⟩ := h; refine ⟨D, ?_, h2, fun s => ?_⟩
 · obtain ⟨es, cl, hh, r⟩ := h1; exact ⟨es, cl, (k.block b ((Array.getElem?_eq_some_iff.1 hh).1) hb).trans hh, r⟩
 · have := h3 s; cases hg : env.get s with
   | none => rw [hg] at this; exact this
   | some t =>
    rw [hg] at this; obtain ⟨v, e, ht⟩ := this; exact ⟨v, e, ht.keepA k h86 h89⟩
theorem EnvV.keep {w w' : World} {b : Nat} {env : Env} (h : EnvV w b env) (k : Keep none w w') : EnvV w' b env := h.keepA k (by simp) (NotRow.none _ _) (NotRow.none _ _)
theorem key_of (s : Bs) (hs : s.length ≤ 100000) : keyOf Tryz.prog 9 (.string (mkS s)) = some (.string s) := by
 have := WideMaps.keyOf_string_mk (P := Tryz.prog) (k := 9) Tryz.underlying9 (s := mkS s) (by rw [mkS_size]; unfold maxLen; omega); rw [this]
theorem EnvV.lookup {w : World} {b : Nat} {env : Env} (h : EnvV w b env) (s : Bs) (hs : s.length ≤ 100000) :
 match env.get s with
 | some t => ∃ v, TmV w t v ∧ ∀ X, Keep none w X → (Instr.lookup 67 (.map (some b)) (.string (mkS s)) true).run Tryz.prog X = .ok (.tuple #[v, .bool true]) X
 | none => ∀ X, Keep none w X → (Instr.lookup 67 (.map (some b)) (.string (mkS s)) true).run Tryz.prog X = .ok (.tuple #[.nilIface, .bool false]) X := by
 obtain ⟨D, ⟨es, cl, hb, F, _, rfl⟩, _, h3⟩ := h; have hkey := key_of s hs; have hx (X : World) (k : Keep none w X) := Maps.fit_look true (Maps.string_keyed Tryz.underlying9) Tryz.underlying67 (show (zeroValue 23).run Tryz.prog X = .ok .nilIface X by kernel_rfl) ((k.block b ((Array.getElem?_eq_some_iff.1 hb).1) (by simp)).trans hb) F hkey; have := h3 s; cases hg : env.get s with
 | none =>
  rw [hg] at this; intro X k; rcases hx X k with ⟨hrun, _, hat⟩ | ⟨e0, y, _, _, hrun, hRv, hat, _⟩
  · exact hrun
  · cases hRv; rw [hat] at this; cases this
 | some t =>
  rw [hg] at this; obtain ⟨v, e, ht⟩ := this; refine ⟨v, ht, fun X k => ?_⟩; rcases hx X k with ⟨hrun, _, hat⟩ | ⟨e0, y, _, _, hrun, hRv, hat, _⟩
  · rw [hat] at e; cases e
  · cases hRv; rw [hat] at e; cases e; exact hrun
theorem EnvV.made (w : World) : EnvV (w.alloc (.map #[] 0)) w.heap.size [] := by
 refine ⟨_, World.ownsMap_made w Tryz.prog 9 RV, Maps.isMap_empty, fun s => rfl⟩
theorem EnvV.notRow {w : World} {b : Nat} {env : Env} (h : EnvV w b env) (t : TypeId) : NotRow t (some b) w := fun k cs fr hk e => by
 obtain ⟨D, ⟨es, cl, hb, _⟩, _⟩ := h; cases e; rw [hb] at hk; cases hk
theorem EnvV.update {w : World} {b : Nat} {env : Env} (h : EnvV w b env) (s : Bs) (hs : s.length ≤ 100000) (t : Tm) (v : Value) (ht : TmV w t v) (hn : env.length < maxLen) :
 ∃ w', (Instr.mapUpdate 67 (.map (some b)) (.string (mkS s)) v).run Tryz.prog w = .ok () w' ∧ EnvV w' b ((s, t) :: env) ∧ Keep (some b) w w' := by
 have n86 := h.notRow 86; have n89 := h.notRow 89; obtain ⟨D, h1, h2, h3⟩ := h; obtain ⟨w', hrun, hown, hg⟩ := h1.update (Maps.string_keyed Tryz.underlying9) Tryz.underlying67 hn (key_of s hs) (show RV v = some (.held v, []) from rfl); have k : Keep (some b) w w' := ⟨hg.os, hg.tape, hg.output, hg.size, fun i hi hne => hg.block i hi hne⟩; refine ⟨w', hrun, ⟨_, hown, h2.put _ _, fun u => ?_⟩, k⟩; by_cases hu : s = u
 · subst hu; rw [show Env.get ((s, t) :: env) s = some t by simp [Env.get]]; exact ⟨v, Maps.atKey_put_same h2 (by simp [WideAt.IsKeyLit]) _ _, ht.keepA k n86 n89⟩
 · rw [show Env.get ((s, t) :: env) u = env.get u by simp [Env.get, hu]]; have := h3 u; rw [Maps.atKey_put_other (by intro e; cases e; exact hu rfl)]; cases hg : env.get u with
   | none => rw [hg] at this; exact this
   | some t =>
    rw [hg] at this; obtain ⟨v, e, ht⟩ := this; exact ⟨v, e, ht.keepA k n86 n89⟩
def MkV (w : World) (m : Nat) (env : Env) : Prop := ∃ b, Blk w m [.map (some b)] 69 ∧ EnvV w b env
theorem MkV.keep {w w' : World} {m : Nat} {env : Env} (h : MkV w m env) (k : Keep none w w') : MkV w' m env := by
 obtain ⟨b, h1, h2⟩ := h; exact ⟨b, h1.keep k (by simp), h2.keep k⟩
end Go.Proofs.YtmfabihndpidnaaGreatDoor
