/-
  Ground for the walks: what a call leaves of the old memory ('Keep'), facts on a block known whole, and small laws on bytes. The parser's small methods: what each returns, and what it leaves in memory. The rank of a sign and the arity of a word: what the given functions return. The parser's brackets: want, enter, leave.
-/
import Derived.Test.YtmfabihndpidnaaGreatDoorProg
import Derived.Test.YtmfabihndpidnaaGreatDoorK02
import Derived.WalkKit
import Derived.WalkSpells
import Derived.WalkLawsBesides
import Derived.Deep.QuietTactic
import Derived.BigQuiet
import Derived.Deep.RegionHeld3
import Derived.Deep.DeepCutAuto
import Derived.Lib.Hide
import Derived.Recover
import Derived.Laws.EntriesVeiled
import Derived.Test.YtmfabihndpidnaaGreatDoorK01
namespace Go.Proofs.YtmfabihndpidnaaGreatDoor
open Go.RowKit
set_option linter.unusedVariables false
set_option linter.unusedSimpArgs false
theorem yh {p : Prop} (h : p) : Hid p := h
abbrev AsT (t i u : TypeId) (v z : Value) : Prop := ∀ w, (Instr.typeAssert (.iface t v) i u true).run Tryz.prog w = .ok z w
structure Keep (a : Option Nat) (w w' : World) : Prop where
 os : w'.os = w.os
 tape : w'.tape = w.tape
 output : w'.output = w.output
 size : w.heap.size ≤ w'.heap.size
 block : ∀ k, k < w.heap.size → some k ≠ a → w'.heap[k]? = w.heap[k]?
theorem Keep.refl (a : Option Nat) (w : World) : Keep a w w := ⟨rfl, rfl, rfl, Nat.le_refl _, fun _ _ _ => rfl⟩
theorem Keep.trans {a : Option Nat} {u v w : World} (h : Keep a u v) (k : Keep a v w) : Keep a u w :=
 ⟨k.os.trans h.os, k.tape.trans h.tape, k.output.trans h.output, Nat.le_trans h.size k.size,
  fun i hi ha => (k.block i (Nat.lt_of_lt_of_le hi h.size) ha).trans (h.block i hi ha)⟩
theorem Keep.of_none {a : Option Nat} {u v : World} (h : Keep none u v) : Keep a u v :=
 ⟨h.os, h.tape, h.output, h.size, fun i hi _ => h.block i hi (by simp)⟩
theorem Keep.drew {a : Option Nat} {u v : World} (h : Keep a u v) : Keep a u v.drew := ⟨h.os, h.tape, h.output, h.size, h.block⟩
theorem Keep.drewN {a : Option Nat} {u v : World} (h : Keep a u v) (n : Nat) : Keep a u (v.drewN n) := ⟨h.os, h.tape, h.output, h.size, h.block⟩
theorem Keep.alloc {a : Option Nat} {u v : World} (h : Keep a u v) (o : Obj) : Keep a u (v.alloc o) :=
 ⟨h.os, h.tape, h.output, by have := h.size; simp; omega, fun i hi ha => by
  rw [Below.heap_alloc _ _ _ (Nat.lt_of_lt_of_le hi h.size)]; exact h.block i hi ha⟩
theorem Keep.set {a : Option Nat} {u v : World} (h : Keep a u v) (p : Addr) (x : Value) (hp : some p.block = a ∨ u.heap.size ≤ p.block) : Keep a u (v.setCell p x) :=
 ⟨h.os, h.tape, h.output, by have := h.size; simp [World.setCell]; omega, fun i hi ha => by
  rw [Below.heap_setCell _ _ _ _ (by
   rcases hp with hp | hp
   · intro e; subst e; exact ha hp
   · omega)]; exact h.block i hi ha⟩
theorem Keep.grown {a : Option Nat} {u v w : World} {row : Option Nat} (h : Keep a u v) (hg : v.grownBy w row) (hr : ∀ k, row = some k → some k = a ∨ u.heap.size ≤ k) : Keep a u w :=
 ⟨hg.os.trans h.os, hg.tape.trans h.tape, hg.output.trans h.output, Nat.le_trans h.size hg.size, fun i hi ha =>
  (hg.block i (Nat.lt_of_lt_of_le hi h.size) (fun e => by
    rcases hr i e.symm with h1 | h1
    · exact ha h1
    · omega)).trans (h.block i hi ha)⟩
theorem Keep.below {u v : World} (h : Keep none u v) : Below u.heap.size u v := ⟨h.os, h.tape, h.output, h.size, fun i hi => h.block i hi (by simp)⟩
theorem Keep.of_below {a : Option Nat} {u v : World} (h : Below u.heap.size u v) : Keep a u v := ⟨h.os, h.tape, h.output, h.size, fun i hi _ => h.block i hi⟩
theorem Keep.trans_new {b : Option Nat} {a : Nat} {u v w : World} (h : Keep b u v) (k : Keep (some a) v w) (ha : u.heap.size ≤ a) : Keep b u w :=
 ⟨k.os.trans h.os, k.tape.trans h.tape, k.output.trans h.output, Nat.le_trans h.size k.size,
  fun i hi hb => (k.block i (Nat.lt_of_lt_of_le hi h.size) (by intro e; simp at e; omega)).trans (h.block i hi hb)⟩
def Blk (w : World) (b : Nat) (cs : List Value) (t : TypeId) : Prop := w.heap[b]? = some (.cells cs.toArray t (0, 0))
theorem Blk.lt {w : World} {b : Nat} {cs : List Value} {t : TypeId} (h : Blk w b cs t) : b < w.heap.size := lt_of_block h
theorem Blk.cell {w : World} {b : Nat} {cs : List Value} {t : TypeId} (h : Blk w b cs t) : ∀ o, w.cell? ⟨b, o, none⟩ = cs[o]? := fun o => by
 simp [World.cell?, show w.heap[b]? = _ from h]
theorem Blk.frozen {w : World} {b : Nat} {cs : List Value} {t : TypeId} (h : Blk w b cs t) : ∀ o, w.frozen? ⟨b, o, none⟩ = false := fun o => by
 simp [World.frozen?, show w.heap[b]? = _ from h]
theorem Blk.keep {w w' : World} {b : Nat} {cs : List Value} {t : TypeId} {a : Option Nat} (h : Blk w b cs t) (k : Keep a w w') (ha : some b ≠ a) : Blk w' b cs t := (k.block b h.lt ha).trans h
theorem Blk.drew {w : World} {b : Nat} {cs : List Value} {t : TypeId} (h : Blk w b cs t) : Blk w.drew b cs t := h
theorem Blk.drewN {w : World} {b : Nat} {cs : List Value} {t : TypeId} (h : Blk w b cs t) (n : Nat) : Blk (w.drewN n) b cs t := h
theorem Blk.alloc {w : World} {b : Nat} {cs : List Value} {t : TypeId} (h : Blk w b cs t) (o : Obj) : Blk (w.alloc o) b cs t := (Below.heap_alloc _ _ _ h.lt).trans h
theorem Blk.new (w : World) (cs : List Value) (t : TypeId) : Blk (w.alloc (.cells cs.toArray t)) w.heap.size cs t := by
 show (w.heap.push _)[w.heap.size]? = _
 simp
theorem Blk.set {w : World} {b : Nat} {cs : List Value} {t : TypeId} (h : Blk w b cs t) (o : Nat) (v : Value) : Blk (w.setCell ⟨b, o, none⟩ v) b (cs.set o v) t := by
 show (w.setCell ⟨b, o, none⟩ v).heap[b]? = _
 simp only [World.setCell, Array.getElem?_modify, if_true]; rw [show w.heap[b]? = _ from h]; simp
theorem Blk.far {w : World} {b : Nat} {cs : List Value} {t : TypeId} (h : Blk w b cs t) (p : Addr) (v : Value) (hp : b ≠ p.block) : Blk (w.setCell p v) b cs t := (Below.heap_setCell _ _ _ _ hp).trans h
abbrev mkS (l : Bs) : ByteArray := ⟨l.toArray⟩
@[simp] theorem mkS_size (l : Bs) : (mkS l).size = l.length := by simp [mkS, ByteArray.size]
end Go.Proofs.YtmfabihndpidnaaGreatDoor
namespace Go.Proofs.YtmfabihndpidnaaGreatDoor
set_option maxHeartbeats 400000
open Go.RowKit
set_option maxRecDepth 100000
set_option linter.unusedVariables false
set_option linter.unusedSimpArgs false
def Toks (w : World) (tb k : Nat) (ts : List Tok) : Prop :=
 ∃ cs fr, w.heap[tb]? = some (.cells cs 96 fr) ∧ ∀ i t, ts[i]? = some t → cs[3 * (k + i)]? = some (.int .i64 t.kind) ∧ cs[3 * (k + i) + 1]? = some (.int .i64 t.pl) ∧ cs[3 * (k + i) + 2]? = some (.string (mkS t.text))
theorem Toks.keep {w w' : World} {tb k : Nat} {ts : List Tok} {a : Option Nat} (h : Toks w tb k ts) (hk : Keep a w w') (ha : some tb ≠ a) : Toks w' tb k ts := by
 obtain ⟨cs, fr, h1, h2⟩ := h; exact ⟨cs, fr, (hk.block tb (lt_of_block h1) ha).trans h1, h2⟩
theorem Toks.head {w : World} {tb k : Nat} {t : Tok} {ts : List Tok} (h : Toks w tb k (t :: ts)) :
 w.cell? ⟨tb, 3 * k, none⟩ = some (.int .i64 t.kind) ∧ w.cell? ⟨tb, 3 * k + 1, none⟩ = some (.int .i64 t.pl) ∧ w.cell? ⟨tb, 3 * k + 2, none⟩ = some (.string (mkS t.text)) ∧ tb < w.heap.size := by
 obtain ⟨cs, fr, h1, h2⟩ := h; have := h2 0 t rfl; obtain ⟨a, b, c⟩ := this; refine ⟨?_, ?_, ?_, lt_of_block h1⟩ <;> simp only [World.cell?, h1] <;> assumption
theorem Toks.tail {w : World} {tb k : Nat} {t : Tok} {ts : List Tok} (h : Toks w tb k (t :: ts)) : Toks w tb (k + 1) ts := by
 obtain ⟨cs, fr, h1, h2⟩ := h; refine ⟨cs, fr, h1, fun i u hu => ?_⟩; have := h2 (i + 1) u (by simpa using hu)
 rwa [show k + (i + 1) = k + 1 + i from by omega] at this
def ParIs (w : World) (g tb : Nat) (ts : List Tok) (op : Nat) : Prop :=
 ∃ k c, Blk w g [.slice (some ⟨tb, 3 * k, none⟩) ts.length c, .int .i64 op] 44 ∧ Toks w tb k ts ∧ tb ≠ g ∧ ts.length ≤ c ∧ c ≤ maxLen
theorem ParIs.keep {w w' : World} {g tb : Nat} {ts : List Tok} {op : Nat} {a : Option Nat} (h : ParIs w g tb ts op) (hk : Keep a w w') (hg : some g ≠ a) (ht : some tb ≠ a) : ParIs w' g tb ts op := by
 obtain ⟨k, c, h1, h2, h3⟩ := h; exact ⟨k, c, h1.keep hk hg, h2.keep hk ht, h3⟩
def tokV (t : Tok) : Value := .agg #[.int .i64 t.kind, .int .i64 t.pl, .string (mkS t.text)]
theorem peek_any (g tb : Nat) (t : Tok) (ts : List Tok) (op : Nat) (w : World) (h : ParIs w g tb (t :: ts) op) :
 Calls Tryz.prog 31 #[.pointer (some ⟨g, 0, none⟩)] w fun e w' => e = .returned (tokV t) ∧ Keep none w w' := by
 obtain ⟨k, c, h1, h2, h3, h4, h5⟩ := h; have hc := h1.cell; obtain ⟨t0, t1, t2, ht⟩ := h2.head; have hg := h1.lt; have hl : 0 < (t :: ts).length := by simp
 have hu := Tryz.underlying96; clear h1 h2; go_enter Tryz.func31, Tryz.ntmps31
 go_wp2
 exact bodyPost_ret (v := tokV t) (by simp [results, Tryz.results31, go_sem, tokV]) rfl ⟨rfl, (Keep.refl _ _).alloc _⟩
def faultV (c p : Int) : Value := .agg #[.int .i64 c, .int .i64 p, .string ⟨#[]⟩]
def flt (c p : Int) : List PanicEntry := [{ v := .iface 26 (faultV c p), recovered := false }]
set_option maxRecDepth 10000 in
theorem take_any (g tb : Nat) (t : Tok) (ts : List Tok) (op : Nat) (w : World) (h : ParIs w g tb (t :: ts) op) (hne : ts ≠ []) :
 Calls Tryz.prog 32 #[.pointer (some ⟨g, 0, none⟩)] w fun e w' => e = .returned (tokV t) ∧ ParIs w' g tb ts op ∧ Keep (some g) w w' := by
 obtain ⟨k, c, h1, h2, h3, h4, h5⟩ := h; have hc := h1.cell; have hf := h1.frozen; obtain ⟨t0, t1, t2, ht⟩ := h2.head; have hg := h1.lt; have hl : 0 < (t :: ts).length := by simp
 have hl1 : 0 < ts.length := List.length_pos_iff.2 hne; have hc1 : ¬ c = 1 := by simp at h4; omega
 have hu := Tryz.underlying96; have H1 := yh h1; have H2 := yh h2; clear h1 h2 hne; go_enter Tryz.func32, Tryz.ntmps32
 go_wp2
 refine bodyPost_ret (v := tokV t) (by simp [results, Tryz.results32, go_sem, tokV]) rfl ⟨rfl, ⟨k + 1, c - 1, ?_, ?_, h3, ?_, ?_⟩, ?_⟩
 · exact ((H1.out.set 0 _).alloc _).alloc _
 · exact (H2.out.tail.keep ((((Keep.refl (some g) _).set _ _ (.inl rfl)).alloc _).alloc _) (by simpa using h3))
 · simp at h4; omega
 · omega
 · exact (((Keep.refl (some g) _).set _ _ (.inl rfl)).alloc _).alloc _
theorem run_field96_0 (a b c : Value) (w : World) : (Instr.field 96 (.agg #[a, b, c]) 0).run Tryz.prog w = .ok a w := by kernel_rfl
theorem run_field96_1 (a b c : Value) (w : World) : (Instr.field 96 (.agg #[a, b, c]) 1).run Tryz.prog w = .ok b w := by kernel_rfl
theorem run_field96_2 (a b c : Value) (w : World) : (Instr.field 96 (.agg #[a, b, c]) 2).run Tryz.prog w = .ok c w := by kernel_rfl
attribute [local go_sem ↓] run_field96_0 run_field96_1 run_field96_2
theorem fail_any (g tb : Nat) (t : Tok) (ts : List Tok) (op : Nat) (c : Int) (w : World) (h : ParIs w g tb (t :: ts) op) :
 Calls Tryz.prog 34 #[.pointer (some ⟨g, 0, none⟩), .int .i64 c] w fun e w' => e = .panicked (flt c t.pl) ∧ Keep none w w' := by
 have hu := Tryz.underlying96; go_enter Tryz.func34, Tryz.ntmps34; go_wp2_with (go_at_call 31; refine (peek_any g tb t ts op _ h).mono ?_; rintro e w' ⟨rfl, hk⟩; unfold tokV); exact ⟨rfl, rfl, hk⟩
theorem is_any (g tb : Nat) (t : Tok) (ts : List Tok) (op : Nat) (m : Bs) (w : World) (h : ParIs w g tb (t :: ts) op) (hg : g < w.heap.size) :
 Calls Tryz.prog 55 #[.pointer (some ⟨g, 0, none⟩), .string (mkS m)] w fun e w' => e = .returned (.bool (t.kind == 4 && t.text == m)) ∧ Keep none w w' := by
 have hu := Tryz.underlying96; by_cases h4 : t.kind = 4
 · have hb : ((t.kind : Int) == 4) = true := by simp [h4]
   have H4 := yh h4; clear h4; go_enter Tryz.func55, Tryz.ntmps55; go_wp2_with fail; refine (peek_any g tb t ts op _ h).mono ?_; rintro e w1 ⟨rfl, hk⟩; unfold tokV; go_wp2_with fail; refine (peek_any g tb t ts op _ (h.keep hk (by simp) (by simp))).mono ?_; rintro e w2 ⟨rfl, hk2⟩; unfold tokV; go_wp2_with fail; go_ret; exact ⟨by simp [H4.out], hk.trans hk2⟩
 · have hb : ((t.kind : Int) == 4) = false := by simp; omega
   have H4 := yh h4; clear h4; go_enter Tryz.func55, Tryz.ntmps55; go_wp2_with fail; refine (peek_any g tb t ts op _ h).mono ?_; rintro e w1 ⟨rfl, hk⟩; unfold tokV; go_wp2_with fail; go_ret; exact ⟨by simp [H4.out], hk⟩
end Go.Proofs.YtmfabihndpidnaaGreatDoor
namespace Go.Proofs.YtmfabihndpidnaaGreatDoor
set_option maxHeartbeats 1000000
open Go.RowKit
set_option maxRecDepth 100000
set_option linter.unusedVariables false
set_option linter.unusedSimpArgs false
abbrev ranksV : List Value := [.string (mkS [124]), .string (mkS [38, 45]), .string (mkS [62, 62]), .string (mkS [126]), .string (mkS [46])]
theorem run_index132_0 (w : World) : (Instr.index 132 (.agg #[.string (mkS [124]), .string (mkS [38, 45]), .string (mkS [62, 62]), .string (mkS [126]), .string (mkS [46])]) (.int .i64 0)).run Tryz.prog w = .ok (.string (mkS [124])) w := by kernel_rfl
theorem run_index132_1 (w : World) : (Instr.index 132 (.agg #[.string (mkS [124]), .string (mkS [38, 45]), .string (mkS [62, 62]), .string (mkS [126]), .string (mkS [46])]) (.int .i64 1)).run Tryz.prog w = .ok (.string (mkS [38, 45])) w := by kernel_rfl
theorem run_index132_2 (w : World) : (Instr.index 132 (.agg #[.string (mkS [124]), .string (mkS [38, 45]), .string (mkS [62, 62]), .string (mkS [126]), .string (mkS [46])]) (.int .i64 2)).run Tryz.prog w = .ok (.string (mkS [62, 62])) w := by kernel_rfl
theorem run_index132_3 (w : World) : (Instr.index 132 (.agg #[.string (mkS [124]), .string (mkS [38, 45]), .string (mkS [62, 62]), .string (mkS [126]), .string (mkS [46])]) (.int .i64 3)).run Tryz.prog w = .ok (.string (mkS [126])) w := by kernel_rfl
theorem run_index132_4 (w : World) : (Instr.index 132 (.agg #[.string (mkS [124]), .string (mkS [38, 45]), .string (mkS [62, 62]), .string (mkS [126]), .string (mkS [46])]) (.int .i64 4)).run Tryz.prog w = .ok (.string (mkS [46])) w := by kernel_rfl
attribute [local go_sem ↓] run_index132_0 run_index132_1 run_index132_2 run_index132_3 run_index132_4
def con (l : Bs) (c : UInt8) : Bool := decide (0 ≤ Lib.indexByte l c)
theorem contains_one (l : Bs) (c : UInt8) (b : Bool) (w : World) (h : con l c = b) :
 Calls Tryz.prog 58 #[.string (mkS l), .string (mkS [c])] w fun e w' => e = .returned (.bool b) ∧ w = w' :=
 (Tryz.strings_Contains_one (mkS l) c w).mono fun e w' ⟨h1, h2⟩ => ⟨by rw [h1, ← h]; rfl, h2.symm⟩
theorem rank_one (c : UInt8) (w : World) (h0 : ∀ o, w.cell? ⟨0, o, none⟩ = ranksV[o]?) (b0 b1 b3 b4 : Bool)
 (k0 : con [124] c = b0) (k1 : con [38, 45] c = b1) (k2 : con [62, 62] c = false) (k3 : con [126] c = b3) (k4 : con [46] c = b4) :
 Calls Tryz.prog 38 #[.string (mkS [c])] w fun e w' => e = .returned (.int .i64 (if b0 then 0 else if b1 then 1 else if b3 then 3 else if b4 then 4 else -1)) ∧ w = w' := by
 have K0 := fun w => contains_one _ _ _ w k0
 have K1 := fun w => contains_one _ _ _ w k1
 have K2 := fun w => contains_one _ _ _ w k2
 have K3 := fun w => contains_one _ _ _ w k3
 have K4 := fun w => contains_one _ _ _ w k4
 clear k0 k1 k2 k3 k4; go_enter Tryz.func38, Tryz.ntmps38; go_wp2_with fail; refine wp_loop_rounds 6 ?_; rw [rounds_succ]; go_wp2_with fail; refine (K0 _).mono ?_; rintro e w' ⟨rfl, rfl⟩; cases b0 with
 | true =>
  go_wp2_with fail; go_ret; exact ⟨rfl, rfl⟩
 | false =>
 go_wp2_with fail; rw [rounds_succ]; go_wp2_with fail; refine (K1 _).mono ?_; rintro e w' ⟨rfl, rfl⟩; cases b1 with
 | true =>
  go_wp2_with fail; go_ret; exact ⟨rfl, rfl⟩
 | false =>
 go_wp2_with fail; rw [rounds_succ]; go_wp2_with fail; refine (K2 _).mono ?_; rintro e w' ⟨rfl, rfl⟩; go_wp2_with fail; rw [rounds_succ]; go_wp2_with fail; refine (K3 _).mono ?_; rintro e w' ⟨rfl, rfl⟩; cases b3 with
 | true =>
  go_wp2_with fail; go_ret; exact ⟨rfl, rfl⟩
 | false =>
 go_wp2_with fail; rw [rounds_succ]; go_wp2_with fail; refine (K4 _).mono ?_; rintro e w' ⟨rfl, rfl⟩; cases b4 with
 | true =>
  go_wp2_with fail; go_ret; exact ⟨rfl, rfl⟩
 | false =>
 go_wp2_with fail; rw [rounds_succ]; go_wp2_with fail; go_ret; exact ⟨rfl, rfl⟩
theorem index_two (l : Bs) (h : l.length ≤ 2) (w : World) :
 Calls Tryz.prog 93 #[.string (mkS l), .string (mkS [62, 62])] w fun e w' => e = .returned (.int .i64 (if l = [62, 62] then 0 else -1)) ∧ w = w' := by
 have hs : (mkS l).size ≤ 2 := by simpa using h
 by_cases he : l = [62, 62]
 · subst he; go_enter Tryz.func93, Tryz.ntmps93
   go_wp2
   go_ret; exact ⟨rfl, rfl⟩
 · have hb : ([62, 62] == l) = false := by simpa using fun e => he e.symm
   have hb2 : ([62, 62] = l) = False := by simpa using fun e => he e.symm
   have H := yh he; clear he; go_enter Tryz.func93, Tryz.ntmps93
   go_wp2
   all_goals go_ret
   all_goals exact ⟨by first | rfl | rw [if_neg H.out] | exact absurd ‹_› H.out, rfl⟩
theorem contains_two (l : Bs) (h : l.length ≤ 2) (b : Bool) (hb : decide (l = [62, 62]) = b) (w : World) :
 Calls Tryz.prog 58 #[.string (mkS l), .string (mkS [62, 62])] w fun e w' => e = .returned (.bool b) ∧ w = w' := by
 have K : ∀ w, Calls Tryz.prog 76 #[.string (mkS l), .string (mkS [62, 62])] w fun e w' => e = .returned (.int .i64 (if l = [62, 62] then 0 else -1)) ∧ w = w' := by
  intro w; have K := index_two l h; go_enter Tryz.func76, Tryz.ntmps76; go_wp2_with (go_at_call 93; refine (K _).mono ?_; rintro e w' ⟨rfl, rfl⟩); all_goals go_ret
  all_goals exact ⟨by first | rfl | simp_all, rfl⟩
 by_cases he : l = [62, 62]
 · subst he; simp at hb; subst hb; simp only [if_true] at K; go_enter Tryz.func58, Tryz.ntmps58; go_wp2_with (go_at_call 76; refine (K _).mono ?_; rintro e w' ⟨rfl, rfl⟩); go_ret; exact ⟨rfl, rfl⟩
 · simp only [if_neg he] at K; have hb : b = false := by simpa [he] using hb.symm
   subst hb; clear he; go_enter Tryz.func58, Tryz.ntmps58; go_wp2_with (go_at_call 76; refine (K _).mono ?_; rintro e w' ⟨rfl, rfl⟩); go_ret; exact ⟨rfl, rfl⟩
theorem rank_two (w : World) (h0 : ∀ o, w.cell? ⟨0, o, none⟩ = ranksV[o]?) :
 Calls Tryz.prog 38 #[.string (mkS [62, 62])] w fun e w' => e = .returned (.int .i64 2) ∧ w = w' := by
 have K0 := contains_two [124] (by simp) false (by decide); have K1 := contains_two [38, 45] (by simp) false (by decide); have K2 := contains_two [62, 62] (by simp) true (by decide); go_enter Tryz.func38, Tryz.ntmps38; go_wp2_with fail; refine wp_loop_rounds 6 ?_; rw [rounds_succ]; go_wp2_with fail; refine (K0 _).mono ?_; rintro e w' ⟨rfl, rfl⟩; go_wp2_with fail; rw [rounds_succ]; go_wp2_with fail; refine (K1 _).mono ?_; rintro e w' ⟨rfl, rfl⟩; go_wp2_with fail; rw [rounds_succ]; go_wp2_with fail; refine (K2 _).mono ?_; rintro e w' ⟨rfl, rfl⟩; go_wp2_with fail; go_ret; exact ⟨rfl, rfl⟩
theorem rank_any (m : Bs) (hm : isMark m) (w : World) (h0 : ∀ o, w.cell? ⟨0, o, none⟩ = ranksV[o]?) :
 Calls Tryz.prog 38 #[.string (mkS m)] w fun e w' => e = .returned (.int .i64 (rank m)) ∧ w = w' := by
 rcases hm with rfl | ⟨c, hc, rfl⟩
 · exact rank_two w h0
 · have key : ∀ c ∈ marksL, con [62, 62] c = false ∧
    (if con [124] c = true then (0 : Int) else if con [38, 45] c = true then 1 else if con [126] c = true then 3 else if con [46] c = true then 4 else -1) = rank [c] := by decide
   obtain ⟨k2, hr⟩ := key c hc; rw [← hr]; exact rank_one c w h0 _ _ _ _ rfl rfl k2 rfl rfl
theorem arity_any (m : Bs) (w : World) : Calls Tryz.prog 33 #[.string (mkS m)] w fun e w' => e = .returned (.int .i64 (arity m)) ∧ w = w' := by
 unfold arity; by_cases h1 : m = [99, 111, 112, 121]
 · subst h1; go_enter Tryz.func33, Tryz.ntmps33; go_wp2; go_ret; exact ⟨rfl, rfl⟩
 by_cases h2 : m = [107, 101, 121]
 · subst h2; go_enter Tryz.func33, Tryz.ntmps33; go_wp2; go_ret; exact ⟨rfl, rfl⟩
 by_cases h3 : m = [105, 110, 115]
 · subst h3; go_enter Tryz.func33, Tryz.ntmps33; go_wp2; go_ret; exact ⟨rfl, rfl⟩
 by_cases h4 : m = [105, 100]
 · subst h4; go_enter Tryz.func33, Tryz.ntmps33; go_wp2; go_ret; exact ⟨rfl, rfl⟩
 by_cases h5 : m = [102, 111, 108, 100]
 · subst h5; go_enter Tryz.func33, Tryz.ntmps33; go_wp2; go_ret; exact ⟨rfl, rfl⟩
 by_cases h6 : m = [100, 101, 108]
 · subst h6; go_enter Tryz.func33, Tryz.ntmps33; go_wp2; go_ret; exact ⟨rfl, rfl⟩
 by_cases h7 : m = [108, 101, 102, 116]
 · subst h7; go_enter Tryz.func33, Tryz.ntmps33; go_wp2; go_ret; exact ⟨rfl, rfl⟩
 by_cases h8 : m = [114, 105, 103, 104, 116]
 · subst h8; go_enter Tryz.func33, Tryz.ntmps33; go_wp2; go_ret; exact ⟨rfl, rfl⟩
 by_cases h9 : m = [100, 101, 102, 97, 117, 108, 116]
 · subst h9; go_enter Tryz.func33, Tryz.ntmps33; go_wp2; go_ret; exact ⟨rfl, rfl⟩
 by_cases h10 : m = [110, 111, 114, 109]
 · subst h10; go_enter Tryz.func33, Tryz.ntmps33; go_wp2; go_ret; exact ⟨rfl, rfl⟩
 by_cases h11 : m = [108, 101, 116]
 · subst h11; go_enter Tryz.func33, Tryz.ntmps33; go_wp2; go_ret; exact ⟨rfl, rfl⟩
 rw [if_neg (by simp [*]), if_neg (by simp [*]), if_neg h10, if_neg h11]; replace h1 := beq_eq_false_iff_ne.2 h1; replace h2 := beq_eq_false_iff_ne.2 h2; replace h3 := beq_eq_false_iff_ne.2 h3; replace h4 := beq_eq_false_iff_ne.2 h4; replace h5 := beq_eq_false_iff_ne.2 h5; replace h6 := beq_eq_false_iff_ne.2 h6; replace h7 := beq_eq_false_iff_ne.2 h7; replace h8 := beq_eq_false_iff_ne.2 h8; replace h9 := beq_eq_false_iff_ne.2 h9; replace h10 := beq_eq_false_iff_ne.2 h10; replace h11 := beq_eq_false_iff_ne.2 h11; go_enter Tryz.func33, Tryz.ntmps33
 go_wp2
 go_ret; exact ⟨rfl, rfl⟩
end Go.Proofs.YtmfabihndpidnaaGreatDoor
namespace Go.Proofs.YtmfabihndpidnaaGreatDoor
set_option maxHeartbeats 400000
open Go.RowKit
set_option maxRecDepth 100000
set_option linter.unusedVariables false
set_option linter.unusedSimpArgs false
def POut (g tb : Nat) (w : World) (r : Except Flt PS) (v : Value) (e : Ending) (w' : World) : Prop :=
 match r with
 | .ok st => e = .returned v ∧ ParIs w' g tb st.1 st.2 ∧ Keep (some g) w w'
 | .error f => e = .panicked (flt f.code f.pl) ∧ Keep (some g) w w'
theorem want_any (g tb : Nat) (ts : List Tok) (op : Nat) (m : Bs) (w : World) (h : ParIs w g tb ts op) (he : Ends ts) :
 Calls Tryz.prog 35 #[.pointer (some ⟨g, 0, none⟩), .string (mkS m)] w (POut g tb w (want m (ts, op)) (.tuple #[])) := by
 cases ts with
 | nil => exact he.elim
 | cons t ts =>
 have hg : g < w.heap.size := by obtain ⟨k, c, h1, _⟩ := h; exact h1.lt
 by_cases hb : tkIs t m = true
 · have hne := (he.tail (tkIs_kind hb)).ne; rw [show want m (t :: ts, op) = .ok (ts, op) from by simp [want, hb]]; have HI := is_any g tb t ts op m w h hg; rw [show (t.kind == 4 && t.text == m) = true from hb] at HI; clear hb; go_enter Tryz.func35, Tryz.ntmps35; go_wp2_with fail; refine HI.mono ?_; rintro e w1 ⟨rfl, hk⟩; go_wp2_with fail; refine (take_any g tb t ts op _ (h.keep hk (by simp) (by simp)) hne).mono ?_; rintro e w2 ⟨rfl, hp, hk2⟩; go_wp2_with fail
   go_end0
   exact ⟨rfl, hp, hk.of_none.trans hk2⟩
 · rw [show want m (t :: ts, op) = .error ⟨60, t.pl⟩ from by simp [want, hb]]; have HI := is_any g tb t ts op m w h hg; rw [show (t.kind == 4 && t.text == m) = false from by simpa [tkIs] using hb] at HI; clear hb; go_enter Tryz.func35, Tryz.ntmps35; go_wp2_with fail; refine HI.mono ?_; rintro e w1 ⟨rfl, hk⟩; go_wp2_with fail; refine (fail_any g tb t ts op 60 _ (h.keep hk (by simp) (by simp))).mono ?_; rintro e w2 ⟨rfl, hk2⟩; exact ⟨rfl, rfl, (hk.trans hk2).of_none⟩
theorem enter_any (g tb : Nat) (ts : List Tok) (op : Nat) (m : Bs) (w : World) (h : ParIs w g tb ts op) (he : Ends ts) (ho : op ≤ 64) :
 Calls Tryz.prog 91 #[.pointer (some ⟨g, 0, none⟩), .string (mkS m)] w (POut g tb w (enter m (ts, op)) (.tuple #[])) := by
 cases ts with
 | nil => exact he.elim
 | cons t ts =>
 have hg : g < w.heap.size := by obtain ⟨k, c, h1, _⟩ := h; exact h1.lt
 by_cases hb : tkIs t m = true
 · have hne := (he.tail (tkIs_kind hb)).ne; have HI := is_any g tb t ts op m w h hg; rw [show (t.kind == 4 && t.text == m) = true from hb] at HI; have HW := fun w h => want_any g tb (t :: ts) op m w h he
   rw [show want m (t :: ts, op) = .ok (ts, op) from by simp [want, hb]] at HW; by_cases h64 : 64 ≤ op
   · rw [show enter m (t :: ts, op) = .error ⟨23, t.pl⟩ from by simp [enter, hb, h64]]; clear hb; have h64' : (64 : Int) ≤ (op : Int) := by omega
     go_enter Tryz.func91, Tryz.ntmps91; go_wp2_with fail; refine HI.mono ?_; rintro e w1 ⟨rfl, hk⟩; have h1 := h.keep hk (by simp) (by simp); have h1' := h1; obtain ⟨k, c, hB, _⟩ := h1'; have hc := hB.cell; clear hB; go_wp2_with fail; refine (fail_any g tb t ts op 23 _ h1).mono ?_; rintro e w2 ⟨rfl, hk2⟩; exact ⟨rfl, rfl, (hk.trans hk2).of_none⟩
   · rw [show enter m (t :: ts, op) = .ok (ts, op + 1) from by simp [enter, hb, h64]]; clear hb; have h64' : (op : Int) < 64 := by omega
     have h0 : (0 : Int) ≤ (op : Int) := by omega
     go_enter Tryz.func91, Tryz.ntmps91; go_wp2_with fail; refine HI.mono ?_; rintro e w1 ⟨rfl, hk⟩; have h1 := h.keep hk (by simp) (by simp); have h1' := h1; obtain ⟨k, c, hB, _⟩ := h1'; have hc := hB.cell; clear hB; go_wp2_with fail; refine (HW _ h1).mono ?_; rintro e w2 ⟨rfl, hp, hk2⟩; clear hc; obtain ⟨k2, c2, hB, hT, hr⟩ := hp; have hc := hB.cell; have hf := hB.frozen; have HB := yh hB; clear hB; go_wp2_with fail
     go_end0
     refine ⟨rfl, ⟨k2, c2, HB.out.set 1 _, hT.keep ((Keep.refl (some g) _).set _ _ (.inl rfl)) (by simpa using hr.1), hr⟩, ((hk.of_none.trans hk2).set _ _ (.inl rfl))⟩
 · rw [show enter m (t :: ts, op) = .error ⟨60, t.pl⟩ from by simp [enter, hb]]; have HI := is_any g tb t ts op m w h hg; rw [show (t.kind == 4 && t.text == m) = false from by simpa [tkIs] using hb] at HI; have HW := fun w h => want_any g tb (t :: ts) op m w h he
   rw [show want m (t :: ts, op) = .error ⟨60, t.pl⟩ from by simp [want, hb]] at HW; clear hb; go_enter Tryz.func91, Tryz.ntmps91; go_wp2_with fail; refine HI.mono ?_; rintro e w1 ⟨rfl, hk⟩; go_wp2_with fail; refine (HW _ (h.keep hk (by simp) (by simp))).mono ?_; rintro e w2 ⟨rfl, hk2⟩; exact ⟨rfl, rfl, hk.of_none.trans hk2⟩
theorem leave_any (g tb : Nat) (ts : List Tok) (op : Nat) (m : Bs) (w : World) (h : ParIs w g tb ts op) (he : Ends ts) (ho : op ≤ 64) (ho1 : 1 ≤ op) :
 Calls Tryz.prog 92 #[.pointer (some ⟨g, 0, none⟩), .string (mkS m)] w (POut g tb w (leave m (ts, op)) (.tuple #[])) := by
 have HW := want_any g tb ts op m w h he; unfold leave; cases hw : want m (ts, op) with
 | error f =>
  rw [hw] at HW; clear hw; go_enter Tryz.func92, Tryz.ntmps92; go_wp2_with fail; refine HW.mono ?_; rintro e w2 ⟨rfl, hk2⟩; exact ⟨rfl, rfl, hk2⟩
 | ok st =>
  obtain ⟨ts2, op2⟩ := st; rw [hw] at HW; have e2 : op2 = op := by
   cases ts with
   | nil => exact he.elim
   | cons t ts =>
    simp only [want] at hw; by_cases hb : tkIs t m = true
    · rw [if_pos hb] at hw; cases hw; rfl
    · rw [if_neg hb] at hw; cases hw
  subst e2; clear hw; go_enter Tryz.func92, Tryz.ntmps92; go_wp2_with fail; refine HW.mono ?_; rintro e w2 ⟨rfl, hp, hk2⟩; obtain ⟨k2, c2, hB, hT, hr⟩ := hp; have hc := hB.cell; have hf := hB.frozen; have HB := yh hB; clear hB; have h1 : (1 : Int) ≤ (op2 : Int) := by omega
  have h2 : (op2 : Int) ≤ 64 := by omega
  go_wp2_with fail
  go_end0
  refine ⟨rfl, ⟨k2, c2, ?_, hT.keep ((Keep.refl (some g) _).set _ _ (.inl rfl)) (by simpa using hr.1), hr⟩, (hk2.set _ _ (.inl rfl))⟩; have := HB.out.set 1 (.int .i64 ((op2 : Int) - 1)); rw [show ((op2 - 1 : Nat) : Int) = (op2 : Int) - 1 from by omega]; exact this
end Go.Proofs.YtmfabihndpidnaaGreatDoor
