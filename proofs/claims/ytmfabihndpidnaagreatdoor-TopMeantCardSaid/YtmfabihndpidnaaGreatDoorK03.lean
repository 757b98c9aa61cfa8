/-
  A region that draws its order, walked in an order of the prover's: what yields in every world that meets S may be taken as it stands at the head; an operation that alone may come up is carried out, and S is shown anew behind it; but not behind the operation d, which waits for all others (the region's last store). Over the kit's own laws (Derived/OrdersHeld.lean). A region that draws its order, walked by the numbers of its operations, with a choice where several operations that turn memory may come next. Over the laws of the text Rg. As the text Rh, for functions that defer and have named results: a panic's post hangs on no slot that the region's operations write. As the text Rh, with the operations' numbers in a list: what can be taken next stands at its head.
-/
import Derived.OrdersHeld
import Derived.Deep.RegionHeld3
import Derived.WalkKit
namespace Go.Proofs.YtmfabihndpidnaaGreatDoor
open Go Go.RowKit
set_option linter.unusedVariables false
def num : Nat → List Oper → List (Nat × Oper)
 | _, [] => []
 | n, o :: l => (n, o) :: num (n + 1) l
theorem num_get : ∀ (l : List Oper) (n : Nat) (x : Nat × Oper), x ∈ num n l → n ≤ x.1 ∧ l[x.1 - n]? = some x.2
 | [], _, _, h => by cases h
 | o :: l, n, x, h => by
  rcases List.mem_cons.1 h with rfl | h
  · simp
  · obtain ⟨h1, h2⟩ := num_get l (n + 1) x h; refine ⟨by omega, ?_⟩; rw [show x.1 - n = (x.1 - (n + 1)) + 1 from by omega]; simpa using h2
section
variable {P : Program} {ops : Array Oper} {Q : Exit → Act → World → Prop} {S : World → Prop} {d : Nat}
def Free (Q : Exit → Act → World → Prop) : Prop := ∀ c a d v w, Q (.panic c) (Act.put a d v) w → Q (.panic c) a w
def Any (P : Program) (ops : Array Oper) (Q : Exit → Act → World → Prop) (S : World → Prop) (d : Nat) : Nat → Array Bool → Act → World → Prop
 | 0, listed, a, w => Region.ready .any ops listed = [] ∧ Q .normal a w
 | n + 1, listed, a, w =>
  (Region.ready .any ops listed = [] → Q .normal a w) ∧
  ∀ i ∈ Region.ready .any ops listed, wpOp P ops Q i (fun a' w' => (i ≠ d → S w') ∧ Any P ops Q S d n (listed.setIfInBounds i true) a' w') a w
theorem Any.plain : ∀ (n : Nat) (listed : Array Bool) (a : Act) (w : World), Any P ops Q S d n listed a w → wpAny P .any ops Q n listed a w
 | 0, _, _, _, h => h
 | n + 1, _, _, _, h => ⟨h.1, fun i hi => wpOp_mono (fun a' w' h' => Any.plain n _ a' w' h'.2) (h.2 i hi)⟩
def Waits (ops : Array Oper) (d i : Nat) : Bool := match ops[d]? with | none => true | some o => o.after.any fun e => Region.binds .any e && e.on == i
theorem Waits.not_ready {listed : Array Bool} {i : Nat} (h : Waits ops d i = true) (hi : listed.getD i false = false) : d ∉ Region.ready .any ops listed := by
 intro hd; obtain ⟨_, o, ho, hall⟩ := mem_ready.1 hd; unfold Waits at h; rw [ho] at h; obtain ⟨e, he, hb⟩ := Array.any_eq_true'.1 h; rw [Bool.and_eq_true] at hb; have h1 := hall e he hb.1; rw [show e.on = i from by simpa using hb.2] at h1; rw [hi] at h1; cases h1
theorem any_first {i : Nat} {oi : Oper} {v : Value} (hi : ops[i]? = some oi) (hsel : ∀ (j : Nat) (o : Oper) cs b, ops[j]? = some o → o.op ≠ .select cs b) (hQ : Free Q) (hwt : Waits ops d i = true) (hid : i ≠ d) :
 ∀ (n : Nat) (listed : Array Bool) (a : Act) (w : World),
  (∀ j oj, ops[j]? = some oj → j ≠ i → listed.getD j true = false → (∀ e ∈ oj.after, Region.binds .any e = true → e.on ≠ i) → oi.apart ops oj = true) →
  i ∈ Region.ready .any ops listed → YieldsIf P ops S oi v a → S w →
  Any P ops Q S d n (listed.setIfInBounds i true) (a.put oi.dst v) w → Any P ops Q S d (n + 1) listed a w := by
 intro n; induction n with
 | zero =>
  intro listed a w _ hr hy hS H; refine ⟨fun h => (by rw [h] at hr; cases hr), fun j hj => ?_⟩; by_cases hji : j = i
  · subst hji; exact hy.wpOp hi hS ⟨fun _ => hS, H⟩
  · have := ready_mono hj hji; rw [H.1] at this; cases this
 | succ n ih =>
  intro listed a w hfree hr hy hS H; have hpend : listed.getD i true = false := (mem_ready.1 hr).1; have hpend' : listed.getD i false = false := by
   rcases Nat.lt_or_ge i listed.size with h' | h'
   · simp [h'] at hpend ⊢; exact hpend
   · simp [Array.getElem?_eq_none h'] at hpend
  refine ⟨fun h => (by rw [h] at hr; cases hr), fun j hj => ?_⟩; by_cases hji : j = i
  · subst hji; exact hy.wpOp hi hS ⟨fun _ => hS, H⟩
  · have hjd : j ≠ d := fun e => (Waits.not_ready hwt hpend') (e ▸ hj)
    have h1 := H.2 j (ready_mono hj hji); obtain ⟨hjun, oj, hoj, hall⟩ := mem_ready.1 hj; have hnot : ∀ e ∈ oj.after, Region.binds .any e = true → e.on ≠ i := fun e he hb heq => by
     have h1 := hall e he hb; rw [heq, hpend'] at h1; cases h1
    have h2 := wpOp_putIf hoj (hfree j oj hoj hji hjun hnot) (fun cs b => hsel i oi cs b hi) (fun cs b => hsel j oj cs b hoj) (fun c a w h => hQ c a _ _ w h) hy h1; refine wpOp_mono (fun a' w' h3 => ⟨fun _ => h3.2.1 hjd, ih (listed.setIfInBounds j true) a' w' ?_ (ready_mono hr (Ne.symm hji)) h3.1 (h3.2.1 hjd) ?_⟩) h2
    · intro k ok hk hki hun hno; refine hfree k ok hk hki ?_ hno; by_cases hjk : j = k
      · subst hjk; exact hjun
      · rw [getD_set_ne true hjk] at hun; exact hun
    · rw [Array.setIfInBounds_comm _ _ hji]; exact h3.2.2
def Pend (P : Program) (ops : Array Oper) (Q : Exit → Act → World → Prop) (S : World → Prop) (d : Nat) (n : Nat) (listed : Array Bool) (l : List (Nat × Oper)) (a : Act) (w : World) : Prop :=
 Free Q → Region.noSelect ops = true → (∀ x ∈ l, ops[x.1]? = some x.2) → S w → Any P ops Q S d n listed a w
theorem pend_stable {n i : Nat} {o : Oper} {listed : Array Bool} {r : List (Nat × Oper)} {a : Act} {w : World}
 (hf : (Region.free .any ops listed i && (Region.ready .any ops listed).contains i && Waits ops d i && !(i == d)) = true)
 (h : ∀ K : Act → Prop, (∀ a, Pend P ops Q S d n (listed.setIfInBounds i true) r a w → K a) →
   if Region.wanted o (yielded ops a.tmps) = true then ∃ v, (∀ w', S w' → (execOp a.eval o).run P w' = .ok (.value v) w') ∧ K (a.put o.dst v) else K (a.put o.dst undef)) :
 Pend P ops Q S d (n + 1) listed ((i, o) :: r) a w := by
 intro hQ hs hm hS; simp only [Bool.and_eq_true, Bool.not_eq_true', beq_eq_false_iff_ne, ne_eq] at hf; obtain ⟨⟨⟨hf, hr⟩, hwt⟩, hid⟩ := hf; have ho : ops[i]? = some o := hm (i, o) (by simp); have h' := h (fun a' => Pend P ops Q S d n (listed.setIfInBounds i true) r a' w) (fun _ h => h); have go := fun v hy h2 => any_first (P := P) (Q := Q) (S := S) (v := v) ho (Region.noSelect_spec hs) hQ hwt hid n listed a w (Region.free_spec ho hf) (by simpa using hr) hy hS h2
 by_cases hw : Region.wanted o (yielded ops a.tmps) = true
 · rw [if_pos hw] at h'; obtain ⟨v, h1, h2⟩ := h'; exact go v (.inl ⟨hw, h1⟩) (h2 hQ hs (fun x hx => hm x (List.mem_cons_of_mem _ hx)) hS)
 · rw [if_neg hw] at h'; exact go undef (.inr ⟨by simpa using hw, rfl⟩) (h' hQ hs (fun x hx => hm x (List.mem_cons_of_mem _ hx)) hS)
theorem pend_alone {n i : Nat} {o : Oper} {listed : Array Bool} {a : Act} {w : World} (ho : ops[i]? = some o) (hr : Region.ready .any ops listed = [i]) (K : Act → World → Prop)
 (hK : ∀ a w, K a w → (i ≠ d → S w) ∧ Any P ops Q S d n (listed.setIfInBounds i true) a w)
 (h : if Region.wanted o (yielded ops a.tmps) = true then o.wp P a w K Q else K (a.put o.dst undef) w) : Any P ops Q S d (n + 1) listed a w := by
 refine ⟨fun h0 => (by rw [h0] at hr; cases hr), fun j hj => ?_⟩; rw [hr, List.mem_singleton] at hj; subst hj; unfold wpOp; simp only [ho]; by_cases hw : Region.wanted o (yielded ops a.tmps) = true
 · rw [if_pos hw] at h ⊢; exact .inl (Oper.wp_mono hK h)
 · rw [if_neg hw] at h ⊢; exact hK _ _ h
theorem pend_active {n i : Nat} {o : Oper} {listed : Array Bool} {r : List (Nat × Oper)} {a : Act} {w : World}
 (hr : Region.ready .any ops listed = [i])
 (h : ∀ K : Act → World → Prop, Shut (∀ a w, S w → Pend P ops Q S d n (listed.setIfInBounds i true) r a w → K a w) →
   if Region.wanted o (yielded ops a.tmps) = true then o.wp P a w K Q else K (a.put o.dst undef) w) :
 Pend P ops Q S d (n + 1) listed ((i, o) :: r) a w := by
 intro hQ hs hm hS; exact pend_alone (hm (i, o) (by simp)) hr (fun a w => S w ∧ Any P ops Q S d n (listed.setIfInBounds i true) a w) (fun a w h => ⟨fun _ => h.1, h.2⟩)
  (h _ (fun a' w' h1 h2 => ⟨h1, h2 hQ hs (fun x hx => hm x (List.mem_cons_of_mem _ hx)) h1⟩))
theorem pend_last {n i : Nat} {o : Oper} {listed : Array Bool} {a : Act} {w : World}
 (hr : Region.ready .any ops listed = [i]) (hd : (i == d) = true) (he : Region.ready .any ops (listed.setIfInBounds i true) = [])
 (h : ∀ K : Act → World → Prop, Shut (∀ a w, Q .normal a w → K a w) →
   if Region.wanted o (yielded ops a.tmps) = true then o.wp P a w K Q else K (a.put o.dst undef) w) :
 Pend P ops Q S d (n + 1) listed [(i, o)] a w := by
 intro hQ hs hm hS; refine pend_alone (hm (i, o) (by simp)) hr (fun a w => Q .normal a w) (fun a w h => ⟨fun h0 => absurd (by simpa using hd) h0, ?_⟩) (h _ (fun a' w' h1 => h1)); cases n with
 | zero => exact ⟨he, h⟩
 | succ n => exact ⟨fun _ => h, by rw [he]; simp⟩
theorem pend_done {n : Nat} {listed : Array Bool} {r : List (Nat × Oper)} {a : Act} {w : World} (hr : Region.ready .any ops listed = []) (h : Q .normal a w) : Pend P ops Q S d n listed r a w :=
 fun _ _ _ _ => by
  cases n with
  | zero => exact ⟨hr, h⟩
  | succ n => exact ⟨fun _ => h, by rw [hr]; simp⟩
theorem wp_region_pend (S : World → Prop) (d : Nat) {id : Nat} {l : List Oper} {a : Act} {w : World} (hm : P.follows .mixedOrders = true) (hs : Region.noSelect l.toArray = true) (hQ : Free Q) (hS : S w.drew)
 (h : Pend P l.toArray Q S d l.length (Array.replicate l.length false) (num 0 l) a w.drew) : (Code.region id l.toArray true).wp P Q a w :=
 wp_region_any hm (Any.plain _ _ _ _ (by
  have := h hQ hs (fun x hx => by simpa using (num_get l 0 x hx).2) hS; simpa using this))
end
end Go.Proofs.YtmfabihndpidnaaGreatDoor
namespace Go.Proofs.YtmfabihndpidnaaGreatDoor
open Go Go.RowKit
set_option linter.unusedVariables false
section
variable {P : Program} {ops : Array Oper} {Q : Exit → Act → World → Prop} {S : World → Prop} {d : Nat}
def Pen (P : Program) (ops : Array Oper) (Q : Exit → Act → World → Prop) (S : World → Prop) (d : Nat) (n : Nat) (listed : Array Bool) (a : Act) (w : World) : Prop :=
 Free Q → Region.noSelect ops = true → S w → Any P ops Q S d n listed a w
theorem pen_stable (i : Nat) {n : Nat} {o : Oper} {listed : Array Bool} {a : Act} {w : World} (ho : ops[i]? = some o)
 (hf : (Region.free .any ops listed i && (Region.ready .any ops listed).contains i && Waits ops d i && !(i == d)) = true)
 (h : ∀ K : Act → Prop, (∀ a, Pen P ops Q S d n (listed.setIfInBounds i true) a w → K a) →
   if Region.wanted o (yielded ops a.tmps) = true then ∃ v, (∀ w', S w' → (execOp a.eval o).run P w' = .ok (.value v) w') ∧ K (a.put o.dst v) else K (a.put o.dst undef)) :
 Pen P ops Q S d (n + 1) listed a w := by
 intro hQ hs hS; simp only [Bool.and_eq_true, Bool.not_eq_true', beq_eq_false_iff_ne, ne_eq] at hf; obtain ⟨⟨⟨hf, hr⟩, hwt⟩, hid⟩ := hf; have h' := h (fun a' => Pen P ops Q S d n (listed.setIfInBounds i true) a' w) (fun _ h => h); have go := fun v hy h2 => any_first (P := P) (Q := Q) (S := S) (v := v) ho (Region.noSelect_spec hs) hQ hwt hid n listed a w (Region.free_spec ho hf) (by simpa using hr) hy hS h2
 by_cases hw : Region.wanted o (yielded ops a.tmps) = true
 · rw [if_pos hw] at h'; obtain ⟨v, h1, h2⟩ := h'; exact go v (.inl ⟨hw, h1⟩) (h2 hQ hs hS)
 · rw [if_neg hw] at h'; exact go undef (.inr ⟨by simpa using hw, rfl⟩) (h' hQ hs hS)
theorem pen_op {n i : Nat} {o : Oper} {listed : Array Bool} {a : Act} {w : World} (ho : ops[i]? = some o) (K : Act → World → Prop)
 (hK : ∀ a w, K a w → (i ≠ d → S w) ∧ Any P ops Q S d n (listed.setIfInBounds i true) a w)
 (h : if Region.wanted o (yielded ops a.tmps) = true then o.wp P a w K Q else K (a.put o.dst undef) w) :
 wpOp P ops Q i (fun a' w' => (i ≠ d → S w') ∧ Any P ops Q S d n (listed.setIfInBounds i true) a' w') a w := by
 unfold wpOp; simp only [ho]; by_cases hw : Region.wanted o (yielded ops a.tmps) = true
 · rw [if_pos hw] at h ⊢; exact .inl (Oper.wp_mono hK h)
 · rw [if_neg hw] at h ⊢; exact hK _ _ h
theorem pen_active (i : Nat) {n : Nat} {o : Oper} {listed : Array Bool} {a : Act} {w : World} (ho : ops[i]? = some o)
 (hr : Region.ready .any ops listed = [i])
 (h : ∀ K : Act → World → Prop, Shut (∀ a w, S w → Pen P ops Q S d n (listed.setIfInBounds i true) a w → K a w) →
   if Region.wanted o (yielded ops a.tmps) = true then o.wp P a w K Q else K (a.put o.dst undef) w) :
 Pen P ops Q S d (n + 1) listed a w := by
 intro hQ hs hS; exact pend_alone ho hr (fun a w => S w ∧ Any P ops Q S d n (listed.setIfInBounds i true) a w) (fun a w h => ⟨fun _ => h.1, h.2⟩)
  (h _ (fun a' w' h1 h2 => ⟨h1, h2 hQ hs h1⟩))
theorem pen_two (i j : Nat) {n : Nat} {oi oj : Oper} {listed : Array Bool} {a : Act} {w : World} (hi : ops[i]? = some oi) (hj : ops[j]? = some oj)
 (hr : Region.ready .any ops listed = [i, j])
 (h1 : ∀ K : Act → World → Prop, Shut (∀ a w, S w → Pen P ops Q S d n (listed.setIfInBounds i true) a w → K a w) →
   if Region.wanted oi (yielded ops a.tmps) = true then oi.wp P a w K Q else K (a.put oi.dst undef) w)
 (h2 : ∀ K : Act → World → Prop, Shut (∀ a w, S w → Pen P ops Q S d n (listed.setIfInBounds j true) a w → K a w) →
   if Region.wanted oj (yielded ops a.tmps) = true then oj.wp P a w K Q else K (a.put oj.dst undef) w) :
 Pen P ops Q S d (n + 1) listed a w := by
 intro hQ hs hS; refine ⟨fun h0 => (by rw [h0] at hr; cases hr), fun k hk => ?_⟩; rw [hr] at hk; simp only [List.mem_cons, List.not_mem_nil, or_false] at hk; rcases hk with rfl | rfl
 · exact pen_op hi (fun a w => S w ∧ Any P ops Q S d n (listed.setIfInBounds k true) a w) (fun a w h => ⟨fun _ => h.1, h.2⟩) (h1 _ (fun a' w' h1 h2 => ⟨h1, h2 hQ hs h1⟩))
 · exact pen_op hj (fun a w => S w ∧ Any P ops Q S d n (listed.setIfInBounds k true) a w) (fun a w h => ⟨fun _ => h.1, h.2⟩) (h2 _ (fun a' w' h1 h2 => ⟨h1, h2 hQ hs h1⟩))
theorem pen_three (i j k : Nat) {n : Nat} {oi oj ok : Oper} {listed : Array Bool} {a : Act} {w : World} (hi : ops[i]? = some oi) (hj : ops[j]? = some oj) (hk : ops[k]? = some ok)
 (hr : Region.ready .any ops listed = [i, j, k])
 (h1 : ∀ K : Act → World → Prop, Shut (∀ a w, S w → Pen P ops Q S d n (listed.setIfInBounds i true) a w → K a w) →
   if Region.wanted oi (yielded ops a.tmps) = true then oi.wp P a w K Q else K (a.put oi.dst undef) w)
 (h2 : ∀ K : Act → World → Prop, Shut (∀ a w, S w → Pen P ops Q S d n (listed.setIfInBounds j true) a w → K a w) →
   if Region.wanted oj (yielded ops a.tmps) = true then oj.wp P a w K Q else K (a.put oj.dst undef) w)
 (h3 : ∀ K : Act → World → Prop, Shut (∀ a w, S w → Pen P ops Q S d n (listed.setIfInBounds k true) a w → K a w) →
   if Region.wanted ok (yielded ops a.tmps) = true then ok.wp P a w K Q else K (a.put ok.dst undef) w) :
 Pen P ops Q S d (n + 1) listed a w := by
 intro hQ hs hS; refine ⟨fun h0 => (by rw [h0] at hr; cases hr), fun l hl => ?_⟩; rw [hr] at hl; simp only [List.mem_cons, List.not_mem_nil, or_false] at hl; rcases hl with rfl | rfl | rfl
 · exact pen_op hi (fun a w => S w ∧ Any P ops Q S d n (listed.setIfInBounds l true) a w) (fun a w h => ⟨fun _ => h.1, h.2⟩) (h1 _ (fun a' w' h1 h2 => ⟨h1, h2 hQ hs h1⟩))
 · exact pen_op hj (fun a w => S w ∧ Any P ops Q S d n (listed.setIfInBounds l true) a w) (fun a w h => ⟨fun _ => h.1, h.2⟩) (h2 _ (fun a' w' h1 h2 => ⟨h1, h2 hQ hs h1⟩))
 · exact pen_op hk (fun a w => S w ∧ Any P ops Q S d n (listed.setIfInBounds l true) a w) (fun a w h => ⟨fun _ => h.1, h.2⟩) (h3 _ (fun a' w' h1 h2 => ⟨h1, h2 hQ hs h1⟩))
theorem pen_last (i : Nat) {n : Nat} {o : Oper} {listed : Array Bool} {a : Act} {w : World} (ho : ops[i]? = some o)
 (hr : Region.ready .any ops listed = [i]) (hd : (i == d) = true) (he : Region.ready .any ops (listed.setIfInBounds i true) = [])
 (h : ∀ K : Act → World → Prop, Shut (∀ a w, Q .normal a w → K a w) →
   if Region.wanted o (yielded ops a.tmps) = true then o.wp P a w K Q else K (a.put o.dst undef) w) :
 Pen P ops Q S d (n + 1) listed a w := by
 intro hQ hs hS; refine pend_alone ho hr (fun a w => Q .normal a w) (fun a w h => ⟨fun h0 => absurd (by simpa using hd) h0, ?_⟩) (h _ (fun a' w' h1 => h1)); cases n with
 | zero => exact ⟨he, h⟩
 | succ n => exact ⟨fun _ => h, by rw [he]; simp⟩
theorem pen_done {n : Nat} {listed : Array Bool} {a : Act} {w : World} (hr : Region.ready .any ops listed = []) (h : Q .normal a w) : Pen P ops Q S d n listed a w :=
 fun _ _ _ => by
  cases n with
  | zero => exact ⟨hr, h⟩
  | succ n => exact ⟨fun _ => h, by rw [hr]; simp⟩
theorem wp_region_pen (S : World → Prop) (d : Nat) {id : Nat} {l : List Oper} {a : Act} {w : World} (hm : P.follows .mixedOrders = true) (hs : Region.noSelect l.toArray = true) (hQ : Free Q) (hS : S w.drew)
 (h : Pen P l.toArray Q S d l.length (Array.replicate l.length false) a w.drew) : (Code.region id l.toArray true).wp P Q a w :=
 wp_region_any hm (Any.plain _ _ _ _ (by
  have := h hQ hs hS; simpa using this))
end
end Go.Proofs.YtmfabihndpidnaaGreatDoor
namespace Go.Proofs.YtmfabihndpidnaaGreatDoor
open Go Go.RowKit
set_option linter.unusedVariables false
section
variable {P : Program} {ops : Array Oper} {Q : Exit → Act → World → Prop} {S : World → Prop} {d : Nat}
def FreeIn (ops : Array Oper) (Q : Exit → Act → World → Prop) : Prop := ∀ (i : Nat) (o : Oper), ops[i]? = some o → ∀ c a v w, Q (.panic c) (Act.put a o.dst v) w → Q (.panic c) a w
theorem any_firstD {i : Nat} {oi : Oper} {v : Value} (hi : ops[i]? = some oi) (hsel : ∀ (j : Nat) (o : Oper) cs b, ops[j]? = some o → o.op ≠ .select cs b) (hQ : ∀ c a v w, Q (.panic c) (Act.put a oi.dst v) w → Q (.panic c) a w) (hwt : Waits ops d i = true) (hid : i ≠ d) :
 ∀ (n : Nat) (listed : Array Bool) (a : Act) (w : World),
  (∀ j oj, ops[j]? = some oj → j ≠ i → listed.getD j true = false → (∀ e ∈ oj.after, Region.binds .any e = true → e.on ≠ i) → oi.apart ops oj = true) →
  i ∈ Region.ready .any ops listed → YieldsIf P ops S oi v a → S w →
  Any P ops Q S d n (listed.setIfInBounds i true) (a.put oi.dst v) w → Any P ops Q S d (n + 1) listed a w := by
 intro n; induction n with
 | zero =>
  intro listed a w _ hr hy hS H; refine ⟨fun h => (by rw [h] at hr; cases hr), fun j hj => ?_⟩; by_cases hji : j = i
  · subst hji; exact hy.wpOp hi hS ⟨fun _ => hS, H⟩
  · have := ready_mono hj hji; rw [H.1] at this; cases this
 | succ n ih =>
  intro listed a w hfree hr hy hS H; have hpend : listed.getD i true = false := (mem_ready.1 hr).1; have hpend' : listed.getD i false = false := by
   rcases Nat.lt_or_ge i listed.size with h' | h'
   · simp [h'] at hpend ⊢; exact hpend
   · simp [Array.getElem?_eq_none h'] at hpend
  refine ⟨fun h => (by rw [h] at hr; cases hr), fun j hj => ?_⟩; by_cases hji : j = i
  · subst hji; exact hy.wpOp hi hS ⟨fun _ => hS, H⟩
  · have hjd : j ≠ d := fun e => (Waits.not_ready hwt hpend') (e ▸ hj)
    have h1 := H.2 j (ready_mono hj hji); obtain ⟨hjun, oj, hoj, hall⟩ := mem_ready.1 hj; have hnot : ∀ e ∈ oj.after, Region.binds .any e = true → e.on ≠ i := fun e he hb heq => by
     have h1 := hall e he hb; rw [heq, hpend'] at h1; cases h1
    have h2 := wpOp_putIf hoj (hfree j oj hoj hji hjun hnot) (fun cs b => hsel i oi cs b hi) (fun cs b => hsel j oj cs b hoj) (fun c a w h => hQ c a _ w h) hy h1; refine wpOp_mono (fun a' w' h3 => ⟨fun _ => h3.2.1 hjd, ih (listed.setIfInBounds j true) a' w' ?_ (ready_mono hr (Ne.symm hji)) h3.1 (h3.2.1 hjd) ?_⟩) h2
    · intro k ok hk hki hun hno; refine hfree k ok hk hki ?_ hno; by_cases hjk : j = k
      · subst hjk; exact hjun
      · rw [getD_set_ne true hjk] at hun; exact hun
    · rw [Array.setIfInBounds_comm _ _ hji]; exact h3.2.2
def PenD (P : Program) (ops : Array Oper) (Q : Exit → Act → World → Prop) (S : World → Prop) (d : Nat) (n : Nat) (listed : Array Bool) (a : Act) (w : World) : Prop :=
 FreeIn ops Q → Region.noSelect ops = true → S w → Any P ops Q S d n listed a w
theorem pen_stableD (i : Nat) {n : Nat} {o : Oper} {listed : Array Bool} {a : Act} {w : World} (ho : ops[i]? = some o)
 (hf : (Region.free .any ops listed i && (Region.ready .any ops listed).contains i && Waits ops d i && !(i == d)) = true)
 (h : ∀ K : Act → Prop, (∀ a, PenD P ops Q S d n (listed.setIfInBounds i true) a w → K a) →
   if Region.wanted o (yielded ops a.tmps) = true then ∃ v, (∀ w', S w' → (execOp a.eval o).run P w' = .ok (.value v) w') ∧ K (a.put o.dst v) else K (a.put o.dst undef)) :
 PenD P ops Q S d (n + 1) listed a w := by
 intro hQ hs hS; simp only [Bool.and_eq_true, Bool.not_eq_true', beq_eq_false_iff_ne, ne_eq] at hf; obtain ⟨⟨⟨hf, hr⟩, hwt⟩, hid⟩ := hf; have h' := h (fun a' => PenD P ops Q S d n (listed.setIfInBounds i true) a' w) (fun _ h => h); have go := fun v hy h2 => any_firstD (P := P) (Q := Q) (S := S) (v := v) ho (Region.noSelect_spec hs) (hQ i o ho) hwt hid n listed a w (Region.free_spec ho hf) (by simpa using hr) hy hS h2
 by_cases hw : Region.wanted o (yielded ops a.tmps) = true
 · rw [if_pos hw] at h'; obtain ⟨v, h1, h2⟩ := h'; exact go v (.inl ⟨hw, h1⟩) (h2 hQ hs hS)
 · rw [if_neg hw] at h'; exact go undef (.inr ⟨by simpa using hw, rfl⟩) (h' hQ hs hS)
theorem pen_activeD (i : Nat) {n : Nat} {o : Oper} {listed : Array Bool} {a : Act} {w : World} (ho : ops[i]? = some o)
 (hr : Region.ready .any ops listed = [i])
 (h : ∀ K : Act → World → Prop, Shut (∀ a w, S w → PenD P ops Q S d n (listed.setIfInBounds i true) a w → K a w) →
   if Region.wanted o (yielded ops a.tmps) = true then o.wp P a w K Q else K (a.put o.dst undef) w) :
 PenD P ops Q S d (n + 1) listed a w := by
 intro hQ hs hS; exact pend_alone ho hr (fun a w => S w ∧ Any P ops Q S d n (listed.setIfInBounds i true) a w) (fun a w h => ⟨fun _ => h.1, h.2⟩)
  (h _ (fun a' w' h1 h2 => ⟨h1, h2 hQ hs h1⟩))
theorem pen_lastD (i : Nat) {n : Nat} {o : Oper} {listed : Array Bool} {a : Act} {w : World} (ho : ops[i]? = some o)
 (hr : Region.ready .any ops listed = [i]) (hd : (i == d) = true) (he : Region.ready .any ops (listed.setIfInBounds i true) = [])
 (h : ∀ K : Act → World → Prop, Shut (∀ a w, Q .normal a w → K a w) →
   if Region.wanted o (yielded ops a.tmps) = true then o.wp P a w K Q else K (a.put o.dst undef) w) :
 PenD P ops Q S d (n + 1) listed a w := by
 intro hQ hs hS; refine pend_alone ho hr (fun a w => Q .normal a w) (fun a w h => ⟨fun h0 => absurd (by simpa using hd) h0, ?_⟩) (h _ (fun a' w' h1 => h1)); cases n with
 | zero => exact ⟨he, h⟩
 | succ n => exact ⟨fun _ => h, by rw [he]; simp⟩
theorem wp_region_penD (S : World → Prop) (d : Nat) {id : Nat} {l : List Oper} {a : Act} {w : World} (hm : P.follows .mixedOrders = true) (hs : Region.noSelect l.toArray = true) (hQ : FreeIn l.toArray Q) (hS : S w.drew)
 (h : PenD P l.toArray Q S d l.length (Array.replicate l.length false) a w.drew) : (Code.region id l.toArray true).wp P Q a w :=
 wp_region_any hm (Any.plain _ _ _ _ (by
  have := h hQ hs hS; simpa using this))
end
theorem leaves_same {P : Program} {fn : Func} {R : Ending → World → Prop} {a b : Array Value} (hr : results fn a = results fn b) : ∀ (ds : List Deferred) (u : FrameMode) (w : World), Leaves P fn a R ds u w → Leaves P fn b R ds u w
 | [], .returning, w, ⟨v, h1, h2⟩ => ⟨v, by rw [← hr]; exact h1, h2⟩
 | [], .panicking _, w, h => h
 | [], .run, w, h => h
 | d :: ds, u, w, ⟨h0, fv, cap, f, args, h1, h2, h3⟩ => ⟨h0, fv, cap, f, args, h1, h2, h3.mono fun e u' w' hl => by
  cases e with
  | returned v => exact leaves_same hr ds _ w' hl
  | panicked c => exact leaves_same hr ds _ w' hl
  | outgrown => exact hl⟩
theorem results_put {fn : Func} {t1 t2 : TypeId} (hres : fn.results = #[.cell 2 t1, .cell 3 t2]) {ops : Array Oper} (h : ops.toList.all (fun o => o.dst != some 2 && o.dst != some 3) = true) {i : Nat} {o : Oper} (ho : ops[i]? = some o) (a : Act) (v : Value) :
 results fn (Act.put a o.dst v).tmps = results fn a.tmps := by
 have h1 := List.all_eq_true.1 h o (by simpa using Array.mem_of_getElem? ho); simp only [Bool.and_eq_true, bne_iff_ne, ne_eq] at h1; cases hd : o.dst with
 | none => rfl
 | some q =>
  rw [hd] at h1; have h2 : ¬ q = 2 := fun e => h1.1 (by rw [e])
  have h3 : ¬ q = 3 := fun e => h1.2 (by rw [e])
  have e2 : (Act.put a (some q) v).tmps[2]? = a.tmps[2]? := by simp [Act.put, h2]
  have e3 : (Act.put a (some q) v).tmps[3]? = a.tmps[3]? := by simp [Act.put, h3]
  simp [results, hres, e2, e3]
theorem leaves_put {P : Program} {fn : Func} {R : Ending → World → Prop} {t1 t2 : TypeId} (hres : fn.results = #[.cell 2 t1, .cell 3 t2]) {ops : Array Oper} (h : ops.toList.all (fun o => o.dst != some 2 && o.dst != some 3) = true) {i : Nat} {o : Oper} (ho : ops[i]? = some o) (a : Act) (v : Value) (u : FrameMode) (w : World)
 (hl : Leaves P fn (Act.put a o.dst v).tmps R (Act.put a o.dst v).defers u w) : Leaves P fn a.tmps R a.defers u w := by
 rw [show (Act.put a o.dst v).defers = a.defers by cases o.dst <;> rfl] at hl; exact leaves_same (results_put hres h ho a v) _ _ _ hl
end Go.Proofs.YtmfabihndpidnaaGreatDoor
namespace Go.Proofs.YtmfabihndpidnaaGreatDoor
open Go Go.RowKit
set_option linter.unusedVariables false
section
variable {P : Program} {ops : Array Oper} {Q : Exit → Act → World → Prop} {S : World → Prop} {d : Nat}
def PenL (P : Program) (ops : Array Oper) (Q : Exit → Act → World → Prop) (S : World → Prop) (d : Nat) (n : Nat) (listed : Array Bool) (l : List Nat) (a : Act) (w : World) : Prop := Pen P ops Q S d n listed a w
theorem pen_list (l : List Nat) {n : Nat} {listed : Array Bool} {a : Act} {w : World} (h : PenL P ops Q S d n listed l a w) : Pen P ops Q S d n listed a w := h
theorem penl_end {n : Nat} {listed : Array Bool} {a : Act} {w : World} (h : Pen P ops Q S d n listed a w) : PenL P ops Q S d n listed [] a w := h
theorem penl_stable {i : Nat} {r : List Nat} {n : Nat} {o : Oper} {listed : Array Bool} {a : Act} {w : World} (ho : ops[i]? = some o)
 (hf : (Region.free .any ops listed i && (Region.ready .any ops listed).contains i && Waits ops d i && !(i == d)) = true)
 (h : ∀ K : Act → Prop, (∀ a, PenL P ops Q S d n (listed.setIfInBounds i true) r a w → K a) →
   if Region.wanted o (yielded ops a.tmps) = true then ∃ v, (∀ w', S w' → (execOp a.eval o).run P w' = .ok (.value v) w') ∧ K (a.put o.dst v) else K (a.put o.dst undef)) :
 PenL P ops Q S d (n + 1) listed (i :: r) a w := pen_stable i ho hf h
theorem penl_active {i : Nat} {r : List Nat} {n : Nat} {o : Oper} {listed : Array Bool} {a : Act} {w : World} (ho : ops[i]? = some o)
 (hr : Region.ready .any ops listed = [i])
 (h : ∀ K : Act → World → Prop, Shut (∀ a w, S w → PenL P ops Q S d n (listed.setIfInBounds i true) r a w → K a w) →
   if Region.wanted o (yielded ops a.tmps) = true then o.wp P a w K Q else K (a.put o.dst undef) w) :
 PenL P ops Q S d (n + 1) listed (i :: r) a w := pen_active i ho hr h
theorem penl_done {n : Nat} {listed : Array Bool} {l : List Nat} {a : Act} {w : World} (hr : Region.ready .any ops listed = []) (h : Q .normal a w) : PenL P ops Q S d n listed l a w := pen_done hr h
theorem wp_region_penl (S : World → Prop) (d : Nat) (o : List Nat) {id : Nat} {l : List Oper} {a : Act} {w : World} (hm : P.follows .mixedOrders = true) (hs : Region.noSelect l.toArray = true) (hQ : Free Q) (hS : S w.drew)
 (h : PenL P l.toArray Q S d l.length (Array.replicate l.length false) o a w.drew) : (Code.region id l.toArray true).wp P Q a w := wp_region_pen S d hm hs hQ hS h
end
end Go.Proofs.YtmfabihndpidnaaGreatDoor
