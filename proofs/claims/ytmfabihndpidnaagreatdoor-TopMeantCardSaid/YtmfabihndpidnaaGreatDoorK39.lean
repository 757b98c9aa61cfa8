/-
  Plain Lean: how large terms are as they are made. Plain Lean: no fault of an expression over bytes, or of a term, has the number 0.
-/
import Derived.Test.YtmfabihndpidnaaGreatDoorK36
import Derived.Test.YtmfabihndpidnaaGreatDoorK02
import Derived.Test.YtmfabihndpidnaaGreatDoorK27
namespace Go.Proofs.YtmfabihndpidnaaGreatDoor
set_option linter.unusedVariables false
def Rl.fit (r : Rl) : Prop := r.size = min r.nd.size 2001
theorem Rl.fit_leaf (n : Nd) (h : n.size = 1) : (Rl.leaf n).fit := by simp [Rl.fit, Rl.leaf, h]
theorem Rl.fit_join {a b : Rl} (ha : a.fit) (hb : b.fit) (f : Nd → Nd → Nd) (hf : ∀ x y, (f x y).size = 1 + x.size + y.size) : (a.join b f).fit := by
 simp only [Rl.fit, Rl.join, hf, capped] at *; omega
theorem Rl.fit_star {a : Rl} (ha : a.fit) : a.star.fit := by
 simp only [Rl.fit, Rl.star, Nd.size, capped] at *; omega
theorem Rl.fit_maybe {a : Rl} (ha : a.fit) : a.maybe.fit := Rl.fit_join ha (Rl.fit_leaf _ rfl) _ (fun _ _ => rfl)
theorem Rl.fit_more {a : Rl} (ha : a.fit) : ∀ (k : Nat) (out : Rl), out.fit → (a.more k out).fit
 | 0, out, h => h
 | k + 1, out, h => Rl.fit_more ha k _ (Rl.fit_join h ha _ (fun _ _ => rfl))
theorem Rl.fit_maybes {a : Rl} (ha : a.fit) : ∀ (k : Nat) (out : Rl), out.fit → (a.maybes k out).fit
 | 0, out, h => h
 | k + 1, out, h => Rl.fit_maybes ha k _ (Rl.fit_join h (Rl.fit_maybe ha) _ (fun _ _ => rfl))
theorem Rl.fit_times {a : Rl} (ha : a.fit) (m : Nat) (n : Int) : (a.times m n).fit := by
 have hb : (if m = 0 then a.maybe else a).fit := by
  split
  · exact Rl.fit_maybe ha
  · exact ha
 unfold Rl.times; split
 · exact Rl.fit_star ha
 · split
   · exact Rl.fit_leaf _ rfl
   · split
     · exact Rl.fit_join (Rl.fit_more ha _ _ hb) (Rl.fit_star ha) _ (fun _ _ => rfl)
     · exact Rl.fit_maybes ha _ _ (Rl.fit_more ha _ _ hb)
theorem rxBraces_fit {l : Bs} {a : Rl} (ha : a.fit) {p q : Nat} {b : Rl} (h : rxBraces l a p = .ok (b, q)) : b.fit := by
 unfold rxBraces at h; split at h
 · cases h
 · split at h
   · cases h
   · split at h
     · split at h
       · cases h
       · cases h; exact Rl.fit_times ha _ _
     · cases h
theorem rxReps_fit {l : Bs} : ∀ (k : Nat) {a : Rl} (ha : a.fit) {p q : Nat} {b : Rl}, rxReps l k a p = .ok (b, q) → b.fit
 | 0, a, ha, p, q, b, h => by simp [rxReps] at h
 | k + 1, a, ha, p, q, b, h => by
  unfold rxReps at h; split at h
  · exact rxReps_fit k (Rl.fit_star ha) h
  · split at h
    · exact rxReps_fit k (Rl.fit_join ha (Rl.fit_star ha) _ (fun _ _ => rfl)) h
    · split at h
      · exact rxReps_fit k (Rl.fit_maybe ha) h
      · split at h
        · split at h
          · cases h
          · rename_i b' q' hb; exact rxReps_fit k (rxBraces_fit ha hb) h
        · cases h; exact ha
theorem rx_fit (l : Bs) (n : Nat) :
 (∀ op p r q, rxAlts l n op p = .ok (r, q) → r.fit) ∧ (∀ op x p r q, x.fit → rxAltsL l n op x p = .ok (r, q) → r.fit) ∧
 (∀ op p r q, rxMeets l n op p = .ok (r, q) → r.fit) ∧ (∀ op x p r q, x.fit → rxMeetsL l n op x p = .ok (r, q) → r.fit) ∧
 (∀ op p r q, rxRow l n op p = .ok (r, q) → r.fit) ∧ (∀ op any x p r q, x.fit → rxRowL l n op any x p = .ok (r, q) → r.fit) ∧
 (∀ op p r q, rxAtom l n op p = .ok (r, q) → r.fit) := by
 induction n with
 | zero =>
  refine ⟨?_, ?_, ?_, ?_, ?_, ?_, ?_⟩
  · intro op p r q h; simp [rxAlts] at h
  · intro op x p r q _ h; simp [rxAltsL] at h
  · intro op p r q h; simp [rxMeets] at h
  · intro op x p r q _ h; simp [rxMeetsL] at h
  · intro op p r q h; simp [rxRow] at h
  · intro op any x p r q _ h; simp [rxRowL] at h
  · intro op p r q h; simp [rxAtom] at h
 | succ n ih =>
  obtain ⟨i1, i2, i3, i4, i5, i6, i7⟩ := ih; refine ⟨?_, ?_, ?_, ?_, ?_, ?_, ?_⟩
  · intro op p r q h; rw [rxAlts] at h; split at h
    · cases h
    · rename_i x y hx; exact i2 _ _ _ _ _ (i3 _ _ _ _ hx) h
  · intro op x p r q hx h; rw [rxAltsL] at h; split at h
    · split at h
      · cases h
      · rename_i y z hy; exact i2 _ _ _ _ _ (Rl.fit_join hx (i3 _ _ _ _ hy) _ (fun _ _ => rfl)) h
    · cases h; exact hx
  · intro op p r q h; rw [rxMeets] at h; split at h
    · cases h
    · rename_i x y hx; exact i4 _ _ _ _ _ (i5 _ _ _ _ hx) h
  · intro op x p r q hx h; rw [rxMeetsL] at h; split at h
    · split at h
      · cases h
      · rename_i y z hy; exact i4 _ _ _ _ _ (Rl.fit_join hx (i5 _ _ _ _ hy) _ (fun _ _ => rfl)) h
    · split at h
      · split at h
        · cases h
        · rename_i y z hy; exact i4 _ _ _ _ _ (Rl.fit_join hx (i5 _ _ _ _ hy) _ (fun _ _ => rfl)) h
      · cases h; exact hx
  · intro op p r q h; rw [rxRow] at h; exact i6 _ _ _ _ _ _ (Rl.fit_leaf _ rfl) h
  · intro op any x p r q hx h; rw [rxRowL] at h; split at h
    · cases h; exact hx
    · split at h
      · cases h; exact hx
      · split at h
        · cases h
        · split at h
          · cases h
          · rename_i y z hy; split at h
            · cases h
            · rename_i y2 z2 hy2; refine i6 _ _ _ _ _ _ ?_ h; have h3 := rxReps_fit _ (i7 _ _ _ _ hy) hy2; split
              · exact Rl.fit_join hx h3 _ (fun _ _ => rfl)
              · exact h3
  · intro op p r q h; rw [rxAtom] at h; split at h
    · split at h
      · cases h
      · split at h
        · cases h
        · rename_i y z hy; split at h
          · cases h
          · cases h; exact i1 _ _ _ _ hy
    · split at h
      · cases h
      · cases h; exact Rl.fit_leaf _ rfl
theorem rxParse_size {l : Bs} {n : Nd} (h : rxParse l = .ok n) : n.size ≤ 2000 := by
 unfold rxParse at h; split at h
 · cases h
 · split at h
   · cases h
   · rename_i r q hr; split at h
     · cases h
     · split at h
       · cases h
       · cases h; have := (rx_fit l _).1 _ _ _ _ hr; unfold Rl.fit at this; omega
def Tm.good (t : Tm) : Prop := t.small ∧ t.txt ∧ t.size ≤ 300000
theorem textSize_le (s : Bs) : textSize s ≤ 2 * s.length + 1 := by unfold textSize; omega
theorem textL_size : ∀ (l : Bs) (n : Nd), (n.textL l).size = n.size + 2 * l.length
 | [], n => rfl
 | c :: l, n => by
  rw [Nd.textL, textL_size l]; simp only [Nd.size, List.length_cons]; omega
theorem text_size (s : Bs) : (Nd.text s).size ≤ 2 * s.length + 1 := by
 cases s with
 | nil => simp [Nd.text, Nd.size]
 | cons c l =>
  rw [Nd.text, textL_size]; simp only [Nd.size, List.length_cons]; omega
theorem node_size {t : Tm} {n : Nd} (h : t.node? = some n) (g : t.good) : n.size ≤ 300000 := by
 cases t with
 | text p s =>
  simp only [Tm.node?, Option.some.injEq] at h; subst h; have := text_size s; have : s.length ≤ 100000 := g.1; omega
 | rx p m =>
  simp only [Tm.node?, Option.some.injEq] at h; subst h; exact g.2.2
 | canon c => simp [Tm.node?] at h
 | lens c => simp [Tm.node?] at h
def Tm.fair (t : Tm) : Prop := t.small ∧ t.txt ∧ t.size ≤ 1000000
theorem Tm.good.fair {t : Tm} (h : t.good) : t.fair := ⟨h.1, h.2.1, by have := h.2.2; omega⟩
theorem chk_good {t u : Tm} (h : t.fair) (hc : chk t = .ok u) : u.good := by
 unfold chk at hc; split at hc
 · cases hc
 · cases hc; exact ⟨h.1, h.2.1, by omega⟩
theorem andThen_ok {α β : Type} {x : Except Nat α} {f : α → Except Nat β} {b : β} (h : andThen x f = .ok b) : ∃ a, x = .ok a ∧ f a = .ok b := by
 cases x with
 | error e => cases h
 | ok a => exact ⟨a, rfl, h⟩
theorem needNode_ok {t : Tm} {n : Nd} (h : needNode t = .ok n) : t.node? = some n := by
 unfold needNode at h; split at h
 · cases h; assumption
 · cases h
theorem needText_ok {t : Tm} {n : Bs} (h : needText t = .ok n) : ∃ p, t = .text p n := by
 unfold needText at h; split at h
 · cases h; rename_i h2; cases t <;> simp [Tm.text?] at h2
   subst h2; exact ⟨_, rfl⟩
 · cases h
theorem needCanon_ok {t : Tm} {n : Cn} (h : needCanon t = .ok n) : t = .canon n := by
 unfold needCanon at h; split at h
 · cases h; rename_i h2; cases t <;> simp [Tm.canon?] at h2
   subst h2; rfl
 · cases h
theorem needLens_ok {t : Tm} {n : Ln} (h : needLens t = .ok n) : t = .lens n := by
 unfold needLens at h; split at h
 · cases h; rename_i h2; cases t <;> simp [Tm.lens?] at h2
   subst h2; rfl
 · cases h
theorem mkUnary_fair {p : Nat} {op : Bs} {t u : Tm} (g : t.good) (h : mkUnary p op t = .ok u) : u.fair := by
 unfold mkUnary at h; split at h
 · rename_i n hn; cases h; have := node_size hn g; refine ⟨trivial, trivial, ?_⟩; simp only [Tm.size]; split
   · simp only [Nd.size]; omega
   · split <;> (simp only [Nd.size]; omega)
 · split at h
   · split at h
     · cases h; have := g.2.2; simp only [Tm.size] at this; exact ⟨trivial, g.2.1, by simp only [Tm.size, Cn.size]; omega⟩
     · cases h
   · cases h; have h3 := g.2.2; have h2 := g.2.1; simp only [Tm.size, Tm.txt] at h3 h2; refine ⟨trivial, ?_, ?_⟩
     · simp only [Tm.txt]; split
       · exact h2
       · split
         · exact ⟨h2, h2⟩
         · exact ⟨h2, trivial⟩
     · simp only [Tm.size]; split
       · simp only [Ln.size]; omega
       · split <;> (simp only [Ln.size, Nd.size]; omega)
   · cases h
theorem rxOp_size {op : Bs} {x y n : Nd} (h : rxOp op x y = some n) : n.size = 1 + x.size + y.size := by
 unfold rxOp at h; split at h
 · cases h; rfl
 · split at h
   · cases h; rfl
   · split at h
     · cases h; rfl
     · split at h
       · cases h; rfl
       · cases h
theorem mkBinary_fair {p : Nat} {op : Bs} {a b u : Tm} (ga : a.good) (gb : b.good) (h : mkBinary p op a b = .ok u) : u.fair := by
 unfold mkBinary at h; split at h
 · rename_i x y hx hy; have := node_size hx ga; have := node_size hy gb; split at h
   · rename_i n hn; cases h; exact ⟨trivial, trivial, by simp only [Tm.size, rxOp_size hn]; omega⟩
   · cases h
 · split at h
   · split at h
     · cases h; have h1 := ga.2.2; have h2 := gb.2.2; simp only [Tm.size] at h1 h2; exact ⟨trivial, ⟨ga.2.1, gb.2.1⟩, by simp only [Tm.size, Ln.size]; omega⟩
     · cases h
   · have h1 := ga.2.2; have h2 := gb.2.2; simp only [Tm.size] at h1 h2; split at h
     · cases h; exact ⟨trivial, ⟨ga.2.1, gb.2.1⟩, by simp only [Tm.size, Cn.size]; omega⟩
     · split at h
       · cases h; exact ⟨trivial, ⟨ga.2.1, gb.2.1⟩, by simp only [Tm.size, Cn.size]; omega⟩
       · cases h
   · cases h
theorem mkCall1_fair {p : Nat} {wd : Bs} {a u : Tm} (ga : a.good) (h : mkCall1 p wd a = .ok u) : u.fair := by
 unfold mkCall1 at h; split at h
 · obtain ⟨n, h1, h2⟩ := andThen_ok h; cases h2; have := node_size (needNode_ok h1) ga; exact ⟨trivial, trivial, by simp only [Tm.size, Cn.size]; omega⟩
 · split at h
   · obtain ⟨n, h1, h2⟩ := andThen_ok h; cases h2; have := node_size (needNode_ok h1) ga; exact ⟨trivial, trivial, by simp only [Tm.size, Cn.size]; omega⟩
   · split at h
     · obtain ⟨n, h1, h2⟩ := andThen_ok h; cases h2; obtain ⟨q, rfl⟩ := needText_ok h1; have h3 : n.length ≤ 100000 := ga.1; have := textSize_le n; exact ⟨trivial, h3, by simp only [Tm.size, Ln.size]; omega⟩
     · split at h
       · obtain ⟨n, h1, h2⟩ := andThen_ok h; cases h2; have := node_size (needNode_ok h1) ga; exact ⟨trivial, trivial, by simp only [Tm.size, Ln.size]; omega⟩
       · obtain ⟨n, h1, h2⟩ := andThen_ok h; cases h2; have := node_size (needNode_ok h1) ga; exact ⟨trivial, trivial, by simp only [Tm.size, Ln.size]; omega⟩
theorem mkCall2_fair {p : Nat} {wd : Bs} {a b u : Tm} (ga : a.good) (gb : b.good) (h : mkCall2 p wd a b = .ok u) : u.fair := by
 unfold mkCall2 at h; split at h
 · obtain ⟨n, h1, h⟩ := andThen_ok h; obtain ⟨t, h2, h⟩ := andThen_ok h; cases h; obtain ⟨q, rfl⟩ := needText_ok h2; have h3 : t.length ≤ 100000 := gb.1; have := node_size (needNode_ok h1) ga; exact ⟨trivial, h3, by simp only [Tm.size, Ln.size]; omega⟩
 · split at h
   · obtain ⟨n, h1, h⟩ := andThen_ok h; obtain ⟨t, h2, h⟩ := andThen_ok h; cases h; obtain rfl := needCanon_ok h1; obtain rfl := needLens_ok h2; have h1 := ga.2.2; have h2 := gb.2.2; simp only [Tm.size] at h1 h2; exact ⟨trivial, ⟨ga.2.1, gb.2.1⟩, by simp only [Tm.size, Ln.size]; omega⟩
   · split at h
     · obtain ⟨n, h1, h⟩ := andThen_ok h; obtain ⟨t, h2, h⟩ := andThen_ok h; cases h; obtain rfl := needLens_ok h1; obtain rfl := needCanon_ok h2; have h1 := ga.2.2; have h2 := gb.2.2; simp only [Tm.size] at h1 h2; exact ⟨trivial, ⟨gb.2.1, ga.2.1⟩, by simp only [Tm.size, Ln.size]; omega⟩
     · obtain ⟨n, h1, h⟩ := andThen_ok h; obtain ⟨t, h2, h⟩ := andThen_ok h; cases h; obtain rfl := needLens_ok h1; obtain ⟨q, rfl⟩ := needText_ok h2; have h3 : t.length ≤ 100000 := gb.1; have h1 := ga.2.2; simp only [Tm.size] at h1; exact ⟨trivial, ⟨ga.2.1, h3⟩, by simp only [Tm.size, Ln.size]; omega⟩
theorem mkCall3_fair {p : Nat} {a b c u : Tm} (ga : a.good) (gb : b.good) (gc : c.good) (h : mkCall3 p a b c = .ok u) : u.fair := by
 unfold mkCall3 at h; obtain ⟨n, h1, h⟩ := andThen_ok h; obtain ⟨t, h2, h⟩ := andThen_ok h; obtain ⟨v, h3, h⟩ := andThen_ok h; cases h; obtain ⟨q, rfl⟩ := needText_ok h2; obtain ⟨q', rfl⟩ := needText_ok h3; have h4 : t.length ≤ 100000 := gb.1; have h5 : v.length ≤ 100000 := gc.1; have := node_size (needNode_ok h1) ga; have := textSize_le t; exact ⟨trivial, ⟨h4, h5⟩, by simp only [Tm.size, Cn.size]; omega⟩
def Ex.trim : Ex → Prop
 | .name _ s => s.length ≤ 100000
 | .text _ s => s.length ≤ 100000
 | .rx _ s => s.length ≤ 100000
 | .call1 _ _ a => a.trim
 | .call2 _ _ a b => a.trim ∧ b.trim
 | .call3 _ _ a b c => a.trim ∧ b.trim ∧ c.trim
 | .keyed _ a => a.trim
 | .unary _ _ a => a.trim
 | .binary _ _ a b => a.trim ∧ b.trim
def Env.good (env : Env) : Prop := ∀ s t, env.get s = some t → t.good
theorem mk_good {env : Env} (he : env.good) : ∀ {x : Ex} (hx : x.trim) {t : Tm}, mk env x = .ok t → t.good := by
 intro x; induction x with
 | name p s =>
  intro hx t h; simp only [mk] at h; split at h
  · cases h; exact he s _ (by assumption)
  · cases h
 | text p s =>
  intro hx t h; cases h; have := textSize_le s; have hx : s.length ≤ 100000 := hx; exact ⟨hx, hx, by simp only [Tm.size]; omega⟩
 | rx p s =>
  intro hx t h; obtain ⟨n, h1, h2⟩ := andThen_ok h; cases h2; have := rxParse_size h1; exact ⟨trivial, trivial, by simp only [Tm.size]; omega⟩
 | call1 p wd a iha =>
  intro hx t h; obtain ⟨y, h1, h⟩ := andThen_ok h; obtain ⟨z, h2, h⟩ := andThen_ok h; exact chk_good (mkCall1_fair (iha hx h1) h2) h
 | call2 p wd a b iha ihb =>
  intro hx t h; obtain ⟨y, h1, h⟩ := andThen_ok h; obtain ⟨y2, h3, h⟩ := andThen_ok h; obtain ⟨z, h2, h⟩ := andThen_ok h; exact chk_good (mkCall2_fair (iha hx.1 h1) (ihb hx.2 h3) h2) h
 | call3 p wd a b c iha ihb ihc =>
  intro hx t h; obtain ⟨y, h1, h⟩ := andThen_ok h; obtain ⟨y2, h3, h⟩ := andThen_ok h; obtain ⟨y3, h4, h⟩ := andThen_ok h; obtain ⟨z, h2, h⟩ := andThen_ok h; exact chk_good (mkCall3_fair (iha hx.1 h1) (ihb hx.2.1 h3) (ihc hx.2.2 h4) h2) h
 | keyed p a iha =>
  intro hx t h; obtain ⟨y, h1, h⟩ := andThen_ok h; obtain ⟨z, h2, h⟩ := andThen_ok h; obtain rfl := needLens_ok h2; have g := iha hx h1; have h3 := g.2.2; simp only [Tm.size] at h3; exact chk_good (t := .lens (.keyed p z)) ⟨trivial, g.2.1, (by simp only [Tm.size, Ln.size]; omega)⟩ h
 | unary p op a iha =>
  intro hx t h; obtain ⟨y, h1, h⟩ := andThen_ok h; obtain ⟨z, h2, h⟩ := andThen_ok h; exact chk_good (mkUnary_fair (iha hx h1) h2) h
 | binary p op a b iha ihb =>
  intro hx t h; obtain ⟨y, h1, h⟩ := andThen_ok h; obtain ⟨y2, h3, h⟩ := andThen_ok h; obtain ⟨z, h2, h⟩ := andThen_ok h; exact chk_good (mkBinary_fair (iha hx.1 h1) (ihb hx.2 h3) h2) h
end Go.Proofs.YtmfabihndpidnaaGreatDoor
namespace Go.Proofs.YtmfabihndpidnaaGreatDoor
set_option linter.unusedVariables false
theorem rxNumber_err {l : Bs} {p c : Nat} (h : rxNumber l p = .error c) : c ≠ 0 := by
 unfold rxNumber at h; split at h
 · cases h; decide
 · cases h
theorem rxUpper_err {l : Bs} {m q c : Nat} (h : rxUpper l m q = .error c) : c ≠ 0 := by
 unfold rxUpper at h; split at h
 · split at h
   · cases h
   · split at h
     · cases h; exact rxNumber_err (by assumption)
     · cases h
 · cases h
theorem rxBraces_err {l : Bs} {a : Rl} {p c : Nat} (h : rxBraces l a p = .error c) : c ≠ 0 := by
 unfold rxBraces at h; split at h
 · cases h; exact rxNumber_err (by assumption)
 · split at h
   · cases h; exact rxUpper_err (by assumption)
   · split at h
     · split at h
       · cases h; decide
       · cases h
     · cases h; decide
theorem rxReps_err {l : Bs} : ∀ (k : Nat) {a : Rl} {p c : Nat}, rxReps l k a p = .error c → c ≠ 0
 | 0, a, p, c, h => by
  simp [rxReps] at h; omega
 | k + 1, a, p, c, h => by
  unfold rxReps at h; split at h
  · exact rxReps_err k h
  · split at h
    · exact rxReps_err k h
    · split at h
      · exact rxReps_err k h
      · split at h
        · split at h
          · cases h; exact rxBraces_err (by assumption)
          · exact rxReps_err k h
        · cases h
theorem rx_err (l : Bs) (n : Nat) :
 (∀ op p c, rxAlts l n op p = .error c → c ≠ 0) ∧ (∀ op x p c, rxAltsL l n op x p = .error c → c ≠ 0) ∧
 (∀ op p c, rxMeets l n op p = .error c → c ≠ 0) ∧ (∀ op x p c, rxMeetsL l n op x p = .error c → c ≠ 0) ∧
 (∀ op p c, rxRow l n op p = .error c → c ≠ 0) ∧ (∀ op any x p c, rxRowL l n op any x p = .error c → c ≠ 0) ∧
 (∀ op p c, rxAtom l n op p = .error c → c ≠ 0) := by
 induction n with
 | zero =>
  refine ⟨?_, ?_, ?_, ?_, ?_, ?_, ?_⟩
  · intro op p r h; simp [rxAlts] at h; omega
  · intro op x p r h; simp [rxAltsL] at h; omega
  · intro op p r h; simp [rxMeets] at h; omega
  · intro op x p r h; simp [rxMeetsL] at h; omega
  · intro op p r h; simp [rxRow] at h; omega
  · intro op any x p r h; simp [rxRowL] at h; omega
  · intro op p r h; simp [rxAtom] at h; omega
 | succ n ih =>
  obtain ⟨i1, i2, i3, i4, i5, i6, i7⟩ := ih; refine ⟨?_, ?_, ?_, ?_, ?_, ?_, ?_⟩
  · intro op p c h; rw [rxAlts] at h; split at h
    · cases h; exact i3 _ _ _ (by assumption)
    · exact i2 _ _ _ _ h
  · intro op x p c h; rw [rxAltsL] at h; split at h
    · split at h
      · cases h; exact i3 _ _ _ (by assumption)
      · exact i2 _ _ _ _ h
    · cases h
  · intro op p c h; rw [rxMeets] at h; split at h
    · cases h; exact i5 _ _ _ (by assumption)
    · exact i4 _ _ _ _ h
  · intro op x p c h; rw [rxMeetsL] at h; split at h
    · split at h
      · cases h; exact i5 _ _ _ (by assumption)
      · exact i4 _ _ _ _ h
    · split at h
      · split at h
        · cases h; exact i5 _ _ _ (by assumption)
        · exact i4 _ _ _ _ h
      · cases h
  · intro op p c h; rw [rxRow] at h; exact i6 _ _ _ _ _ h
  · intro op any x p c h; rw [rxRowL] at h; split at h
    · cases h
    · split at h
      · cases h
      · split at h
        · cases h; decide
        · split at h
          · cases h; exact i7 _ _ _ (by assumption)
          · split at h
            · cases h; exact rxReps_err _ (by assumption)
            · exact i6 _ _ _ _ _ h
  · intro op p c h; rw [rxAtom] at h; split at h
    · split at h
      · cases h; decide
      · split at h
        · cases h; exact i1 _ _ _ (by assumption)
        · split at h
          · cases h; decide
          · cases h
    · split at h
      · cases h; rename_i f hf; rw [rdItem_code hf]; decide
      · cases h
theorem rxParse_err {l : Bs} {c : Nat} (h : rxParse l = .error c) : c ≠ 0 := by
 unfold rxParse at h; split at h
 · cases h; decide
 · split at h
   · cases h; exact (rx_err l _).1 _ _ _ (by assumption)
   · split at h
     · cases h; decide
     · split at h
       · cases h; decide
       · cases h
theorem andThen_err {α β : Type} {x : Except Nat α} {f : α → Except Nat β} {c : Nat} (h : andThen x f = .error c) : x = .error c ∨ ∃ a, x = .ok a ∧ f a = .error c := by
 cases x with
 | error e => exact .inl (by simpa [andThen] using h)
 | ok a => exact .inr ⟨a, rfl, h⟩
theorem needNode_err {t : Tm} {c : Nat} (h : needNode t = .error c) : c ≠ 0 := by
 unfold needNode at h; split at h <;> cases h; decide
theorem needText_err {t : Tm} {c : Nat} (h : needText t = .error c) : c ≠ 0 := by
 unfold needText at h; split at h <;> cases h; decide
theorem needCanon_err {t : Tm} {c : Nat} (h : needCanon t = .error c) : c ≠ 0 := by
 unfold needCanon at h; split at h <;> cases h; decide
theorem needLens_err {t : Tm} {c : Nat} (h : needLens t = .error c) : c ≠ 0 := by
 unfold needLens at h; split at h <;> cases h; decide
theorem chk_err {t : Tm} {c : Nat} (h : chk t = .error c) : c ≠ 0 := by
 unfold chk at h; split at h <;> cases h; decide
theorem mkUnary_err {p : Nat} {op : Bs} {t : Tm} {c : Nat} (h : mkUnary p op t = .error c) : c ≠ 0 := by
 unfold mkUnary at h; repeat' split at h
 all_goals (cases h; try decide)
theorem mkBinary_err {p : Nat} {op : Bs} {a b : Tm} {c : Nat} (h : mkBinary p op a b = .error c) : c ≠ 0 := by
 unfold mkBinary at h; repeat' split at h
 all_goals (cases h; try decide)
theorem mkCall1_err {p : Nat} {op : Bs} {a : Tm} {c : Nat} (h : mkCall1 p op a = .error c) : c ≠ 0 := by
 unfold mkCall1 at h; repeat' split at h
 all_goals (rcases andThen_err h with h | ⟨_, _, h⟩)
 all_goals first | exact needNode_err h | exact needText_err h | cases h
theorem mkCall2_err {p : Nat} {op : Bs} {a b : Tm} {c : Nat} (h : mkCall2 p op a b = .error c) : c ≠ 0 := by
 unfold mkCall2 at h; repeat' split at h
 all_goals (rcases andThen_err h with h | ⟨_, _, h⟩)
 all_goals first | exact needNode_err h | exact needText_err h | exact needCanon_err h | exact needLens_err h | skip
 all_goals (rcases andThen_err h with h | ⟨_, _, h⟩)
 all_goals first | exact needNode_err h | exact needText_err h | exact needCanon_err h | exact needLens_err h | cases h
theorem mkCall3_err {p : Nat} {a b d : Tm} {c : Nat} (h : mkCall3 p a b d = .error c) : c ≠ 0 := by
 unfold mkCall3 at h; rcases andThen_err h with h | ⟨_, _, h⟩
 · exact needNode_err h
 · rcases andThen_err h with h | ⟨_, _, h⟩
   · exact needText_err h
   · rcases andThen_err h with h | ⟨_, _, h⟩
     · exact needText_err h
     · cases h
theorem mk_err {env : Env} : ∀ {x : Ex} {c : Nat}, mk env x = .error c → c ≠ 0 := by
 intro x; induction x with
 | name p s =>
  intro c h; simp only [mk] at h; split at h <;> cases h
  decide
 | text p s => intro c h; cases h
 | rx p s =>
  intro c h; rcases andThen_err h with h | ⟨_, _, h⟩
  · exact rxParse_err h
  · cases h
 | call1 p wd a iha =>
  intro c h; rcases andThen_err h with h | ⟨_, _, h⟩
  · exact iha h
  · rcases andThen_err h with h | ⟨_, _, h⟩
    · exact mkCall1_err h
    · exact chk_err h
 | call2 p wd a b iha ihb =>
  intro c h; rcases andThen_err h with h | ⟨_, _, h⟩
  · exact iha h
  · rcases andThen_err h with h | ⟨_, _, h⟩
    · exact ihb h
    · rcases andThen_err h with h | ⟨_, _, h⟩
      · exact mkCall2_err h
      · exact chk_err h
 | call3 p wd a b d iha ihb ihd =>
  intro c h; rcases andThen_err h with h | ⟨_, _, h⟩
  · exact iha h
  · rcases andThen_err h with h | ⟨_, _, h⟩
    · exact ihb h
    · rcases andThen_err h with h | ⟨_, _, h⟩
      · exact ihd h
      · rcases andThen_err h with h | ⟨_, _, h⟩
        · exact mkCall3_err h
        · exact chk_err h
 | keyed p a iha =>
  intro c h; rcases andThen_err h with h | ⟨_, _, h⟩
  · exact iha h
  · rcases andThen_err h with h | ⟨_, _, h⟩
    · exact needLens_err h
    · exact chk_err h
 | unary p op a iha =>
  intro c h; rcases andThen_err h with h | ⟨_, _, h⟩
  · exact iha h
  · rcases andThen_err h with h | ⟨_, _, h⟩
    · exact mkUnary_err h
    · exact chk_err h
 | binary p op a b iha ihb =>
  intro c h; rcases andThen_err h with h | ⟨_, _, h⟩
  · exact iha h
  · rcases andThen_err h with h | ⟨_, _, h⟩
    · exact ihb h
    · rcases andThen_err h with h | ⟨_, _, h⟩
      · exact mkBinary_err h
      · exact chk_err h
theorem mkDefs_err : ∀ {ds : List Def} {env : Env} {c : Nat}, mkDefs env ds = .error c → c ≠ 0
 | [], env, c, h => by cases h
 | d :: r, env, c, h => by
  rw [mkDefs] at h; split at h
  · cases h; decide
  · rcases andThen_err h with h | ⟨_, _, h⟩
    · exact mk_err h
    · exact mkDefs_err h
theorem elabT_err {p : Prog} {c : Nat} (h : elabT p = .error c) : c ≠ 0 := by
 rcases andThen_err h with h | ⟨_, _, h⟩
 · exact mkDefs_err h
 · exact mk_err h
end Go.Proofs.YtmfabihndpidnaaGreatDoor
