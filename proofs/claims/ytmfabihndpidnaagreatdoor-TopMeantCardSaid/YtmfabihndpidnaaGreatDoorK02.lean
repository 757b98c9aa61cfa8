/-
  Plain Lean, no program: tokens, the scanner of lens texts, expressions, the parser and the printer, as the given text computes them. Plain Lean: what the parser leaves of its tokens. Plain Lean: the parser's bound on its rounds: more of it turns no answer; so much of it as twelve for each token is enough. Plain Lean: what tokens a scan gives. Plain Lean: the numbers of the faults that a scan and the parser give: none is 0. Plain Lean: expressions as the parser makes them. Plain Lean: the tokens of a printed text. Plain Lean: the parser reads the tokens of a printed program as the program, but for places.
-/
namespace Go.Proofs.YtmfabihndpidnaaGreatDoor
set_option linter.unusedVariables false
abbrev Bs := List UInt8
structure Flt where
 code : Nat
 pl : Nat
 deriving DecidableEq
structure Tok where
 kind : Nat
 pl : Nat
 text : Bs
 deriving DecidableEq
def letter (c : UInt8) : Bool := c == 95 || (decide (97 ≤ c) && decide (c ≤ 122)) || (decide (65 ≤ c) && decide (c ≤ 90))
def digit (c : UInt8) : Bool := decide (48 ≤ c) && decide (c ≤ 57)
def printable (c : UInt8) : Bool := decide (32 ≤ c) && decide (c ≤ 126)
def nameByte (c : UInt8) : Bool := letter c || digit c
def blank (c : UInt8) : Bool := c == 32 || c == 9 || c == 10 || c == 13
def marksL : Bs := [61, 59, 40, 41, 123, 125, 44, 124, 38, 45, 46, 126, 42, 43, 63]
def isMark (m : Bs) : Prop := m = [62, 62] ∨ ∃ c, c ∈ marksL ∧ m = [c]
def hexDigits : Bs := [48, 49, 50, 51, 52, 53, 54, 55, 56, 57, 97, 98, 99, 100, 101, 102]
def skip : Bool → Bs → Bs
 | _, [] => []
 | true, c :: t => if c == 10 then skip false t else skip true t
 | false, c :: t => if c == 35 then skip true t else if blank c then skip false t else c :: t
def rxEnd (p : Nat) : Nat → Bs → Except Flt Nat
 | _, [] => .error ⟨52, p⟩
 | q, [c] => if !printable c then .error ⟨50, q⟩ else if c == 47 then .ok q else .error ⟨52, p⟩
 | q, c :: d :: t =>
  if c == 92 then (if printable d then rxEnd p (q + 2) t else .error ⟨50, q + 1⟩)
  else if !printable c then .error ⟨50, q⟩
  else if c == 47 then .ok q
  else rxEnd p (q + 1) (d :: t)
def hexv (c : UInt8) : Option Nat := hexDigits.findIdx? (· == c)
inductive Esc where
 | byte (b : UInt8) (q : Nat)
 | bad (q : Nat)
 | ended
def escape (q : Nat) : Bs → Esc
 | [] => .ended
 | d :: t =>
  if d == 110 then .byte 10 (q + 1)
  else if d == 114 then .byte 13 (q + 1)
  else if d == 116 then .byte 9 (q + 1)
  else if d == 34 || d == 92 then .byte d (q + 1)
  else if d == 120 then
   match t with
   | [] => .ended
   | e :: t2 =>
    match hexv e with
    | none => .bad (q + 2)
    | some h =>
     match t2 with
     | [] => .ended
     | f :: _ =>
      match hexv f with
      | none => .bad (q + 3)
      | some l => .byte (UInt8.ofNat (16 * h + l)) (q + 3)
  else .bad (q + 1)
def quoted (p : Nat) : Nat → Nat → Bs → Bs → Except Flt (Bs × Nat)
 | 0, _, _, _ => .error ⟨51, p⟩
 | _ + 1, _, [], _ => .error ⟨51, p⟩
 | n + 1, q, c :: t, acc =>
  if c == 34 then .ok (acc, q + 1)
  else if !printable c then .error ⟨50, q⟩
  else if c != 92 then quoted p n (q + 1) t (acc ++ [c])
  else match escape q t with
   | .ended => .error ⟨51, p⟩
   | .bad q' => .error ⟨50, q'⟩
   | .byte b q' => quoted p n (q' + 1) (t.drop (q' - q)) (acc ++ [b])
def one (p : Nat) (r : Bs) : Except Flt (Tok × Nat) :=
 match r with
 | [] => .error ⟨50, p⟩
 | c :: t =>
  if letter c then
   if 32 < (r.takeWhile nameByte).length then .error ⟨1, p⟩ else .ok (⟨1, p, r.takeWhile nameByte⟩, p + (r.takeWhile nameByte).length)
  else if c == 34 then
   match quoted p (t.length + 1) (p + 1) t [] with
   | .error f => .error f
   | .ok (s, q) => .ok (⟨2, p, s⟩, q)
  else if c == 47 then
   match rxEnd p (p + 1) t with
   | .error f => .error f
   | .ok q => .ok (⟨3, p, t.take (q - (p + 1))⟩, q + 1)
  else if marksL.contains c then .ok (⟨4, p, [c]⟩, p + 1)
  else if [62, 62].isPrefixOf r then .ok (⟨4, p, [62, 62]⟩, p + 2)
  else .error ⟨50, p⟩
def scanAll (l : Bs) : Nat → Bs → List Tok → Except Flt (List Tok)
 | 0, _, acc => .ok acc
 | n + 1, r, acc =>
  match skip false r with
  | [] => .ok (acc ++ [⟨0, l.length, []⟩])
  | c :: t =>
   match one (l.length - (c :: t).length) (c :: t) with
   | .error f => .error f
   | .ok (tk, q) => scanAll l n (l.drop q) (acc ++ [tk])
def scan (l : Bs) : Except Flt (List Tok) := if 4096 < l.length then .error ⟨1, 0⟩ else scanAll l (l.length + 1) l []
inductive Ex where
 | name (p : Nat) (s : Bs)
 | text (p : Nat) (s : Bs)
 | rx (p : Nat) (s : Bs)
 | call1 (p : Nat) (wd : Bs) (a : Ex)
 | call2 (p : Nat) (wd : Bs) (a b : Ex)
 | call3 (p : Nat) (wd : Bs) (a b c : Ex)
 | keyed (p : Nat) (a : Ex)
 | unary (p : Nat) (op : Bs) (a : Ex)
 | binary (p : Nat) (op : Bs) (a b : Ex)
def arity (s : Bs) : Int :=
 if s = [99, 111, 112, 121] ∨ s = [107, 101, 121] ∨ s = [105, 110, 115] ∨ s = [105, 100] ∨ s = [102, 111, 108, 100] then 1
 else if s = [100, 101, 108] ∨ s = [108, 101, 102, 116] ∨ s = [114, 105, 103, 104, 116] ∨ s = [100, 101, 102, 97, 117, 108, 116] then 2
 else if s = [110, 111, 114, 109] then 3
 else if s = [108, 101, 116] then -1
 else 0
def rank (s : Bs) : Int :=
 if s = [124] then 0 else if s = [38] ∨ s = [45] then 1 else if s = [62, 62] then 2 else if s = [126] then 3 else if s = [46] then 4 else -1
abbrev PS := List Tok × Nat
def tkIs (t : Tok) (m : Bs) : Bool := t.kind == 4 && t.text == m
def want (m : Bs) : PS → Except Flt PS
 | ([], _) => .error ⟨60, 0⟩
 | (t :: ts, o) => if tkIs t m then .ok (ts, o) else .error ⟨60, t.pl⟩
def enter (m : Bs) : PS → Except Flt PS
 | ([], _) => .error ⟨60, 0⟩
 | (t :: ts, o) => if tkIs t m then (if 64 ≤ o then .error ⟨23, t.pl⟩ else .ok (ts, o + 1)) else .error ⟨60, t.pl⟩
def leave (m : Bs) (st : PS) : Except Flt PS :=
 match want m st with
 | .error f => .error f
 | .ok (ts, o) => .ok (ts, o - 1)
abbrev M (α : Type) := Option (Except Flt α)
def M.bind {α β : Type} (x : M α) (f : α → M β) : M β :=
 match x with
 | none => none
 | some (.error e) => some (.error e)
 | some (.ok a) => f a
def M.of {α : Type} (x : Except Flt α) : M α := some x
def mkCall (p : Nat) (wd : Bs) : List Ex → Ex
 | [a] => .call1 p wd a
 | [a, b] => .call2 p wd a b
 | [a, b, c] => .call3 p wd a b c
 | _ => .name p wd
mutual
def pExpr : Nat → Nat → PS → M (Ex × PS)
 | 0, _, _ => none
 | n + 1, lv, st => if lv = 5 then pPost n st else M.bind (pExpr n (lv + 1) st) fun x => pLoop n lv x.1 x.2
def pLoop : Nat → Nat → Ex → PS → M (Ex × PS)
 | 0, _, _, _ => none
 | n + 1, lv, a, st =>
  match st with
  | ([], _) => none
  | (t :: ts, o) =>
   if t.kind = 4 ∧ rank t.text = lv then M.bind (pExpr n (lv + 1) (ts, o)) fun x => pLoop n lv (.binary t.pl t.text a x.1) x.2
   else some (.ok (a, (t :: ts, o)))
def pPost : Nat → PS → M (Ex × PS)
 | 0, _ => none
 | n + 1, st => M.bind (pAtom n st) fun x => pPLoop n x.1 x.2
def pPLoop : Nat → Ex → PS → M (Ex × PS)
 | 0, _, _ => none
 | n + 1, a, st =>
  match st with
  | ([], _) => none
  | (t :: ts, o) =>
   if tkIs t [42] || tkIs t [43] || tkIs t [63] then pPLoop n (.unary t.pl t.text a) (ts, o)
   else some (.ok (a, (t :: ts, o)))
def pAtom : Nat → PS → M (Ex × PS)
 | 0, _ => none
 | n + 1, st =>
  match st with
  | ([], _) => none
  | (t :: ts, o) =>
   if t.kind = 2 then some (.ok (.text t.pl t.text, (ts, o)))
   else if t.kind = 3 then some (.ok (.rx t.pl t.text, (ts, o)))
   else if t.kind = 1 ∧ 0 < arity t.text then pCall n (t :: ts, o)
   else if t.kind = 1 ∧ arity t.text = 0 then some (.ok (.name t.pl t.text, (ts, o)))
   else if tkIs t [123] then
    M.bind (M.of (enter [123] (t :: ts, o))) fun s1 => M.bind (pExpr n 0 s1) fun x => M.bind (M.of (leave [125] x.2)) fun s2 => some (.ok (.keyed t.pl x.1, s2))
   else if tkIs t [40] then
    M.bind (M.of (enter [40] (t :: ts, o))) fun s1 => M.bind (pExpr n 0 s1) fun x => M.bind (M.of (leave [41] x.2)) fun s2 => some (.ok (x.1, s2))
   else some (.error ⟨60, t.pl⟩)
def pCall : Nat → PS → M (Ex × PS)
 | 0, _ => none
 | n + 1, st =>
  match st with
  | ([], _) => none
  | (t :: ts, o) =>
   M.bind (M.of (enter [40] (ts, o))) fun s1 => M.bind (pArgs n (arity t.text).toNat [] s1) fun x => M.bind (M.of (leave [41] x.2)) fun s2 =>
    some (.ok (mkCall t.pl t.text x.1, s2))
def pArgs : Nat → Nat → List Ex → PS → M (List Ex × PS)
 | 0, _, _, _ => none
 | n + 1, m, acc, st =>
  match m with
  | 0 => some (.ok (acc, st))
  | m + 1 =>
   M.bind (if acc = [] then some (.ok st) else M.of (want [44] st)) fun s1 => M.bind (pExpr n 0 s1) fun x => pArgs n m (acc ++ [x.1]) x.2
end
structure Def where
 p : Nat
 name : Bs
 body : Ex
structure Prog where
 defs : List Def
 main : Ex
def pDefs : Nat → List Def → PS → M (List Def × PS)
 | 0, _, _ => none
 | n + 1, acc, st =>
  match st with
  | (t :: t2 :: ts, o) =>
   if t.kind = 1 ∧ t.text = [108, 101, 116] then
    if t2.kind ≠ 1 ∨ arity t2.text ≠ 0 then some (.error ⟨60, t2.pl⟩)
    else M.bind (M.of (want [61] (ts, o))) fun s1 => M.bind (pExpr n 0 s1) fun x => M.bind (M.of (want [59] x.2)) fun s2 => pDefs n (acc ++ [⟨t2.pl, t2.text, x.1⟩]) s2
   else some (.ok (acc, st))
  | _ => some (.ok (acc, st))
def program (n : Nat) (st : PS) : M Prog :=
 M.bind (pDefs n [] st) fun d => M.bind (pExpr n 0 d.2) fun x =>
  match x.2 with
  | ([], _) => none
  | (t :: _, _) => if t.kind ≠ 0 then some (.error ⟨60, t.pl⟩) else some (.ok ⟨d.1, x.1⟩)
def hexd (n : Nat) : UInt8 := hexDigits.getD n 48
def quote1 (c : UInt8) : Bs :=
 if c == 34 || c == 92 then [92, c] else if printable c then [c] else if c == 10 then [92, 110] else if c == 13 then [92, 114] else if c == 9 then [92, 116]
 else [92, 120, hexd (c.toNat / 16), hexd (c.toNat % 16)]
def quote (s : Bs) : Bs := 34 :: (s.flatMap quote1 ++ [34])
def Ex.rk : Ex → Int
 | .binary _ op _ _ => rank op
 | .unary _ _ _ => 5
 | _ => 6
def paren (b : Bool) (s : Bs) : Bs := if b then 40 :: (s ++ [41]) else s
def part : Ex → Int → Bs
 | .name _ s, need => paren (decide (6 < need)) s
 | .text _ s, need => paren (decide (6 < need)) (quote s)
 | .rx _ s, need => paren (decide (6 < need)) (47 :: (s ++ [47]))
 | .keyed _ a, need => paren (decide (6 < need)) (123 :: (part a 0 ++ [125]))
 | .unary _ op a, need => paren (decide (5 < need)) (part a 5 ++ op)
 | .binary _ op a b, need => paren (decide (rank op < need)) (part a (rank op) ++ (32 :: (op ++ [32])) ++ part b (rank op + 1))
 | .call1 _ wd a, need => paren (decide (6 < need)) (wd ++ 40 :: (part a 0 ++ [41]))
 | .call2 _ wd a b, need => paren (decide (6 < need)) (wd ++ 40 :: (part a 0 ++ 44 :: 32 :: (part b 0 ++ [41])))
 | .call3 _ wd a b c, need => paren (decide (6 < need)) (wd ++ 40 :: (part a 0 ++ 44 :: 32 :: (part b 0 ++ 44 :: 32 :: (part c 0 ++ [41]))))
def printDef (d : Def) : Bs := [108, 101, 116, 32] ++ d.name ++ [32, 61, 32] ++ part d.body 0 ++ [59, 10]
def print (p : Prog) : Bs := p.defs.flatMap printDef ++ part p.main 0 ++ [10]
end Go.Proofs.YtmfabihndpidnaaGreatDoor
namespace Go.Proofs.YtmfabihndpidnaaGreatDoor
set_option linter.unusedVariables false
def Ends : List Tok → Prop
 | [] => False
 | [t] => t.kind = 0
 | t :: ts => t.kind ≠ 0 ∧ Ends ts
theorem Ends.ne {ts : List Tok} (h : Ends ts) : ts ≠ [] := by intro e; subst e; exact h
theorem Ends.tail {t : Tok} {ts : List Tok} (h : Ends (t :: ts)) (hk : t.kind ≠ 0) : Ends ts := by
 cases ts with
 | nil => exact absurd h hk
 | cons u us => exact h.2
theorem tkIs_kind {t : Tok} {m : Bs} (h : tkIs t m = true) : t.kind ≠ 0 := by
 unfold tkIs at h; simp at h; omega
theorem Ends.kinds {ts : List Tok} (h : Ends ts) : ∃ t r, ts = t :: r := by
 cases ts with
 | nil => exact h.elim
 | cons t r => exact ⟨t, r, rfl⟩
structure Fit (st : PS) : Prop where
 ends : Ends st.1
 marks : ∀ t ∈ st.1, t.kind = 4 → isMark t.text
 op : st.2 ≤ 64
structure Adv (st st' : PS) : Prop where
 op : st'.2 = st.2
 ends : Ends st.1 → Ends st'.1
 mem : ∀ t ∈ st'.1, t ∈ st.1
 len : st'.1.length ≤ st.1.length
theorem Adv.refl (st : PS) : Adv st st := ⟨rfl, id, fun _ h => h, Nat.le_refl _⟩
theorem Adv.trans {a b c : PS} (h : Adv a b) (k : Adv b c) : Adv a c := ⟨k.op.trans h.op, fun e => k.ends (h.ends e), fun t ht => h.mem t (k.mem t ht), Nat.le_trans k.len h.len⟩
theorem Adv.fit {a b : PS} (h : Adv a b) (f : Fit a) : Fit b := ⟨h.ends f.ends, fun t ht => f.marks t (h.mem t ht), by rw [h.op]; exact f.op⟩
theorem Adv.one {t : Tok} {ts : List Tok} {o : Nat} (hk : t.kind ≠ 0) : Adv (t :: ts, o) (ts, o) := ⟨rfl, fun e => e.tail hk, fun _ h => List.mem_cons_of_mem _ h, by simp⟩
theorem want_ok {m : Bs} {t : Tok} {ts : List Tok} {o : Nat} {st : PS} (h : want m (t :: ts, o) = .ok st) : tkIs t m = true ∧ st = (ts, o) := by
 simp only [want] at h; by_cases hb : tkIs t m = true
 · rw [if_pos hb] at h; cases h; exact ⟨hb, rfl⟩
 · rw [if_neg hb] at h; cases h
theorem enter_ok {m : Bs} {t : Tok} {ts : List Tok} {o : Nat} {st : PS} (h : enter m (t :: ts, o) = .ok st) : tkIs t m = true ∧ o < 64 ∧ st = (ts, o + 1) := by
 simp only [enter] at h; by_cases hb : tkIs t m = true
 · rw [if_pos hb] at h; by_cases ho : 64 ≤ o
   · rw [if_pos ho] at h; cases h
   · rw [if_neg ho] at h; cases h; exact ⟨hb, by omega, rfl⟩
 · rw [if_neg hb] at h; cases h
theorem want_adv {m : Bs} {st st' : PS} (h : want m st = .ok st') : Adv st st' ∧ st'.1.length < st.1.length := by
 obtain ⟨ts, o⟩ := st; cases ts with
 | nil => simp [want] at h
 | cons t ts =>
  obtain ⟨hb, rfl⟩ := want_ok h; exact ⟨Adv.one (tkIs_kind hb), by simp⟩
theorem leave_ok {m : Bs} {st st' : PS} (h : leave m st = .ok st') : ∃ s, want m st = .ok s ∧ st' = (s.1, s.2 - 1) := by
 unfold leave at h; cases hw : want m st with
 | error f => rw [hw] at h; cases h
 | ok s => rw [hw] at h; cases h; exact ⟨s, rfl, rfl⟩
theorem brackets {a b : Bs} {st s1 s2 s3 : PS} (h1 : enter a st = .ok s1) (h2 : Adv s1 s2) (h3 : leave b s2 = .ok s3) : Adv st s3 ∧ s3.1.length < st.1.length := by
 obtain ⟨ts, o⟩ := st; cases ts with
 | nil => simp [enter] at h1
 | cons t ts =>
  obtain ⟨hb, ho, rfl⟩ := enter_ok h1; obtain ⟨s, hw, rfl⟩ := leave_ok h3; obtain ⟨hA, hl⟩ := want_adv hw; have := h2.trans hA; refine ⟨⟨by have := this.op; simp at this; simp [this], fun e => this.ends (e.tail (tkIs_kind hb)), fun t ht => List.mem_cons_of_mem _ (this.mem t ht), by have := this.len; simp at this ⊢; omega⟩, by have := this.len; simp at this ⊢; omega⟩
theorem bind_ok {α β : Type} {x : M α} {f : α → M β} {b : β} (h : M.bind x f = some (.ok b)) : ∃ a, x = some (.ok a) ∧ f a = some (.ok b) := by
 unfold M.bind at h; split at h
 · cases h
 · cases h
 · exact ⟨_, rfl, h⟩
theorem of_ok {α : Type} {x : Except Flt α} {b : α} (h : M.of x = some (.ok b)) : x = .ok b := by simpa [M.of] using h
structure AdvAll (n : Nat) : Prop where
 expr : ∀ lv st x st', pExpr n lv st = some (.ok (x, st')) → Adv st st' ∧ st'.1.length < st.1.length
 loop : ∀ lv a st x st', pLoop n lv a st = some (.ok (x, st')) → Adv st st'
 post : ∀ st x st', pPost n st = some (.ok (x, st')) → Adv st st' ∧ st'.1.length < st.1.length
 ploop : ∀ a st x st', pPLoop n a st = some (.ok (x, st')) → Adv st st'
 atom : ∀ st x st', pAtom n st = some (.ok (x, st')) → Adv st st' ∧ st'.1.length < st.1.length
 call : ∀ st x st', (∀ t ts, st.1 = t :: ts → t.kind ≠ 0) → pCall n st = some (.ok (x, st')) → Adv st st' ∧ st'.1.length < st.1.length
 args : ∀ m acc st x st', pArgs n m acc st = some (.ok (x, st')) → Adv st st'
theorem lt_of {a b c : PS} (h : Adv a b ∧ b.1.length < a.1.length) (k : Adv b c) : Adv a c ∧ c.1.length < a.1.length := ⟨h.1.trans k, Nat.lt_of_le_of_lt k.len h.2⟩
theorem advAll (n : Nat) : AdvAll n := by
 induction n with
 | zero =>
  refine ⟨?_, ?_, ?_, ?_, ?_, ?_, ?_⟩ <;> intros <;> simp_all [pExpr, pLoop, pPost, pPLoop, pAtom, pCall, pArgs]
 | succ n ih =>
  refine ⟨?_, ?_, ?_, ?_, ?_, ?_, ?_⟩
  · intro lv st x st' h; rw [pExpr] at h; by_cases hl : lv = 5
    · rw [if_pos hl] at h; exact ih.post _ _ _ h
    · rw [if_neg hl] at h; obtain ⟨⟨a, s1⟩, h1, h2⟩ := bind_ok h; exact lt_of (ih.expr _ _ _ _ h1) (ih.loop _ _ _ _ _ h2)
  · intro lv a st x st' h; obtain ⟨ts, o⟩ := st; cases ts with
    | nil => rw [pLoop] at h; cases h
    | cons t ts =>
     rw [pLoop] at h; by_cases hc : t.kind = 4 ∧ rank t.text = lv
     · rw [if_pos hc] at h; obtain ⟨⟨b, s1⟩, h1, h2⟩ := bind_ok h; exact ((Adv.one (by omega)).trans (ih.expr _ _ _ _ h1).1).trans (ih.loop _ _ _ _ _ h2)
     · rw [if_neg hc] at h; cases h; exact Adv.refl _
  · intro st x st' h; rw [pPost] at h; obtain ⟨⟨a, s1⟩, h1, h2⟩ := bind_ok h; exact lt_of (ih.atom _ _ _ h1) (ih.ploop _ _ _ _ h2)
  · intro a st x st' h; obtain ⟨ts, o⟩ := st; cases ts with
    | nil => rw [pPLoop] at h; cases h
    | cons t ts =>
     rw [pPLoop] at h; by_cases hc : (tkIs t [42] || tkIs t [43] || tkIs t [63]) = true
     · rw [if_pos hc] at h; have hk : t.kind ≠ 0 := by
        simp at hc; rcases hc with (hc | hc) | hc <;> exact tkIs_kind hc
       exact (Adv.one hk).trans (ih.ploop _ _ _ _ h)
     · rw [if_neg hc] at h; cases h; exact Adv.refl _
  · intro st x st' h; obtain ⟨ts, o⟩ := st; cases ts with
    | nil => rw [pAtom] at h; cases h
    | cons t ts =>
     rw [pAtom] at h; by_cases h2 : t.kind = 2
     · rw [if_pos h2] at h; cases h; exact ⟨Adv.one (by omega), by simp⟩
     rw [if_neg h2] at h; by_cases h3 : t.kind = 3
     · rw [if_pos h3] at h; cases h; exact ⟨Adv.one (by omega), by simp⟩
     rw [if_neg h3] at h; by_cases h4 : t.kind = 1 ∧ 0 < arity t.text
     · rw [if_pos h4] at h; exact ih.call _ _ _ (fun t' ts' e => by simp at e; obtain ⟨rfl, rfl⟩ := e; omega) h
     rw [if_neg h4] at h; by_cases h5 : t.kind = 1 ∧ arity t.text = 0
     · rw [if_pos h5] at h; cases h; exact ⟨Adv.one (by omega), by simp⟩
     rw [if_neg h5] at h; by_cases h6 : tkIs t [123] = true
     · rw [if_pos h6] at h; obtain ⟨s1, e1, h⟩ := bind_ok h; obtain ⟨⟨y, s2⟩, e2, h⟩ := bind_ok h; obtain ⟨s3, e3, h⟩ := bind_ok h; cases h; exact brackets (of_ok e1) (ih.expr _ _ _ _ e2).1 (of_ok e3)
     rw [if_neg h6] at h; by_cases h7 : tkIs t [40] = true
     · rw [if_pos h7] at h; obtain ⟨s1, e1, h⟩ := bind_ok h; obtain ⟨⟨y, s2⟩, e2, h⟩ := bind_ok h; obtain ⟨s3, e3, h⟩ := bind_ok h; cases h; exact brackets (of_ok e1) (ih.expr _ _ _ _ e2).1 (of_ok e3)
     rw [if_neg h7] at h; cases h
  · intro st x st' hk h; obtain ⟨ts, o⟩ := st; cases ts with
    | nil => rw [pCall] at h; cases h
    | cons t ts =>
     rw [pCall] at h; obtain ⟨s1, e1, h⟩ := bind_ok h; obtain ⟨⟨y, s2⟩, e2, h⟩ := bind_ok h; obtain ⟨s3, e3, h⟩ := bind_ok h; cases h; have hb := brackets (of_ok e1) (ih.args _ _ _ _ _ e2) (of_ok e3); exact ⟨(Adv.one (hk t ts rfl)).trans hb.1, by have := hb.2; simp at this ⊢; omega⟩
  · intro m acc st x st' h; cases m with
    | zero => rw [pArgs] at h; cases h; exact Adv.refl _
    | succ m =>
     rw [pArgs] at h; obtain ⟨s1, e1, h⟩ := bind_ok h; obtain ⟨⟨y, s2⟩, e2, h⟩ := bind_ok h; have hA : Adv st s1 := by
      by_cases ha : acc = []
      · rw [if_pos ha] at e1; cases e1; exact Adv.refl _
      · rw [if_neg ha] at e1; exact (want_adv (of_ok e1)).1
     exact (hA.trans (ih.expr _ _ _ _ e2).1).trans (ih.args _ _ _ _ _ h)
end Go.Proofs.YtmfabihndpidnaaGreatDoor
namespace Go.Proofs.YtmfabihndpidnaaGreatDoor
set_option linter.unusedVariables false
def LeM {α : Type} (x y : M α) : Prop := ∀ r, x = some r → y = some r
theorem LeM.refl {α : Type} (x : M α) : LeM x x := fun _ h => h
theorem LeM.none {α : Type} (y : M α) : LeM (none : M α) y := fun _ h => by cases h
theorem LeM.ite {α : Type} {c : Prop} [Decidable c] {x y x' y' : M α} (h1 : LeM x x') (h2 : LeM y y') : LeM (if c then x else y) (if c then x' else y') := by
 split <;> assumption
theorem LeM.bind {α β : Type} {x x' : M α} {f f' : α → M β} (h1 : LeM x x') (h2 : ∀ a, LeM (f a) (f' a)) : LeM (M.bind x f) (M.bind x' f') := by
 intro r h; cases x with
 | none => cases h
 | some x =>
  rw [h1 _ rfl]; cases x with
  | error e => exact h
  | ok a => exact h2 a r h
structure MonoAll (n : Nat) : Prop where
 expr : ∀ lv st, LeM (pExpr n lv st) (pExpr (n + 1) lv st)
 loop : ∀ lv a st, LeM (pLoop n lv a st) (pLoop (n + 1) lv a st)
 post : ∀ st, LeM (pPost n st) (pPost (n + 1) st)
 ploop : ∀ a st, LeM (pPLoop n a st) (pPLoop (n + 1) a st)
 atom : ∀ st, LeM (pAtom n st) (pAtom (n + 1) st)
 call : ∀ st, LeM (pCall n st) (pCall (n + 1) st)
 args : ∀ m acc st, LeM (pArgs n m acc st) (pArgs (n + 1) m acc st)
theorem monoAll (n : Nat) : MonoAll n := by
 induction n with
 | zero => refine ⟨?_, ?_, ?_, ?_, ?_, ?_, ?_⟩ <;> intros <;> intro r h <;> simp [pExpr, pLoop, pPost, pPLoop, pAtom, pCall, pArgs] at h
 | succ n ih =>
  refine ⟨?_, ?_, ?_, ?_, ?_, ?_, ?_⟩
  · intro lv st; rw [pExpr, pExpr.eq_def (n + 1 + 1)]; exact LeM.ite (ih.post _) (LeM.bind (ih.expr _ _) fun _ => ih.loop _ _ _)
  · intro lv a st; obtain ⟨ts, o⟩ := st; cases ts with
    | nil => rw [pLoop]; exact LeM.none _
    | cons t ts =>
     rw [pLoop, pLoop.eq_def (n + 1 + 1)]; exact LeM.ite (LeM.bind (ih.expr _ _) fun _ => ih.loop _ _ _) (LeM.refl _)
  · intro st; rw [pPost, pPost.eq_def (n + 1 + 1)]; exact LeM.bind (ih.atom _) fun _ => ih.ploop _ _
  · intro a st; obtain ⟨ts, o⟩ := st; cases ts with
    | nil => rw [pPLoop]; exact LeM.none _
    | cons t ts =>
     rw [pPLoop, pPLoop.eq_def (n + 1 + 1)]; exact LeM.ite (ih.ploop _ _) (LeM.refl _)
  · intro st; obtain ⟨ts, o⟩ := st; cases ts with
    | nil => rw [pAtom]; exact LeM.none _
    | cons t ts =>
     rw [pAtom, pAtom.eq_def (n + 1 + 1)]; refine LeM.ite (LeM.refl _) (LeM.ite (LeM.refl _) (LeM.ite (ih.call _) (LeM.ite (LeM.refl _) (LeM.ite ?_ (LeM.ite ?_ (LeM.refl _))))))
     · exact LeM.bind (LeM.refl _) fun _ => LeM.bind (ih.expr _ _) fun _ => LeM.refl _
     · exact LeM.bind (LeM.refl _) fun _ => LeM.bind (ih.expr _ _) fun _ => LeM.refl _
  · intro st; obtain ⟨ts, o⟩ := st; cases ts with
    | nil => rw [pCall]; exact LeM.none _
    | cons t ts =>
     rw [pCall, pCall.eq_def (n + 1 + 1)]; exact LeM.bind (LeM.refl _) fun _ => LeM.bind (ih.args _ _ _) fun _ => LeM.refl _
  · intro m acc st; cases m with
    | zero => rw [pArgs, pArgs]; exact LeM.refl _
    | succ m =>
     rw [pArgs, pArgs.eq_def (n + 1 + 1)]; exact LeM.bind (LeM.refl _) fun _ => LeM.bind (ih.expr _ _) fun _ => ih.args _ _ _
theorem pDefs_mono : ∀ (n : Nat) (acc : List Def) (st : PS), LeM (pDefs n acc st) (pDefs (n + 1) acc st)
 | 0, _, _ => LeM.none _
 | n + 1, acc, ([], o) => LeM.refl _
 | n + 1, acc, ([t], o) => LeM.refl _
 | n + 1, acc, (t :: t2 :: ts, o) => by
  rw [pDefs, pDefs.eq_def (n + 1 + 1)]; exact LeM.ite (LeM.ite (LeM.refl _) (LeM.bind (LeM.refl _) fun _ => LeM.bind ((monoAll n).expr _ _) fun _ => LeM.bind (LeM.refl _) fun _ => pDefs_mono n _ _)) (LeM.refl _)
theorem program_mono1 (n : Nat) (st : PS) : LeM (program n st) (program (n + 1) st) :=
 LeM.bind (pDefs_mono n _ _) fun _ => LeM.bind ((monoAll n).expr _ _) fun _ => LeM.refl _
theorem program_mono {n m : Nat} (h : n ≤ m) (st : PS) : LeM (program n st) (program m st) := by
 induction m with
 | zero => rw [show n = 0 by omega]; exact LeM.refl _
 | succ m ih =>
  by_cases e : n = m + 1
  · rw [e]; exact LeM.refl _
  · exact fun r hr => program_mono1 m st r (ih (by omega) r hr)
theorem bind_ne {α β : Type} {x : M α} {f : α → M β} (h1 : x ≠ none) (h2 : ∀ a, x = some (.ok a) → f a ≠ none) : M.bind x f ≠ none := by
 cases x with
 | none => exact absurd rfl h1
 | some x =>
  cases x with
  | error e => simp [M.bind]
  | ok a => exact h2 a rfl
structure SomeAll (n : Nat) : Prop where
 expr : ∀ lv st, Ends st.1 → lv ≤ 5 → 12 * st.1.length + 12 ≤ n + lv → pExpr n lv st ≠ none
 loop : ∀ lv a st, Ends st.1 → lv ≤ 4 → 12 * st.1.length + 13 ≤ n → pLoop n lv a st ≠ none
 post : ∀ st, Ends st.1 → 12 * st.1.length + 6 ≤ n → pPost n st ≠ none
 ploop : ∀ a st, Ends st.1 → 12 * st.1.length + 1 ≤ n → pPLoop n a st ≠ none
 atom : ∀ st, Ends st.1 → 12 * st.1.length + 5 ≤ n → pAtom n st ≠ none
 call : ∀ st, Ends st.1 → (∀ t ts, st.1 = t :: ts → t.kind ≠ 0) → 12 * st.1.length + 4 ≤ n → pCall n st ≠ none
 args : ∀ m acc st, Ends st.1 → 12 * st.1.length + 13 ≤ n → pArgs n m acc st ≠ none
theorem someAll (n : Nat) : SomeAll n := by
 induction n with
 | zero => refine ⟨?_, ?_, ?_, ?_, ?_, ?_, ?_⟩ <;> intros <;> omega
 | succ n ih =>
  refine ⟨?_, ?_, ?_, ?_, ?_, ?_, ?_⟩
  · intro lv st he hlv hn; rw [pExpr]; split
    · exact ih.post _ he (by omega)
    · refine bind_ne (ih.expr _ _ he (by omega) (by omega)) fun a ha => ?_
      obtain ⟨x, st'⟩ := a; have := (advAll n).expr _ _ _ _ ha; exact ih.loop _ _ _ (this.1.ends he) (by omega) (by have := this.2; simp only at this ⊢; omega)
  · intro lv a st he hlv hn; obtain ⟨ts, o⟩ := st; cases ts with
    | nil => exact he.elim
    | cons t ts =>
     rw [pLoop]; split
     · rename_i hc; have he' : Ends ts := he.tail (by omega); have hl : 12 * (ts.length + 1) + 13 ≤ n + 1 := hn; refine bind_ne (ih.expr _ _ he' (by omega) (by simp only; omega)) fun a ha => ?_
       obtain ⟨x, st'⟩ := a; have := (advAll n).expr _ _ _ _ ha; exact ih.loop _ _ _ (this.1.ends he') hlv (by have := this.2; simp only at this ⊢; omega)
     · simp
  · intro st he hn; rw [pPost]; refine bind_ne (ih.atom _ he (by omega)) fun a ha => ?_
    obtain ⟨x, st'⟩ := a; have := (advAll n).atom _ _ _ ha; exact ih.ploop _ _ (this.1.ends he) (by have := this.2; simp only at this ⊢; omega)
  · intro a st he hn; obtain ⟨ts, o⟩ := st; cases ts with
    | nil => exact he.elim
    | cons t ts =>
     rw [pPLoop]; split
     · rename_i hc; have hk : t.kind ≠ 0 := by
        simp at hc; rcases hc with (hc | hc) | hc <;> exact tkIs_kind hc
       have hl : 12 * (ts.length + 1) + 1 ≤ n + 1 := hn; exact ih.ploop _ _ (he.tail hk) (by simp only; omega)
     · simp
  · intro st he hn; obtain ⟨ts, o⟩ := st; cases ts with
    | nil => exact he.elim
    | cons t ts =>
     have hl : 12 * (ts.length + 1) + 5 ≤ n + 1 := hn; have hbr : ∀ (a b : Bs) (f : Ex → Ex), M.bind (M.of (enter a (t :: ts, o))) (fun s1 => M.bind (pExpr n 0 s1) fun x => M.bind (M.of (leave b x.2)) fun s2 => some (.ok (f x.1, s2))) ≠ none := by
      intro a b f; refine bind_ne (by simp [M.of]) fun s1 h1 => ?_
      obtain ⟨hb, ho, rfl⟩ := enter_ok (of_ok h1); have he' : Ends ts := he.tail (tkIs_kind hb); refine bind_ne (ih.expr _ _ he' (by omega) (by simp only; omega)) fun x _ => ?_
      exact bind_ne (by simp [M.of]) fun s2 _ => by simp
     rw [pAtom]; split
     · simp
     split
     · simp
     split
     · exact ih.call _ he (fun t' ts' e => by simp at e; obtain ⟨rfl, rfl⟩ := e; omega) (by simp only [List.length_cons]; omega)
     split
     · simp
     split
     · exact hbr _ _ _
     split
     · exact hbr _ _ (fun x => x)
     · simp
  · intro st he hk hn; obtain ⟨ts, o⟩ := st; cases ts with
    | nil => exact he.elim
    | cons t ts =>
     have hl : 12 * (ts.length + 1) + 4 ≤ n + 1 := hn; have he' : Ends ts := he.tail (hk t ts rfl); rw [pCall]; refine bind_ne (by simp [M.of]) fun s1 h1 => ?_
     obtain ⟨t2, ts2, rfl⟩ := he'.kinds; obtain ⟨hb, ho, rfl⟩ := enter_ok (of_ok h1); have hl2 : 12 * (ts2.length + 1 + 1) + 4 ≤ n + 1 := hl; refine bind_ne (ih.args _ _ _ (he'.tail (tkIs_kind hb)) (by simp only; omega)) fun x _ => ?_
     exact bind_ne (by simp [M.of]) fun s2 _ => by simp
  · intro m acc st he hn; cases m with
    | zero => rw [pArgs]; simp
    | succ m =>
     rw [pArgs]; refine bind_ne (by split <;> simp [M.of]) fun s1 h1 => ?_
     have hA : Adv st s1 := by
      split at h1
      · cases h1; exact Adv.refl _
      · exact (want_adv (of_ok h1)).1
     have hl1 := hA.len; refine bind_ne (ih.expr _ _ (hA.ends he) (by omega) (by omega)) fun a ha => ?_
     obtain ⟨x, st'⟩ := a; have := (advAll n).expr _ _ _ _ ha; exact ih.args _ _ _ (this.1.ends (hA.ends he)) (by have := this.2; simp only at this ⊢; omega)
theorem pDefs_some : ∀ (n : Nat) (acc : List Def) (st : PS), Ends st.1 → 12 * st.1.length + 14 ≤ n → pDefs n acc st ≠ none
 | 0, _, _, _, h => by omega
 | n + 1, acc, ([], o), he, h => he.elim
 | n + 1, acc, ([t], o), he, h => by simp [pDefs]
 | n + 1, acc, (t :: t2 :: ts, o), he, h => by
  have hl : 12 * (ts.length + 1 + 1) + 14 ≤ n + 1 := h; rw [pDefs]; split
  · rename_i hc; split
    · simp
    · rename_i hd; have hk2 : t2.kind ≠ 0 := by
       intro e; exact hd (.inl (by omega))
      have he' : Ends ts := (he.tail (by omega)).tail hk2; refine bind_ne (by simp [M.of]) fun s1 h1 => ?_
      have hA := (want_adv (of_ok h1)).1; have hl1 : s1.1.length ≤ ts.length := hA.len; refine bind_ne ((someAll n).expr _ _ (hA.ends he') (by omega) (by omega)) fun a ha => ?_
      obtain ⟨x, st'⟩ := a; have hB := (advAll n).expr _ _ _ _ ha; have hlb : st'.1.length ≤ s1.1.length := hB.1.len; refine bind_ne (by simp [M.of]) fun s2 h2 => ?_
      have hC := (want_adv (of_ok h2)).1; have hlc : s2.1.length ≤ st'.1.length := hC.len; exact pDefs_some n _ _ (hC.ends (hB.1.ends (hA.ends he'))) (by omega)
  · simp
theorem pDefs_adv : ∀ (n : Nat) (acc : List Def) (st : PS) (x : List Def) (st' : PS), pDefs n acc st = some (.ok (x, st')) → Adv st st'
 | 0, _, _, _, _, h => by cases h
 | n + 1, acc, ([], o), _, _, h => by simp [pDefs] at h; obtain ⟨_, rfl⟩ := h; exact Adv.refl _
 | n + 1, acc, ([t], o), _, _, h => by simp [pDefs] at h; obtain ⟨_, rfl⟩ := h; exact Adv.refl _
 | n + 1, acc, (t :: t2 :: ts, o), x, st', h => by
  rw [pDefs] at h; split at h
  · rename_i hc; split at h
    · cases h
    · rename_i hd; have hk2 : t2.kind ≠ 0 := by
       intro e; exact hd (.inl (by omega))
      obtain ⟨s1, e1, h⟩ := bind_ok h; obtain ⟨⟨y, s2⟩, e2, h⟩ := bind_ok h; obtain ⟨s3, e3, h⟩ := bind_ok h; exact (((((Adv.one (by omega)).trans (Adv.one hk2)).trans (want_adv (of_ok e1)).1).trans ((advAll n).expr _ _ _ _ e2).1).trans (want_adv (of_ok e3)).1).trans (pDefs_adv n _ _ _ _ h)
  · cases h; exact Adv.refl _
theorem program_some (n : Nat) (st : PS) (he : Ends st.1) (h : 12 * st.1.length + 14 ≤ n) : program n st ≠ none := by
 unfold program; refine bind_ne (pDefs_some n _ _ he h) fun a ha => ?_
 obtain ⟨x, st'⟩ := a; have hA := pDefs_adv _ _ _ _ _ ha; have hl := hA.len; refine bind_ne ((someAll n).expr _ _ (hA.ends he) (by omega) (by simp only at hl ⊢; omega)) fun b hb => ?_
 obtain ⟨y, ts, o⟩ := b; have hB := ((advAll n).expr _ _ _ _ hb).1; have := hB.ends (hA.ends he); cases ts with
 | nil => exact this.elim
 | cons t ts => simp only; split <;> simp
def parseToks (ts : List Tok) : Except Flt Prog := match program (12 * ts.length + 14) (ts, 0) with | none => .error ⟨0, 0⟩ | some r => r
theorem parseToks_eq {ts : List Tok} (he : Ends ts) : program (12 * ts.length + 14) (ts, 0) = some (parseToks ts) := by
 have := program_some (12 * ts.length + 14) (ts, 0) he (by simp); unfold parseToks; cases h : program (12 * ts.length + 14) (ts, 0) with
 | none => exact absurd h this
 | some r => rfl
theorem parseToks_of {ts : List Tok} (he : Ends ts) {n : Nat} {r : Except Flt Prog} (h : program n (ts, 0) = some r) : parseToks ts = r := by
 have h1 := parseToks_eq he; have h2 := program_mono (Nat.le_max_left n (12 * ts.length + 14)) (ts, 0) _ h; have h3 := program_mono (Nat.le_max_right n (12 * ts.length + 14)) (ts, 0) _ h1; rw [h2] at h3; exact (Option.some.inj h3).symm
def parse (l : Bs) : Except Flt Prog := match scan l with | .error f => .error f | .ok ts => parseToks ts
end Go.Proofs.YtmfabihndpidnaaGreatDoor
namespace Go.Proofs.YtmfabihndpidnaaGreatDoor
set_option linter.unusedVariables false
structure NameOk (s : Bs) : Prop where
 ne : ∃ c r, s = c :: r ∧ letter c = true
 all : s.all nameByte = true
 len : s.length ≤ 32
def RxOk (s : Bs) : Prop := ∀ p q rest, rxEnd p q (s ++ 47 :: rest) = .ok (q + s.length)
def TokOk (t : Tok) : Prop :=
 (t.kind = 0 ∧ t.text = []) ∨ (t.kind = 1 ∧ NameOk t.text) ∨ t.kind = 2 ∨ (t.kind = 3 ∧ RxOk t.text) ∨ (t.kind = 4 ∧ isMark t.text)
theorem rxOk_of (p : Nat) : ∀ (l : Bs) (q r : Nat), rxEnd p q l = .ok r → RxOk (l.take (r - q)) ∧ ∃ rest, l.drop (r - q) = 47 :: rest
 | [], q, r, h => by rw [rxEnd] at h; cases h
 | [c], q, r, h => by
  rw [rxEnd] at h; split at h
  · cases h
  split at h
  · rename_i h2; cases h; simp only [Nat.sub_self, List.take_zero, List.drop_zero]; refine ⟨?_, [], by simp [beq_iff_eq.1 h2]⟩; intro p q rest; cases rest with
    | nil => rw [List.nil_append, rxEnd, if_neg (by decide), if_pos (by decide)]; rfl
    | cons d t => rw [List.nil_append, rxEnd, if_neg (by decide), if_neg (by decide), if_pos (by decide)]; rfl
  · cases h
 | c :: d :: t, q, r, h => by
  rw [rxEnd] at h; split at h
  · rename_i h92; split at h
    · rename_i hp; have hle := rxEnd_le p t (q + 2) r h; obtain ⟨h1, rest, h2⟩ := rxOk_of p t (q + 2) r h; rw [show r - q = (r - (q + 2)) + 2 by omega]; refine ⟨?_, rest, by simpa using h2⟩; intro p' q' rest'; simp only [List.take_succ_cons, List.cons_append]; rw [rxEnd, if_pos h92, if_pos hp, h1 p' (q' + 2) rest']; simp; omega
    · cases h
  · rename_i h92; split at h
    · cases h
    rename_i hp; split at h
    · rename_i h2; cases h; simp only [Nat.sub_self, List.take_zero, List.drop_zero]; refine ⟨?_, d :: t, by simp [beq_iff_eq.1 h2]⟩; intro p q rest; cases rest with
      | nil => rw [List.nil_append, rxEnd, if_neg (by decide), if_pos (by decide)]; rfl
      | cons d t => rw [List.nil_append, rxEnd, if_neg (by decide), if_neg (by decide), if_pos (by decide)]; rfl
    · rename_i h47; have hle := rxEnd_le p (d :: t) (q + 1) r h; obtain ⟨h1, rest, h2⟩ := rxOk_of p (d :: t) (q + 1) r h; rw [show r - q = (r - (q + 1)) + 1 by omega]; refine ⟨?_, rest, by simpa using h2⟩; intro p' q' rest'; simp only [List.take_succ_cons, List.cons_append]; have h3 := h1 p' (q' + 1) rest'; cases hx : (d :: t).take (r - (q + 1)) ++ 47 :: rest' with
      | nil => simp at hx
      | cons e u =>
       rw [hx] at h3; rw [rxEnd, if_neg h92, if_neg hp, if_neg h47, h3]; simp; omega
where
 rxEnd_le (p : Nat) : ∀ (l : Bs) (q r : Nat), rxEnd p q l = .ok r → q ≤ r
  | [], q, r, h => by rw [rxEnd] at h; cases h
  | [c], q, r, h => by
   rw [rxEnd] at h; repeat' split at h
   all_goals first | (cases h; simp) | cases h
  | c :: d :: t, q, r, h => by
   rw [rxEnd] at h; repeat' split at h
   · have := rxEnd_le p t (q + 2) r h; omega
   · cases h
   · cases h
   · cases h; simp
   · have := rxEnd_le p (d :: t) (q + 1) r h; omega
theorem takeWhile_allB {p : UInt8 → Bool} (l : Bs) : (l.takeWhile p).all p = true := by
 induction l with
 | nil => rfl
 | cons c t ih =>
  rw [List.takeWhile]; split
  · rename_i h; simp only [List.all_cons, h, ih, Bool.and_self]
  · rfl
theorem one_ok {p : Nat} {l : Bs} {t : Tok} {q : Nat} (h : one p l = .ok (t, q)) : t.kind ≠ 0 ∧ TokOk t := by
 cases l with
 | nil => rw [one] at h; cases h
 | cons c r =>
  rw [one] at h; split at h
  · rename_i hl; split at h
    · cases h
    · rename_i hlen; cases h; refine ⟨by simp, .inr (.inl ⟨rfl, ⟨c, r.takeWhile nameByte, ?_, hl⟩, takeWhile_allB _, by simpa using hlen⟩)⟩; simp [List.takeWhile, nameByte, hl]
  split at h
  · split at h
    · cases h
    · cases h; exact ⟨by simp, .inr (.inr (.inl rfl))⟩
  split at h
  · split at h
    · cases h
    · rename_i he; cases h; exact ⟨by simp, .inr (.inr (.inr (.inl ⟨rfl, (rxOk_of _ _ _ _ he).1⟩)))⟩
  split at h
  · rename_i hm; cases h; refine ⟨by simp, .inr (.inr (.inr (.inr ⟨rfl, .inr ⟨c, by simpa using hm, rfl⟩⟩)))⟩
  split at h
  · cases h; exact ⟨by simp, .inr (.inr (.inr (.inr ⟨rfl, .inl rfl⟩)))⟩
  · cases h
theorem ends_snoc : ∀ (acc : List Tok) (t : Tok), (∀ u ∈ acc, u.kind ≠ 0) → t.kind = 0 → Ends (acc ++ [t])
 | [], t, _, h => h
 | u :: acc, t, h1, h2 => by
  have := ends_snoc acc t (fun v hv => h1 v (by simp [hv])) h2; cases hx : acc ++ [t] with
  | nil => simp at hx
  | cons a b =>
   rw [List.cons_append, hx]; rw [hx] at this; exact ⟨h1 u (by simp), this⟩
theorem skip_len : ∀ (l : Bs) (b : Bool), (skip b l).length ≤ l.length
 | [], b => by cases b <;> simp [skip]
 | c :: t, true => by rw [skip]; split <;> (have := skip_len t true; have := skip_len t false; simp; omega)
 | c :: t, false => by rw [skip]; repeat' split; all_goals (have := skip_len t true; have := skip_len t false; simp; try omega)
theorem scanAll_ok (l : Bs) : ∀ (n : Nat) (r : Bs) (acc ts : List Tok), scanAll l n r acc = .ok ts → r.length < n → (∀ r' c t q tk, r'.length ≤ r.length → skip false r' = c :: t → one (l.length - (c :: t).length) (c :: t) = .ok (tk, q) → (l.drop q).length < r'.length) →
 (∀ u ∈ acc, u.kind ≠ 0 ∧ TokOk u) → Ends ts ∧ (∀ u ∈ ts, TokOk u) ∧ ts.length ≤ acc.length + r.length + 1
 | 0, r, acc, ts, h, hn, _, _ => by omega
 | n + 1, r, acc, ts, h, hn, hs, ha => by
  rw [scanAll] at h; split at h
  · cases h; refine ⟨ends_snoc _ _ (fun u hu => (ha u hu).1) rfl, fun u hu => ?_, by simp⟩; rcases List.mem_append.1 hu with hu | hu
    · exact (ha u hu).2
    · simp at hu; subst hu; exact .inl ⟨rfl, rfl⟩
  · rename_i c t hsk; split at h
    · cases h
    · rename_i tk q ho; have hl := hs r c t q tk (Nat.le_refl _) hsk ho; have := scanAll_ok l n _ _ ts h (by omega) (fun r' c t q tk hr => hs r' c t q tk (by omega)) (fun u hu => by
       rcases List.mem_append.1 hu with hu | hu
       · exact ha u hu
       · simp at hu; subst hu; exact one_ok ho)
      exact ⟨this.1, this.2.1, by have h2 := this.2.2; simp at h2 ⊢; simp at hl; omega⟩
end Go.Proofs.YtmfabihndpidnaaGreatDoor
namespace Go.Proofs.YtmfabihndpidnaaGreatDoor
set_option linter.unusedVariables false
theorem rxEnd_err (p : Nat) : ∀ (l : Bs) (q : Nat) (f : Flt), rxEnd p q l = .error f → f.code ≠ 0
 | [], q, f, h => by rw [rxEnd] at h; cases h; simp
 | [c], q, f, h => by
  rw [rxEnd] at h; repeat' split at h
  all_goals first | (cases h; simp; done) | cases h
 | c :: d :: t, q, f, h => by
  rw [rxEnd] at h; repeat' split at h
  · exact rxEnd_err p t _ f h
  · cases h; simp
  · cases h; simp
  · cases h
  · exact rxEnd_err p (d :: t) _ f h
theorem quoted_err (p : Nat) : ∀ (n q : Nat) (l acc : Bs) (f : Flt), quoted p n q l acc = .error f → f.code ≠ 0
 | 0, q, l, acc, f, h => by rw [quoted] at h; cases h; simp
 | n + 1, q, [], acc, f, h => by rw [quoted] at h; cases h; simp
 | n + 1, q, c :: t, acc, f, h => by
  rw [quoted] at h; split at h
  · cases h
  split at h
  · cases h; simp
  split at h
  · exact quoted_err p n _ _ _ f h
  · split at h
    · cases h; simp
    · cases h; simp
    · exact quoted_err p n _ _ _ f h
theorem one_err {p : Nat} {l : Bs} {f : Flt} (h : one p l = .error f) : f.code ≠ 0 := by
 cases l with
 | nil => rw [one] at h; cases h; simp
 | cons c r =>
  rw [one] at h; split at h
  · split at h
    · cases h; simp
    · cases h
  split at h
  · split at h
    · rename_i he; cases h; exact quoted_err _ _ _ _ _ _ he
    · cases h
  split at h
  · split at h
    · rename_i he; cases h; exact rxEnd_err _ _ _ _ he
    · cases h
  split at h
  · cases h
  split at h
  · cases h
  · cases h; simp
theorem scanAll_err (l : Bs) : ∀ (n : Nat) (r : Bs) (acc : List Tok) (f : Flt), scanAll l n r acc = .error f → f.code ≠ 0
 | 0, r, acc, f, h => by cases h
 | n + 1, r, acc, f, h => by
  rw [scanAll] at h; split at h
  · cases h
  · split at h
    · rename_i he; cases h; exact one_err he
    · exact scanAll_err l n _ _ f h
theorem scan_err {l : Bs} {f : Flt} (h : scan l = .error f) : f.code ≠ 0 := by
 unfold scan at h; split at h
 · cases h; simp
 · exact scanAll_err _ _ _ _ _ h
def NoZ {α : Type} (x : M α) : Prop := ∀ f, x = some (.error f) → f.code ≠ 0
theorem NoZ.ok {α : Type} (a : α) : NoZ (some (.ok a) : M α) := fun _ h => by cases h
theorem NoZ.none {α : Type} : NoZ (none : M α) := fun _ h => by cases h
theorem NoZ.err {α : Type} (f : Flt) (h : f.code ≠ 0) : NoZ (some (.error f) : M α) := fun _ e => by cases e; exact h
theorem NoZ.ite {α : Type} {c : Prop} [Decidable c] {x y : M α} (h1 : NoZ x) (h2 : NoZ y) : NoZ (if c then x else y) := by split <;> assumption
theorem NoZ.bind {α β : Type} {x : M α} {f : α → M β} (h1 : NoZ x) (h2 : ∀ a, NoZ (f a)) : NoZ (M.bind x f) := by
 cases x with
 | none => exact NoZ.none
 | some x =>
  cases x with
  | error e => exact fun g hg => by cases hg; exact h1 _ rfl
  | ok a => exact h2 a
theorem NoZ.want (m : Bs) (st : PS) : NoZ (M.of (Go.Proofs.YtmfabihndpidnaaGreatDoor.want m st)) := by
 intro f h; obtain ⟨ts, o⟩ := st; simp only [M.of, Option.some.injEq] at h; cases ts with
 | nil => simp [YtmfabihndpidnaaGreatDoor.want] at h; subst h; simp
 | cons t ts => simp only [YtmfabihndpidnaaGreatDoor.want] at h; split at h <;> cases h; simp
theorem NoZ.enter (m : Bs) (st : PS) : NoZ (M.of (Go.Proofs.YtmfabihndpidnaaGreatDoor.enter m st)) := by
 intro f h; obtain ⟨ts, o⟩ := st; simp only [M.of, Option.some.injEq] at h; cases ts with
 | nil => simp [YtmfabihndpidnaaGreatDoor.enter] at h; subst h; simp
 | cons t ts =>
  simp only [YtmfabihndpidnaaGreatDoor.enter] at h; split at h
  · split at h <;> cases h
    simp
  · cases h; simp
theorem NoZ.leave (m : Bs) (st : PS) : NoZ (M.of (Go.Proofs.YtmfabihndpidnaaGreatDoor.leave m st)) := by
 intro f h; have hw := NoZ.want m st; simp only [M.of, Option.some.injEq, YtmfabihndpidnaaGreatDoor.leave] at h; cases hx : YtmfabihndpidnaaGreatDoor.want m st with
 | error e => rw [hx] at h; cases h; exact hw _ (by simp [M.of, hx])
 | ok a => rw [hx] at h; cases h
structure NoZAll (n : Nat) : Prop where
 expr : ∀ lv st, NoZ (pExpr n lv st)
 loop : ∀ lv a st, NoZ (pLoop n lv a st)
 post : ∀ st, NoZ (pPost n st)
 ploop : ∀ a st, NoZ (pPLoop n a st)
 atom : ∀ st, NoZ (pAtom n st)
 call : ∀ st, NoZ (pCall n st)
 args : ∀ m acc st, NoZ (pArgs n m acc st)
theorem noZAll (n : Nat) : NoZAll n := by
 induction n with
 | zero => refine ⟨?_, ?_, ?_, ?_, ?_, ?_, ?_⟩ <;> intros <;> intro r h <;> simp [pExpr, pLoop, pPost, pPLoop, pAtom, pCall, pArgs] at h
 | succ n ih =>
  refine ⟨?_, ?_, ?_, ?_, ?_, ?_, ?_⟩
  · intro lv st; rw [pExpr]; exact NoZ.ite (ih.post _) (NoZ.bind (ih.expr _ _) fun _ => ih.loop _ _ _)
  · intro lv a st; obtain ⟨ts, o⟩ := st; cases ts with
    | nil => rw [pLoop]; exact NoZ.none
    | cons t ts => rw [pLoop]; exact NoZ.ite (NoZ.bind (ih.expr _ _) fun _ => ih.loop _ _ _) (NoZ.ok _)
  · intro st; rw [pPost]; exact NoZ.bind (ih.atom _) fun _ => ih.ploop _ _
  · intro a st; obtain ⟨ts, o⟩ := st; cases ts with
    | nil => rw [pPLoop]; exact NoZ.none
    | cons t ts => rw [pPLoop]; exact NoZ.ite (ih.ploop _ _) (NoZ.ok _)
  · intro st; obtain ⟨ts, o⟩ := st; cases ts with
    | nil => rw [pAtom]; exact NoZ.none
    | cons t ts =>
     rw [pAtom]; refine NoZ.ite (NoZ.ok _) (NoZ.ite (NoZ.ok _) (NoZ.ite (ih.call _) (NoZ.ite (NoZ.ok _) (NoZ.ite ?_ (NoZ.ite ?_ (NoZ.err _ (by simp)))))))
     · exact NoZ.bind (NoZ.enter _ _) fun _ => NoZ.bind (ih.expr _ _) fun _ => NoZ.bind (NoZ.leave _ _) fun _ => NoZ.ok _
     · exact NoZ.bind (NoZ.enter _ _) fun _ => NoZ.bind (ih.expr _ _) fun _ => NoZ.bind (NoZ.leave _ _) fun _ => NoZ.ok _
  · intro st; obtain ⟨ts, o⟩ := st; cases ts with
    | nil => rw [pCall]; exact NoZ.none
    | cons t ts =>
     rw [pCall]; exact NoZ.bind (NoZ.enter _ _) fun _ => NoZ.bind (ih.args _ _ _) fun _ => NoZ.bind (NoZ.leave _ _) fun _ => NoZ.ok _
  · intro m acc st; cases m with
    | zero => rw [pArgs]; exact NoZ.ok _
    | succ m =>
     rw [pArgs]; exact NoZ.bind (NoZ.ite (NoZ.ok _) (NoZ.want _ _)) fun _ => NoZ.bind (ih.expr _ _) fun _ => ih.args _ _ _
theorem pDefs_noZ : ∀ (n : Nat) (acc : List Def) (st : PS), NoZ (pDefs n acc st)
 | 0, _, _ => NoZ.none
 | n + 1, acc, ([], o) => NoZ.ok _
 | n + 1, acc, ([t], o) => NoZ.ok _
 | n + 1, acc, (t :: t2 :: ts, o) => by
  rw [pDefs]; exact NoZ.ite (NoZ.ite (NoZ.err _ (by simp)) (NoZ.bind (NoZ.want _ _) fun _ => NoZ.bind ((noZAll n).expr _ _) fun _ => NoZ.bind (NoZ.want _ _) fun _ => pDefs_noZ n _ _)) (NoZ.ok _)
theorem program_noZ (n : Nat) (st : PS) : NoZ (program n st) := by
 unfold program; refine NoZ.bind (pDefs_noZ n _ _) fun _ => NoZ.bind ((noZAll n).expr _ _) fun x => ?_
 obtain ⟨y, ts, o⟩ := x; cases ts with
 | nil => exact NoZ.none
 | cons t ts => exact NoZ.ite (NoZ.err _ (by simp)) (NoZ.ok _)
end Go.Proofs.YtmfabihndpidnaaGreatDoor
namespace Go.Proofs.YtmfabihndpidnaaGreatDoor
set_option linter.unusedVariables false
def Wf : Ex → Prop
 | .name _ s => NameOk s ∧ arity s = 0
 | .text _ s => s.length ≤ 100000
 | .rx _ s => RxOk s
 | .call1 _ wd a => arity wd = 1 ∧ Wf a
 | .call2 _ wd a b => arity wd = 2 ∧ Wf a ∧ Wf b
 | .call3 _ wd a b c => arity wd = 3 ∧ Wf a ∧ Wf b ∧ Wf c
 | .keyed _ a => Wf a
 | .unary _ op a => (op = [42] ∨ op = [43] ∨ op = [63]) ∧ Wf a
 | .binary _ op a b => isMark op ∧ 0 ≤ rank op ∧ Wf a ∧ Wf b
theorem rank_le (s : Bs) : rank s ≤ 4 := by
 unfold rank; repeat' split
 all_goals omega
end Go.Proofs.YtmfabihndpidnaaGreatDoor
namespace Go.Proofs.YtmfabihndpidnaaGreatDoor
set_option linter.unusedVariables false
set_option linter.unusedSimpArgs false
def bt (t : Tok) : Nat × Bs := (t.kind, t.text)
def Tame : Bs → Prop
 | [] => True
 | c :: _ => nameByte c = false
def Lx (nd : Bool) (s : Bs) (ts : List (Nat × Bs)) : Prop := ∀ (l rest : Bs) (n : Nat) (acc : List Tok), (nd = true → Tame rest) → l.drop (l.length - (s ++ rest).length) = s ++ rest → (s ++ rest).length ≤ l.length → (s ++ rest).length < n →
 ∃ n' us, us.map bt = ts ∧ rest.length < n' ∧ scanAll l n (s ++ rest) acc = scanAll l n' rest (acc ++ us)
theorem Lx.nil : Lx false [] [] := fun l rest n acc _ _ _ h => ⟨n, [], rfl, by simpa using h, by simp⟩
theorem Lx.weak {a : Bool} {s : Bs} {ts : List (Nat × Bs)} (h : Lx a s ts) : Lx true s ts := fun l rest n acc ht => h l rest n acc (fun _ => ht rfl)
def Opens (s : Bs) : Prop := ∃ c r, s = c :: r ∧ nameByte c = false
theorem Lx.app {a b : Bool} {s t : Bs} {ts us : List (Nat × Bs)} (h1 : Lx a s ts) (h2 : Lx b t us) (ho : a = true → Opens t) : Lx b (s ++ t) (ts ++ us) := by
 intro l rest n acc ht hd hl hn; rw [List.append_assoc] at hd hl hn; obtain ⟨n1, u1, e1, hn1, r1⟩ := h1 l (t ++ rest) n acc (fun ha => by
  obtain ⟨c, r, rfl, hc⟩ := ho ha; exact hc) hd hl hn
 obtain ⟨n2, u2, e2, hn2, r2⟩ := h2 l rest n1 (acc ++ u1) ht (by
  have : (t ++ rest) = (s ++ (t ++ rest)).drop s.length := by simp
  rw [this, ← hd, List.drop_drop]
  congr 1
  simp at hl ⊢; omega) (by simp at hl ⊢; omega) hn1
 exact ⟨n2, u1 ++ u2, by simp [e1, e2], hn2, by rw [List.append_assoc, r1, r2, List.append_assoc]⟩
theorem Lx.tok {nd : Bool} {c : UInt8} {t : Bs} {k : Nat} {x : Bs} (h35 : c ≠ 35) (hb : blank c = false)
 (h : ∀ p rest, (nd = true → Tame rest) → one p (c :: t ++ rest) = .ok (⟨k, p, x⟩, p + (c :: t).length)) : Lx nd (c :: t) [(k, x)] := by
 intro l rest n acc ht hd hl hn; cases n with
 | zero => omega
 | succ n =>
  refine ⟨n, [⟨k, l.length - (c :: t ++ rest).length, x⟩], rfl, by simp at hn ⊢; omega, ?_⟩; rw [scanAll]; have hs : skip false (c :: t ++ rest) = c :: (t ++ rest) := by
   rw [List.cons_append, skip, if_neg (by simpa using h35), if_neg (by simp [hb])]
  rw [hs]; have ho := h (l.length - (c :: (t ++ rest)).length) rest ht; rw [List.cons_append] at ho; simp only [ho]
  congr 1
  have : rest = (c :: t ++ rest).drop (c :: t).length := by simp
  rw [this, ← hd, List.drop_drop]
  congr 1
  simp at hl ⊢; omega
theorem Lx.white {c : UInt8} (h : c = 32 ∨ c = 10) : Lx false [c] [] := by
 intro l rest n acc _ hd hl hn; cases n with
 | zero => omega
 | succ n =>
  refine ⟨n + 1, [], rfl, by simp at hn ⊢; omega, ?_⟩; have hs : skip false ([c] ++ rest) = skip false rest := by
   rcases h with rfl | rfl
   · rw [List.singleton_append, skip, if_neg (by decide), if_pos (by decide)]
   · rw [List.singleton_append, skip, if_neg (by decide), if_pos (by decide)]
  rw [scanAll, scanAll, hs, List.append_nil]
theorem Lx.mark {c : UInt8} (h : c ∈ marksL) : Lx false [c] [(4, [c])] := by
 have key : ∀ c ∈ marksL, c ≠ 35 ∧ blank c = false ∧ letter c = false ∧ (c == 34) = false ∧ (c == 47) = false := by decide
 obtain ⟨h1, h2, h3, h4, h5⟩ := key c h; refine Lx.tok h1 h2 fun p rest _ => ?_
 rw [List.cons_append, one, if_neg (by simp [h3]), if_neg (by simp [h4]), if_neg (by simp [h5]), if_pos (by simpa using h)]; rfl
theorem Lx.chain : Lx false [62, 62] [(4, [62, 62])] := by
 refine Lx.tok (by decide) (by decide) fun p rest _ => ?_
 rw [List.cons_append, one, if_neg (by decide), if_neg (by decide), if_neg (by decide), if_neg (by decide), if_pos (by simp)]; rfl
theorem Lx.sign {m : Bs} (h : isMark m) : Lx false m [(4, m)] := by
 rcases h with rfl | ⟨c, hc, rfl⟩
 · exact Lx.chain
 · exact Lx.mark hc
theorem letter_notspec : ∀ c : UInt8, letter c = true → c ≠ 35 ∧ blank c = false := by
 intro c h; constructor
 · rintro rfl; revert h; decide
 · unfold blank; simp only [Bool.or_eq_false_iff, beq_eq_false_iff_ne, ne_eq]; refine ⟨⟨⟨?_, ?_⟩, ?_⟩, ?_⟩ <;> (rintro rfl; revert h; decide)
theorem takeWhile_name : ∀ (s rest : Bs), s.all nameByte = true → Tame rest → (s ++ rest).takeWhile nameByte = s
 | [], [], _, _ => rfl
 | [], c :: r, _, ht => by
  have hc : nameByte c = false := ht; simp [List.takeWhile, hc]
 | c :: s, rest, h, ht => by
  simp only [List.all_cons, Bool.and_eq_true] at h; rw [List.cons_append, List.takeWhile, h.1]; simp only [takeWhile_name s rest h.2 ht]
theorem Lx.name {s : Bs} (h : NameOk s) : Lx true s [(1, s)] := by
 obtain ⟨⟨c, r, rfl, hc⟩, ha, hl⟩ := h; obtain ⟨h1, h2⟩ := letter_notspec c hc; refine Lx.tok h1 h2 fun p rest ht => ?_
 have hw := takeWhile_name (c :: r) rest ha (ht rfl); rw [List.cons_append] at hw ⊢; rw [one, if_pos hc, hw, if_neg (by omega)]
theorem Lx.rx {s : Bs} (h : RxOk s) : Lx false (47 :: (s ++ [47])) [(3, s)] := by
 refine Lx.tok (by decide) (by decide) fun p rest _ => ?_
 rw [List.cons_append, one, if_neg (by decide), if_neg (by decide), if_pos (by decide)]; have hr := h p (p + 1) rest; rw [List.append_assoc, List.singleton_append, hr]; simp only [Except.ok.injEq, Prod.mk.injEq, Tok.mk.injEq, true_and]; constructor
 · rw [show p + 1 + s.length - (p + 1) = s.length by omega]; simp
 · simp; omega
theorem hexv_hexd : ∀ m : Fin 16, hexv (hexd m.val) = some m.val := by decide
theorem hexd_ok (c : UInt8) : hexv (hexd (c.toNat / 16)) = some (c.toNat / 16) ∧ hexv (hexd (c.toNat % 16)) = some (c.toNat % 16) := by
 have := c.toNat_lt; exact ⟨hexv_hexd ⟨c.toNat / 16, by omega⟩, hexv_hexd ⟨c.toNat % 16, by omega⟩⟩
theorem quoted_step (p n q : Nat) (c : UInt8) (rest acc : Bs) : quoted p (n + 1) q (quote1 c ++ rest) acc = quoted p n (q + (quote1 c).length) rest (acc ++ [c]) := by
 have hesc : ∀ (s : Bs) (b : UInt8), escape q (s ++ rest) = .byte b (q + s.length) → quoted p (n + 1) q (92 :: (s ++ rest)) acc = quoted p n (q + s.length + 1) rest (acc ++ [b]) := by
  intro s b h; rw [quoted, if_neg (by decide), if_neg (by decide), if_neg (by decide), h]; simp
 unfold quote1; split
 · rename_i h; have hb : escape q ([c] ++ rest) = .byte c (q + 1) := by
    simp only [Bool.or_eq_true, beq_iff_eq] at h; rcases h with rfl | rfl <;> rfl
   exact hesc [c] c hb
 split
 · rename_i h1 h2; simp only [Bool.or_eq_true, beq_iff_eq, not_or] at h1; rw [List.singleton_append, quoted, if_neg (by simpa using h1.1), if_neg (by simp [h2]), if_pos (by simpa using h1.2)]; rfl
 split
 · rename_i h; obtain rfl := beq_iff_eq.1 h; exact hesc [110] 10 rfl
 split
 · rename_i h; obtain rfl := beq_iff_eq.1 h; exact hesc [114] 13 rfl
 split
 · rename_i h; obtain rfl := beq_iff_eq.1 h; exact hesc [116] 9 rfl
 · refine hesc [120, hexd (c.toNat / 16), hexd (c.toNat % 16)] c ?_; obtain ⟨h1, h2⟩ := hexd_ok c; simp only [List.cons_append, List.nil_append]; rw [escape, if_neg (by decide), if_neg (by decide), if_neg (by decide), if_neg (by decide), if_pos (by decide)]; simp only [h1, h2]; have h3 : 16 * (c.toNat / 16) + c.toNat % 16 = c.toNat := by omega
   rw [h3, UInt8.ofNat_toNat]; rfl
theorem quote1_len (c : UInt8) : 1 ≤ (quote1 c).length := by
 unfold quote1; repeat' split
 all_goals simp
theorem quoted_all (p : Nat) (rest : Bs) : ∀ (s : Bs) (n q : Nat) (acc : Bs), s.length < n → quoted p n q (s.flatMap quote1 ++ 34 :: rest) acc = .ok (acc ++ s, q + (s.flatMap quote1).length + 1)
 | [], n + 1, q, acc, h => by
  rw [List.flatMap_nil, List.nil_append, quoted, if_pos (by decide)]; simp
 | c :: s, n + 1, q, acc, h => by
  rw [List.flatMap_cons, List.append_assoc, quoted_step, quoted_all p rest s n _ _ (by simp at h; omega)]; simp only [List.flatMap_cons, List.length_append, List.append_assoc, List.singleton_append, Except.ok.injEq, Prod.mk.injEq, true_and]; omega
theorem flatMap_len (s : Bs) : s.length ≤ (s.flatMap quote1).length := by
 induction s with
 | nil => simp
 | cons c s ih => have := quote1_len c; simp only [List.flatMap_cons, List.length_append, List.length_cons]; omega
theorem Lx.inq (s : Bs) : Lx false (quote s) [(2, s)] := by
 refine Lx.tok (by decide) (by decide) fun p rest _ => ?_
 rw [List.cons_append, one, if_neg (by decide), if_pos (by decide), List.append_assoc, List.singleton_append]; have := flatMap_len s; rw [quoted_all p rest s _ _ _ (by simp only [List.length_append, List.length_cons]; omega)]; simp only [List.nil_append, Except.ok.injEq, Prod.mk.injEq, true_and, List.length_cons, List.length_append, List.length_nil]; omega
def parenT (b : Bool) (s : List (Nat × Bs)) : List (Nat × Bs) := if b then (4, [40]) :: (s ++ [(4, [41])]) else s
def toks : Ex → Int → List (Nat × Bs)
 | .name _ s, need => parenT (decide (6 < need)) [(1, s)]
 | .text _ s, need => parenT (decide (6 < need)) [(2, s)]
 | .rx _ s, need => parenT (decide (6 < need)) [(3, s)]
 | .keyed _ a, need => parenT (decide (6 < need)) ((4, [123]) :: (toks a 0 ++ [(4, [125])]))
 | .unary _ op a, need => parenT (decide (5 < need)) (toks a 5 ++ [(4, op)])
 | .binary _ op a b, need => parenT (decide (rank op < need)) (toks a (rank op) ++ ((4, op) :: toks b (rank op + 1)))
 | .call1 _ wd a, need => parenT (decide (6 < need)) ((1, wd) :: (4, [40]) :: (toks a 0 ++ [(4, [41])]))
 | .call2 _ wd a b, need => parenT (decide (6 < need)) ((1, wd) :: (4, [40]) :: (toks a 0 ++ ((4, [44]) :: (toks b 0 ++ [(4, [41])]))))
 | .call3 _ wd a b c, need => parenT (decide (6 < need)) ((1, wd) :: (4, [40]) :: (toks a 0 ++ ((4, [44]) :: (toks b 0 ++ ((4, [44]) :: (toks c 0 ++ [(4, [41])]))))))
theorem Lx.paren {b : Bool} {s : Bs} {ts : List (Nat × Bs)} (h : Lx true s ts) : Lx true (paren b s) (parenT b ts) := by
 cases b with
 | false => exact h
 | true =>
  have h2 : Lx true (s ++ [41]) (ts ++ [(4, [41])]) := (h.app (Lx.mark (by decide)) (fun _ => ⟨41, [], rfl, by decide⟩)).weak; exact (Lx.mark (c := 40) (by decide)).app h2 (by simp)
theorem Lx.cons {b : Bool} {c : UInt8} {s : Bs} {ts : List (Nat × Bs)} (hc : c ∈ marksL) (h : Lx b s ts) : Lx b (c :: s) ((4, [c]) :: ts) := (Lx.mark hc).app h (by simp)
theorem nameOk_arity {wd : Bs} (h : 0 < arity wd ∨ wd = [108, 101, 116]) : NameOk wd := by
 have : wd ∈ ([[99, 111, 112, 121], [107, 101, 121], [105, 110, 115], [105, 100], [102, 111, 108, 100], [100, 101, 108], [108, 101, 102, 116], [114, 105, 103, 104, 116], [100, 101, 102, 97, 117, 108, 116], [110, 111, 114, 109], [108, 101, 116]] : List Bs) := by
  rcases h with h | h
  · unfold arity at h; repeat' split at h
    · rename_i h1; rcases h1 with rfl | rfl | rfl | rfl | rfl <;> simp
    · rename_i h1; rcases h1 with rfl | rfl | rfl | rfl <;> simp
    · rename_i h1; subst h1; simp
    · omega
    · omega
  · subst h; simp
 simp only [List.mem_cons, List.mem_nil_iff, or_false] at this; rcases this with rfl | rfl | rfl | rfl | rfl | rfl | rfl | rfl | rfl | rfl | rfl <;> exact ⟨⟨_, _, rfl, by decide⟩, by decide, by decide⟩
theorem isMark_opens {m : Bs} (h : isMark m) : Opens m := by
 rcases h with rfl | ⟨c, hc, rfl⟩
 · exact ⟨62, [62], rfl, by decide⟩
 · have key : ∀ c ∈ marksL, nameByte c = false := by decide
   exact ⟨c, [], rfl, key c hc⟩
theorem isMark_unary {op : Bs} (h : op = [42] ∨ op = [43] ∨ op = [63]) : isMark op := by
 rcases h with rfl | rfl | rfl <;> exact .inr ⟨_, by decide, rfl⟩
theorem Lx.call {wd s : Bs} {ts : List (Nat × Bs)} (hw : NameOk wd) (h : Lx true s ts) : Lx true (wd ++ 40 :: s) ((1, wd) :: (4, [40]) :: ts) :=
 (Lx.name hw).app ((Lx.mark (c := 40) (by decide)).app h (by simp)) (fun _ => ⟨40, _, rfl, by decide⟩)
theorem Lx.close {s : Bs} {ts : List (Nat × Bs)} {c : UInt8} (hc : c ∈ marksL) (ho : nameByte c = false) (h : Lx true s ts) : Lx true (s ++ [c]) (ts ++ [(4, [c])]) :=
 (h.app (Lx.mark hc) (fun _ => ⟨c, [], rfl, ho⟩)).weak
theorem Lx.comma {s t : Bs} {ts us : List (Nat × Bs)} (h : Lx true s ts) (h2 : Lx true t us) : Lx true (s ++ 44 :: 32 :: t) (ts ++ ((4, [44]) :: us)) :=
 h.app (Lx.cons (by decide) ((Lx.white (c := 32) (.inl rfl)).app h2 (by simp))) (fun _ => ⟨44, _, rfl, by decide⟩)
theorem Lx.part {e : Ex} (h : Wf e) : ∀ need, Lx true (part e need) (toks e need) := by
 induction e with
 | name p s => exact fun need => (Lx.name h.1).paren
 | text p s => exact fun need => (Lx.inq s).weak.paren
 | rx p s => exact fun need => (Lx.rx h).weak.paren
 | call1 p wd a iha =>
  intro need; exact (Lx.call (nameOk_arity (.inl (by rw [h.1]; omega))) ((iha h.2 0).close (by decide) (by decide))).paren
 | call2 p wd a b iha ihb =>
  intro need; exact (Lx.call (nameOk_arity (.inl (by rw [h.1]; omega))) ((iha h.2.1 0).comma ((ihb h.2.2 0).close (by decide) (by decide)))).paren
 | call3 p wd a b c iha ihb ihc =>
  intro need; exact (Lx.call (nameOk_arity (.inl (by rw [h.1]; omega))) ((iha h.2.1 0).comma ((ihb h.2.2.1 0).comma ((ihc h.2.2.2 0).close (by decide) (by decide))))).paren
 | keyed p a iha =>
  intro need; exact ((Lx.mark (c := 123) (by decide)).app ((iha h 0).close (by decide) (by decide)) (by simp)).paren
 | unary p op a iha =>
  intro need; have hm := isMark_unary h.1; exact ((iha h.2 5).app (Lx.sign hm) (fun _ => isMark_opens hm)).weak.paren
 | binary p op a b iha ihb =>
  intro need; have h1 : Lx true (32 :: (op ++ [32]) ++ Go.Proofs.YtmfabihndpidnaaGreatDoor.part b (rank op + 1)) ((4, op) :: toks b (rank op + 1)) := by
   have := ((Lx.white (c := 32) (.inl rfl)).app ((Lx.sign h.1).app ((Lx.white (c := 32) (.inl rfl)).app (ihb h.2.2.2 (rank op + 1)) (by simp)) (by simp)) (by simp)); simpa using this
  have h2 := (iha h.2.2.1 (rank op)).app h1 (fun _ => ⟨32, _, rfl, by decide⟩); rw [← List.append_assoc] at h2; exact h2.paren
def Def.ok (d : Def) : Prop := NameOk d.name ∧ arity d.name = 0 ∧ Wf d.body
def toksD (d : Def) : List (Nat × Bs) := (1, [108, 101, 116]) :: (1, d.name) :: (4, [61]) :: (toks d.body 0 ++ [(4, [59])])
def toksP (p : Prog) : List (Nat × Bs) := p.defs.flatMap toksD ++ (toks p.main 0 ++ [(0, [])])
theorem Lx.defn {d : Def} (h : d.ok) : Lx false (printDef d) (toksD d) := by
 have h1 : Lx true [108, 101, 116] [(1, [108, 101, 116])] := Lx.name (nameOk_arity (.inr rfl)); have hb := (Lx.part h.2.2 0).app ((Lx.mark (c := 59) (by decide)).app (Lx.white (c := 10) (.inr rfl)) (by simp)) (fun _ => ⟨59, [10], rfl, by decide⟩); have h2 := (Lx.white (c := 32) (.inl rfl)).app ((Lx.mark (c := 61) (by decide)).app ((Lx.white (c := 32) (.inl rfl)).app hb (by simp)) (by simp)) (by simp); have h3 := (Lx.name h.1).app h2 (fun _ => ⟨32, _, rfl, by decide⟩); have h4 := h1.app ((Lx.white (c := 32) (.inl rfl)).app h3 (by simp)) (fun _ => ⟨32, _, rfl, by decide⟩); simpa [printDef, toksD] using h4
theorem Lx.defs : ∀ (ds : List Def), (∀ d ∈ ds, d.ok) → Lx false (ds.flatMap printDef) (ds.flatMap toksD)
 | [], _ => Lx.nil
 | d :: ds, h => by
  rw [List.flatMap_cons, List.flatMap_cons]; exact (Lx.defn (h d (by simp))).app (Lx.defs ds (fun x hx => h x (by simp [hx]))) (by simp)
theorem scan_print {p : Prog} (h1 : ∀ d ∈ p.defs, d.ok) (h2 : Wf p.main) (hl : (print p).length ≤ 4096) : ∃ ts, scan (print p) = .ok ts ∧ ts.map bt = toksP p := by
 have h3 : Lx false (p.defs.flatMap printDef ++ (part p.main 0 ++ [10])) (p.defs.flatMap toksD ++ (toks p.main 0 ++ [])) :=
  (Lx.defs _ h1).app ((Lx.part h2 0).app (Lx.white (.inr rfl)) (fun _ => ⟨10, [], rfl, by decide⟩)) (by simp)
 rw [← List.append_assoc] at h3; obtain ⟨n, us, e, hn, hr⟩ := h3 (print p) [] ((print p).length + 1) [] (by simp) (by simp [print]) (by simp [print]) (by simp [print]); refine ⟨us ++ [⟨0, (print p).length, []⟩], ?_, by simp [toksP, e, bt]⟩; unfold scan; rw [if_neg (by omega)]; rw [List.append_nil] at hr; change scanAll (print p) ((print p).length + 1) (print p) [] = _ at hr; rw [hr]; cases n with
 | zero => simp at hn
 | succ n =>
  rw [scanAll]; rfl
end Go.Proofs.YtmfabihndpidnaaGreatDoor
namespace Go.Proofs.YtmfabihndpidnaaGreatDoor
set_option linter.unusedVariables false
set_option linter.unusedSimpArgs false
def Ex.bare : Ex → Ex
 | .name _ s => .name 0 s
 | .text _ s => .text 0 s
 | .rx _ s => .rx 0 s
 | .call1 _ wd a => .call1 0 wd a.bare
 | .call2 _ wd a b => .call2 0 wd a.bare b.bare
 | .call3 _ wd a b c => .call3 0 wd a.bare b.bare c.bare
 | .keyed _ a => .keyed 0 a.bare
 | .unary _ op a => .unary 0 op a.bare
 | .binary _ op a b => .binary 0 op a.bare b.bare
def Def.bare (d : Def) : Def := ⟨0, d.name, d.body.bare⟩
def Prog.bare (p : Prog) : Prog := ⟨p.defs.map Def.bare, p.main.bare⟩
def up (b : Bool) (n : Nat) : Nat := if b then n + 1 else n
def dep : Ex → Int → Nat
 | .name _ s, need => up (decide (6 < need)) 0
 | .text _ s, need => up (decide (6 < need)) 0
 | .rx _ s, need => up (decide (6 < need)) 0
 | .keyed _ a, need => up (decide (6 < need)) (dep a 0 + 1)
 | .unary _ op a, need => up (decide (5 < need)) (dep a 5)
 | .binary _ op a b, need => up (decide (rank op < need)) (max (dep a (rank op)) (dep b (rank op + 1)))
 | .call1 _ wd a, need => up (decide (6 < need)) (dep a 0 + 1)
 | .call2 _ wd a b, need => up (decide (6 < need)) (max (dep a 0) (dep b 0) + 1)
 | .call3 _ wd a b c, need => up (decide (6 < need)) (max (dep a 0) (max (dep b 0) (dep c 0)) + 1)
theorem Wf.rk {e : Ex} (h : Wf e) : 0 ≤ e.rk ∧ e.rk ≤ 6 := by
 cases e with
 | binary p op a b => exact ⟨h.2.1, by have := rank_le op; simp only [Ex.rk]; omega⟩
 | unary p op a => exact ⟨by simp [Ex.rk], by simp [Ex.rk]⟩
 | _ => exact ⟨by simp [Ex.rk], by simp [Ex.rk]⟩
theorem toks_need {e : Ex} (h : Wf e) (need : Int) : toks e need = parenT (decide (e.rk < need)) (toks e 0) := by
 have h1 := h.rk; have h2 : ∀ (b : Bool) (s : List (Nat × Bs)), b = false → parenT b s = s := fun b s hb => by subst hb; rfl
 cases e with
 | binary p op a b =>
  rw [toks, toks, h2 (decide (rank op < 0)) _ (by simpa [Ex.rk] using h1.1)]; rfl
 | unary p op a =>
  rw [toks, toks, h2 (decide ((5 : Int) < 0)) _ (by decide)]; rfl
 | _ => rw [toks, toks, h2 (decide ((6 : Int) < 0)) _ (by decide)]; rfl
theorem dep_need {e : Ex} (h : Wf e) (need : Int) : dep e need = up (decide (e.rk < need)) (dep e 0) := by
 have h1 := h.rk; have h2 : ∀ (b : Bool) (s : Nat), b = false → up b s = s := fun b s hb => by subst hb; rfl
 cases e with
 | binary p op a b =>
  rw [dep, dep, h2 (decide (rank op < 0)) _ (by simpa [Ex.rk] using h1.1)]; rfl
 | unary p op a =>
  rw [dep, dep, h2 (decide ((5 : Int) < 0)) _ (by decide)]; rfl
 | _ => rw [dep, dep, h2 (decide ((6 : Int) < 0)) _ (by decide)]; rfl
def Ev {α : Type} (f : Nat → M α) (r : Except Flt α) : Prop := ∃ n, ∀ m, n ≤ m → f m = some r
theorem Ev.const {α : Type} (r : Except Flt α) : Ev (fun _ => some r) r := ⟨0, fun _ _ => rfl⟩
theorem Ev.bind {α β : Type} {f : Nat → M α} {g : Nat → α → M β} {a : α} {r : Except Flt β} (h1 : Ev f (.ok a)) (h2 : Ev (fun n => g n a) r) : Ev (fun n => M.bind (f n) (g n)) r := by
 obtain ⟨n, hn⟩ := h1; obtain ⟨k, hk⟩ := h2; refine ⟨max n k, fun m hm => ?_⟩; have e1 := hn m (by omega); have e2 := hk m (by omega); simp only [e1]; exact e2
theorem Ev.succ {α : Type} {f h : Nat → M α} {r : Except Flt α} (e : ∀ n, h (n + 1) = f n) (h1 : Ev f r) : Ev h r := by
 obtain ⟨n, hn⟩ := h1; refine ⟨n + 1, fun m hm => ?_⟩; obtain ⟨k, rfl⟩ : ∃ k, m = k + 1 := ⟨m - 1, by omega⟩; rw [e]; exact hn k (by omega)
def cont (lv : Nat) (x : Ex) (st : PS) (n : Nat) : M (Ex × PS) := if lv = 5 then pPLoop n x st else pLoop n lv x st
def unTok (f : Tok) : Bool := tkIs f [42] || tkIs f [43] || tkIs f [63]
def Fol (lv : Nat) (rest : List Tok) : Prop := ∃ f fs, rest = f :: fs ∧ (lv = 5 ∨ (unTok f = false ∧ (f.kind = 4 → rank f.text ≤ lv)))
def AtomTo (ts : List Tok) (e : Ex) (d : Nat) : Prop := ∀ rest o, d + o ≤ 64 → ∃ x, x.bare = e.bare ∧ Ev (fun n => pAtom n (ts ++ rest, o)) (.ok (x, (rest, o)))
def LevTo (lv : Nat) (ts : List Tok) (e : Ex) (d : Nat) : Prop := ∀ rest o, d + o ≤ 64 → Fol lv rest → ∃ x, x.bare = e.bare ∧ ∀ R, Ev (cont lv x (rest, o)) R → Ev (fun n => pExpr n lv (ts ++ rest, o)) R
theorem AtomTo.lev {ts : List Tok} {e : Ex} {d : Nat} (h : AtomTo ts e d) : LevTo 5 ts e d := by
 intro rest o hd hf; obtain ⟨x, hx, h1⟩ := h rest o hd; refine ⟨x, hx, fun R hR => ?_⟩; refine Ev.succ (f := fun n => pPost n (ts ++ rest, o)) (fun n => by rw [pExpr, if_pos rfl]) ?_; refine Ev.succ (f := fun n => M.bind (pAtom n (ts ++ rest, o)) fun x => pPLoop n x.1 x.2) (fun n => by rw [pPost]) ?_; exact Ev.bind h1 hR
theorem cont_stop {lv : Nat} {x : Ex} {f : Tok} {fs : List Tok} {o : Nat} (h1 : lv = 5 → unTok f = false) (h2 : f.kind = 4 → rank f.text ≠ lv) : Ev (cont lv x (f :: fs, o)) (.ok (x, (f :: fs, o))) := by
 refine Ev.succ (fun n => ?_) (Ev.const _); unfold cont; by_cases h : lv = 5
 · rw [if_pos h, pPLoop]; have := h1 h; unfold unTok at this; rw [if_neg (by simp [this])]
 · rw [if_neg h, pLoop, if_neg (fun hc => h2 hc.1 hc.2)]
theorem LevTo.down {lv : Nat} {ts : List Tok} {e : Ex} {d : Nat} (h : LevTo (lv + 1) ts e d) (hl : lv < 5) : LevTo lv ts e d := by
 intro rest o hd hf; obtain ⟨f, fs, rfl, hf⟩ := hf; have hf : unTok f = false ∧ (f.kind = 4 → rank f.text ≤ lv) := by
  rcases hf with h | h
  · omega
  · exact h
 obtain ⟨x, hx, h1⟩ := h (f :: fs) o hd ⟨f, fs, rfl, .inr ⟨hf.1, fun hk => by have := hf.2 hk; omega⟩⟩; refine ⟨x, hx, fun R hR => ?_⟩; have h2 := h1 _ (cont_stop (fun _ => hf.1) (fun hk => by have := hf.2 hk; omega)); refine Ev.succ (f := fun n => M.bind (pExpr n (lv + 1) (ts ++ f :: fs, o)) fun x => pLoop n lv x.1 x.2) (fun n => by rw [pExpr, if_neg (by omega)]) ?_; refine Ev.bind h2 ?_; have : cont lv x (f :: fs, o) = fun n => pLoop n lv x (f :: fs, o) := by
  funext n
  unfold cont; rw [if_neg (by omega)]
 rw [this] at hR; exact hR
theorem LevTo.to {lv k : Nat} {ts : List Tok} {e : Ex} {d : Nat} (h : LevTo k ts e d) (hk : k ≤ 5) (hl : lv ≤ k) : LevTo lv ts e d := by
 induction k with
 | zero => rw [show lv = 0 by omega]; exact h
 | succ k ih =>
  by_cases hc : lv = k + 1
  · rw [hc]; exact h
  · exact ih (h.down (by omega)) (by omega) (by omega)
theorem LevTo.read {lv : Nat} {ts : List Tok} {e : Ex} {d : Nat} (h : LevTo lv ts e d) {f : Tok} {fs : List Tok} {o : Nat} (hd : d + o ≤ 64) (h1 : unTok f = false) (h2 : f.kind = 4 → rank f.text < lv ∨ rank f.text = -1) :
 ∃ x, x.bare = e.bare ∧ Ev (fun n => pExpr n lv (ts ++ f :: fs, o)) (.ok (x, (f :: fs, o))) := by
 obtain ⟨x, hx, hc⟩ := h (f :: fs) o hd ⟨f, fs, rfl, .inr ⟨h1, fun hk => by have := h2 hk; omega⟩⟩; exact ⟨x, hx, hc _ (cont_stop (fun _ => h1) (fun hk => by have := h2 hk; omega))⟩
theorem bt_mark {t : Tok} {m : Bs} (h : bt t = (4, m)) : t.kind = 4 ∧ t.text = m ∧ ∀ k, tkIs t k = (m == k) := by
 obtain ⟨k, p, s⟩ := t; simp only [bt, Prod.mk.injEq] at h; obtain ⟨rfl, rfl⟩ := h; exact ⟨rfl, rfl, fun k => by simp [tkIs]⟩
theorem rank_ne {m : Bs} (h : m = [41] ∨ m = [125] ∨ m = [44] ∨ m = [59]) : rank m = -1 ∧ (m == [42]) = false ∧ (m == [43]) = false ∧ (m == [63]) = false := by
 rcases h with rfl | rfl | rfl | rfl <;> decide
theorem LevTo.closed {ts : List Tok} {e : Ex} {d : Nat} (h : LevTo 0 ts e d) {t : Tok} {m : Bs} (ht : bt t = (4, m)) (hm : m = [41] ∨ m = [125] ∨ m = [44] ∨ m = [59]) {fs : List Tok} {o : Nat} (hd : d + o ≤ 64) :
 ∃ x, x.bare = e.bare ∧ Ev (fun n => pExpr n 0 (ts ++ t :: fs, o)) (.ok (x, (t :: fs, o))) := by
 obtain ⟨h1, h2, h3⟩ := bt_mark ht; obtain ⟨r1, r2, r3, r4⟩ := rank_ne hm; exact h.read hd (by unfold unTok; rw [h3, h3, h3, r2, r3, r4]; rfl) (fun _ => .inr (by rw [h2]; exact r1))
theorem Ev.of {α : Type} {x : Except Flt α} : Ev (fun _ => M.of x) x := ⟨0, fun _ _ => rfl⟩
theorem enter_run {m : Bs} {t : Tok} {ts : List Tok} {o : Nat} (h : bt t = (4, m)) (ho : o < 64) : enter m (t :: ts, o) = .ok (ts, o + 1) := by
 have := (bt_mark h).2.2 m; simp only [enter]; rw [this, if_pos (by simp), if_neg (by omega)]
theorem want_run {m : Bs} {t : Tok} {ts : List Tok} {o : Nat} (h : bt t = (4, m)) : want m (t :: ts, o) = .ok (ts, o) := by
 have := (bt_mark h).2.2 m; simp only [want]; rw [this, if_pos (by simp)]
theorem leave_run {m : Bs} {t : Tok} {ts : List Tok} {o : Nat} (h : bt t = (4, m)) : leave m (t :: ts, o + 1) = .ok (ts, o) := by
 unfold leave; rw [want_run h]; rfl
theorem Ev.ofb {α β : Type} {x : Except Flt α} {a : α} {g : Nat → α → M β} {r : Except Flt β} (h : x = .ok a) (h2 : Ev (fun n => g n a) r) : Ev (fun n => M.bind (M.of x) (g n)) r := Ev.bind (f := fun _ => M.of x) (h ▸ Ev.of) h2
theorem LevTo.paren {ts : List Tok} {e : Ex} {d : Nat} (h : LevTo 0 ts e d) {t u : Tok} (ht : bt t = (4, [40])) (hu : bt u = (4, [41])) : AtomTo (t :: (ts ++ [u])) e (d + 1) := by
 intro rest o hd; obtain ⟨h1, h2, h3⟩ := bt_mark ht; obtain ⟨x, hx, hr⟩ := h.closed hu (.inl rfl) (fs := rest) (o := o + 1) (by omega); refine ⟨x, hx, ?_⟩; have he : t :: (ts ++ [u]) ++ rest = t :: (ts ++ u :: rest) := by simp
 rw [he]; refine Ev.succ (f := fun n => M.bind (M.of (enter [40] (t :: (ts ++ u :: rest), o))) fun s1 => M.bind (pExpr n 0 s1) fun x => M.bind (M.of (leave [41] x.2)) fun s2 => some (.ok (x.1, s2))) (fun n => ?_) ?_
 · rw [pAtom, if_neg (by omega), if_neg (by omega), if_neg (by omega), if_neg (by omega), if_neg (by rw [h3]; decide), if_pos (by rw [h3]; decide)]
 · refine Ev.ofb (enter_run ht (by omega)) ?_; refine Ev.bind hr ?_; exact Ev.ofb (leave_run hu) (Ev.const _)
theorem keyed_toks {ts : List Tok} {e : Ex} {d p : Nat} (h : LevTo 0 ts e d) {t u : Tok} (ht : bt t = (4, [123])) (hu : bt u = (4, [125])) : AtomTo (t :: (ts ++ [u])) (.keyed p e) (d + 1) := by
 intro rest o hd; obtain ⟨h1, h2, h3⟩ := bt_mark ht; obtain ⟨x, hx, hr⟩ := h.closed hu (.inr (.inl rfl)) (fs := rest) (o := o + 1) (by omega); refine ⟨.keyed t.pl x, by simp [Ex.bare, hx], ?_⟩; have he : t :: (ts ++ [u]) ++ rest = t :: (ts ++ u :: rest) := by simp
 rw [he]; refine Ev.succ (f := fun n => M.bind (M.of (enter [123] (t :: (ts ++ u :: rest), o))) fun s1 => M.bind (pExpr n 0 s1) fun x => M.bind (M.of (leave [125] x.2)) fun s2 => some (.ok (.keyed t.pl x.1, s2))) (fun n => ?_) ?_
 · rw [pAtom, if_neg (by omega), if_neg (by omega), if_neg (by omega), if_neg (by omega), if_pos (by rw [h3]; decide)]
 · refine Ev.ofb (enter_run ht (by omega)) ?_; refine Ev.bind hr ?_; exact Ev.ofb (leave_run hu) (Ev.const _)
theorem name_toks {t : Tok} {p : Nat} {s : Bs} (h : bt t = (1, s)) (ha : arity s = 0) : AtomTo [t] (.name p s) 0 := by
 obtain ⟨k, q, s'⟩ := t; simp only [bt, Prod.mk.injEq] at h; obtain ⟨rfl, rfl⟩ := h; intro rest o _; refine ⟨.name q s', rfl, Ev.succ (fun n => ?_) (Ev.const _)⟩; rw [List.singleton_append, pAtom, if_neg (by simp), if_neg (by simp), if_neg (by simp [ha]), if_pos ⟨rfl, ha⟩]
theorem text_toks {t : Tok} {p : Nat} {s : Bs} (h : bt t = (2, s)) : AtomTo [t] (.text p s) 0 := by
 obtain ⟨k, q, s'⟩ := t; simp only [bt, Prod.mk.injEq] at h; obtain ⟨rfl, rfl⟩ := h; intro rest o _; refine ⟨.text q s', rfl, Ev.succ (fun n => ?_) (Ev.const _)⟩; rw [List.singleton_append, pAtom, if_pos rfl]
theorem rx_toks {t : Tok} {p : Nat} {s : Bs} (h : bt t = (3, s)) : AtomTo [t] (.rx p s) 0 := by
 obtain ⟨k, q, s'⟩ := t; simp only [bt, Prod.mk.injEq] at h; obtain ⟨rfl, rfl⟩ := h; intro rest o _; refine ⟨.rx q s', rfl, Ev.succ (fun n => ?_) (Ev.const _)⟩; rw [List.singleton_append, pAtom, if_neg (by simp), if_pos rfl]
def ArgsTo (ts : List Tok) (es : List Ex) (d : Nat) : Prop := ∀ rest o acc, acc ≠ [] → d + o ≤ 64 → ∃ xs, xs.map Ex.bare = es.map Ex.bare ∧ ∃ u, bt u = (4, [41]) ∧ Ev (fun n => pArgs n es.length acc (ts ++ rest, o)) (.ok (acc ++ xs, (u :: rest, o)))
theorem ArgsTo.nil {u : Tok} (hu : bt u = (4, [41])) : ArgsTo [u] [] 0 := by
 intro rest o acc _ _; exact ⟨[], rfl, u, hu, Ev.succ (fun n => by rw [List.length_nil, pArgs]; simp) (Ev.const _)⟩
theorem ArgsTo.head {ts us : List Tok} {e : Ex} {es : List Ex} {d k : Nat} (h2 : ArgsTo us es k) (hs : ∃ f fs m, us = f :: fs ∧ bt f = (4, m) ∧ (m = [41] ∨ m = [44])) (h : LevTo 0 ts e d) (rest : List Tok) (o : Nat) (acc : List Ex) (hd : max d k + o ≤ 64) :
 ∃ x xs, x.bare = e.bare ∧ xs.map Ex.bare = es.map Ex.bare ∧ ∃ u, bt u = (4, [41]) ∧ Ev (fun n => M.bind (pExpr n 0 (ts ++ (us ++ rest), o)) fun y => pArgs n es.length (acc ++ [y.1]) y.2) (.ok (acc ++ x :: xs, (u :: rest, o))) := by
 obtain ⟨f, fs, m, rfl, hf, hm⟩ := hs; obtain ⟨x, hx, hr⟩ := h.closed hf (by rcases hm with h | h; exact .inl h; exact .inr (.inr (.inl h))) (fs := fs ++ rest) (o := o) (by omega); obtain ⟨xs, hxs, u, hu, hr2⟩ := h2 rest o (acc ++ [x]) (by simp) (by omega); refine ⟨x, xs, hx, hxs, u, hu, ?_⟩; rw [List.cons_append]; refine Ev.bind hr ?_; simpa using hr2
theorem ArgsTo.cons {ts us : List Tok} {e : Ex} {es : List Ex} {d k : Nat} {c : Tok} (h2 : ArgsTo us es k) (hs : ∃ f fs m, us = f :: fs ∧ bt f = (4, m) ∧ (m = [41] ∨ m = [44])) (h : LevTo 0 ts e d) (hc : bt c = (4, [44])) :
 ArgsTo (c :: (ts ++ us)) (e :: es) (max d k) := by
 intro rest o acc ha hd; obtain ⟨x, xs, hx, hxs, u, hu, hr⟩ := ArgsTo.head h2 hs h rest o acc hd; refine ⟨x :: xs, by simp [hx, hxs], u, hu, ?_⟩; refine Ev.succ (f := fun n => M.bind (M.of (want [44] (c :: (ts ++ us) ++ rest, o))) fun s1 => M.bind (pExpr n 0 s1) fun y => pArgs n es.length (acc ++ [y.1]) y.2) (fun n => by rw [List.length_cons, pArgs, if_neg ha]) ?_; refine Ev.ofb (a := (ts ++ (us ++ rest), o)) ?_ hr; rw [List.cons_append, want_run hc, List.append_assoc]
theorem call_toks {ts us : List Tok} {e : Ex} {es : List Ex} {d k : Nat} {t c : Tok} {wd : Bs} (ha : arity wd = es.length + 1) (h2 : ArgsTo us es k) (hs : ∃ f fs m, us = f :: fs ∧ bt f = (4, m) ∧ (m = [41] ∨ m = [44])) (h : LevTo 0 ts e d) (ht : bt t = (1, wd)) (hc : bt c = (4, [40]))
 (rest : List Tok) (o : Nat) (hd : max d k + 1 + o ≤ 64) : ∃ x xs, x.bare = e.bare ∧ xs.map Ex.bare = es.map Ex.bare ∧ Ev (fun n => pAtom n (t :: c :: (ts ++ us) ++ rest, o)) (.ok (mkCall t.pl wd (x :: xs), (rest, o))) := by
 obtain ⟨kd, q, wd'⟩ := t; simp only [bt, Prod.mk.injEq] at ht; obtain ⟨rfl, rfl⟩ := ht; obtain ⟨x, xs, hx, hxs, u, hu, hr⟩ := ArgsTo.head h2 hs h rest (o + 1) [] (by omega); refine ⟨x, xs, hx, hxs, ?_⟩; refine Ev.succ (f := fun n => pCall n (⟨1, q, wd'⟩ :: c :: (ts ++ us) ++ rest, o)) (fun n => ?_) ?_
 · rw [List.cons_append, pAtom, if_neg (by simp), if_neg (by simp), if_pos ⟨rfl, by simp only [ha]; omega⟩]
 refine Ev.succ (f := fun n => M.bind (M.of (enter [40] (c :: (ts ++ us) ++ rest, o))) fun s1 => M.bind (pArgs n (arity wd').toNat [] s1) fun x => M.bind (M.of (leave [41] x.2)) fun s2 => some (.ok (mkCall q wd' x.1, s2))) (fun n => ?_) ?_
 · rw [List.cons_append, pCall]
 refine Ev.ofb (a := (ts ++ (us ++ rest), o + 1)) ?_ ?_
 · rw [List.cons_append, enter_run hc (by omega), List.append_assoc]
 refine Ev.bind (a := (x :: xs, (u :: rest, o + 1))) ?_ ?_
 · rw [ha, show ((es.length : Int) + 1).toNat = es.length + 1 by omega]; refine Ev.succ (f := fun n => M.bind (pExpr n 0 (ts ++ (us ++ rest), o + 1)) fun y => pArgs n es.length ([] ++ [y.1]) y.2) (fun n => ?_) hr; rw [pArgs, if_pos rfl]; rfl
 · exact Ev.ofb (leave_run hu) (Ev.const _)
def Own (e : Ex) : Prop := ∀ ts, ts.map bt = toks e 0 → LevTo (min e.rk 5).toNat ts e (dep e 0)
def All (e : Ex) : Prop := ∀ (lv : Nat) ts, lv ≤ 5 → ts.map bt = toks e lv → LevTo lv ts e (dep e lv)
theorem Own.all {e : Ex} (hw : Wf e) (h : Own e) : All e := by
 intro lv ts hl ht; have hr := hw.rk; rw [toks_need hw] at ht; rw [dep_need hw]; by_cases hc : e.rk < lv
 · rw [show decide (e.rk < (lv : Int)) = true by simpa using hc] at ht ⊢; simp only [parenT, if_pos, up] at ht ⊢; obtain ⟨t, r, rfl, ht1, ht2⟩ := List.map_eq_cons_iff.1 ht; obtain ⟨r1, r2, rfl, h1, h2⟩ := List.map_eq_append_iff.1 ht2; obtain ⟨u, r3, rfl, hu1, hu2⟩ := List.map_eq_cons_iff.1 h2; obtain rfl := List.map_eq_nil_iff.1 hu2; exact ((((h r1 h1).to (by omega) (Nat.zero_le _)).paren ht1 hu1).lev).to (Nat.le_refl 5) hl
 · rw [show decide (e.rk < (lv : Int)) = false by simpa using hc] at ht ⊢; exact (h ts ht).to (by omega) (by omega)
theorem split1 {ts : List Tok} {a : List (Nat × Bs)} {m : Nat × Bs} {b : List (Nat × Bs)} (h : ts.map bt = a ++ m :: b) : ∃ r t s, ts = r ++ t :: s ∧ r.map bt = a ∧ bt t = m ∧ s.map bt = b := by
 obtain ⟨r1, r2, rfl, h1, h2⟩ := List.map_eq_append_iff.1 h; obtain ⟨t, s, rfl, h3, h4⟩ := List.map_eq_cons_iff.1 h2; exact ⟨r1, t, s, rfl, h1, h3, h4⟩
theorem split0 {ts : List Tok} {m : Nat × Bs} {b : List (Nat × Bs)} (h : ts.map bt = m :: b) : ∃ t s, ts = t :: s ∧ bt t = m ∧ s.map bt = b := by
 obtain ⟨t, s, rfl, h3, h4⟩ := List.map_eq_cons_iff.1 h; exact ⟨t, s, rfl, h3, h4⟩
theorem splitE {ts : List Tok} {a : List (Nat × Bs)} {m : Nat × Bs} (h : ts.map bt = a ++ [m]) : ∃ r t, ts = r ++ [t] ∧ r.map bt = a ∧ bt t = m := by
 obtain ⟨r, t, s, rfl, h1, h2, h3⟩ := split1 h; obtain rfl := List.map_eq_nil_iff.1 h3; exact ⟨r, t, rfl, h1, h2⟩
theorem toks0 {b : Bool} {s : List (Nat × Bs)} (h : b = false) : parenT b s = s := by subst h; rfl
theorem up0 {b : Bool} {s : Nat} (h : b = false) : up b s = s := by subst h; rfl
theorem own_all (e : Ex) (h : Wf e) : Own e := by
 induction e with
 | name p s =>
  intro ts ht; rw [toks, toks0 (by decide)] at ht; obtain ⟨t, s', rfl, h1, h2⟩ := split0 ht; obtain rfl := List.map_eq_nil_iff.1 h2; exact (name_toks h1 h.2).lev
 | text p s =>
  intro ts ht; rw [toks, toks0 (by decide)] at ht; obtain ⟨t, s', rfl, h1, h2⟩ := split0 ht; obtain rfl := List.map_eq_nil_iff.1 h2; exact (text_toks h1).lev
 | rx p s =>
  intro ts ht; rw [toks, toks0 (by decide)] at ht; obtain ⟨t, s', rfl, h1, h2⟩ := split0 ht; obtain rfl := List.map_eq_nil_iff.1 h2; exact (rx_toks h1).lev
 | keyed p a iha =>
  intro ts ht; rw [toks, toks0 (by decide)] at ht; obtain ⟨t, s', rfl, h1, h2⟩ := split0 ht; obtain ⟨r, u, rfl, h3, h4⟩ := splitE h2; rw [dep, up0 (by decide)]; exact (keyed_toks ((iha h).all (e := a) h 0 r (by omega) h3) h1 h4).lev
 | unary p op a iha =>
  intro ts ht; rw [toks, toks0 (by decide)] at ht; obtain ⟨r, u, rfl, h3, h4⟩ := splitE ht; rw [dep, up0 (by decide)]; have hA := (iha h.2).all h.2 5 r (by omega) h3; have hk : (min (Ex.unary p op a).rk 5).toNat = 5 := by simp [Ex.rk]
  rw [hk]; intro rest o hd hf; obtain ⟨x, hx, hR⟩ := hA (u :: rest) o hd ⟨u, rest, rfl, .inl rfl⟩; obtain ⟨b1, b2, b3⟩ := bt_mark h4; refine ⟨.unary u.pl op x, by simp [Ex.bare, hx], fun R hc => ?_⟩; rw [List.append_assoc, List.singleton_append]; refine hR R ?_; refine Ev.succ (f := cont 5 (.unary u.pl op x) (rest, o)) (fun n => ?_) hc; unfold cont; rw [if_pos rfl, if_pos rfl, pPLoop, if_pos (by rw [b3, b3, b3]; rcases h.1 with rfl | rfl | rfl <;> decide), b2]
 | binary p op a b iha ihb =>
  intro ts ht; have hr := h.2.1; have hr4 := rank_le op; rw [toks, toks0 (by simpa using h.2.1)] at ht; obtain ⟨r, t, s, rfl, h3, h4, h5⟩ := split1 ht; rw [dep, up0 (by simpa using h.2.1)]; obtain ⟨k, hk⟩ : ∃ k : Nat, rank op = k := ⟨(rank op).toNat, by omega⟩; have hkk : (min (Ex.binary p op a b).rk 5).toNat = k := by simp only [Ex.rk]; omega
  rw [hkk]; rw [hk] at h3 h5 ⊢; have hA := (iha h.2.2.1).all h.2.2.1 k r (by omega) h3; have hB : LevTo (k + 1) s b (dep b ((k : Int) + 1)) := (ihb h.2.2.2).all h.2.2.2 (k + 1) s (by omega) h5; intro rest o hd hf; obtain ⟨b1, b2, b3⟩ := bt_mark h4; obtain ⟨f, fs, rfl, hf⟩ := hf; have hf : unTok f = false ∧ (f.kind = 4 → rank f.text ≤ k) := by
   rcases hf with h | h
   · omega
   · exact h
  have hun : unTok t = false := by
   unfold unTok; rw [b3, b3, b3]; cases hu : (op == [42] || op == [43] || op == [63]) with
   | false => rfl
   | true =>
    simp only [Bool.or_eq_true, beq_iff_eq] at hu; rcases hu with (rfl | rfl) | rfl <;> (revert hr; decide)
  obtain ⟨y, hy, hY⟩ := hB.read (f := f) (fs := fs) (o := o) (by have := Nat.le_max_right (dep a (k : Int)) (dep b ((k : Int) + 1)); omega) hf.1 (fun hk4 => .inl (by have := hf.2 hk4; omega)); obtain ⟨x, hx, hX⟩ := hA (t :: (s ++ f :: fs)) o (by have := Nat.le_max_left (dep a (k : Int)) (dep b ((k : Int) + 1)); omega) ⟨t, _, rfl, .inr ⟨hun, fun _ => by rw [b2]; omega⟩⟩; refine ⟨.binary t.pl op x y, by simp [Ex.bare, hx, hy], fun R hc => ?_⟩; rw [List.append_assoc, List.cons_append]; refine hX R ?_; have hk5 : ¬ k = 5 := by omega
  refine Ev.succ (f := fun n => M.bind (pExpr n (k + 1) (s ++ f :: fs, o)) fun x' => pLoop n k (.binary t.pl t.text x x'.1) x'.2) (fun n => ?_) ?_
  · unfold cont; rw [if_neg hk5, pLoop, if_pos ⟨b1, by rw [b2]; exact hk⟩]
  · refine Ev.bind hY ?_; have : cont k (.binary t.pl op x y) (f :: fs, o) = fun n => pLoop n k (.binary t.pl t.text x y) (f :: fs, o) := by
     funext n
     unfold cont; rw [if_neg hk5, b2]
    rw [this] at hc; exact hc
 | call1 p wd a iha =>
  intro ts ht; rw [toks, toks0 (by decide)] at ht; obtain ⟨t, s1, rfl, h1, ht⟩ := split0 ht; obtain ⟨c, s2, rfl, h2, ht⟩ := split0 ht; obtain ⟨r, u, rfl, h3, h4⟩ := splitE ht; rw [dep, up0 (by decide)]; refine AtomTo.lev fun rest o hd => ?_
  obtain ⟨x, xs, hx, hxs, hr⟩ := call_toks (es := []) (by simpa using h.1) (ArgsTo.nil h4) ⟨u, [], _, rfl, h4, .inl rfl⟩ ((iha h.2).all h.2 0 r (by omega) h3) h1 h2 rest o (by simpa using hd); obtain rfl : xs = [] := by simpa using hxs
  exact ⟨_, by simp [mkCall, Ex.bare, hx], hr⟩
 | call2 p wd a b iha ihb =>
  intro ts ht; rw [toks, toks0 (by decide)] at ht; obtain ⟨t, s1, rfl, h1, ht⟩ := split0 ht; obtain ⟨c, s2, rfl, h2, ht⟩ := split0 ht; obtain ⟨r, k, s3, rfl, h3, h4, ht⟩ := split1 ht; obtain ⟨r2, u, rfl, h5, h6⟩ := splitE ht; rw [dep, up0 (by decide)]; refine AtomTo.lev fun rest o hd => ?_
  have hB := ArgsTo.cons (ArgsTo.nil h6) ⟨u, [], _, rfl, h6, .inl rfl⟩ ((ihb h.2.2).all h.2.2 0 r2 (by omega) h5) h4; obtain ⟨x, xs, hx, hxs, hr⟩ := call_toks (es := [b]) (by simpa using h.1) hB ⟨k, _, _, rfl, h4, .inr rfl⟩ ((iha h.2.1).all h.2.1 0 r (by omega) h3) h1 h2 rest o (by simpa using hd); obtain ⟨y, rfl, hy⟩ : ∃ y, xs = [y] ∧ y.bare = b.bare := by
   obtain ⟨y, l, rfl, e1, e2⟩ := List.map_eq_cons_iff.1 hxs; obtain rfl := List.map_eq_nil_iff.1 e2; exact ⟨y, rfl, e1⟩
  exact ⟨_, by simp [mkCall, Ex.bare, hx, hy], hr⟩
 | call3 p wd a b c iha ihb ihc =>
  intro ts ht; rw [toks, toks0 (by decide)] at ht; obtain ⟨t, s1, rfl, h1, ht⟩ := split0 ht; obtain ⟨c1, s2, rfl, h2, ht⟩ := split0 ht; obtain ⟨r, k, s3, rfl, h3, h4, ht⟩ := split1 ht; obtain ⟨r2, k2, s4, rfl, h5, h6, ht⟩ := split1 ht; obtain ⟨r3, u, rfl, h7, h8⟩ := splitE ht; rw [dep, up0 (by decide)]; refine AtomTo.lev fun rest o hd => ?_
  have hC := ArgsTo.cons (ArgsTo.nil h8) ⟨u, [], _, rfl, h8, .inl rfl⟩ ((ihc h.2.2.2).all h.2.2.2 0 r3 (by omega) h7) h6; have hB := ArgsTo.cons hC ⟨k2, _, _, rfl, h6, .inr rfl⟩ ((ihb h.2.2.1).all h.2.2.1 0 r2 (by omega) h5) h4; obtain ⟨x, xs, hx, hxs, hr⟩ := call_toks (es := [b, c]) (by simpa using h.1) hB ⟨k, _, _, rfl, h4, .inr rfl⟩ ((iha h.2.1).all h.2.1 0 r (by omega) h3) h1 h2 rest o (by simpa using hd); obtain ⟨y, z, rfl, hy, hz⟩ : ∃ y z, xs = [y, z] ∧ y.bare = b.bare ∧ z.bare = c.bare := by
   obtain ⟨y, l, rfl, e1, e2⟩ := List.map_eq_cons_iff.1 hxs; obtain ⟨z, l, rfl, e3, e4⟩ := List.map_eq_cons_iff.1 e2; obtain rfl := List.map_eq_nil_iff.1 e4; exact ⟨y, z, rfl, e1, e3⟩
  exact ⟨_, by simp [mkCall, Ex.bare, hx, hy, hz], hr⟩
theorem defs_run : ∀ (ds : List Def), (∀ d ∈ ds, d.ok ∧ dep d.body 0 ≤ 64) → ∀ (ts : List Tok), ts.map bt = ds.flatMap toksD → ∀ (acc : List Def) (t t2 : Tok) (rest : List Tok), (t.kind = 1 → t.text ≠ [108, 101, 116]) →
 ∃ xs, xs.map Def.bare = ds.map Def.bare ∧ Ev (fun n => pDefs n acc (ts ++ t :: t2 :: rest, 0)) (.ok (acc ++ xs, (t :: t2 :: rest, 0)))
 | [], _, ts, ht, acc, t, t2, rest, hk => by
  have ht' : ts = [] := by simpa using ht
  subst ht'; refine ⟨[], rfl, Ev.succ (fun n => ?_) (Ev.const _)⟩; rw [List.nil_append, pDefs, if_neg (fun h => hk h.1 h.2), List.append_nil]
 | d :: ds, hd, ts, ht, acc, t, t2, rest, hk => by
  rw [List.flatMap_cons] at ht; obtain ⟨r1, r2, rfl, h1, h2⟩ := List.map_eq_append_iff.1 ht; obtain ⟨l, s1, rfl, hl, h1⟩ := split0 h1; obtain ⟨m, s2, rfl, hm, h1⟩ := split0 h1; obtain ⟨q, s3, rfl, hq, h1⟩ := split0 h1; obtain ⟨r, z, rfl, hr, hz⟩ := splitE h1; obtain ⟨hok, hdep⟩ := hd d (by simp); obtain ⟨x, hx, hX⟩ := ((own_all d.body hok.2.2).all hok.2.2 0 r (by omega) hr).closed hz (.inr (.inr (.inr rfl))) (fs := r2 ++ t :: t2 :: rest) (o := 0) (by simpa using hdep); obtain ⟨xs, hxs, hXS⟩ := defs_run ds (fun e he => hd e (by simp [he])) r2 h2 (acc ++ [⟨m.pl, m.text, x⟩]) t t2 rest hk; simp only [bt, Prod.mk.injEq] at hl hm
  refine ⟨⟨m.pl, m.text, x⟩ :: xs, by simp [Def.bare, hx, hxs, hm.2], ?_⟩; have he : l :: m :: q :: (r ++ [z]) ++ r2 ++ t :: t2 :: rest = l :: m :: q :: (r ++ z :: (r2 ++ t :: t2 :: rest)) := by simp
  rw [he]; refine Ev.succ (f := fun n => M.bind (M.of (want [61] (q :: (r ++ z :: (r2 ++ t :: t2 :: rest)), 0))) fun s1 => M.bind (pExpr n 0 s1) fun x => M.bind (M.of (want [59] x.2)) fun s2 => pDefs n (acc ++ [⟨m.pl, m.text, x.1⟩]) s2) (fun n => ?_) ?_
  · rw [pDefs, if_pos hl, if_neg (by rw [hm.1, hm.2, hok.2.1]; simp)]
  refine Ev.ofb (want_run hq) ?_; refine Ev.bind hX ?_; refine Ev.ofb (want_run hz) ?_; simpa using hXS
theorem toks_ne {e : Ex} (h : Wf e) : ∀ need, ∃ m r, toks e need = m :: r ∧ (m.1 = 1 → m.2 ≠ [108, 101, 116]) := by
 have hp : ∀ (b : Bool) (s : List (Nat × Bs)), (∃ m r, s = m :: r ∧ (m.1 = 1 → m.2 ≠ [108, 101, 116])) → ∃ m r, parenT b s = m :: r ∧ (m.1 = 1 → m.2 ≠ [108, 101, 116]) := by
  intro b s hs; cases b with
  | false => exact hs
  | true => exact ⟨_, _, rfl, by simp⟩
 have ha : ∀ wd : Bs, 0 ≤ arity wd → wd ≠ [108, 101, 116] := by
  rintro wd h rfl
  revert h
  decide
 induction e with
 | name p s => exact fun need => hp _ _ ⟨_, _, rfl, fun _ => ha s (by rw [h.2]; omega)⟩
 | text p s => exact fun need => hp _ _ ⟨_, _, rfl, by simp⟩
 | rx p s => exact fun need => hp _ _ ⟨_, _, rfl, by simp⟩
 | keyed p a iha => exact fun need => hp _ _ ⟨_, _, rfl, by simp⟩
 | call1 p wd a iha => exact fun need => hp _ _ ⟨_, _, rfl, fun _ => ha wd (by rw [h.1]; omega)⟩
 | call2 p wd a b iha ihb => exact fun need => hp _ _ ⟨_, _, rfl, fun _ => ha wd (by rw [h.1]; omega)⟩
 | call3 p wd a b c iha ihb ihc => exact fun need => hp _ _ ⟨_, _, rfl, fun _ => ha wd (by rw [h.1]; omega)⟩
 | unary p op a iha =>
  intro need; obtain ⟨m, r, e1, e2⟩ := iha h.2 5; exact hp _ _ ⟨m, r ++ [(4, op)], by rw [e1]; rfl, e2⟩
 | binary p op a b iha ihb =>
  intro need; obtain ⟨m, r, e1, e2⟩ := iha h.2.2.1 (rank op); exact hp _ _ ⟨m, _, by rw [e1]; rfl, e2⟩
theorem ends_of : ∀ (ts : List Tok) (a : List (Nat × Bs)), ts.map bt = a ++ [(0, [])] → (∀ m ∈ a, m.1 ≠ 0) → Ends ts := by
 intro ts a h ha; obtain ⟨r, t, rfl, h1, h2⟩ := splitE h; refine ends_snoc r t (fun u hu => ?_) (by simp [bt] at h2; exact h2.1); have : bt u ∈ a := by rw [← h1]; exact List.mem_map_of_mem hu
 exact ha _ this
theorem toks_kind : ∀ (e : Ex) (need : Int), ∀ m ∈ toks e need, m.1 ≠ 0 := by
 have hp : ∀ (b : Bool) (s : List (Nat × Bs)), (∀ m ∈ s, m.1 ≠ 0) → ∀ m ∈ parenT b s, m.1 ≠ 0 := by
  intro b s hs m hm; cases b with
  | false => exact hs m hm
  | true =>
   simp only [parenT, if_pos, List.mem_cons, List.mem_append, List.mem_nil_iff, or_false] at hm; rcases hm with rfl | hm | rfl
   · simp
   · exact hs m hm
   · simp
 intro e; induction e with
 | name p s => exact fun need => hp _ _ (by simp)
 | text p s => exact fun need => hp _ _ (by simp)
 | rx p s => exact fun need => hp _ _ (by simp)
 | keyed p a iha =>
  refine fun need => hp _ _ fun m hm => ?_
  simp only [List.mem_cons, List.mem_append, List.mem_nil_iff, or_false] at hm; rcases hm with rfl | hm | rfl
  · simp
  · exact iha _ m hm
  · simp
 | call1 p wd a iha =>
  refine fun need => hp _ _ fun m hm => ?_
  simp only [List.mem_cons, List.mem_append, List.mem_nil_iff, or_false] at hm; rcases hm with rfl | rfl | hm | rfl
  · simp
  · simp
  · exact iha _ m hm
  · simp
 | call2 p wd a b iha ihb =>
  refine fun need => hp _ _ fun m hm => ?_
  simp only [List.mem_cons, List.mem_append, List.mem_nil_iff, or_false] at hm; rcases hm with rfl | rfl | hm | rfl | hm | rfl
  · simp
  · simp
  · exact iha _ m hm
  · simp
  · exact ihb _ m hm
  · simp
 | call3 p wd a b c iha ihb ihc =>
  refine fun need => hp _ _ fun m hm => ?_
  simp only [List.mem_cons, List.mem_append, List.mem_nil_iff, or_false] at hm; rcases hm with rfl | rfl | hm | rfl | hm | rfl | hm | rfl
  · simp
  · simp
  · exact iha _ m hm
  · simp
  · exact ihb _ m hm
  · simp
  · exact ihc _ m hm
  · simp
 | unary p op a iha =>
  refine fun need => hp _ _ fun m hm => ?_
  simp only [List.mem_cons, List.mem_append, List.mem_nil_iff, or_false] at hm; rcases hm with hm | rfl
  · exact iha _ m hm
  · simp
 | binary p op a b iha ihb =>
  refine fun need => hp _ _ fun m hm => ?_
  simp only [List.mem_cons, List.mem_append, List.mem_nil_iff, or_false] at hm; rcases hm with hm | rfl | hm
  · exact iha _ m hm
  · simp
  · exact ihb _ m hm
def Prog.neat (p : Prog) : Prop := (∀ d ∈ p.defs, d.ok ∧ dep d.body 0 ≤ 64) ∧ Wf p.main ∧ dep p.main 0 ≤ 64
theorem parse_print {p : Prog} (h : p.neat) (hl : (print p).length ≤ 4096) : ∃ q, parse (print p) = .ok q ∧ q.bare = p.bare := by
 obtain ⟨h1, h2, h3⟩ := h; obtain ⟨ts, hs, hb⟩ := scan_print (fun d hd => (h1 d hd).1) h2 hl; unfold parse; rw [hs]; have hE : Ends ts := by
  refine ends_of ts (p.defs.flatMap toksD ++ toks p.main 0) (by rw [hb]; simp [toksP]) fun m hm => ?_
  rcases List.mem_append.1 hm with hm | hm
  · obtain ⟨d, hd, hm⟩ := List.mem_flatMap.1 hm; simp only [toksD, List.mem_cons, List.mem_append, List.mem_nil_iff, or_false] at hm; rcases hm with rfl | rfl | rfl | hm | rfl
    · simp
    · simp
    · simp
    · exact toks_kind _ _ m hm
    · simp
  · exact toks_kind _ _ m hm
 unfold toksP at hb; obtain ⟨r1, r2, rfl, e1, e2⟩ := List.map_eq_append_iff.1 hb; obtain ⟨r3, z, rfl, e3, e4⟩ := splitE e2; obtain ⟨m, rr, f1, f2⟩ := toks_ne h2 0; obtain ⟨t, r4, rfl, e5, e6⟩ := split0 (e3.trans f1); obtain ⟨t2, r5, hr⟩ : ∃ t2 r5, r4 ++ [z] = t2 :: r5 := by
  cases r4 with
  | nil => exact ⟨_, _, rfl⟩
  | cons a b => exact ⟨_, _, rfl⟩
 obtain ⟨xs, hxs, hX⟩ := defs_run p.defs h1 r1 e1 [] t t2 r5 (fun hk => by
  have := f2 (by rw [← e5]; exact hk); rw [← e5] at this; exact this)
 have hz : z.kind = 0 := by simp [bt] at e4; exact e4.1
 obtain ⟨x, hx, hY⟩ := ((own_all p.main h2).all h2 0 (t :: r4) (by omega) e3).read (f := z) (fs := []) (o := 0) (by simpa using h3) (by simp [unTok, tkIs, hz]) (by omega); have hP : Ev (fun n => program n (r1 ++ t :: (r4 ++ [z]), 0)) (.ok ⟨xs, x⟩) := by
  unfold program; refine Ev.bind (a := (xs, (t :: t2 :: r5, 0))) (by rw [hr]; exact hX) ?_; refine Ev.bind (a := (x, ([z], 0))) (by rw [← hr]; exact hY) ?_; simp only; rw [if_neg (by simpa using hz)]; exact Ev.const _
 obtain ⟨n, hn⟩ := hP; refine ⟨⟨xs, x⟩, ?_, by simp [Prog.bare, hxs, hx]⟩; exact parseToks_of hE (hn n (Nat.le_refl _))
end Go.Proofs.YtmfabihndpidnaaGreatDoor
