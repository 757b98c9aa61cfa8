/-
  Plain Lean: what lens texts stand for: terms, how they are made, how large they are. Terms: which values stand for them; asNode. Terms: a sign behind an expression.
-/
import Derived.Test.YtmfabihndpidnaaGreatDoorK30
import Derived.Test.YtmfabihndpidnaaGreatDoorK32
namespace Go.Proofs.YtmfabihndpidnaaGreatDoor
set_option linter.unusedVariables false
inductive Op4 where
 | alt
 | cat
 | swap
 | chain
def Op4.name : Op4 → Bs
 | .alt => [97, 108, 116]
 | .cat => [99, 97, 116]
 | .swap => [115, 119, 97, 112]
 | .chain => [99, 104, 97, 105, 110]
inductive Cn where
 | leaf (fold : Bool) (p : Nat) (n : Nd)
 | norm (p : Nat) (n : Nd) (fw bw : Bs)
 | star (p : Nat) (a : Cn)
 | two (cat : Bool) (p : Nat) (a b : Cn)
inductive Ln where
 | copy (key : Bool) (p : Nat) (n : Nd)
 | del (p : Nat) (n : Nd) (t : Bs)
 | ins (p : Nat) (t : Bs)
 | keyed (p : Nat) (a : Ln)
 | star (p : Nat) (a : Ln)
 | left (p : Nat) (q : Cn) (a : Ln)
 | right (p : Nat) (a : Ln) (q : Cn)
 | deflt (p : Nat) (a : Ln) (t : Bs)
 | two (o : Op4) (p : Nat) (a b : Ln)
inductive Tm where
 | text (p : Nat) (s : Bs)
 | rx (p : Nat) (n : Nd)
 | canon (c : Cn)
 | lens (l : Ln)
def Cn.size : Cn → Nat
 | .leaf _ _ n => 1 + n.size
 | .norm _ n fw _ => 1 + n.size + textSize fw
 | .star _ a => 1 + a.size
 | .two _ _ a b => 1 + a.size + b.size
def Ln.size : Ln → Nat
 | .copy _ _ n => 1 + n.size
 | .del _ n _ => 1 + n.size
 | .ins _ t => 1 + textSize t
 | .keyed _ a => 1 + a.size
 | .star _ a => 1 + a.size
 | .left _ q a => 1 + q.size + a.size
 | .right _ a q => 1 + q.size + a.size
 | .deflt _ a _ => 1 + a.size
 | .two _ _ a b => 1 + a.size + b.size
def Tm.size : Tm → Nat
 | .text _ s => textSize s
 | .rx _ n => n.size
 | .canon c => c.size
 | .lens l => l.size
def Tm.node? : Tm → Option Nd
 | .text _ s => some (Nd.text s)
 | .rx _ n => some n
 | _ => none
def Tm.text? : Tm → Option Bs
 | .text _ s => some s
 | _ => none
def Tm.canon? : Tm → Option Cn
 | .canon c => some c
 | _ => none
def Tm.lens? : Tm → Option Ln
 | .lens l => some l
 | _ => none
def mkUnary (p : Nat) (op : Bs) (t : Tm) : Except Nat Tm :=
 match t.node? with
 | some n => .ok (.rx p (if op = [42] then .star n else if op = [43] then .cat n (.star n) else .alt n .eps))
 | none =>
  match t with
  | .canon c => if op = [42] then .ok (.canon (.star p c)) else .error 72
  | .lens l => .ok (.lens (if op = [42] then .star p l else if op = [43] then .two .cat p l (.star p l) else .two .alt p l (.copy false p .eps)))
  | _ => .error 72
def rxOp (op : Bs) (x y : Nd) : Option Nd :=
 if op = [124] then some (.alt x y) else if op = [46] then some (.cat x y) else if op = [38] then some (.and x y) else if op = [45] then some (.minus x y) else none
def lnOp (op : Bs) : Option Op4 :=
 if op = [124] then some .alt else if op = [46] then some .cat else if op = [126] then some .swap else if op = [62, 62] then some .chain else none
def mkBinary (p : Nat) (op : Bs) (a b : Tm) : Except Nat Tm :=
 match a.node?, b.node? with
 | some x, some y => match rxOp op x y with
  | some n => .ok (.rx p n)
  | none => .error 72
 | _, _ =>
  match a, b with
  | .lens x, .lens y => match lnOp op with
   | some o => .ok (.lens (.two o p x y))
   | none => .error 72
  | .canon x, .canon y => if op = [124] then .ok (.canon (.two false p x y)) else if op = [46] then .ok (.canon (.two true p x y)) else .error 72
  | _, _ => .error 72
def needNode (t : Tm) : Except Nat Nd := match t.node? with | some n => .ok n | none => .error 72
def needText (t : Tm) : Except Nat Bs := match t.text? with | some n => .ok n | none => .error 72
def needCanon (t : Tm) : Except Nat Cn := match t.canon? with | some n => .ok n | none => .error 72
def needLens (t : Tm) : Except Nat Ln := match t.lens? with | some n => .ok n | none => .error 72
def andThen {α β : Type} (x : Except Nat α) (f : α → Except Nat β) : Except Nat β :=
 match x with
 | .error e => .error e
 | .ok a => f a
def mkCall1 (p : Nat) (wd : Bs) (a : Tm) : Except Nat Tm :=
 if wd = [105, 100] then andThen (needNode a) fun n => .ok (.canon (.leaf false p n))
 else if wd = [102, 111, 108, 100] then andThen (needNode a) fun n => .ok (.canon (.leaf true p n))
 else if wd = [105, 110, 115] then andThen (needText a) fun t => .ok (.lens (.ins p t))
 else if wd = [99, 111, 112, 121] then andThen (needNode a) fun n => .ok (.lens (.copy false p n))
 else andThen (needNode a) fun n => .ok (.lens (.copy true p n))
def mkCall2 (p : Nat) (wd : Bs) (a b : Tm) : Except Nat Tm :=
 if wd = [100, 101, 108] then andThen (needNode a) fun n => andThen (needText b) fun t => .ok (.lens (.del p n t))
 else if wd = [108, 101, 102, 116] then andThen (needCanon a) fun q => andThen (needLens b) fun l => .ok (.lens (.left p q l))
 else if wd = [114, 105, 103, 104, 116] then andThen (needLens a) fun l => andThen (needCanon b) fun q => .ok (.lens (.right p l q))
 else andThen (needLens a) fun l => andThen (needText b) fun t => .ok (.lens (.deflt p l t))
def mkCall3 (p : Nat) (a b c : Tm) : Except Nat Tm :=
 andThen (needNode a) fun n => andThen (needText b) fun t => andThen (needText c) fun u => .ok (.canon (.norm p n t u))
def chk (t : Tm) : Except Nat Tm := if 2000 < t.size then .error 24 else .ok t
abbrev Env := List (Bs × Tm)
def Env.get (env : Env) (s : Bs) : Option Tm := match env with
 | [] => none
 | (k, t) :: r => if k = s then some t else Env.get r s
def mk (env : Env) : Ex → Except Nat Tm
 | .name _ s => match env.get s with | some t => .ok t | none => .error 70
 | .text p s => .ok (.text p s)
 | .rx p s => andThen (rxParse s) fun n => .ok (.rx p n)
 | .keyed p a => andThen (mk env a) fun t => andThen (needLens t) fun l => chk (.lens (.keyed p l))
 | .unary p op a => andThen (mk env a) fun t => andThen (mkUnary p op t) chk
 | .binary p op a b => andThen (mk env a) fun x => andThen (mk env b) fun y => andThen (mkBinary p op x y) chk
 | .call1 p wd a => andThen (mk env a) fun x => andThen (mkCall1 p wd x) chk
 | .call2 p wd a b => andThen (mk env a) fun x => andThen (mk env b) fun y => andThen (mkCall2 p wd x y) chk
 | .call3 p wd a b c => andThen (mk env a) fun x => andThen (mk env b) fun y => andThen (mk env c) fun z => andThen (mkCall3 p x y z) chk
def mkDefs : Env → List Def → Except Nat Env
 | env, [] => .ok env
 | env, d :: r => match env.get d.name with
  | some _ => .error 71
  | none => andThen (mk env d.body) fun t => mkDefs ((d.name, t) :: env) r
def elabT (p : Prog) : Except Nat Tm := andThen (mkDefs [] p.defs) fun env => mk env p.main
def readT (l : Bs) : Except Nat Tm := match parse l with | .error f => .error f.code | .ok p => elabT p
end Go.Proofs.YtmfabihndpidnaaGreatDoor
namespace Go.Proofs.YtmfabihndpidnaaGreatDoor
open Go.RowKit
set_option maxRecDepth 100000
set_option linter.unusedVariables false
set_option linter.unusedSimpArgs false
theorem run_tm_78_78 (v : Value) : AsT 78 23 78 v (.tuple #[v, .bool true]) := fun w => by kernel_rfl
theorem run_tm_78_84 (v : Value) : AsT 78 23 84 v (.tuple #[(.pointer none), .bool false]) := fun w => by kernel_rfl
theorem run_tm_78_87 (v : Value) : AsT 78 23 87 v (.tuple #[(.pointer none), .bool false]) := fun w => by kernel_rfl
theorem run_tm_82_78 (v : Value) : AsT 82 23 78 v (.tuple #[(.agg #[.int .i64 0, .string ⟨#[]⟩]), .bool false]) := fun w => by kernel_rfl
theorem run_tm_82_82 (v : Value) : AsT 82 23 82 v (.tuple #[v, .bool true]) := fun w => by kernel_rfl
theorem run_tm_82_84 (v : Value) : AsT 82 23 84 v (.tuple #[(.pointer none), .bool false]) := fun w => by kernel_rfl
theorem run_tm_82_87 (v : Value) : AsT 82 23 87 v (.tuple #[(.pointer none), .bool false]) := fun w => by kernel_rfl
theorem run_tm_84_78 (v : Value) : AsT 84 23 78 v (.tuple #[(.agg #[.int .i64 0, .string ⟨#[]⟩]), .bool false]) := fun w => by kernel_rfl
theorem run_tm_84_82 (v : Value) : AsT 84 23 82 v (.tuple #[(.agg #[.int .i64 0, .nilIface]), .bool false]) := fun w => by kernel_rfl
theorem run_tm_84_84 (v : Value) : AsT 84 23 84 v (.tuple #[v, .bool true]) := fun w => by kernel_rfl
theorem run_tm_84_87 (v : Value) : AsT 84 23 87 v (.tuple #[(.pointer none), .bool false]) := fun w => by kernel_rfl
theorem run_tm_87_78 (v : Value) : AsT 87 23 78 v (.tuple #[(.agg #[.int .i64 0, .string ⟨#[]⟩]), .bool false]) := fun w => by kernel_rfl
theorem run_tm_87_82 (v : Value) : AsT 87 23 82 v (.tuple #[(.agg #[.int .i64 0, .nilIface]), .bool false]) := fun w => by kernel_rfl
theorem run_tm_87_84 (v : Value) : AsT 87 23 84 v (.tuple #[(.pointer none), .bool false]) := fun w => by kernel_rfl
theorem run_tm_87_87 (v : Value) : AsT 87 23 87 v (.tuple #[v, .bool true]) := fun w => by kernel_rfl
def cnB (w : World) (g : Nat) (p : Nat) (op : Bs) (n : Value) (fw bw : Bs) (a b : Value) : Prop := Blk w g [.int .i64 (p : Int), .string (mkS op), n, .string (mkS fw), .string (mkS bw), a, b] 86
def lnB (w : World) (g : Nat) (p : Nat) (op : Bs) (n : Value) (t : Bs) (q a b : Value) : Prop := Blk w g [.int .i64 (p : Int), .string (mkS op), n, .string (mkS t), q, a, b] 89
def ptr (g : Nat) : Value := .pointer (some ⟨g, 0, none⟩)
def nop : Value := .pointer none
def leafName (fold : Bool) : Bs := if fold then [102, 111, 108, 100] else [105, 100]
def copyName (key : Bool) : Bs := if key then [107, 101, 121] else [99, 111, 112, 121]
def twoName (cat : Bool) : Bs := if cat then [99, 97, 116] else [97, 108, 116]
def CnV (w : World) : Cn → Nat → Prop
 | .leaf f p n, g => cnB w g p (leafName f) (ndV n) [] [] nop nop
 | .norm p n fw bw, g => cnB w g p [110, 111, 114, 109] (ndV n) fw bw nop nop
 | .star p a, g => ∃ ga, cnB w g p [115, 116, 97, 114] .nilIface [] [] (ptr ga) nop ∧ CnV w a ga
 | .two c p a b, g => ∃ ga gb, cnB w g p (twoName c) .nilIface [] [] (ptr ga) (ptr gb) ∧ CnV w a ga ∧ CnV w b gb
def LnV (w : World) : Ln → Nat → Prop
 | .copy k p n, g => lnB w g p (copyName k) (ndV n) [] nop nop nop
 | .del p n t, g => lnB w g p [100, 101, 108] (ndV n) t nop nop nop
 | .ins p t, g => lnB w g p [105, 110, 115] .nilIface t nop nop nop
 | .keyed p a, g => ∃ ga, lnB w g p [107, 101, 121, 101, 100] .nilIface [] nop (ptr ga) nop ∧ LnV w a ga
 | .star p a, g => ∃ ga, lnB w g p [115, 116, 97, 114] .nilIface [] nop (ptr ga) nop ∧ LnV w a ga
 | .left p q a, g => ∃ gq ga, lnB w g p [108, 101, 102, 116] .nilIface [] (ptr gq) (ptr ga) nop ∧ CnV w q gq ∧ LnV w a ga
 | .right p a q, g => ∃ gq ga, lnB w g p [114, 105, 103, 104, 116] .nilIface [] (ptr gq) (ptr ga) nop ∧ CnV w q gq ∧ LnV w a ga
 | .deflt p a t, g => ∃ ga, lnB w g p [100, 101, 102, 97, 117, 108, 116] .nilIface t nop (ptr ga) nop ∧ LnV w a ga
 | .two o p a b, g => ∃ ga gb, lnB w g p o.name .nilIface [] nop (ptr ga) (ptr gb) ∧ LnV w a ga ∧ LnV w b gb
def TmV (w : World) : Tm → Value → Prop
 | .text p s, v => v = .iface 78 (.agg #[.int .i64 (p : Int), .string (mkS s)])
 | .rx p n, v => v = .iface 82 (.agg #[.int .i64 (p : Int), ndV n])
 | .canon c, v => ∃ g, v = .iface 84 (ptr g) ∧ CnV w c g
 | .lens l, v => ∃ g, v = .iface 87 (ptr g) ∧ LnV w l g
theorem CnV.keep {w w' : World} (k : Keep none w w') : ∀ {c : Cn} {g : Nat}, CnV w c g → CnV w' c g := by
 intro c; induction c with
 | leaf f p n => exact fun h => Blk.keep h k (by simp)
 | norm p n fw bw => exact fun h => Blk.keep h k (by simp)
 | star p a ih => exact fun ⟨ga, h1, h2⟩ => ⟨ga, Blk.keep h1 k (by simp), ih h2⟩
 | two c p a b iha ihb => exact fun ⟨ga, gb, h1, h2, h3⟩ => ⟨ga, gb, Blk.keep h1 k (by simp), iha h2, ihb h3⟩
theorem LnV.keep {w w' : World} (k : Keep none w w') : ∀ {c : Ln} {g : Nat}, LnV w c g → LnV w' c g := by
 intro c; induction c with
 | copy f p n => exact fun h => Blk.keep h k (by simp)
 | del p n t => exact fun h => Blk.keep h k (by simp)
 | ins p t => exact fun h => Blk.keep h k (by simp)
 | keyed p a ih => exact fun ⟨ga, h1, h2⟩ => ⟨ga, Blk.keep h1 k (by simp), ih h2⟩
 | star p a ih => exact fun ⟨ga, h1, h2⟩ => ⟨ga, Blk.keep h1 k (by simp), ih h2⟩
 | left p q a ih => exact fun ⟨gq, ga, h1, h2, h3⟩ => ⟨gq, ga, Blk.keep h1 k (by simp), h2.keep k, ih h3⟩
 | right p a q ih => exact fun ⟨gq, ga, h1, h2, h3⟩ => ⟨gq, ga, Blk.keep h1 k (by simp), h2.keep k, ih h3⟩
 | deflt p a t ih => exact fun ⟨ga, h1, h2⟩ => ⟨ga, Blk.keep h1 k (by simp), ih h2⟩
 | two c p a b iha ihb => exact fun ⟨ga, gb, h1, h2, h3⟩ => ⟨ga, gb, Blk.keep h1 k (by simp), iha h2, ihb h3⟩
theorem TmV.keep {w w' : World} (k : Keep none w w') {t : Tm} {v : Value} (h : TmV w t v) : TmV w' t v := by
 cases t with
 | text p s => exact h
 | rx p n => exact h
 | canon c =>
  obtain ⟨g, h1, h2⟩ := h; exact ⟨g, h1, h2.keep k⟩
 | lens l =>
  obtain ⟨g, h1, h2⟩ := h; exact ⟨g, h1, h2.keep k⟩
theorem TmV.iface {w : World} {t : Tm} {v : Value} (h : TmV w t v) : ∃ ty y, v = .iface ty y := by
 cases t with
 | text p s => exact ⟨_, _, h⟩
 | rx p n => exact ⟨_, _, h⟩
 | canon c =>
  obtain ⟨g, h1, h2⟩ := h; exact ⟨_, _, h1⟩
 | lens l =>
  obtain ⟨g, h1, h2⟩ := h; exact ⟨_, _, h1⟩
def Tm.small (t : Tm) : Prop := match t with | .text _ s => s.length ≤ 100000 | _ => True
attribute [local go_sem ↓] run_tm_78_78 run_tm_82_78 run_tm_82_82 run_tm_84_78 run_tm_84_82 run_tm_87_78 run_tm_87_82
theorem asNode_some (t : Tm) (n : Nd) (hn : t.node? = some n) (hs : t.small) (v : Value) (w : World) (h : TmV w t v) : Calls Tryz.prog 63 #[v] w fun e w' => e = .returned (.tuple #[ndV n, .bool true]) ∧ Keep none w w' := by
 cases t with
 | text p s =>
  obtain rfl : v = _ := h; have hn : Nd.text s = n := by simpa [Tm.node?] using hn
  have HT := yh (fun V => rx_text (mkS s) (by rw [mkS_size]; exact hs) V); rw [show (mkS s).data.toList = s from by simp, hn] at HT; clear hn hs; go_enter Tryz.func63, Tryz.ntmps63; go_wp2_with fail; refine (HT.out _).mono ?_; rintro e x1 ⟨rfl, k1⟩; obtain ⟨ty, y, hnd⟩ := ndV_iface n; rw [hnd]; have HN := yh hnd; clear hnd; go_wp2_with fail
  go_ret2
  exact ⟨by rw [HN.out]; rfl, ((Keep.refl _ _).alloc _).trans k1⟩
 | rx p m =>
  obtain rfl : v = _ := h; obtain rfl : m = n := by simpa [Tm.node?] using hn
  obtain ⟨ty, y, hnd⟩ := ndV_iface m; rw [hnd]; clear hn hs hnd; go_enter Tryz.func63, Tryz.ntmps63; go_wp2_with fail
  go_ret2
  exact ⟨rfl, (Keep.refl _ _).alloc _⟩
 | canon c => simp [Tm.node?] at hn
 | lens l => simp [Tm.node?] at hn
theorem asNode_none (t : Tm) (hn : t.node? = none) (v : Value) (w : World) (h : TmV w t v) : Calls Tryz.prog 63 #[v] w fun e w' => e = .returned (.tuple #[.nilIface, .bool false]) ∧ w' = w := by
 cases t with
 | text p s => simp [Tm.node?] at hn
 | rx p m => simp [Tm.node?] at hn
 | canon c =>
  obtain ⟨g, rfl, _⟩ := h; clear hn; go_enter Tryz.func63, Tryz.ntmps63; go_wp2_with fail
  go_ret2
  exact ⟨rfl, rfl⟩
 | lens l =>
  obtain ⟨g, rfl, _⟩ := h; clear hn; go_enter Tryz.func63, Tryz.ntmps63; go_wp2_with fail
  go_ret2
  exact ⟨rfl, rfl⟩
theorem tm_fail (c p : Int) (w : World) : Calls Tryz.prog 20 #[.int .i64 c, .int .i64 p] w fun e w' => e = .panicked (flt c p) ∧ w' = w := by
 go_enter Tryz.func20, Tryz.ntmps20; go_wp2_with fail; exact ⟨rfl, rfl, rfl⟩
def TOut (w : World) (r : Except Nat Tm) (e : Ending) (w' : World) : Prop :=
 match r with
 | .ok t => ∃ v, e = .returned v ∧ TmV w' t v ∧ Keep none w w'
 | .error c => ∃ pl : Int, e = .panicked (flt c pl) ∧ Keep none w w'
end Go.Proofs.YtmfabihndpidnaaGreatDoor
namespace Go.Proofs.YtmfabihndpidnaaGreatDoor
open Go.RowKit
set_option maxRecDepth 100000
set_option linter.unusedVariables false
set_option linter.unusedSimpArgs false
theorem unary_node0 (p : Nat) (ta : TypeId) (ya : Value) (t : Tm) (n : Nd) (hn : t.node? = some n) (hs : t.small) (v : Value) (w : World) (h : TmV w t v) :
 Calls Tryz.prog 42 #[.agg #[.int .i64 (p : Int), .string (mkS [42]), .iface ta ya], v] w (TOut w (.ok (.rx p (.star n)))) := by
 have HA := yh (fun V (k : Keep none w V) => asNode_some t n hn hs v V (h.keep k)); obtain ⟨tv, yv, rfl⟩ := h.iface; have HV := yh h; clear h hn hs; go_enter Tryz.func42, Tryz.ntmps42; go_wp2_with fail; refine (HA.out _ ((Keep.refl _ _).alloc _)).mono ?_; rintro e x1 ⟨rfl, k1⟩; obtain ⟨ty, y, hnd⟩ := ndV_iface n; rw [hnd]; have HN := yh hnd; have HB := yh ((Blk.new w [.int .i64 (p : Int), .string (mkS [42]), .iface ta ya] 105).keep k1 (by simp)); have hc := HB.out.cell; clear hnd; go_wp2_with fail; clear hc; go_ret; exact ⟨_, rfl, by simp only [TmV, ndV, HN.out]; rfl, ((Keep.refl _ _).alloc _).trans k1⟩
theorem unary_node1 (p : Nat) (ta : TypeId) (ya : Value) (t : Tm) (n : Nd) (hn : t.node? = some n) (hs : t.small) (v : Value) (w : World) (h : TmV w t v) :
 Calls Tryz.prog 42 #[.agg #[.int .i64 (p : Int), .string (mkS [43]), .iface ta ya], v] w (TOut w (.ok (.rx p (.cat n (.star n))))) := by
 have HA := yh (fun V (k : Keep none w V) => asNode_some t n hn hs v V (h.keep k)); obtain ⟨tv, yv, rfl⟩ := h.iface; have HV := yh h; clear h hn hs; go_enter Tryz.func42, Tryz.ntmps42; go_wp2_with fail; refine (HA.out _ ((Keep.refl _ _).alloc _)).mono ?_; rintro e x1 ⟨rfl, k1⟩; obtain ⟨ty, y, hnd⟩ := ndV_iface n; rw [hnd]; have HN := yh hnd; have HB := yh ((Blk.new w [.int .i64 (p : Int), .string (mkS [43]), .iface ta ya] 105).keep k1 (by simp)); have hc := HB.out.cell; clear hnd; go_wp2_with fail; clear hc; go_ret; exact ⟨_, rfl, by simp only [TmV, ndV, HN.out]; rfl, ((Keep.refl _ _).alloc _).trans k1⟩
theorem unary_node2 (p : Nat) (ta : TypeId) (ya : Value) (t : Tm) (n : Nd) (hn : t.node? = some n) (hs : t.small) (v : Value) (w : World) (h : TmV w t v) :
 Calls Tryz.prog 42 #[.agg #[.int .i64 (p : Int), .string (mkS [63]), .iface ta ya], v] w (TOut w (.ok (.rx p (.alt n .eps)))) := by
 have HA := yh (fun V (k : Keep none w V) => asNode_some t n hn hs v V (h.keep k)); obtain ⟨tv, yv, rfl⟩ := h.iface; have HV := yh h; clear h hn hs; go_enter Tryz.func42, Tryz.ntmps42; go_wp2_with fail; refine (HA.out _ ((Keep.refl _ _).alloc _)).mono ?_; rintro e x1 ⟨rfl, k1⟩; obtain ⟨ty, y, hnd⟩ := ndV_iface n; rw [hnd]; have HN := yh hnd; have HB := yh ((Blk.new w [.int .i64 (p : Int), .string (mkS [63]), .iface ta ya] 105).keep k1 (by simp)); have hc := HB.out.cell; clear hnd; go_wp2_with fail; clear hc; go_ret; exact ⟨_, rfl, by simp only [TmV, ndV, HN.out]; rfl, ((Keep.refl _ _).alloc _).trans k1⟩
attribute [local go_sem ↓] run_tm_84_84 run_tm_87_84 run_tm_87_87 run_tm_84_87
theorem unary_canon0 (p : Nat) (ta : TypeId) (ya : Value) (c : Cn) (v : Value) (w : World) (h : TmV w (.canon c) v) :
 Calls Tryz.prog 42 #[.agg #[.int .i64 (p : Int), .string (mkS [42]), .iface ta ya], v] w (TOut w (.ok (.canon (.star p c)))) := by
 have HA := yh (fun V (k : Keep none w V) => asNode_none (.canon c) rfl v V (h.keep k)); obtain ⟨g, rfl, hg⟩ := h; have HG := yh hg; clear hg; unfold ptr at *; go_enter Tryz.func42, Tryz.ntmps42; go_wp2_with fail; refine (HA.out _ ((Keep.refl _ _).alloc _)).mono ?_; rintro e x1 ⟨rfl, rfl⟩; have HB := yh (Blk.new w [.int .i64 (p : Int), .string (mkS [42]), .iface ta ya] 105); have HG1 := yh (HG.out.keep ((Keep.refl none w).alloc (.cells #[.int .i64 (p : Int), .string (mkS [42]), .iface ta ya] 105))); have K1 := yh ((Keep.refl none w).alloc (.cells #[.int .i64 (p : Int), .string (mkS [42]), .iface ta ya] 105))
 have hc := HB.out.cell; go_wp2_with fail; clear hc; go_ret; generalize hV : World.alloc w _ = V at HG1 K1 ⊢; have hz : V.heap.size = w.heap.size + 1 := by rw [← hV]; simp
 exact ⟨_, rfl, ⟨V.heap.size, by rw [hz]; rfl, g, Blk.new V _ 86, HG1.out.keep ((Keep.refl _ _).alloc _)⟩, K1.out.alloc _⟩
theorem unary_canon1 (p : Nat) (ta : TypeId) (ya : Value) (c : Cn) (v : Value) (w : World) (h : TmV w (.canon c) v) :
 Calls Tryz.prog 42 #[.agg #[.int .i64 (p : Int), .string (mkS [43]), .iface ta ya], v] w (TOut w (.error 72)) := by
 have HA := yh (fun V (k : Keep none w V) => asNode_none (.canon c) rfl v V (h.keep k)); obtain ⟨g, rfl, hg⟩ := h; have HG := yh hg; clear hg; unfold ptr at *; go_enter Tryz.func42, Tryz.ntmps42; go_wp2_with fail; refine (HA.out _ ((Keep.refl _ _).alloc _)).mono ?_; rintro e x1 ⟨rfl, rfl⟩; have HB := yh (Blk.new w [.int .i64 (p : Int), .string (mkS [43]), .iface ta ya] 105); have HG1 := yh (HG.out.keep ((Keep.refl none w).alloc (.cells #[.int .i64 (p : Int), .string (mkS [43]), .iface ta ya] 105))); have K1 := yh ((Keep.refl none w).alloc (.cells #[.int .i64 (p : Int), .string (mkS [43]), .iface ta ya] 105))
 have hc := HB.out.cell; go_wp2_with fail; clear hc; refine (tm_fail _ _ _).mono ?_; rintro e x2 ⟨rfl, rfl⟩; exact ⟨rfl, _, rfl, K1.out⟩
theorem unary_canon2 (p : Nat) (ta : TypeId) (ya : Value) (c : Cn) (v : Value) (w : World) (h : TmV w (.canon c) v) :
 Calls Tryz.prog 42 #[.agg #[.int .i64 (p : Int), .string (mkS [63]), .iface ta ya], v] w (TOut w (.error 72)) := by
 have HA := yh (fun V (k : Keep none w V) => asNode_none (.canon c) rfl v V (h.keep k)); obtain ⟨g, rfl, hg⟩ := h; have HG := yh hg; clear hg; unfold ptr at *; go_enter Tryz.func42, Tryz.ntmps42; go_wp2_with fail; refine (HA.out _ ((Keep.refl _ _).alloc _)).mono ?_; rintro e x1 ⟨rfl, rfl⟩; have HB := yh (Blk.new w [.int .i64 (p : Int), .string (mkS [63]), .iface ta ya] 105); have HG1 := yh (HG.out.keep ((Keep.refl none w).alloc (.cells #[.int .i64 (p : Int), .string (mkS [63]), .iface ta ya] 105))); have K1 := yh ((Keep.refl none w).alloc (.cells #[.int .i64 (p : Int), .string (mkS [63]), .iface ta ya] 105))
 have hc := HB.out.cell; go_wp2_with fail; clear hc; refine (tm_fail _ _ _).mono ?_; rintro e x2 ⟨rfl, rfl⟩; exact ⟨rfl, _, rfl, K1.out⟩
theorem unary_lens0 (p : Nat) (ta : TypeId) (ya : Value) (c : Ln) (v : Value) (w : World) (h : TmV w (.lens c) v) :
 Calls Tryz.prog 42 #[.agg #[.int .i64 (p : Int), .string (mkS [42]), .iface ta ya], v] w (TOut w (.ok (.lens (.star p c)))) := by
 have HA := yh (fun V (k : Keep none w V) => asNode_none (.lens c) rfl v V (h.keep k)); obtain ⟨g, rfl, hg⟩ := h; have HG := yh hg; clear hg; unfold ptr at *; go_enter Tryz.func42, Tryz.ntmps42; go_wp2_with fail; refine (HA.out _ ((Keep.refl _ _).alloc _)).mono ?_; rintro e x1 ⟨rfl, rfl⟩; have HB := yh (Blk.new w [.int .i64 (p : Int), .string (mkS [42]), .iface ta ya] 105); have HG1 := yh (HG.out.keep ((Keep.refl none w).alloc (.cells #[.int .i64 (p : Int), .string (mkS [42]), .iface ta ya] 105))); have K1 := yh ((Keep.refl none w).alloc (.cells #[.int .i64 (p : Int), .string (mkS [42]), .iface ta ya] 105))
 have hc := HB.out.cell; go_wp2_with fail; clear hc; go_ret; generalize hV : World.alloc w _ = V at HG1 K1 ⊢; have hz : V.heap.size = w.heap.size + 1 := by rw [← hV]; simp
 exact ⟨_, rfl, ⟨V.heap.size, by rw [hz]; rfl, g, Blk.new V _ 89, HG1.out.keep ((Keep.refl _ _).alloc _)⟩, K1.out.alloc _⟩
theorem unary_lens1 (p : Nat) (ta : TypeId) (ya : Value) (c : Ln) (v : Value) (w : World) (h : TmV w (.lens c) v) :
 Calls Tryz.prog 42 #[.agg #[.int .i64 (p : Int), .string (mkS [43]), .iface ta ya], v] w (TOut w (.ok (.lens (.two .cat p c (.star p c))))) := by
 have HA := yh (fun V (k : Keep none w V) => asNode_none (.lens c) rfl v V (h.keep k)); obtain ⟨g, rfl, hg⟩ := h; have HG := yh hg; clear hg; unfold ptr at *; go_enter Tryz.func42, Tryz.ntmps42; go_wp2_with fail; refine (HA.out _ ((Keep.refl _ _).alloc _)).mono ?_; rintro e x1 ⟨rfl, rfl⟩; have HB := yh (Blk.new w [.int .i64 (p : Int), .string (mkS [43]), .iface ta ya] 105); have HG1 := yh (HG.out.keep ((Keep.refl none w).alloc (.cells #[.int .i64 (p : Int), .string (mkS [43]), .iface ta ya] 105))); have K1 := yh ((Keep.refl none w).alloc (.cells #[.int .i64 (p : Int), .string (mkS [43]), .iface ta ya] 105))
 have hc := HB.out.cell; go_wp2_with fail; clear hc; go_ret; generalize hV : World.alloc w _ = V at HG1 K1 ⊢; have hz : V.heap.size = w.heap.size + 1 := by rw [← hV]; simp
 rw [← hz]; have hb := Blk.new V [.int .i64 (p : Int), .string ⟨#[115, 116, 97, 114]⟩, .nilIface, .string ⟨#[]⟩, .pointer none, .pointer (some ⟨g, 0, none⟩), .pointer none] 89; generalize hV2 : World.alloc V _ = V2 at hb ⊢; have k2 : Keep none V V2 := by rw [← hV2]; exact (Keep.refl _ _).alloc _
 have hz2 : V2.heap.size = V.heap.size + 1 := by rw [← hV2]; simp
 have kk := (k2.alloc (.cells #[.int .i64 (p : Int), .string (mkS [99, 97, 116]), .nilIface, .string ⟨#[]⟩, nop, ptr g, ptr V.heap.size] 89)); exact ⟨_, rfl, ⟨V2.heap.size, by rw [hz2]; rfl, g, V.heap.size, Blk.new V2 _ 89, HG1.out.keep kk, ⟨g, hb.alloc _, HG1.out.keep kk⟩⟩, K1.out.trans kk⟩
theorem unary_lens2 (p : Nat) (ta : TypeId) (ya : Value) (c : Ln) (v : Value) (w : World) (h : TmV w (.lens c) v) :
 Calls Tryz.prog 42 #[.agg #[.int .i64 (p : Int), .string (mkS [63]), .iface ta ya], v] w (TOut w (.ok (.lens (.two .alt p c (.copy false p .eps))))) := by
 have HA := yh (fun V (k : Keep none w V) => asNode_none (.lens c) rfl v V (h.keep k)); obtain ⟨g, rfl, hg⟩ := h; have HG := yh hg; clear hg; unfold ptr at *; go_enter Tryz.func42, Tryz.ntmps42; go_wp2_with fail; refine (HA.out _ ((Keep.refl _ _).alloc _)).mono ?_; rintro e x1 ⟨rfl, rfl⟩; have HB := yh (Blk.new w [.int .i64 (p : Int), .string (mkS [63]), .iface ta ya] 105); have HG1 := yh (HG.out.keep ((Keep.refl none w).alloc (.cells #[.int .i64 (p : Int), .string (mkS [63]), .iface ta ya] 105))); have K1 := yh ((Keep.refl none w).alloc (.cells #[.int .i64 (p : Int), .string (mkS [63]), .iface ta ya] 105))
 have hc := HB.out.cell; go_wp2_with fail; clear hc; go_ret; generalize hV : World.alloc w _ = V at HG1 K1 ⊢; have hz : V.heap.size = w.heap.size + 1 := by rw [← hV]; simp
 rw [← hz]; have hb := Blk.new V [.int .i64 (p : Int), .string ⟨#[99, 111, 112, 121]⟩, .iface 148 (.agg #[]), .string ⟨#[]⟩, .pointer none, .pointer none, .pointer none] 89; generalize hV2 : World.alloc V _ = V2 at hb ⊢; have k2 : Keep none V V2 := by rw [← hV2]; exact (Keep.refl _ _).alloc _
 have hz2 : V2.heap.size = V.heap.size + 1 := by rw [← hV2]; simp
 have kk := (k2.alloc (.cells #[.int .i64 (p : Int), .string (mkS [97, 108, 116]), .nilIface, .string ⟨#[]⟩, nop, ptr g, ptr V.heap.size] 89)); exact ⟨_, rfl, ⟨V2.heap.size, by rw [hz2]; rfl, g, V.heap.size, Blk.new V2 _ 89, HG1.out.keep kk, hb.alloc _⟩, K1.out.trans kk⟩
theorem unary_any (p : Nat) (op : Bs) (hop : op = [42] ∨ op = [43] ∨ op = [63]) (ta : TypeId) (ya : Value) (t : Tm) (hs : t.small) (v : Value) (w : World) (h : TmV w t v) :
 Calls Tryz.prog 42 #[.agg #[.int .i64 (p : Int), .string (mkS op), .iface ta ya], v] w (TOut w (mkUnary p op t)) := by
 cases hn : t.node? with
 | some n =>
  have e : mkUnary p op t = .ok (.rx p (if op = [42] then .star n else if op = [43] then .cat n (.star n) else .alt n .eps)) := by unfold mkUnary; simp only [hn]
  rw [e]; rcases hop with rfl | rfl | rfl
  · exact unary_node0 p ta ya t n hn hs v w h
  · exact unary_node1 p ta ya t n hn hs v w h
  · exact unary_node2 p ta ya t n hn hs v w h
 | none =>
  cases t with
  | text p s => simp [Tm.node?] at hn
  | rx p s => simp [Tm.node?] at hn
  | canon c =>
   rcases hop with rfl | rfl | rfl
   · exact unary_canon0 p ta ya c v w h
   · exact unary_canon1 p ta ya c v w h
   · exact unary_canon2 p ta ya c v w h
  | lens c =>
   rcases hop with rfl | rfl | rfl
   · exact unary_lens0 p ta ya c v w h
   · exact unary_lens1 p ta ya c v w h
   · exact unary_lens2 p ta ya c v w h
end Go.Proofs.YtmfabihndpidnaaGreatDoor
