/-
  Expressions over bytes: their values; rules, whose second half is a function that grows an expression; what a parse of an expression leaves of memory. The scanner of expressions over bytes: its small methods; a rule that may be left out; a number. The scanner of expressions over bytes: a number.
-/
import Derived.Test.YtmfabihndpidnaaGreatDoorK20
namespace Go.Proofs.YtmfabihndpidnaaGreatDoor
open Go.RowKit
set_option maxRecDepth 100000
set_option linter.unusedVariables false
set_option linter.unusedSimpArgs false
def ndV : Nd → Value
 | .eps => .iface 148 (.agg #[])
 | .cls s => .iface 180 s.val
 | .cat a b => .iface 146 (.agg #[ndV a, ndV b])
 | .alt a b => .iface 149 (.agg #[ndV a, ndV b])
 | .star a => .iface 144 (.agg #[ndV a])
 | .and a b => .iface 150 (.agg #[ndV a, ndV b])
 | .minus a b => .iface 151 (.agg #[ndV a, ndV b])
theorem ndV_iface (n : Nd) : ∃ t y, ndV n = .iface t y := by cases n <;> exact ⟨_, _, rfl⟩
def Vol (w : World) (i : Nat) : Prop := ∃ cs t fr, w.heap[i]? = some (.cells cs t fr) ∧ (t = 136 ∨ t = 3)
structure RK (base : Nat) (w w' : World) : Prop where
 os : w'.os = w.os
 tape : w'.tape = w.tape
 output : w'.output = w.output
 size : w.heap.size ≤ w'.heap.size
 block : ∀ k, k < w.heap.size → (k < base ∨ ¬ Vol w k) → w'.heap[k]? = w.heap[k]?
theorem RK.refl (base : Nat) (w : World) : RK base w w := ⟨rfl, rfl, rfl, Nat.le_refl _, fun _ _ _ => rfl⟩
theorem Vol.of_eq {w w' : World} {k : Nat} (h : w'.heap[k]? = w.heap[k]?) (hv : Vol w' k) : Vol w k := by
 obtain ⟨cs, t, fr, h1, h2⟩ := hv; exact ⟨cs, t, fr, h ▸ h1, h2⟩
theorem RK.trans {base : Nat} {u v w : World} (h : RK base u v) (k : RK base v w) : RK base u w :=
 ⟨k.os.trans h.os, k.tape.trans h.tape, k.output.trans h.output, Nat.le_trans h.size k.size,
  fun i hi ha => (k.block i (Nat.lt_of_lt_of_le hi h.size) (ha.imp id fun hn hv => hn (hv.of_eq (h.block i hi (.inr hn))))).trans (h.block i hi ha)⟩
theorem RK.of_keep {base : Nat} {u v : World} (h : Keep none u v) : RK base u v := ⟨h.os, h.tape, h.output, h.size, fun i hi _ => h.block i hi (by simp)⟩
theorem RK.drewN {base : Nat} {u v : World} (h : RK base u v) (n : Nat) : RK base u (v.drewN n) := ⟨h.os, h.tape, h.output, h.size, h.block⟩
theorem RK.drew {base : Nat} {u v : World} (h : RK base u v) : RK base u v.drew := ⟨h.os, h.tape, h.output, h.size, h.block⟩
theorem RK.alloc {base : Nat} {u v : World} (h : RK base u v) (o : Obj) : RK base u (v.alloc o) := h.trans (RK.of_keep ((Keep.refl _ _).alloc o))
theorem RK.set {base : Nat} {u v : World} (h : RK base u v) (p : Addr) (x : Value) (hb : base ≤ p.block) (hv : Vol v p.block) : RK base u (v.setCell p x) :=
 h.trans ⟨rfl, rfl, rfl, by simp [World.setCell], fun i hi ha => by
  rw [Below.heap_setCell _ _ _ _ (by
   rintro rfl; rcases ha with ha | ha
   · omega
   · exact ha hv)]⟩
theorem RK.setNew {base : Nat} {u v : World} (h : RK base u v) (p : Addr) (x : Value) (hp : u.heap.size ≤ p.block) : RK base u (v.setCell p x) :=
 ⟨h.os, h.tape, h.output, by have := h.size; simp [World.setCell]; omega, fun i hi ha => by
  rw [Below.heap_setCell _ _ _ _ (by omega)]; exact h.block i hi ha⟩
theorem RK.keep {w w' : World} (h : RK w.heap.size w w') : Keep none w w' := ⟨h.os, h.tape, h.output, h.size, fun i hi _ => h.block i hi (.inl hi)⟩
theorem Blk.notVol {w : World} {b : Nat} {cs : List Value} {t : TypeId} (h : Blk w b cs t) (ht : t ≠ 136) (h3 : t ≠ 3) : ¬ Vol w b := by
 rintro ⟨cs', t', fr, h1, h2⟩; rw [show w.heap[b]? = _ from h] at h1; simp at h1; obtain ⟨_, rfl, _⟩ := h1; rcases h2 with h2 | h2
 · exact ht h2
 · exact h3 h2
def Same (ok : Nat → Prop) (w w' : World) : Prop := ∀ k, k < w.heap.size → ok k → ¬ Vol w k → w'.heap[k]? = w.heap[k]?
theorem Same.drewN {ok : Nat → Prop} {w w' : World} (h : Same ok w w') (n : Nat) : Same ok w (w'.drewN n) := h
theorem RK.same {base : Nat} {ok : Nat → Prop} {w w' : World} (h : RK base w w') : Same ok w w' := fun k hk _ hv => h.block k hk (.inr hv)
theorem Keep.same {ok : Nat → Prop} {w w' : World} (h : Keep none w w') : Same ok w w' := fun k hk _ _ => h.block k hk (by simp)
theorem Same.keepG {ok : Nat → Prop} {w w' : World} {g : Nat} (h : Keep (some g) w w') (hg : ok g → Vol w g) : Same ok w w' := fun k hk ho hv => h.block k hk (by
 intro e; simp at e; subst e; exact hv (hg ho))
theorem Same.set {ok : Nat → Prop} {w : World} (p : Addr) (x : Value) (hp : ¬ ok p.block) : Same ok w (w.setCell p x) := fun k hk ho hv =>
 Below.heap_setCell _ _ _ _ (by rintro rfl; exact hp ho)
theorem Same.trans {ok : Nat → Prop} {u v w : World} (hs : u.heap.size ≤ v.heap.size) (h : Same ok u v) (k : Same ok v w) : Same ok u w := fun i hi ho hv =>
 (k i (Nat.lt_of_lt_of_le hi hs) ho fun hv' => hv (hv'.of_eq (h i hi ho hv))).trans (h i hi ho hv)
theorem Blk.same {ok : Nat → Prop} {w w' : World} {b : Nat} {cs : List Value} {t : TypeId} (h : Blk w b cs t) (k : Same ok w w') (ho : ok b) (ht : t ≠ 136) (h3 : t ≠ 3) : Blk w' b cs t :=
 (k b h.lt ho (h.notVol ht h3)).trans h
def Grows (w : World) (ok : Nat → Prop) (f : Value) (n : Nd) : Prop := ∃ (K : Nat) (caps : Array Value), f = .func (.func K) #[] caps ∧ (∀ args w, (callFunc K args).run Tryz.prog w = .ok (.enter K args) w) ∧
 ∀ w', Same ok w w' → Calls Tryz.prog K caps w' fun e w'' => e = .returned (ndV n) ∧ ∃ q, w'' = w'.drewN q
theorem Grows.far {w w' : World} {ok : Nat → Prop} {f : Value} {n : Nd} (h : Grows w ok f n) (hs : w.heap.size ≤ w'.heap.size) (k : Same ok w w') : Grows w' ok f n := by
 obtain ⟨K, caps, rfl, he, hc⟩ := h; exact ⟨K, caps, rfl, he, fun w'' k' => hc w'' (k.trans hs k')⟩
theorem Grows.mono {w : World} {ok ok' : Nat → Prop} {f : Value} {n : Nd} (h : Grows w ok f n) (k : ∀ i, i < w.heap.size → ok i → ok' i) : Grows w ok' f n := by
 obtain ⟨K, caps, rfl, he, hc⟩ := h; exact ⟨K, caps, rfl, he, fun w'' k' => hc w'' fun i hi ho hv => k' i hi (k i hi ho) hv⟩
theorem Grows.func {w : World} {ok : Nat → Prop} {f : Value} {n : Nd} (h : Grows w ok f n) : ∃ K caps, f = .func (.func K) #[] caps := by
 obtain ⟨K, caps, rfl, _⟩ := h; exact ⟨K, caps, rfl⟩
def MkF (K : Nat) (f : Nd → Nd → Nd) : Prop := (K = 116 ∧ f = .cat) ∨ (K = 80 ∧ f = .alt) ∨ (K = 95 ∧ f = .and) ∨ (K = 96 ∧ f = .minus)
theorem mk_any {K : Nat} {f : Nd → Nd → Nd} (h : MkF K f) (a b : Nd) (w : World) : Calls Tryz.prog K #[ndV a, ndV b] w fun e w' => e = .returned (ndV (f a b)) ∧ w' = w := by
 obtain ⟨t, y, ha⟩ := ndV_iface a; obtain ⟨t', y', hb⟩ := ndV_iface b; rcases h with ⟨rfl, rfl⟩ | ⟨rfl, rfl⟩ | ⟨rfl, rfl⟩ | ⟨rfl, rfl⟩
 all_goals
  rw [ndV, ha, hb]; clear ha hb
 · go_enter Tryz.func116, Tryz.ntmps116; go_wp2_with fail; go_ret; exact ⟨rfl, rfl⟩
 · go_enter Tryz.func80, Tryz.ntmps80; go_wp2_with fail; go_ret; exact ⟨rfl, rfl⟩
 · go_enter Tryz.func95, Tryz.ntmps95; go_wp2_with fail; go_ret; exact ⟨rfl, rfl⟩
 · go_enter Tryz.func96, Tryz.ntmps96; go_wp2_with fail; go_ret; exact ⟨rfl, rfl⟩
theorem leaf_grow (w : World) (ok : Nat → Prop) (b : Nat) (n : Nd) (h : Blk w b [ndV n] 80) (hb : ok b) : Grows w ok (.func (.func 121) #[] #[.pointer (some ⟨b, 0, none⟩)]) n := by
 refine ⟨121, _, rfl, Tryz.call121, fun w' hs => ?_⟩; have hb := h.same hs hb (by decide) (by decide); obtain ⟨t, y, hn⟩ := ndV_iface n; rw [hn] at hb ⊢; have hc := hb.cell; clear hb hn h; go_enter Tryz.func121, Tryz.ntmps121; go_wp2_with fail; go_ret; exact ⟨rfl, 0, rfl⟩
theorem star_grow (w : World) (ok : Nat → Prop) (b : Nat) (z : Int) (f : Value) (n : Nd) (h : Blk w b [.int .i64 z, f] 139) (ho : ok b) (hg : Grows w ok f n) : Grows w ok (.func (.func 126) #[] #[.pointer (some ⟨b, 0, none⟩)]) (.star n) := by
 refine ⟨126, _, rfl, Tryz.call126, fun w' hs => ?_⟩; obtain ⟨K, caps, rfl, hent, hcall⟩ := hg; have hb := h.same hs ho (by decide) (by decide); have hcall := yh (hcall w' hs); have hc := hb.cell; clear hb h; go_enter Tryz.func126, Tryz.ntmps126; go_wp2_with fail; refine hcall.out.mono ?_; rintro e w1 ⟨rfl, q, rfl⟩; obtain ⟨t, y, hn⟩ := ndV_iface n; rw [hn]; have HN := yh hn; clear hn; go_wp2_with fail; go_ret; exact ⟨by rw [ndV, HN.out]; rfl, _, rfl⟩
theorem join_grow (w : World) (ok : Nat → Prop) (b1 b2 b3 : Nat) (z1 z2 : Int) (f1 f2 : Value) (K : Nat) (F : Nd → Nd → Nd) (n1 n2 : Nd) (h0 : Blk w b3 [.func (.func K) #[] #[]] 167) (h1 : Blk w b1 [.int .i64 z1, f1] 139) (h2 : Blk w b2 [.int .i64 z2, f2] 139)
 (o1 : ok b1) (o2 : ok b2) (o3 : ok b3) (hK : MkF K F) (hg1 : Grows w ok f1 n1) (hg2 : Grows w ok f2 n2) : Grows w ok (.func (.func 98) #[] #[.pointer (some ⟨b3, 0, none⟩), .pointer (some ⟨b1, 0, none⟩), .pointer (some ⟨b2, 0, none⟩)]) (F n1 n2) := by
 refine ⟨98, _, rfl, Tryz.call98, fun w' hs => ?_⟩; obtain ⟨K1, caps1, rfl, he1, hc1⟩ := hg1; obtain ⟨K2, caps2, rfl, he2, hc2⟩ := hg2; have hb0 := (h0.same hs o3 (by decide) (by decide)).cell; have hb1 := (h1.same hs o1 (by decide) (by decide)).cell; have hb2 := (h2.same hs o2 (by decide) (by decide)).cell; have HC1 := yh hc1; have HC2 := yh hc2; have HS := yh hs; have he3 : ∀ args w, (callFunc K args).run Tryz.prog w = .ok (.enter K args) w := by
  rcases hK with ⟨rfl, _⟩ | ⟨rfl, _⟩ | ⟨rfl, _⟩ | ⟨rfl, _⟩
  · exact Tryz.call116
  · exact Tryz.call80
  · exact Tryz.call95
  · exact Tryz.call96
 clear h0 h1 h2 hc1 hc2 hs; go_enter Tryz.func98, Tryz.ntmps98; go_wp2_with fail; go_quiet (first | exact Calls.quiet_of (HC1.out _ (HS.out.drewN _)) | exact Calls.quiet_of (HC2.out _ (HS.out.drewN _)) | exact Calls.quiet_of_same (mk_any hK n1 n2 _)); go_wp2_with fail; go_ret; exact ⟨rfl, _, rfl⟩
def RuleV (w : World) (ok : Nat → Prop) (r : Rl) (v : Value) : Prop := ∃ f, v = .agg #[.int .i64 (r.size : Int), f] ∧ Grows w ok f r.nd ∧ r.size ≤ 2001
theorem RuleV.far {w w' : World} {ok : Nat → Prop} {r : Rl} {v : Value} (h : RuleV w ok r v) (hs : w.heap.size ≤ w'.heap.size) (k : Same ok w w') : RuleV w' ok r v := by
 obtain ⟨f, rfl, hg, hz⟩ := h; exact ⟨f, rfl, hg.far hs k, hz⟩
theorem RuleV.rk {base : Nat} {w w' : World} {ok : Nat → Prop} {r : Rl} {v : Value} (h : RuleV w ok r v) (k : RK base w w') : RuleV w' ok r v := h.far k.size k.same
theorem RuleV.keep {w w' : World} {ok : Nat → Prop} {r : Rl} {v : Value} (h : RuleV w ok r v) (k : Keep none w w') : RuleV w' ok r v := h.far k.size k.same
theorem RuleV.drewN {w : World} {ok : Nat → Prop} {r : Rl} {v : Value} (h : RuleV w ok r v) (n : Nat) : RuleV (w.drewN n) ok r v := h.keep ((Keep.refl _ _).drewN n)
theorem RuleV.drew {w : World} {ok : Nat → Prop} {r : Rl} {v : Value} (h : RuleV w ok r v) : RuleV w.drew ok r v := h.keep ((Keep.refl _ _).drew)
theorem RuleV.set {w : World} {ok : Nat → Prop} {r : Rl} {v : Value} (h : RuleV w ok r v) (p : Addr) (x : Value) (hp : ¬ ok p.block) : RuleV (w.setCell p x) ok r v := h.far (by simp [World.setCell]) (Same.set p x hp)
theorem RuleV.mono {w : World} {ok ok' : Nat → Prop} {r : Rl} {v : Value} (h : RuleV w ok r v) (k : ∀ i, i < w.heap.size → ok i → ok' i) : RuleV w ok' r v := by
 obtain ⟨f, rfl, hg, hz⟩ := h; exact ⟨f, rfl, hg.mono k, hz⟩
theorem RuleV.form {w : World} {ok : Nat → Prop} {r : Rl} {v : Value} (h : RuleV w ok r v) : ∃ K caps, v = .agg #[.int .i64 (r.size : Int), .func (.func K) #[] caps] := by
 obtain ⟨f, rfl, hg, hz⟩ := h; obtain ⟨K, caps, rfl⟩ := hg.func; exact ⟨K, caps, rfl⟩
theorem RuleV.le {w : World} {ok : Nat → Prop} {r : Rl} {v : Value} (h : RuleV w ok r v) : r.size ≤ 2001 := by
 obtain ⟨f, rfl, hg, hz⟩ := h; exact hz
def RlOut (w : World) (ok : Nat → Prop) (r : Rl) (e : Ending) (w' : World) : Prop := ∃ v, e = .returned v ∧ RuleV w' ok r v ∧ Keep none w w'
theorem results_rule {fn : Func} {p : Tmp} (h : fn.results = #[.cell p 139]) (tmps : Array Value) (w : World) (g : Nat) (a b : Value)
 (hp : tmps.getD p undef = .pointer (some ⟨g, 0, none⟩)) (hg : Blk w g [a, b] 139) : (results fn tmps).run Tryz.prog w = .ok (.agg #[a, b]) w :=
 results_cell_row h tmps w g 139 #[a, b] (0, 0) _ hp hg Tryz.underlying139 rfl (by kernel_rfl)
theorem capped_any (n : Nat) (hn : n ≤ 100000) (w : World) : Calls Tryz.prog 97 #[.int .i64 (n : Int)] w fun e w' => e = .returned (.int .i64 (capped n : Nat)) ∧ w = w' := by
 unfold capped; go_enter Tryz.func97, Tryz.ntmps97; go_wp2_with fail; go_ret; refine ⟨?_, rfl⟩; simp [go_sem]; omega
theorem leaf_any (n : Nd) (w : World) (ok : Nat → Prop) (hok : ∀ i, w.heap.size ≤ i → ok i) : Calls Tryz.prog 113 #[ndV n] w (RlOut w ok (.leaf n)) := by
 have hmf : ∀ (fn : Fn) (first cap : Array Value) (w : World), (Instr.makeFunc fn first cap).run Tryz.prog w = .ok (.func fn first cap) w := fun _ _ _ _ => rfl
 have HG := yh (fun w b h => leaf_grow w ok b n h); have HO := yh hok; clear hok; obtain ⟨t, y, hn⟩ := ndV_iface n; rw [hn] at HG ⊢; clear hn; go_enter Tryz.func113, Tryz.ntmps113; go_wp2_with fail; have B1 : Blk ((w.alloc (.cells #[.iface t y] 80)).alloc (.cells #[.int .i64 1, .func (.func 121) #[] #[.pointer (some ⟨w.heap.size, 0, none⟩)]] 139)) w.heap.size [.iface t y] 80 := (Blk.new w _ 80).alloc _; have B2 := Blk.new (w.alloc (.cells #[.iface t y] 80)) [.int .i64 1, .func (.func 121) #[] #[.pointer (some ⟨w.heap.size, 0, none⟩)]] 139; rw [show (w.alloc (.cells #[.iface t y] 80)).heap.size = w.heap.size + 1 by simp] at B2
 refine bodyPost_ret (results_rule rfl _ _ (w.heap.size + 1) _ _ rfl B2) rfl ⟨_, rfl, ⟨_, rfl, HG.out _ _ B1 (HO.out _ (Nat.le_refl _)), show 1 ≤ 2001 by decide⟩, ((Keep.refl _ _).alloc _).alloc _⟩
theorem star_any (a : Rl) (v : Value) (w : World) (ok : Nat → Prop) (hok : ∀ i, w.heap.size ≤ i → ok i) (h : RuleV w ok a v) : Calls Tryz.prog 122 #[v] w (RlOut w ok a.star) := by
 have hmf : ∀ (fn : Fn) (first cap : Array Value) (w : World), (Instr.makeFunc fn first cap).run Tryz.prog w = .ok (.func fn first cap) w := fun _ _ _ _ => rfl
 have HO := yh hok; clear hok; obtain ⟨f, rfl, hg, hs⟩ := h; obtain ⟨K, caps, rfl, hr⟩ := hg; have HG := yh (show Grows w ok (.func (.func K) #[] caps) a.nd from ⟨K, caps, rfl, hr⟩); have hw1 : IntKind.i64.wrap (1 + (a.size : Int)) = 1 + (a.size : Int) := IntWalk.i64_in _ (by omega); clear hr; go_enter Tryz.func122, Tryz.ntmps122; go_wp2_with fail; have hc := capped_any (1 + a.size) (by omega); rw [show ((1 + a.size : Nat) : Int) = 1 + (a.size : Int) by omega] at hc; refine (hc _).mono ?_; rintro e w1 ⟨rfl, rfl⟩; clear hc; have HSZ := yh (show (a.star).size = capped (1 + a.size) from rfl)
 have hsz : capped (1 + a.size) ≤ 2001 := Nat.min_le_right _ _; generalize capped (1 + a.size) = z at HSZ hsz ⊢; go_wp2_with fail; generalize hA : World.alloc w (.cells #[.int .i64 (a.size : Int), .func (.func K) #[] caps] 139) = A; have BA : Blk A w.heap.size [.int .i64 (a.size : Int), .func (.func K) #[] caps] 139 := by rw [← hA]; exact Blk.new w _ 139
 have KA : Keep none w A := by rw [← hA]; exact (Keep.refl _ _).alloc _
 have hAs : A.heap.size = w.heap.size + 1 := by rw [← hA]; simp
 clear hA; have B2 := Blk.new A [.int .i64 (z : Int), .func (.func 126) #[] #[.pointer (some ⟨w.heap.size, 0, none⟩)]] 139; rw [hAs] at B2; refine bodyPost_ret (results_rule rfl _ _ (w.heap.size + 1) _ _ rfl B2) rfl ⟨_, rfl, ⟨_, by rw [HSZ.out], ?_, by rw [HSZ.out]; exact hsz⟩, KA.alloc _⟩; exact star_grow _ ok _ _ _ _ (BA.alloc _) (HO.out _ (Nat.le_refl _)) (HG.out.far (by simp; omega) (KA.alloc _).same)
theorem join_any (a b : Rl) (va vb : Value) (K : Nat) (F : Nd → Nd → Nd) (hK : MkF K F) (w : World) (ok : Nat → Prop) (hok : ∀ i, w.heap.size ≤ i → ok i) (ha : RuleV w ok a va) (hb : RuleV w ok b vb) : Calls Tryz.prog 79 #[va, vb, .func (.func K) #[] #[]] w (RlOut w ok (a.join b F)) := by
 have hmf : ∀ (fn : Fn) (first cap : Array Value) (w : World), (Instr.makeFunc fn first cap).run Tryz.prog w = .ok (.func fn first cap) w := fun _ _ _ _ => rfl
 have HO := yh hok; clear hok; obtain ⟨f, rfl, hg, hs⟩ := ha; obtain ⟨K1, c1, rfl, hr1⟩ := hg; obtain ⟨f, rfl, hg, hs2⟩ := hb; obtain ⟨K2, c2, rfl, hr2⟩ := hg; have HG1 := yh (show Grows w ok (.func (.func K1) #[] c1) a.nd from ⟨K1, c1, rfl, hr1⟩); have HG2 := yh (show Grows w ok (.func (.func K2) #[] c2) b.nd from ⟨K2, c2, rfl, hr2⟩); have hw1 : IntKind.i64.wrap (1 + (a.size : Int)) = 1 + (a.size : Int) := IntWalk.i64_in _ (by omega); have hw2 : IntKind.i64.wrap (1 + (a.size : Int) + (b.size : Int)) = 1 + (a.size : Int) + (b.size : Int) := IntWalk.i64_in _ (by omega); clear hr1 hr2
 go_enter Tryz.func79, Tryz.ntmps79; go_wp2_with fail; have hc := capped_any (1 + a.size + b.size) (by omega); rw [show ((1 + a.size + b.size : Nat) : Int) = 1 + (a.size : Int) + (b.size : Int) by omega] at hc; refine (hc _).mono ?_; rintro e w1 ⟨rfl, rfl⟩; clear hc; have HSZ := yh (show (a.join b F).size = capped (1 + a.size + b.size) from rfl); have hsz : capped (1 + a.size + b.size) ≤ 2001 := Nat.min_le_right _ _; generalize capped (1 + a.size + b.size) = z at HSZ hsz ⊢; go_wp2_with fail; generalize hA : World.alloc (World.alloc (World.alloc w _) _) _ = A; have BA : Blk A w.heap.size [.int .i64 (a.size : Int), .func (.func K1) #[] c1] 139 := by rw [← hA]; exact ((Blk.new w _ 139).alloc _).alloc _
 have BB : Blk A (w.heap.size + 1) [.int .i64 (b.size : Int), .func (.func K2) #[] c2] 139 := by
  rw [← hA]; have := Blk.new (w.alloc (.cells #[.int .i64 (a.size : Int), .func (.func K1) #[] c1] 139)) [.int .i64 (b.size : Int), .func (.func K2) #[] c2] 139; rw [show (w.alloc (.cells #[.int .i64 (a.size : Int), .func (.func K1) #[] c1] 139)).heap.size = w.heap.size + 1 by simp] at this; exact this.alloc _
 have BC : Blk A (w.heap.size + 1 + 1) [.func (.func K) #[] #[]] 167 := by
  rw [← hA]; have := Blk.new ((w.alloc (.cells #[.int .i64 (a.size : Int), .func (.func K1) #[] c1] 139)).alloc (.cells #[.int .i64 (b.size : Int), .func (.func K2) #[] c2] 139)) [.func (.func K) #[] #[]] 167; rw [show ((w.alloc (.cells #[.int .i64 (a.size : Int), .func (.func K1) #[] c1] 139)).alloc (.cells #[.int .i64 (b.size : Int), .func (.func K2) #[] c2] 139)).heap.size = w.heap.size + 1 + 1 by simp] at this; exact this
 have KA : Keep none w A := by rw [← hA]; exact (((Keep.refl _ _).alloc _).alloc _).alloc _
 have hAs : A.heap.size = w.heap.size + 1 + 1 + 1 := by rw [← hA]; simp
 clear hA; have B2 := Blk.new A [.int .i64 (z : Int), .func (.func 98) #[] #[.pointer (some ⟨w.heap.size + 1 + 1, 0, none⟩), .pointer (some ⟨w.heap.size, 0, none⟩), .pointer (some ⟨w.heap.size + 1, 0, none⟩)]] 139; rw [hAs] at B2; refine bodyPost_ret (results_rule rfl _ _ (w.heap.size + 1 + 1 + 1) _ _ rfl B2) rfl ⟨_, rfl, ⟨_, by rw [HSZ.out], ?_, by rw [HSZ.out]; exact hsz⟩, KA.alloc _⟩; exact join_grow _ ok _ _ _ _ _ _ _ K F _ _ (BC.alloc _) (BA.alloc _) (BB.alloc _) (HO.out _ (Nat.le_refl _)) (HO.out _ (by omega)) (HO.out _ (by omega)) hK (HG1.out.far (by simp; omega) (KA.alloc _).same) (HG2.out.far (by simp; omega) (KA.alloc _).same)
end Go.Proofs.YtmfabihndpidnaaGreatDoor
namespace Go.Proofs.YtmfabihndpidnaaGreatDoor
open Go.RowKit
set_option maxRecDepth 100000
set_option linter.unusedVariables false
set_option linter.unusedSimpArgs false
theorem Blk.at1 {w : World} {g : Nat} {a c : Value} {i : Nat} {t : TypeId} (h : Blk w g [a, .int .i64 (i : Int), c] t) : rdAt w g = i := by
 simp [rdAt, Blk.cell h]
theorem Blk.step3 {w : World} {g : Nat} {a c : Value} {i : Nat} {t : TypeId} (h : Blk w g [a, .int .i64 (i : Int), c] t) : Blk (w.setCell ⟨g, 1, none⟩ (.int .i64 ((i : Int) + 1))) g [a, .int .i64 ((i + 1 : Nat) : Int), c] t := by
 rw [show ((i + 1 : Nat) : Int) = (i : Int) + 1 by omega]; exact h.set 1 _
theorem Blk.put1 {w : World} {g : Nat} {a b c : Value} {t : TypeId} (h : Blk w g [a, b, c] t) (x : Value) : Blk (w.setCell ⟨g, 1, none⟩ x) g [a, x, c] t := h.set 1 _
theorem rx_ended (g : Nat) (s : ByteArray) (p : Nat) (v : Value) (hs : s.size ≤ 2000000) (hp : p ≤ s.size) (w : World) (h : Blk w g [.string s, .int .i64 (p : Int), v] 136) :
 Calls Tryz.prog 61 #[.pointer (some ⟨g, 0, none⟩)] w fun e w' => e = .returned (.bool (decide (s.size ≤ p))) ∧ ∃ n, w' = w.drewN n := by
 have hc := h.cell; clear h; go_enter Tryz.func61, Tryz.ntmps61; go_wp2_with fail; go_quiet (fail); go_wp2_with fail; go_ret; exact ⟨rfl, _, rfl⟩
theorem rx_ended_no (g : Nat) (s : ByteArray) (p : Nat) (v : Value) (hs : s.size ≤ 2000000) (hp : p < s.size) (w : World) (h : Blk w g [.string s, .int .i64 (p : Int), v] 136) :
 Calls Tryz.prog 61 #[.pointer (some ⟨g, 0, none⟩)] w fun e w' => e = .returned (.bool false) ∧ ∃ n, w' = w.drewN n := by
 have := rx_ended g s p v hs (by omega) w h; rw [show decide (s.size ≤ p) = false by simp; omega] at this; exact this
theorem rx_ended_yes (g : Nat) (s : ByteArray) (p : Nat) (v : Value) (hs : s.size ≤ 2000000) (hp : p = s.size) (w : World) (h : Blk w g [.string s, .int .i64 (p : Int), v] 136) :
 Calls Tryz.prog 61 #[.pointer (some ⟨g, 0, none⟩)] w fun e w' => e = .returned (.bool true) ∧ ∃ n, w' = w.drewN n := by
 have := rx_ended g s p v hs (by omega) w h; rw [show decide (s.size ≤ p) = true by simp; omega] at this; exact this
theorem rx_next (g : Nat) (s : ByteArray) (p : Nat) (v : Value) (hs : s.size ≤ 2000000) (hp : p < s.size) (w : World) (h : Blk w g [.string s, .int .i64 (p : Int), v] 136) :
 Calls Tryz.prog 78 #[.pointer (some ⟨g, 0, none⟩)] w fun e w' => e = .returned (.int .u8 (s[p].toNat : Int)) ∧ ∃ n, w' = w.drewN n := by
 have hc := h.cell; have b0 : ((p : Int) < (s.size : Int)) := by omega
 have b1 : (0 : Int) ≤ (p : Int) := by omega
 clear h; go_enter Tryz.func78, Tryz.ntmps78; go_wp2_with fail; go_quiet (fail); go_wp2_with fail; go_quiet (fail); go_wp2_with fail; go_ret; exact ⟨rfl, _, World.drewN_drewN _ _ _⟩
theorem rx_fail (g : Nat) (c p : Int) (w : World) : Calls Tryz.prog 62 #[.pointer (some ⟨g, 0, none⟩), .int .i64 c, .int .i64 p] w fun e w' => e = .panicked (flt c p) ∧ w' = w := by
 go_enter Tryz.func62, Tryz.ntmps62; go_wp2_with fail; exact ⟨rfl, rfl, rfl⟩
theorem maybe_any (a : Rl) (v : Value) (w : World) (ok : Nat → Prop) (hok : ∀ i, w.heap.size ≤ i → ok i) (h : RuleV w ok a v) : Calls Tryz.prog 123 #[v] w (RlOut w ok a.maybe) := by
 have hmf : ∀ (fn : Fn) (first cap : Array Value) (w : World), (Instr.makeFunc fn first cap).run Tryz.prog w = .ok (.func fn first cap) w := fun _ _ _ _ => rfl
 have HV := yh (show RuleV w (fun i => ok i ∧ i ≠ w.heap.size + 1) a v from h.mono fun i hi ho => ⟨ho, by omega⟩); have HO := yh hok; obtain ⟨K, caps, rfl⟩ := h.form; clear h hok; go_enter Tryz.func123, Tryz.ntmps123; go_wp2_with fail; generalize hA : World.alloc (World.alloc w _) _ = A; have BA := yh (show Blk A w.heap.size [.int .i64 (a.size : Int), .func (.func K) #[] caps] 139 from by rw [← hA]; exact (Blk.new w _ 139).alloc _); have BR := yh (show Blk A (w.heap.size + 1) [.int .i64 0, .nilFunc] 139 from by
  rw [← hA]; have := Blk.new (w.alloc (.cells #[.int .i64 (a.size : Int), .func (.func K) #[] caps] 139)) [.int .i64 0, .nilFunc] 139; rw [show (w.alloc (.cells #[.int .i64 (a.size : Int), .func (.func K) #[] caps] 139)).heap.size = w.heap.size + 1 by simp] at this; exact this)
 have KA := yh (show Keep none w A from by rw [← hA]; exact (((Keep.refl _ _).alloc _).alloc _)); have HAS := yh (show w.heap.size + 2 ≤ A.heap.size from by rw [← hA]; simp); clear hA; refine wp_region_pend (fun w' => ∀ o, w'.cell? ⟨w.heap.size, o, none⟩ = [Value.int .i64 (a.size : Int), .func (.func K) #[] caps][o]?) 5 (by kernel_rfl) (by kernel_rfl) (fun c a d v w h => by cases d <;> exact h) (by exact BA.out.drew.cell) ?_; simp only [num, List.length_cons, List.length_nil]; repeat
  (refine pend_stable (by decide +kernel) (fun K hK => ?_)
   rw [if_pos (by rfl)]; apply Exists.intro; refine ⟨fun w' hS' => ?_, hK _ ?_⟩
   · (try dsimp only at hS')
     go_simp; try with_reducible rfl
   clear hK K; simp only [Act.put, List.setIfInBounds_toArray, List.set])
 refine pend_active (by decide +kernel) (fun K hK => ?_); rw [if_pos (by rfl)]; go_wp2_with fail; refine (leaf_any .eps _ (fun i => ok i ∧ i ≠ w.heap.size + 1) (fun i hi => ⟨HO.out i (by have := HAS.out; simp at hi; omega), by have := HAS.out; simp at hi; omega⟩)).mono ?_; rintro e x1 ⟨v1, rfl, hv1, kx1⟩; have BA := yh (BA.out.drew.keep kx1 (by simp)); have BR := yh (BR.out.drew.keep kx1 (by simp)); have KA := yh (KA.out.drew.trans kx1); have HV1 := yh hv1; clear hv1; refine hK.out _ _ (BA.out.cell) ?_; clear hK K; try simp only [Act.put, List.setIfInBounds_toArray, List.set]
 refine pend_active (by decide +kernel) (fun K hK => ?_); rw [if_pos (by rfl)]; go_wp2_with fail; refine (join_any a (.leaf .eps) _ _ 80 .alt (.inr (.inl ⟨rfl, rfl⟩)) _ (fun i => ok i ∧ i ≠ w.heap.size + 1) (fun i hi => ⟨HO.out i (by have := KA.out.size; omega), by have := BR.out.lt; omega⟩) (HV.out.keep KA.out) HV1.out).mono ?_; rintro e x2 ⟨v2, rfl, hv2, kx2⟩; have BA := yh (BA.out.keep kx2 (by simp)); have BR := yh (BR.out.keep kx2 (by simp)); have KA := yh (KA.out.trans kx2); obtain ⟨K2, c2, rfl⟩ := hv2.form; have HV2 := yh hv2; clear hv2; refine hK.out _ _ (BA.out.cell) ?_
 clear hK K; try simp only [Act.put, List.setIfInBounds_toArray, List.set]
 have hcR := BR.out.cell; have hfR := BR.out.frozen; refine pend_last (by decide +kernel) (by decide +kernel) (by decide +kernel) (fun K hK => ?_); rw [if_pos (by rfl)]; go_simp; refine hK.out _ _ ?_; clear hcR hfR; go_wp2_with fail; refine bodyPost_ret (results_rule rfl _ _ (w.heap.size + 1) _ _ rfl ((BR.out.set 0 _).set 1 _)) rfl ⟨_, rfl, ?_, (KA.out.set _ _ (.inr (by simp))).set _ _ (.inr (by simp))⟩; exact ((HV2.out.set _ _ (by simp)).set _ _ (by simp)).mono fun i _ h => h.1
end Go.Proofs.YtmfabihndpidnaaGreatDoor
namespace Go.Proofs.YtmfabihndpidnaaGreatDoor
set_option maxHeartbeats 8000000
open Go.RowKit
set_option maxRecDepth 100000
set_option linter.unusedVariables false
set_option linter.unusedSimpArgs false
def NumOut (g : Nat) (s : ByteArray) (v : Value) (w : World) (r : Except Nat (Nat × Nat)) (e : Ending) (w' : World) : Prop :=
 match r with
 | .ok (n, q) => e = .returned (.int .i64 (n : Int)) ∧ Blk w' g [.string s, .int .i64 (q : Int), v] 136 ∧ q ≤ s.size ∧ n ≤ 999 ∧ Keep (some g) w w'
 | .error c => ∃ pl : Int, e = .panicked (flt c pl) ∧ Keep (some g) w w'
def Small (k acc : Nat) : Prop := (k = 3 ∧ acc = 0) ∨ (k = 2 ∧ acc ≤ 9) ∨ (k = 1 ∧ acc ≤ 99) ∨ (k = 0 ∧ acc ≤ 999)
theorem Small.le {k acc : Nat} (h : Small k acc) : acc ≤ 999 := by unfold Small at h; omega
theorem Small.next {k acc d : Nat} (h : Small (k + 1) acc) (hd : d ≤ 9) : Small k (10 * acc + d) := by unfold Small at h ⊢; omega
theorem rx_number (g : Nat) (s : ByteArray) (p : Nat) (ao : Option Addr) (on oc : Nat) (hs : s.size ≤ 2000000) (hp : p ≤ s.size) (w : World) (h : Blk w g [.string s, .int .i64 (p : Int), .slice ao on oc] 136) (R : Except Nat (Nat × Nat)) (hR : rxNumber s.data.toList p = R) :
 Calls Tryz.prog 127 #[.pointer (some ⟨g, 0, none⟩)] w (NumOut g s (.slice ao on oc) w R) := by
 have HB := yh h; have hc := h.cell; have w1 : IntKind.i64.wrap ((p : Int) + 3) = (p : Int) + 3 := IntWalk.i64_in _ (by omega); unfold rxNumber at hR; obtain ⟨F, hF⟩ : ∃ F, rxDigits s.data.toList 3 p 0 = F := ⟨_, rfl⟩; rw [hF] at hR; have HR := yh hR; have HF := yh hF; clear h hR hF; go_enter Tryz.func127, Tryz.ntmps127; go_wp2_with fail; go_quiet (fail); go_wp2_with fail; clear hc; have HW := yh (show Blk (w.drewN nq) g [.string s, .int .i64 (p : Int), .slice ao on oc] 136 from HB.out); have HK := yh (show Keep (some g) w (w.drewN nq) from (Keep.refl _ _).drewN _); generalize World.drewN w nq = W at HW HK ⊢
 go_loopw [3] (fun nv wr => ∃ (k q acc : Nat), nv = .int .i64 (acc : Int) ∧ q ≤ s.size ∧ q + k = p + 3 ∧ p ≤ q ∧ Small k acc ∧ rxDigits s.data.toList k q acc = F ∧ Blk wr g [.string s, .int .i64 (q : Int), .slice ao on oc] 136 ∧ Keep (some g) w wr) (fun _ wr => s.size - rdAt wr g)
 case atStart => exact ⟨3, p, 0, rfl, hp, rfl, Nat.le_refl _, .inl ⟨rfl, rfl⟩, HF.out, HW.out, HK.out⟩
 case round =>
  obtain ⟨k, q, acc, rfl, hq, hkq, hpq, hsm, hD, hB, hK⟩ := hrel; have HB := yh hB; have HK := yh hK; have HD := yh hD; have HSM := yh hsm; have HAT := yh hB.at1; have hle := hsm.le; have hc := hB.cell; clear hB hK hD hsm; by_cases hlt : q < s.size
  · have hlt256 := s[q].toNat_lt; have HGB := yh (get_byte s q hlt); cases k with
    | zero =>
     have t1 : ¬ ((q : Int) < (p : Int) + 3) := by omega
     have hFe : F = (acc, q) := by
      rw [← HD.out, rxDigits]
     by_cases hqp : q = p
     · have e1 : ((q : Int) == (p : Int)) = true := by rw [hqp]; simp
       have hRe : R = .error 20 := by rw [← HR.out, hFe, if_pos hqp]
       subst hRe; clear hFe hqp; go_wp2_with fail; refine (rx_ended_no g s q _ hs hlt _ HB.out).mono ?_; rintro e x1 ⟨rfl, n1, rfl⟩; go_wp2_with fail; refine (rx_fail g _ _ _).mono ?_; rintro e w9 ⟨rfl, rfl⟩; exact ⟨rfl, _, rfl, HK.out.drewN _⟩
     · have e1 : ((q : Int) == (p : Int)) = false := by rw [beq_eq_false_iff_ne]; omega
       have hRe : R = .ok (acc, q) := by rw [← HR.out, hFe, if_neg hqp]
       subst hRe; clear hFe hqp; go_wp2_with fail; refine (rx_ended_no g s q _ hs hlt _ HB.out).mono ?_; rintro e x1 ⟨rfl, n1, rfl⟩; go_wp2_with fail; go_ret; exact ⟨rfl, HB.out.drewN _, hq, hle, HK.out.drewN _⟩
    | succ k =>
     have t1 : ((q : Int) < (p : Int) + 3) := by omega
     have hwq : IntKind.i64.wrap ((q : Int) + 1) = (q : Int) + 1 := IntWalk.i64_in _ (by omega); by_cases h48 : 48 ≤ s[q].toNat
     · by_cases h57 : s[q].toNat ≤ 57
       · have t2 : ((48 : Int) ≤ (s[q].toNat : Int)) := by omega
         have t3 : ((s[q].toNat : Int) ≤ 57) := by omega
         have hdg : digit s[q] = true := by
          unfold digit; simp only [u8_le, Bool.and_eq_true, decide_eq_true_eq]; exact ⟨t2, t3⟩
         have u1 : IntKind.u8.wrap ((s[q].toNat : Int) - 48) = (s[q].toNat : Int) - 48 := IntWalk.u8_in _ (by omega); have u2 : IntKind.i64.wrap ((s[q].toNat : Int) - 48) = (s[q].toNat : Int) - 48 := IntWalk.i64_in _ (by omega); have u3 : IntKind.i64.wrap (10 * (acc : Int)) = 10 * (acc : Int) := IntWalk.i64_in _ (by omega); have u4 : IntKind.i64.wrap (10 * (acc : Int) + ((s[q].toNat : Int) - 48)) = 10 * (acc : Int) + ((s[q].toNat : Int) - 48) := IntWalk.i64_in _ (by omega); have hf := HB.out.frozen; go_wp2_with fail; refine (rx_ended_no g s q _ hs hlt _ HB.out).mono ?_; rintro e x1 ⟨rfl, n1, rfl⟩
         go_wp2_with fail; refine (rx_next g s q _ hs hlt _ (HB.out.drewN _)).mono ?_; rintro e x1 ⟨rfl, n2, rfl⟩; go_wp2_with fail; refine (rx_next g s q _ hs hlt _ (HB.out.drewN _)).mono ?_; rintro e x1 ⟨rfl, n2, rfl⟩; go_wp2_with fail; refine (rx_next g s q _ hs hlt _ (HB.out.drewN _)).mono ?_; rintro e x1 ⟨rfl, n2, rfl⟩; go_wp2_with fail; clear u1 u2 u3 u4; go_roundw; case rel =>
          refine ⟨k, q + 1, 10 * acc + (s[q].toNat - 48), ?_, by omega, by omega, by omega, HSM.out.next (by omega), ?_, (HB.out.drewN _).step3, (HK.out.drewN _).set _ _ (.inl rfl)⟩
          · rw [show ((10 * acc + (s[q].toNat - 48) : Nat) : Int) = 10 * (acc : Int) + ((s[q].toNat : Int) - 48) by omega]
          · rw [← HD.out, rxDigits, HGB.out]; dsimp only; rw [if_pos hdg]
         case measure =>
          rw [Blk.at1 ((HB.out.drewN _).step3), HAT.out]; omega
       · have t2 : ((48 : Int) ≤ (s[q].toNat : Int)) := by omega
         have t3 : ¬ ((s[q].toNat : Int) ≤ 57) := by omega
         have HDG := yh (show digit s[q] = false from by
          unfold digit; simp only [u8_le, Bool.and_eq_false_iff, decide_eq_false_iff_not]; exact .inr t3)
         have hFe : F = (acc, q) := by
          rw [← HD.out, rxDigits, HGB.out]; dsimp only; rw [if_neg (by rw [HDG.out]; decide)]
         by_cases hqp : q = p
         · have e1 : ((q : Int) == (p : Int)) = true := by rw [hqp]; simp
           have hRe : R = .error 20 := by rw [← HR.out, hFe, if_pos hqp]
           subst hRe; clear hFe hqp; go_wp2_with fail; refine (rx_ended_no g s q _ hs hlt _ HB.out).mono ?_; rintro e x1 ⟨rfl, n1, rfl⟩; go_wp2_with fail; refine (rx_next g s q _ hs hlt _ (HB.out.drewN _)).mono ?_; rintro e x1 ⟨rfl, n2, rfl⟩; go_wp2_with fail; refine (rx_next g s q _ hs hlt _ (HB.out.drewN _)).mono ?_; rintro e x1 ⟨rfl, n2, rfl⟩; go_wp2_with fail; refine (rx_fail g _ _ _).mono ?_; rintro e w9 ⟨rfl, rfl⟩; exact ⟨rfl, _, rfl, HK.out.drewN _⟩
         · have e1 : ((q : Int) == (p : Int)) = false := by rw [beq_eq_false_iff_ne]; omega
           have hRe : R = .ok (acc, q) := by rw [← HR.out, hFe, if_neg hqp]
           subst hRe; clear hFe hqp; go_wp2_with fail; refine (rx_ended_no g s q _ hs hlt _ HB.out).mono ?_; rintro e x1 ⟨rfl, n1, rfl⟩; go_wp2_with fail; refine (rx_next g s q _ hs hlt _ (HB.out.drewN _)).mono ?_; rintro e x1 ⟨rfl, n2, rfl⟩; go_wp2_with fail; refine (rx_next g s q _ hs hlt _ (HB.out.drewN _)).mono ?_; rintro e x1 ⟨rfl, n2, rfl⟩; go_wp2_with fail; go_ret; exact ⟨rfl, HB.out.drewN _, hq, hle, HK.out.drewN _⟩
     · have t2 : ¬ ((48 : Int) ≤ (s[q].toNat : Int)) := by omega
       have HDG := yh (show digit s[q] = false from by
        unfold digit; simp only [u8_le, Bool.and_eq_false_iff, decide_eq_false_iff_not]; exact .inl t2)
       have hFe : F = (acc, q) := by
        rw [← HD.out, rxDigits, HGB.out]; dsimp only; rw [if_neg (by rw [HDG.out]; decide)]
       by_cases hqp : q = p
       · have e1 : ((q : Int) == (p : Int)) = true := by rw [hqp]; simp
         have hRe : R = .error 20 := by rw [← HR.out, hFe, if_pos hqp]
         subst hRe; clear hFe hqp; go_wp2_with fail; refine (rx_ended_no g s q _ hs hlt _ HB.out).mono ?_; rintro e x1 ⟨rfl, n1, rfl⟩; go_wp2_with fail; refine (rx_next g s q _ hs hlt _ (HB.out.drewN _)).mono ?_; rintro e x1 ⟨rfl, n2, rfl⟩; go_wp2_with fail; refine (rx_fail g _ _ _).mono ?_; rintro e w9 ⟨rfl, rfl⟩; exact ⟨rfl, _, rfl, HK.out.drewN _⟩
       · have e1 : ((q : Int) == (p : Int)) = false := by rw [beq_eq_false_iff_ne]; omega
         have hRe : R = .ok (acc, q) := by rw [← HR.out, hFe, if_neg hqp]
         subst hRe; clear hFe hqp; go_wp2_with fail; refine (rx_ended_no g s q _ hs hlt _ HB.out).mono ?_; rintro e x1 ⟨rfl, n1, rfl⟩; go_wp2_with fail; refine (rx_next g s q _ hs hlt _ (HB.out.drewN _)).mono ?_; rintro e x1 ⟨rfl, n2, rfl⟩; go_wp2_with fail; go_ret; exact ⟨rfl, HB.out.drewN _, hq, hle, HK.out.drewN _⟩
  · have HGN := yh (get_none s q (by omega)); have hFe : F = (acc, q) := by
     rw [← HD.out]; cases k <;> simp only [rxDigits, HGN.out]
    by_cases hqp : q = p
    · have e1 : ((q : Int) == (p : Int)) = true := by rw [hqp]; simp
      have hRe : R = .error 20 := by rw [← HR.out, hFe, if_pos hqp]
      subst hRe; clear hFe hqp; go_wp2_with fail; refine (rx_ended_yes g s q _ hs (by omega) _ HB.out).mono ?_; rintro e x1 ⟨rfl, n1, rfl⟩; go_wp2_with fail; refine (rx_fail g _ _ _).mono ?_; rintro e w9 ⟨rfl, rfl⟩; exact ⟨rfl, _, rfl, HK.out.drewN _⟩
    · have e1 : ((q : Int) == (p : Int)) = false := by rw [beq_eq_false_iff_ne]; omega
      have hRe : R = .ok (acc, q) := by rw [← HR.out, hFe, if_neg hqp]
      subst hRe; clear hFe hqp; go_wp2_with fail; refine (rx_ended_yes g s q _ hs (by omega) _ HB.out).mono ?_; rintro e x1 ⟨rfl, n1, rfl⟩; go_wp2_with fail; go_ret; exact ⟨rfl, HB.out.drewN _, hq, hle, HK.out.drewN _⟩
end Go.Proofs.YtmfabihndpidnaaGreatDoor
