/-
  The reader of a set: an item; class.Read, whole. Plain Lean: expressions over bytes as the given text reads and prints them.
-/
import Derived.Test.YtmfabihndpidnaaGreatDoorK19
namespace Go.Proofs.YtmfabihndpidnaaGreatDoor
set_option maxHeartbeats 8000000
open Go.RowKit
set_option maxRecDepth 100000
set_option linter.unusedVariables false
set_option linter.unusedSimpArgs false
def rdItem (l : Bs) (p : Nat) : Except Flt (Set4 × Nat) :=
 match l[p]? with
 | none => .error ⟨10, p⟩
 | some c =>
  if c == 46 then .ok ((Set4.of [10]).not, p + 1)
  else if c == 91 then rdSet l (p + 1)
  else match rdOne l specials p with
   | .error f => .error f
   | .ok (b, q) => .ok (Set4.span b.toNat b.toNat, q)
theorem rd_item (g : Nat) (s : ByteArray) (i : Nat) (hs : s.size ≤ 2000000) (hi : i < s.size) (w : World) (hE : Escs w) (h : RdB w g s i) (hg3 : g ≠ 3) (R : Except Flt (Set4 × Nat)) (hR : rdItem s.data.toList i = R) :
 Calls Tryz.prog 130 #[.pointer (some ⟨g, 0, none⟩)] w (SetOut g s w R) := by
 have HB := yh h; have HE := yh hE; have HGL := yh (show g < w.heap.size from Blk.lt h); have hwr : IntKind.i64.wrap ((i : Int) + 1) = (i : Int) + 1 := IntWalk.i64_in _ (by omega); unfold rdItem at hR; rw [get_byte s i hi] at hR; dsimp only at hR; have HR := yh hR; have b0 : ((i : Int) < (s.size : Int)) := by omega
 have b1 : (0 : Int) ≤ (i : Int) := by omega
 clear h hE hR; go_enter Tryz.func130, Tryz.ntmps130; go_wp2_with fail; generalize hW : World.alloc w _ = W; have HZ := yh (show Blk W w.heap.size Set4.zero.cells 178 from by rw [← hW]; exact Blk.new w _ 178); have HB1 := yh (show RdB W g s i from by rw [← hW]; exact Blk.alloc HB.out _); have HE1 := yh (show Escs W from by rw [← hW]; exact HE.out.keep ((Keep.refl _ _).alloc _)); have HK := yh (show Keep (some g) w W from by rw [← hW]; exact (Keep.refl _ _).alloc _); clear hW; have hc := Blk.cell HB1.out; go_quiet (fail); have HZ := yh (HZ.out.drewN nq); have HB1 := yh (HB1.out.drewN nq)
 have HE1 := yh (HE1.out.keep ((Keep.refl none W).drewN nq)); have HK := yh (HK.out.drewN nq); clear hc; generalize World.drewN W nq = V at HZ HB1 HE1 HK ⊢; have hc := Blk.cell HB1.out; have hf := Blk.frozen HB1.out; have hcZ := HZ.out.cell; have hfZ := HZ.out.frozen; unfold Set4.cells at hcZ; have hg0 : g ≠ w.heap.size := by have := HGL.out; omega
 by_cases h46 : (s[i] == 46) = true
 · have c46 : ((s[i].toNat : Int) == 46) = true := byte_eq _ 46 true (by omega) h46; have hr := HR.out; rw [if_pos h46] at hr; have HR2 := yh hr; clear hr h46; go_wp2_with fail; clear hc hf hcZ hfZ; refine (of_any ⟨#[10]⟩ (by decide) _).mono ?_; rintro e w2 ⟨rfl, k2⟩; go_wp2_with fail; refine (not_any _ _).mono ?_; rintro e w3 ⟨rfl, k3⟩; have HZ := yh (((HZ.out.far ⟨g, 1, none⟩ (.int .i64 ((i : Int) + 1)) (by simp; omega)).keep k2 (by simp)).keep k3 (by simp)); have HB1 := yh (show RdB w3 g s (i + 1) from Blk.keep (Blk.keep HB1.out.step k2 (by simp)) k3 (by simp)); have HK := yh (((HK.out.set ⟨g, 1, none⟩ (.int .i64 ((i : Int) + 1)) (.inl rfl)).trans k2.of_none).trans k3.of_none)
   have hcZ := HZ.out.cell; have hfZ := HZ.out.frozen; unfold Set4.cells at hcZ; generalize hU : (Set4.of (ByteArray.mk #[10]).data.toList).not = U; have HU := yh hU; clear hU; unfold Set4.val; go_wp2_with fail; have hRe : R = .ok (U, i + 1) := by rw [← HR2.out, ← HU.out]
   subst hRe; refine bodyPost_ret (results_set rfl _ _ w.heap.size _ _ _ _ rfl ((((HZ.out.set 0 _).set 1 _).set 2 _).set 3 _)) rfl ?_; exact ⟨rfl, Blk.far4 HB1.out _ _ _ _ (by have := HGL.out; omega), by omega, HK.out.four _ _ _ _ (Nat.le_refl _)⟩
 have h46' : (s[i] == 46) = false := by simpa using h46
 have c46 : ((s[i].toNat : Int) == 46) = false := byte_eq _ 46 false (by omega) h46'; by_cases h91 : (s[i] == 91) = true
 · have c91 : ((s[i].toNat : Int) == 91) = true := byte_eq _ 91 true (by omega) h91; have hr := HR.out; rw [if_neg h46, if_pos h91] at hr; have HR2 := yh hr; clear hr h46 h91; go_wp2_with fail; clear hc hf hcZ hfZ; have HZ := yh (HZ.out.far ⟨g, 1, none⟩ (.int .i64 ((i : Int) + 1)) (by simp; omega)); have HB1 := yh HB1.out.step; have HE1 := yh (HE1.out.setG ⟨g, 1, none⟩ (.int .i64 ((i : Int) + 1)) hg3); have HK := yh (HK.out.set ⟨g, 1, none⟩ (.int .i64 ((i : Int) + 1)) (.inl rfl)); have hcall := rd_members g s (i + 1) hs (by omega) _ HE1.out HB1.out hg3 R HR2.out; cases R with
   | error f =>
    refine hcall.mono ?_; rintro e w5 ⟨rfl, hk5⟩; exact ⟨rfl, rfl, HK.out.trans hk5⟩
   | ok x =>
    obtain ⟨U, q⟩ := x; refine hcall.mono ?_; rintro e w5 ⟨rfl, hb5, hq5, hk5⟩; have HZ := yh (HZ.out.keep hk5 (by simp; omega)); have HB1 := yh hb5; have HK := yh (HK.out.trans hk5); clear hb5 hk5 hcall; have hcZ := HZ.out.cell; have hfZ := HZ.out.frozen; unfold Set4.cells at hcZ; unfold Set4.val; go_wp2_with fail; refine bodyPost_ret (results_set rfl _ _ w.heap.size _ _ _ _ rfl ((((HZ.out.set 0 _).set 1 _).set 2 _).set 3 _)) rfl ?_; exact ⟨rfl, Blk.far4 HB1.out _ _ _ _ (by have := HGL.out; omega), hq5, HK.out.four _ _ _ _ (Nat.le_refl _)⟩
 have h91' : (s[i] == 91) = false := by simpa using h91
 have c91 : ((s[i].toNat : Int) == 91) = false := byte_eq _ 91 false (by omega) h91'; have hr := HR.out; rw [if_neg h46, if_neg h91] at hr; have HR2 := yh hr; clear hr h46 h91; go_wp2_with fail; clear hc hf hcZ hfZ; cases hx : rdOne s.data.toList specials i with
 | error f =>
  refine (rd_one g s i specials hs (by omega) _ HE1.out HB1.out hg3 _ hx).mono ?_; rintro e w5 ⟨rfl, hk5⟩; have hRe : R = .error f := by rw [← HR2.out, hx]
  subst hRe; exact ⟨rfl, rfl, HK.out.trans hk5⟩
 | ok x =>
  obtain ⟨b, q⟩ := x; have hq := rdOne_adv hx; refine (rd_one g s i specials hs (by omega) _ HE1.out HB1.out hg3 _ hx).mono ?_; rintro e w5 ⟨rfl, hb5, hk5⟩; obtain ⟨U, hU⟩ : ∃ U, Set4.span b.toNat b.toNat = U := ⟨_, rfl⟩; have hRe : R = .ok (U, q) := by rw [← HR2.out, hx, ← hU]
  subst hRe; have hb256 := b.toNat_lt; have hspan := fun w => span_any b.toNat b.toNat (by omega) (by omega) w
  rw [hU] at hspan; have HSP := yh hspan; clear hspan hU; go_wp2_with fail; refine (HSP.out _).mono ?_; rintro e w6 ⟨rfl, k6⟩; have HZ := yh ((HZ.out.keep hk5 (by simp; omega)).keep k6 (by simp)); have HB1 := yh (show RdB w6 g s q from Blk.keep hb5 k6 (by simp)); have HK := yh ((HK.out.trans hk5).trans k6.of_none); clear hb5 hk5 k6; have hcZ := HZ.out.cell; have hfZ := HZ.out.frozen; unfold Set4.cells at hcZ; unfold Set4.val; go_wp2_with fail; refine bodyPost_ret (results_set rfl _ _ w.heap.size _ _ _ _ rfl ((((HZ.out.set 0 _).set 1 _).set 2 _).set 3 _)) rfl ?_; have hq2 : q ≤ s.size := by
   have : s.data.toList.length = s.size := by show s.data.toList.length = s.data.size; simp
   omega
  exact ⟨rfl, Blk.far4 HB1.out _ _ _ _ (by have := HGL.out; omega), hq2, HK.out.four _ _ _ _ (Nat.le_refl _)⟩
theorem run_assert26c (v : Value) (w : World) : (Instr.typeAssert (.iface 26 v) 20 26 false).run Tryz.prog w = .ok v w := by kernel_rfl
attribute [local go_sem ↓] run_assert26c
theorem read_catch (bo bn bf : Nat) (x0 x1 x2 x3 y a b d : Value) (c p : Int) (w : World) (ho : Blk w bo [x0, x1, x2, x3] 178) (hn : Blk w bn [y] 3) (hf : Blk w bf [a, b, d] 26) (h1 : bo < bn) (h2 : bn < bf) :
 CallsD Tryz.prog 129 #[.pointer (some ⟨bo, 0, none⟩), .pointer (some ⟨bn, 0, none⟩), .pointer (some ⟨bf, 0, none⟩)] (.panicking (flt c p)) w fun e u' w' =>
  e = .returned (.tuple #[]) ∧ u' = recovered c p ∧ Blk w' bo Set4.zero.cells 178 ∧ Blk w' bn [.int .i64 0] 3 ∧ Blk w' bf [.int .i64 c, .int .i64 p, .string ⟨#[]⟩] 26 ∧ Below bo w w' := by
 have hc1 := ho.cell; have hf1 := ho.frozen; have hc2 := hn.cell; have hf2 := hn.frozen; have hc3 := hf.cell; have hf3 := hf.frozen; have n1 : bo ≠ bn := by omega
 have n2 : bn ≠ bf := by omega
 have n3 : bo ≠ bf := by omega
 refine callsD_of_wpS Tryz.func129 rfl fun c₀ cs hu => ?_
 apply wpS_seq; apply wpS_region; simp [wpOpsS, go_sem, recoverD, hu, flt, Tryz.ntmps129, Exit.thenS]; refine wpS_of_wp ?_; change Code.wp _ _ _ { tmps := #[.pointer (some ⟨bo, 0, none⟩), .pointer (some ⟨bn, 0, none⟩), .pointer (some ⟨bf, 0, none⟩), .iface 26 (faultV c p), .iface 26 (faultV c p), undef, undef, undef, undef, undef], defers := [] } _; unfold faultV; go_wp2_with fail; go_region
 all_goals
  refine ⟨rfl, _, rfl, .tuple #[], by simp [results, Tryz.results129, go_sem], rfl, rfl, ?_, ?_, ?_, ?_⟩
 · exact (((((((ho.set 0 _).set 1 _).set 2 _).set 3 _).far _ _ n1).far3 _ _ _ n3)).drew
 · exact (((hn.far4 _ _ _ _ n1.symm).set 0 _).far3 _ _ _ n2).drew
 · exact (((hf.far4 _ _ _ _ n3.symm).far _ _ n2.symm).three _ _ _).drew
 · have k1 := ((((Below.refl bo w).setCell (p := ⟨bo, 0, none⟩) (Nat.le_refl _) (.int .u64 0)).setCell (p := ⟨bo, 1, none⟩) (Nat.le_refl _) (.int .u64 0)).setCell (p := ⟨bo, 2, none⟩) (Nat.le_refl _) (.int .u64 0)).setCell (p := ⟨bo, 3, none⟩) (Nat.le_refl _) (.int .u64 0); have k2 := k1.setCell (p := ⟨bn, 0, none⟩) (by simp; omega) (.int .i64 0); have k3 := k2.setCell (p := ⟨bf, 0, none⟩) (by simp; omega) (.int .i64 c); have k4 := k3.setCell (p := ⟨bf, 1, none⟩) (by simp; omega) (.int .i64 p); exact (k4.setCell (p := ⟨bf, 2, none⟩) (by simp; omega) (.string ⟨#[]⟩)).drew
theorem read_idle (p q r : Addr) (w : World) :
 CallsD Tryz.prog 129 #[.pointer (some p), .pointer (some q), .pointer (some r)] .returning w fun e u' w' => e = .returned (.tuple #[]) ∧ u' = .returning ∧ w' = w := by
 refine callsD_of_wpS Tryz.func129 rfl fun c₀ cs hu => ?_
 apply wpS_seq; apply wpS_region; simp [wpOpsS, go_sem, recoverD, hu, Tryz.ntmps129, Exit.thenS]; refine wpS_of_wp ?_; change Code.wp _ _ _ { tmps := #[.pointer (some p), .pointer (some q), .pointer (some r), .nilIface, .nilIface, undef, undef, undef, undef, undef], defers := [] } _; go_wp2_with fail; cases c₀; simp_all [bodyPostS, results, Tryz.results129, go_sem]
theorem run_load3 (g : Nat) (v : Value) (w : World) (h : Blk w g [v] 3) : (loadVar 3 ⟨g, 0, none⟩).run Tryz.prog w = .ok v w := by
 have hc := h.cell 0; simp only [List.getElem?_cons_zero] at hc; simp [go_sem, hc]
theorem results_sif {fn : Func} {p q r : Tmp} (h : fn.results = #[.cell p 178, .cell q 3, .cell r 26]) (tmps : Array Value) (w : World) (g k m : Nat) (x0 x1 x2 x3 v a b c : Value)
 (hp : tmps.getD p undef = .pointer (some ⟨g, 0, none⟩)) (hq : tmps.getD q undef = .pointer (some ⟨k, 0, none⟩)) (hr : tmps.getD r undef = .pointer (some ⟨m, 0, none⟩))
 (hg : Blk w g [x0, x1, x2, x3] 178) (hk : Blk w k [v] 3) (hm : Blk w m [a, b, c] 26) :
 (results fn tmps).run Tryz.prog w = .ok (.tuple #[.agg #[x0, x1, x2, x3], v, .agg #[a, b, c]]) w := by
 have hp' : tmps[p]?.getD undef = .pointer (some ⟨g, 0, none⟩) := by simpa using hp
 have hq' : tmps[q]?.getD undef = .pointer (some ⟨k, 0, none⟩) := by simpa using hq
 have hr' : tmps[r]?.getD undef = .pointer (some ⟨m, 0, none⟩) := by simpa using hr
 simp [results, h, hp', hq', hr', asAddr, run_load3 k v w hk, run_loadVar_row w g 178 178 #[x0, x1, x2, x3] (0, 0) _ hg Tryz.underlying178 rfl (by kernel_rfl), run_loadVar_row w m 26 26 #[a, b, c] (0, 0) _ hm Tryz.underlying26 rfl (by kernel_rfl)]
def ReadOut (s : ByteArray) (w : World) (r : Except Flt (Set4 × Nat)) (e : Ending) (w' : World) : Prop :=
 match r with
 | .ok (t, q) => e = .returned (.tuple #[t.val, .int .i64 (q : Int), faultV 0 0]) ∧ q ≤ s.size ∧ Keep none w w'
 | .error f => e = .returned (.tuple #[Set4.zero.val, .int .i64 0, faultV f.code f.pl]) ∧ Keep none w w'
theorem read_walk (s : ByteArray) (i : Nat) (hs : s.size ≤ 2000000) (hi : i < s.size) (w : World) (hE : Escs w) (R : Except Flt (Set4 × Nat)) (hR : rdItem s.data.toList i = R) :
 Calls Tryz.prog 125 #[.string s, .int .i64 (i : Int)] w (ReadOut s w R) := by
 have hmf : ∀ (fn : Fn) (first cap : Array Value) (w : World), (Instr.makeFunc fn first cap).run Tryz.prog w = .ok (.func fn first cap) w := fun _ _ _ _ => rfl
 have HE := yh hE; have HR := yh hR; have b0 : ((i : Int) < (s.size : Int)) := by omega
 have b1 : (0 : Int) ≤ (i : Int) := by omega
 have h3 : 3 < w.heap.size := hE.lt; clear hE hR; go_enter_defers Tryz.func125, Tryz.ntmps125; go_wp2_with fail; generalize hW : (((w.alloc _).alloc _).alloc _).alloc _ = W; have BO := yh (show Blk W w.heap.size Set4.zero.cells 178 from by rw [← hW]; exact (((Blk.new w _ 178).alloc _).alloc _).alloc _); have BN := yh (show Blk W (w.heap.size + 1) [.int .i64 0] 3 from by
  rw [← hW]; have := Blk.new (w.alloc (.cells Set4.zero.cells.toArray 178)) [.int .i64 0] 3; rw [show (w.alloc (.cells Set4.zero.cells.toArray 178)).heap.size = w.heap.size + 1 by simp] at this; exact (this.alloc _).alloc _)
 have BF := yh (show Blk W (w.heap.size + 1 + 1) [.int .i64 0, .int .i64 0, .string ⟨#[]⟩] 26 from by
  rw [← hW]; have := Blk.new ((w.alloc (.cells Set4.zero.cells.toArray 178)).alloc (.cells #[.int .i64 0] 3)) [.int .i64 0, .int .i64 0, .string ⟨#[]⟩] 26; rw [show ((w.alloc (.cells Set4.zero.cells.toArray 178)).alloc (.cells #[.int .i64 0] 3)).heap.size = w.heap.size + 1 + 1 by simp] at this; exact this.alloc _)
 have BG := yh (show RdB W (w.heap.size + 1 + 1 + 1) s i from by
  rw [← hW]; have := Blk.new (((w.alloc (.cells Set4.zero.cells.toArray 178)).alloc (.cells #[.int .i64 0] 3)).alloc (.cells #[.int .i64 0, .int .i64 0, .string ⟨#[]⟩] 26)) [.string s, .int .i64 i] 209; rw [show (((w.alloc (.cells Set4.zero.cells.toArray 178)).alloc (.cells #[.int .i64 0] 3)).alloc (.cells #[.int .i64 0, .int .i64 0, .string ⟨#[]⟩] 26)).heap.size = w.heap.size + 1 + 1 + 1 by simp] at this; exact this)
 have HE1 := yh (show Escs W from by rw [← hW]; exact HE.out.keep ((((((Keep.refl _ _).alloc _).alloc _).alloc _).alloc _))); have HK := yh (show Keep none w W from by rw [← hW]; exact (((((Keep.refl _ _).alloc _).alloc _).alloc _).alloc _)); clear hW; have hcall := rd_item (w.heap.size + 1 + 1 + 1) s i hs hi _ HE1.out BG.out (by omega) R HR.out; have n1 : w.heap.size < w.heap.size + 1 := by omega
 have n2 : w.heap.size + 1 < w.heap.size + 1 + 1 := by omega
 have hb : w.heap.size + 1 + 1 + 1 < W.heap.size := BG.out.lt; cases R with
 | error f =>
  refine hcall.mono ?_; rintro e w5 ⟨rfl, hk5⟩; have BO := BO.out.keep hk5 (by simp; omega); have BN := BN.out.keep hk5 (by simp); have BF := BF.out.keep hk5 (by simp); have HK := yh (Keep.trans_new HK.out hk5 (by omega)); clear hcall hk5; dsimp only; refine leaves_cons (f := 129) (args := #[.pointer (some ⟨w.heap.size, 0, none⟩), .pointer (some ⟨w.heap.size + 1, 0, none⟩), .pointer (some ⟨w.heap.size + 1 + 1, 0, none⟩)]) (by simp) (by simp [go_sem]) ?_; refine (read_catch w.heap.size (w.heap.size + 1) (w.heap.size + 1 + 1) _ _ _ _ _ _ _ _ f.code f.pl _ BO BN BF n1 n2).mono ?_; rintro e u' w6 ⟨rfl, rfl, ho6, hn6, hf6, hbl⟩
  refine ⟨_, results_sif (by rfl) _ _ w.heap.size (w.heap.size + 1) (w.heap.size + 1 + 1) _ _ _ _ _ _ _ _ rfl rfl rfl ho6 hn6 hf6, rfl, ?_⟩; exact HK.out.below_trans hbl (Nat.le_refl _)
 | ok x =>
  obtain ⟨U, q⟩ := x; refine hcall.mono ?_; rintro e w5 ⟨rfl, hb5, hq5, hk5⟩; have BO := yh (BO.out.keep hk5 (by simp; omega)); have BN := yh (BN.out.keep hk5 (by simp)); have BF := yh (BF.out.keep hk5 (by simp)); have HK := yh (Keep.trans_new HK.out hk5 (by omega)); have BG := yh hb5; clear hcall hk5 hb5; have hfO := BO.out.frozen; have hcO := BO.out.cell; unfold Set4.cells at hcO; unfold Set4.val; go_wp2_with fail; clear hfO hcO; have BO := yh (show Blk ((((w5.setCell ⟨w.heap.size, 0, none⟩ (.int .u64 U.a)).setCell ⟨w.heap.size, 1, none⟩ (.int .u64 U.b)).setCell ⟨w.heap.size, 2, none⟩ (.int .u64 U.c)).setCell ⟨w.heap.size, 3, none⟩ (.int .u64 U.d)) w.heap.size U.cells 178 from (((BO.out.set 0 (.int .u64 U.a)).set 1 (.int .u64 U.b)).set 2 (.int .u64 U.c)).set 3 (.int .u64 U.d))
  have BN := yh (BN.out.far4 (g := w.heap.size) (.int .u64 U.a) (.int .u64 U.b) (.int .u64 U.c) (.int .u64 U.d) (by omega)); have BF := yh (BF.out.far4 (g := w.heap.size) (.int .u64 U.a) (.int .u64 U.b) (.int .u64 U.c) (.int .u64 U.d) (by omega)); have BG := yh (show RdB _ _ s q from Blk.far4 (g := w.heap.size) BG.out (.int .u64 U.a) (.int .u64 U.b) (.int .u64 U.c) (.int .u64 U.d) (by omega)); have HK := yh (HK.out.four (.int .u64 U.a) (.int .u64 U.b) (.int .u64 U.c) (.int .u64 U.d) (Nat.le_refl _)); generalize World.setCell (World.setCell (World.setCell (World.setCell w5 _ _) _ _) _ _) _ _ = V at BO BN BF BG HK ⊢
  have hfO := BO.out.frozen; have hcO := BO.out.cell; have hfN := BN.out.frozen; have hcN := BN.out.cell; have hfF := BF.out.frozen; have hcF := BF.out.cell; have hcG := Blk.cell BG.out; unfold Set4.cells at hcO; go_region
  go_wp2_with fail; refine leaves_cons (f := 129) (args := #[.pointer (some ⟨w.heap.size, 0, none⟩), .pointer (some ⟨w.heap.size + 1, 0, none⟩), .pointer (some ⟨w.heap.size + 1 + 1, 0, none⟩)]) (by simp) (by simp [go_sem]) ?_; refine (read_idle _ _ _ _).mono ?_; rintro e u' w6 ⟨rfl, rfl, rfl⟩; refine ⟨_, results_sif (by rfl) _ _ w.heap.size (w.heap.size + 1) (w.heap.size + 1 + 1) (.int .u64 U.a) (.int .u64 U.b) (.int .u64 U.c) (.int .u64 U.d) (.int .i64 (q : Int)) (.int .i64 0) (.int .i64 0) (.string ⟨#[]⟩) rfl rfl rfl ?_ ?_ ?_, ?_⟩
  rotate_left 3
  · exact ⟨rfl, hq5, (((HK.out.four _ _ _ _ (Nat.le_refl _)).set ⟨w.heap.size + 1, 0, none⟩ _ (.inr (by simp))).three _ _ _ (by omega)).drew⟩
  · exact ((((((BO.out.set 0 _).set 1 _).set 2 _).set 3 _).far _ _ (by simp)).far3 _ _ _ (by omega)).drew
  · exact (((BN.out.far4 _ _ _ _ (by omega)).set 0 _).far3 _ _ _ (by omega)).drew
  · exact (((BF.out.far4 _ _ _ _ (by omega)).far _ _ (by simp)).three _ _ _).drew
end Go.Proofs.YtmfabihndpidnaaGreatDoor
namespace Go.Proofs.YtmfabihndpidnaaGreatDoor
set_option linter.unusedVariables false
inductive Nd where
 | eps
 | cls (s : Set4)
 | cat (a b : Nd)
 | alt (a b : Nd)
 | star (a : Nd)
 | and (a b : Nd)
 | minus (a b : Nd)
def Nd.size : Nd → Nat
 | .eps => 1
 | .cls _ => 1
 | .cat a b => 1 + a.size + b.size
 | .alt a b => 1 + a.size + b.size
 | .star a => 1 + a.size
 | .and a b => 1 + a.size + b.size
 | .minus a b => 1 + a.size + b.size
structure Rl where
 size : Nat
 nd : Nd
def capped (n : Nat) : Nat := min n 2001
def Rl.leaf (n : Nd) : Rl := ⟨1, n⟩
def Rl.join (a b : Rl) (f : Nd → Nd → Nd) : Rl := ⟨capped (1 + a.size + b.size), f a.nd b.nd⟩
def Rl.star (a : Rl) : Rl := ⟨capped (1 + a.size), .star a.nd⟩
def Rl.maybe (a : Rl) : Rl := a.join (.leaf .eps) .alt
def Rl.more (a : Rl) : Nat → Rl → Rl
 | 0, out => out
 | k + 1, out => a.more k (out.join a .cat)
def Rl.maybes (a : Rl) : Nat → Rl → Rl
 | 0, out => out
 | k + 1, out => a.maybes k (out.join a.maybe .cat)
def Rl.times (a : Rl) (m : Nat) (n : Int) : Rl :=
 if m = 0 ∧ n < 0 then a.star
 else if m = 0 ∧ n = 0 then .leaf .eps
 else if n < 0 then (a.more (m - 1) (if m = 0 then a.maybe else a)).join a.star .cat
 else a.maybes (n - max (m : Int) 1).toNat (a.more (m - 1) (if m = 0 then a.maybe else a))
def rxDigits (l : Bs) : Nat → Nat → Nat → Nat × Nat
 | 0, p, acc => (acc, p)
 | k + 1, p, acc =>
  match l[p]? with
  | none => (acc, p)
  | some c => if digit c then rxDigits l k (p + 1) (10 * acc + (c.toNat - 48)) else (acc, p)
def rxNumber (l : Bs) (p : Nat) : Except Nat (Nat × Nat) :=
 if (rxDigits l 3 p 0).2 = p then .error 20 else .ok (rxDigits l 3 p 0)
def rxUpper (l : Bs) (m q : Nat) : Except Nat (Int × Nat) :=
 if l[q]? = some 44 then
  if l[q + 1]? = some 125 then .ok (-1, q + 1)
  else match rxNumber l (q + 1) with
   | .error e => .error e
   | .ok (n, r) => .ok ((n : Int), r)
 else .ok ((m : Int), q)
def rxBraces (l : Bs) (a : Rl) (p : Nat) : Except Nat (Rl × Nat) :=
 match rxNumber l (p + 1) with
 | .error e => .error e
 | .ok (m, q) =>
  match rxUpper l m q with
  | .error e => .error e
  | .ok (n, r) =>
   if l[r]? = some 125 then
    if 255 < m ∨ 255 < n ∨ (0 ≤ n ∧ n < (m : Int)) then .error 22 else .ok (a.times m n, r + 1)
   else .error 20
def rxReps (l : Bs) : Nat → Rl → Nat → Except Nat (Rl × Nat)
 | 0, _, _ => .error 99
 | k + 1, a, p =>
  if l[p]? = some 42 then rxReps l k a.star (p + 1)
  else if l[p]? = some 43 then rxReps l k (a.join a.star .cat) (p + 1)
  else if l[p]? = some 63 then rxReps l k a.maybe (p + 1)
  else if l[p]? = some 123 then
   match rxBraces l a p with
   | .error e => .error e
   | .ok (b, q) => rxReps l k b q
  else .ok (a, p)
mutual
def rxAlts (l : Bs) : Nat → Nat → Nat → Except Nat (Rl × Nat)
 | 0, _, _ => .error 99
 | n + 1, op, p =>
  match rxMeets l n op p with
  | .error e => .error e
  | .ok (r, q) => rxAltsL l n op r q
def rxAltsL (l : Bs) : Nat → Nat → Rl → Nat → Except Nat (Rl × Nat)
 | 0, _, _, _ => .error 99
 | n + 1, op, r, p =>
  if l[p]? = some 124 then
   match rxMeets l n op (p + 1) with
   | .error e => .error e
   | .ok (x, q) => rxAltsL l n op (r.join x .alt) q
  else .ok (r, p)
def rxMeets (l : Bs) : Nat → Nat → Nat → Except Nat (Rl × Nat)
 | 0, _, _ => .error 99
 | n + 1, op, p =>
  match rxRow l n op p with
  | .error e => .error e
  | .ok (r, q) => rxMeetsL l n op r q
def rxMeetsL (l : Bs) : Nat → Nat → Rl → Nat → Except Nat (Rl × Nat)
 | 0, _, _, _ => .error 99
 | n + 1, op, r, p =>
  if l[p]? = some 38 then
   match rxRow l n op (p + 1) with
   | .error e => .error e
   | .ok (x, q) => rxMeetsL l n op (r.join x .and) q
  else if l[p]? = some 45 then
   match rxRow l n op (p + 1) with
   | .error e => .error e
   | .ok (x, q) => rxMeetsL l n op (r.join x .minus) q
  else .ok (r, p)
def rxRow (l : Bs) : Nat → Nat → Nat → Except Nat (Rl × Nat)
 | 0, _, _ => .error 99
 | n + 1, op, p => rxRowL l n op false (.leaf .eps) p
def rxRowL (l : Bs) : Nat → Nat → Bool → Rl → Nat → Except Nat (Rl × Nat)
 | 0, _, _, _, _ => .error 99
 | n + 1, op, any, r, p =>
  match l[p]? with
  | none => .ok (r, p)
  | some c =>
   if c == 124 || c == 38 || c == 45 || c == 41 then .ok (r, p)
   else if c == 42 || c == 43 || c == 63 || c == 123 then .error 20
   else
    match rxAtom l n op p with
    | .error e => .error e
    | .ok (x, q) =>
     match rxReps l (l.length + 1) x q with
     | .error e => .error e
     | .ok (y, t) => rxRowL l n op true (if any then r.join y .cat else y) t
def rxAtom (l : Bs) : Nat → Nat → Nat → Except Nat (Rl × Nat)
 | 0, _, _ => .error 99
 | n + 1, op, p =>
  if l[p]? = some 40 then
   if 1000 ≤ op then .error 23
   else
    match rxAlts l n (op + 1) (p + 1) with
    | .error e => .error e
    | .ok (r, q) => if l.length ≤ q then .error 21 else .ok (r, q + 1)
  else
   match rdItem l p with
   | .error f => .error f.code
   | .ok (s, q) => .ok (.leaf (.cls s), q)
end
def rxParse (l : Bs) : Except Nat Nd :=
 if 1048576 < l.length then .error 1
 else
  match rxAlts l (6 * l.length + 6) 0 0 with
  | .error e => .error e
  | .ok (r, q) => if q < l.length then .error 20 else if 2000 < r.size then .error 24 else .ok r.nd
def parenR (b : Bool) (s : Bs) : Bs := if b then 40 :: (s ++ [41]) else s
noncomputable def Nd.show : Nd → Nat → Bs
 | .eps, need => parenR (decide (4 < need)) [40, 41]
 | .cls s, need => parenR (decide (4 < need)) s.show
 | .alt a b, need => parenR (decide (0 < need)) (a.show 0 ++ 124 :: b.show 1)
 | .and a b, need => parenR (decide (1 < need)) (a.show 1 ++ 38 :: b.show 2)
 | .minus a b, need => parenR (decide (1 < need)) (a.show 1 ++ 45 :: b.show 2)
 | .cat a b, need => parenR (decide (2 < need)) (a.show 2 ++ b.show 3)
 | .star a, need => parenR (decide (3 < need)) (a.show 3 ++ [42])
def Nd.textL (n : Nd) : Bs → Nd
 | [] => n
 | c :: l => (Nd.cat n (.cls (Set4.of [c]))).textL l
def Nd.text : Bs → Nd
 | [] => .eps
 | c :: l => (Nd.cls (Set4.of [c])).textL l
end Go.Proofs.YtmfabihndpidnaaGreatDoor
