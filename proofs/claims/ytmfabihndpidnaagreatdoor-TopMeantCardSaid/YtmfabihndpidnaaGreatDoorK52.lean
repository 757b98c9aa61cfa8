/-
  THE CARD OF TopMeant: for every text, loupetop.TopMeant returns true and leaves its argument as it was: the tied card that the seat gives, over the given tie of the listed variables to the program's text.
 Conditions: the listed package-level variables (syntax.ranks, class.escapes, strconv.uint64pow10 and the two de Bruijn tables) read, when the call begins, as the program's text lays them.
-/
import Derived.Test.YtmfabihndpidnaaGreatDoorK51
import Derived.Test.YtmfabihndpidnaaGreatDoorCards
import Derived.Test.YtmfabihndpidnaaGreatDoorTie
import Derived.ProofKit
import Derived.OpenShut
import Derived.LaidMore
import Derived.Lib.LaidTab
import Derived.Stop.LaidErr
namespace Go.Proofs.YtmfabihndpidnaaGreatDoor
open Go.ChangeShapes Go.WideShapes Go.ChangeAt Go.RowKit
set_option maxRecDepth 100000
set_option linter.unusedVariables false
set_option linter.unusedSimpArgs false
theorem gRanks : Tryz.prog.globalNamed "loupe/syntax.ranks" = some 0 := by kernel_rfl
theorem gPow : Tryz.prog.globalNamed "internal/strconv.uint64pow10" = some 1 := by kernel_rfl
theorem gEsc : Tryz.prog.globalNamed "loupe/class.escapes" = some 3 := by kernel_rfl
theorem tRanks : (Tryz.prog.globals[0]?).map (·.type) = some 132 := by kernel_rfl
theorem tPow : (Tryz.prog.globals[1]?).map (·.type) = some 185 := by kernel_rfl
theorem tEsc : (Tryz.prog.globals[3]?).map (·.type) = some 199 := by kernel_rfl
theorem cells185 : Tryz.prog.cellsOf 185 = 20 := by kernel_rfl
theorem cells199 : Tryz.prog.cellsOf 199 = 6 := by kernel_rfl
theorem cells198 : Tryz.prog.cellsOf 198 = 2 := by kernel_rfl
theorem cells132 : Tryz.prog.cellsOf 132 = 5 := by kernel_rfl
theorem cells9 : Tryz.prog.cellsOf 9 = 1 := by kernel_rfl
theorem var_keep {W X : World} {n : String} {g : Nat} {cs : Array Value} (hg : Tryz.prog.globalNamed n = some g) (k : Keep none W X) (h : W.var? Tryz.prog n = some cs) : X.var? Tryz.prog n = some cs := by
 simp only [World.var?, hg, Option.bind_some] at h ⊢; have hlt : g < W.heap.size := by
  rcases Nat.lt_or_ge g W.heap.size with h' | h'
  · exact h'
  · rw [Array.getElem?_eq_none h'] at h; cases h
 rw [k.block g hlt (by simp)]; exact h
theorem strings_of {H : Type} {enc : TypeId × Value → H} {W : World} {base : Nat} {sp : Nat → Bool} {held : Bool} {fuel : Nat} {cs : List Value} {ls : List Bs} {p : List MemPlace}
 (h : DataW.trod enc Tryz.prog W base sp held fuel 132 cs = some (.agg (ls.map fun b => .lit (.string b)), p)) (hl : ls.length = 5) : cs = ls.map fun b => .string (mkS b) := by
 obtain ⟨xs, m, rfl, hx, hlen, hn, hel⟩ := DataW.trod_array Tryz.underlying132 h; rw [cells132] at hlen; rw [cells9] at hel; have hx1 : xs.map (·.1) = ls.map fun b => (DataW.lit (.string b) : DataW H) := by
  simp only [Prod.mk.injEq, DataW.agg.injEq] at hx; exact hx.1.symm
 apply List.ext_getElem?; intro i; by_cases hi : i < 5
 · have hf := hel i hi; obtain ⟨x, hxi⟩ : ∃ x, xs[i]? = some x := ⟨xs[i], List.getElem?_eq_getElem (by omega)⟩; rw [hxi] at hf; obtain ⟨s, hc, rfl, _⟩ := DataW.trod_string Tryz.underlying9 hf; have h1 : cs[i]? = some (.string s) := by
    have := congrArg (·[0]?) hc; simpa [List.getElem?_take, List.getElem?_drop] using this
   have h2 : (xs.map (·.1))[i]? = some (DataW.lit (.string s.data.toList) : DataW H) := by simp [hxi]
   rw [hx1] at h2; simp only [List.getElem?_map, Option.map_eq_some_iff, DataW.lit.injEq, Lit.string.injEq] at h2; obtain ⟨b, hb, rfl⟩ := h2; simp [h1, hb, mkS]
 · rw [List.getElem?_eq_none (by omega), List.getElem?_eq_none (by simp; omega)]
theorem escapes_of {H : Type} {enc : TypeId × Value → H} {W : World} {base : Nat} {sp : Nat → Bool} {held : Bool} {fuel : Nat} {cs : List Value} {p : List MemPlace}
 (h : DataW.trod enc Tryz.prog W base sp held fuel 199 cs = some (Rows.laid_loupe_class_escapes, p)) : cs = escV := by
 obtain ⟨xs, m, rfl, hx, hlen, hn, hel⟩ := DataW.trod_array Tryz.underlying199 h; rw [cells199] at hlen; rw [cells198] at hel
 match xs, hn with
 | [x0, x1, x2], _ =>
 match cs, hlen with
 | [c0, c1, c2, c3, c4, c5], _ =>
 have key : ∀ (a b : Value) (x : DataW H × List MemPlace), DataW.trod enc Tryz.prog W base sp held m 198 [a, b] = some x → ∃ u v : Int, a = .int .u8 u ∧ b = .int .u8 v ∧ x.1 = .agg [.lit (.int .u8 u), .lit (.int .u8 v)] := by
  intro a b x hh; obtain ⟨y0, y1, n, rfl, _, h0, h1⟩ := trod_struct2 Tryz.underlying198 hh; have e0 : DataW.trod enc Tryz.prog W base sp held n 5 [a] = some y0 := h0; have e1 : DataW.trod enc Tryz.prog W base sp held n 5 [b] = some y1 := h1; obtain ⟨u, hu, rfl, _⟩ := DataW.trod_int Tryz.underlying5 e0; obtain ⟨v, hv, rfl, _⟩ := DataW.trod_int Tryz.underlying5 e1; cases hu; cases hv; exact ⟨u, v, rfl, rfl, rfl⟩
 obtain ⟨u0, v0, rfl, rfl, r0⟩ := key c0 c1 x0 (hel 0 (by decide)); obtain ⟨u1, v1, rfl, rfl, r1⟩ := key c2 c3 x1 (hel 1 (by decide)); obtain ⟨u2, v2, rfl, rfl, r2⟩ := key c4 c5 x2 (hel 2 (by decide)); simp only [Rows.laid_loupe_class_escapes, Prod.mk.injEq, List.map_cons, List.map_nil, r0, r1, r2, DataW.agg.injEq, List.cons.injEq, DataW.lit.injEq, Lit.int.injEq, true_and, and_true] at hx; obtain ⟨⟨⟨rfl, rfl⟩, ⟨rfl, rfl⟩, rfl, rfl⟩, _⟩ := hx; rfl
theorem of_laid {W : World} (h : laidMetH Tryz.prog Rows.topMeantRow.laid W) : Ranks W ∧ Escs W ∧ Pow10 W := by
 rw [MakeChecks.laidMetH_plain _ _ _ (by kernel_rfl)] at h; change laidMet Tryz.prog [("math/bits.deBruijn32tab", Rows.laid_math_bits_deBruijn32tab), ("math/bits.deBruijn64tab", Rows.laid_math_bits_deBruijn64tab), ("internal/strconv.uint64pow10", Lib.tabData .u64 Lib.pow10Tab), ("loupe/class.escapes", Rows.laid_loupe_class_escapes), ("loupe/syntax.ranks", Rows.laid_loupe_syntax_ranks)] W at h; have h3 := h.tail.tail; have hp := Lib.tabIs_of_head gPow tPow Tryz.underlying185 Tryz.underlying171 (by kernel_rfl) cells185 h3; obtain ⟨ps4, ⟨g4, t4, cs4, f4, p4, q4, hg4, ht4, hv4, hd4, _, _⟩, _⟩ := h3.tail
 obtain ⟨ps5, ⟨g5, t5, cs5, f5, p5, q5, hg5, ht5, hv5, hd5, _, _⟩, _⟩ := h3.tail.tail; obtain rfl := Option.some.inj (gEsc.symm.trans hg4); obtain rfl := Option.some.inj (gRanks.symm.trans hg5); obtain rfl := Option.some.inj (tEsc.symm.trans ht4); obtain rfl := Option.some.inj (tRanks.symm.trans ht5); refine ⟨fun o => ?_, fun o => ?_, fun X k => var_keep gPow k hp⟩
 · have e := strings_of (ls := [[124], [38, 45], [62, 62], [126], [46]]) hd5 rfl; rw [World.var?_cell hg5 hv5 o, ← Array.getElem?_toList, e]; rfl
 · rw [World.var?_cell hg4 hv4 o, ← Array.getElem?_toList, escapes_of hd4]
theorem keptBut_of {W X : World} (k : Keep none W X) (may : MemPlace → Prop) : W.keptBut X may := by
 refine ⟨k.os, k.output, fun i hi => ?_⟩; rw [k.block i hi (by simp)]; cases W.heap[i]? with
 | none => exact rfl
 | some o =>
  cases o with
  | cells c t fr => exact ⟨rfl, rfl, rfl, fun _ _ => rfl⟩
  | map es clock => exact .inr ⟨rfl, rfl⟩
  | _ => exact rfl
theorem own : ownKnob Tryz.prog.godebug = none := by kernel_rfl
theorem door_met (os : Os) (args : Array Value) : laidMetH Tryz.prog Rows.topMeantRow.laid ((World.doorLaid Tryz.prog 400 os).forCall (fun _ _ => 0) ⟨#[], args, []⟩).memory :=
 laidMetH_of_parts3 (fuel := 8) (laidMet_of_run' 8 (by kernel_rfl) (by kernel_rfl)) (by kernel_rfl) (by kernel_rfl)
theorem lifted (os : Os) (started : os.Started) (H : Type) (enc : TypeId × Value → H) :
 ReturnsInHanded {} Tryz.checked os 3 .any (fun w args => (Rows.topMeantSpec.pre enc Tryz.prog Tryz.f3 [] false w args ∧ laidMetH Tryz.prog Rows.topMeantRow.laid w) ∧ sizedMet enc Tryz.prog Tryz.f3 (OpenSpec.ofChange Rows.topMeantSpec) false w args)
  (Rows.topMeantSpec.post enc Tryz.prog Tryz.f3 false true false false) := by
 refine returnsInHanded_of_change_and (C := Tryz.checked) (X := fun w _ => laidMetH Tryz.prog Rows.topMeantRow.laid w) (fun _ _ _ hh h => h.of_heap hh) own started (by kernel_rfl) Tryz.func3
  (ChangeSpec.witness_shaped (enc := enc) (C := Tryz.checked) (os := os) (X := fun w _ => laidMetH Tryz.prog Rows.topMeantRow.laid w) false (World.doorLaid Tryz.prog 400 os) #[.string ⟨#[]⟩] 8 rfl (World.shaped_of_RefB (by kernel_rfl) (by kernel_rfl)) (by kernel_rfl) (by kernel_rfl) (by kernel_rfl) (door_met os _)) ?_
 intro W base args ds gs before hval0 hW _ _ hL _; have hval : ∀ (j : Nat) t v, Tryz.f3.params[j]? = some t → args[j]? = some v → Value.okWide Tryz.prog W .any base t v := hval0; have hW' := hW; obtain ⟨p, q, hA0, hV, rfl, hfz, hnd⟩ := hW; have hA : DataW.TrodAll enc Tryz.prog W 0 (fun _ => true) true Tryz.f3.params.toList args.toList ds p := hA0; rw [Tryz.params3] at hA hval; obtain ⟨v0, d0, rfl, rfl, h0⟩ := trodAll_one hA; obtain ⟨rfl, rfl⟩ := trodVars_none hV; obtain ⟨s, rfl, rfl, rfl, hs⟩ := ChangeMaps.open_string Tryz.underlying9 (hval 0 9 v0 rfl rfl) h0; obtain ⟨hr, hE, hT⟩ := of_laid hL; clear hA0 hval0
 simp only [List.append_nil] at hW'; refine (top_walk s W hr hE hT).mono fun e W' ⟨he, hk⟩ => ?_
 subst he; exact ⟨_, rfl, _, [], [], [], [], [], hW', trodAll_mk1 (shut_bool Tryz.underlying4 _), trodAll_mk1 (ChangeMaps.shut_string Tryz.underlying9 hs), rfl, keptBut_of hk _, fun h => by cases h⟩
theorem topMeant_said : Rows.TopMeantSaid :=
 OpenClaim.holds_of_wide 3 Tryz.f3 rfl rfl rfl rfl rfl rfl rfl ⟨rfl, rfl, rfl, rfl, rfl⟩ rfl rfl rfl rfl rfl (by kernel_rfl) Tryz.func3 (by kernel_rfl)
  (of_decide_eq_true (by kernel_rfl)) (by unfold Func.isWrapper; first | (rw [if_pos (by decide +kernel)]; kernel_rfl) | (rw [if_neg (by decide +kernel)]; exact ⟨rfl, rfl⟩))
  (fun os started H enc _ => lifted os started H enc)
theorem plain3 (f : FuncId) (fn : Func) (hf : Tryz.pinned.checked.prog.funcNamed "loupe/loupetop.TopMeant" = some f) (hfn : Tryz.pinned.checked.prog.funcs[f]? = some fn) :
 true = Tryz.pinned.checked.prog.looks [] ∧ ∀ (j : Nat) t, fn.params[j]? = some t → Tryz.pinned.checked.prog.wantsStandIn t = false := by
 obtain rfl : f = 3 := Option.some.inj ((show Tryz.prog.funcNamed "loupe/loupetop.TopMeant" = some 3 by kernel_rfl).symm.trans hf) |>.symm
 obtain rfl : fn = Tryz.f3 := (Option.some.inj (Tryz.func3.symm.trans hfn)).symm; refine ⟨by kernel_rfl, fun j t ht => ?_⟩; rw [Tryz.params3] at ht; obtain rfl : t = 9 := by simpa using Array.mem_of_getElem? ht
 exact (show Tryz.prog.wantsStandIn 9 = false by kernel_rfl)
theorem topMeant_card : Rows.TopMeantCardSaid :=
 Claim7.holds_tied_plain_at .later [] _ _ _ _ topMeant_said (fun _ h => by cases h) (by kernel_rfl) (fun _ h => by cases h) topMeant_row_tie rfl ⟨rfl, rfl⟩ (by kernel_rfl) rfl plain3 (by kernel_rfl)
#print axioms topMeant_card
end Go.Proofs.YtmfabihndpidnaaGreatDoor
