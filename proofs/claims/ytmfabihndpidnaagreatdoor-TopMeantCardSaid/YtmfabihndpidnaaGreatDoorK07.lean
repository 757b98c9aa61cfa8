/-
  The parser's call: a reserved word with its arguments.
-/
import Derived.Test.YtmfabihndpidnaaGreatDoorK05
import Derived.Test.YtmfabihndpidnaaGreatDoorK03
import Derived.Deep.AppendLies
namespace Go.Proofs.YtmfabihndpidnaaGreatDoor
set_option maxHeartbeats 4000000
open Go.RowKit
set_option maxRecDepth 100000
set_option linter.unusedVariables false
set_option linter.unusedSimpArgs false
attribute [local go_sem ↓] run_field96_0 run_field96_1 run_field96_2
def ExsV (w : World) (ok : Nat → Prop) : List Ex → List Value → Prop
 | [], [] => True
 | x :: xs, v :: vs => ExV w ok x v ∧ ExsV w ok xs vs
 | _, _ => False
theorem ExsV.far {w w' : World} {ok : Nat → Prop} (k : ∀ b cs fr, ok b → w.heap[b]? = some (.cells cs 55 fr) → w'.heap[b]? = w.heap[b]?) : ∀ {xs : List Ex} {vs : List Value}, ExsV w ok xs vs → ExsV w' ok xs vs
 | [], [], _ => trivial
 | _ :: _, _ :: _, h => ⟨h.1.far k, ExsV.far k h.2⟩
 | [], _ :: _, h => h.elim
 | _ :: _, [], h => h.elim
theorem ExsV.keep {w w' : World} {ok : Nat → Prop} {a : Option Nat} (k : Keep a w w') (ha : NotRow 55 a w) {xs : List Ex} {vs : List Value} (h : ExsV w ok xs vs) : ExsV w' ok xs vs :=
 h.far (fun b cs fr _ hb => k.block b (lt_of_block hb) (ha _ _ _ hb))
theorem ExsV.mono {w : World} {ok ok' : Nat → Prop} (k : ∀ b, b < w.heap.size → ok b → ok' b) : ∀ {xs : List Ex} {vs : List Value}, ExsV w ok xs vs → ExsV w ok' xs vs
 | [], [], _ => trivial
 | _ :: _, _ :: _, h => ⟨h.1.mono k, ExsV.mono k h.2⟩
 | [], _ :: _, h => h.elim
 | _ :: _, [], h => h.elim
theorem ExsV.snoc {w : World} {ok : Nat → Prop} {x : Ex} {v : Value} (hx : ExV w ok x v) : ∀ {xs : List Ex} {vs : List Value}, ExsV w ok xs vs → ExsV w ok (xs ++ [x]) (vs ++ [v])
 | [], [], _ => ⟨hx, trivial⟩
 | _ :: _, _ :: _, h => ⟨h.1, ExsV.snoc hx h.2⟩
 | [], _ :: _, h => h.elim
 | _ :: _, [], h => h.elim
theorem own_ne {w : World} {base b : Nat} {e t : TypeId} {v : Value} {n size : Nat} {xs cs : List Value} (h : w.ownsRow base e size v n xs) (hb : Blk w b cs t) (hne : t ≠ e) : some b ≠ v.ownBlock := by
 intro hc; rcases h.2 with ⟨rfl, _⟩ | ⟨g, cap, cur, rfl, _, hg, _⟩
 · simp [Value.ownBlock] at hc
 · simp [Value.ownBlock] at hc; subst hc; rw [show w.heap[b]? = _ from hb] at hg; simp at hg; exact hne hg.2
theorem own_base {w : World} {base : Nat} {e : TypeId} {v : Value} {n size : Nat} {xs : List Value} (h : w.ownsRow base e size v n xs) : ∀ k, v.ownBlock = some k → base ≤ k := by
 intro k hk; rcases h.2 with ⟨rfl, _⟩ | ⟨g, cap, cur, rfl, hb, _⟩
 · simp [Value.ownBlock] at hk
 · simp [Value.ownBlock] at hk; omega
theorem own_keep {w w' : World} {base : Nat} {e : TypeId} {v : Value} {n size : Nat} {xs : List Value} {a : Option Nat} (h : w.ownsRow base e size v n xs) (k : Keep a w w') (ha : NotRow e a w) : w'.ownsRow base e size v n xs := by
 refine ⟨h.1, ?_⟩; rcases h.2 with h2 | ⟨g, cap, cur, hv, hb, hg, hr⟩
 · exact .inl h2
 · exact .inr ⟨g, cap, cur, hv, hb, (k.block g (lt_of_block hg) (ha _ _ _ hg)).trans hg, hr⟩
theorem Blk.grown {w w' : World} {b : Nat} {cs : List Value} {t : TypeId} {row : Option Nat} (h : Blk w b cs t) (hg : w.grownBy w' row) (hr : some b ≠ row) : Blk w' b cs t := (hg.block b h.lt hr).trans h
theorem ExRow.of_own {w : World} {base g cap : Nat} {n : Nat} {xs : List Value} (h : w.ownsRow base 55 1 (.slice (some ⟨g, 0, none⟩) n cap) n xs) : ExRow w g xs ∧ n ≤ cap := by
 rcases h.2 with ⟨h, _⟩ | ⟨g', cap', cur, hv, hb, hg, h1, h2, h3, h4⟩
 · cases h
 · cases hv; refine ⟨⟨cur, (0, 0), hg, fun i hi => ?_⟩, h1⟩; have hl := h.1; rw [← h4, List.getElem?_take, if_pos (by omega)]; simp
theorem own_ne_row {w : World} {base b : Nat} {e t : TypeId} {v : Value} {n size : Nat} {xs : List Value} {cs : Array Value} {fr : Nat × Nat} (h : w.ownsRow base e size v n xs) (hb : w.heap[b]? = some (.cells cs t fr)) (hne : t ≠ e) : some b ≠ v.ownBlock := by
 intro hc; rcases h.2 with ⟨rfl, _⟩ | ⟨g, cap, cur, rfl, _, hg, _⟩
 · simp [Value.ownBlock] at hc
 · simp [Value.ownBlock] at hc; subst hc; rw [hb] at hg; simp at hg; exact hne hg.2.1
theorem own_lt {w : World} {base : Nat} {e : TypeId} {v : Value} {n size : Nat} {xs : List Value} (h : w.ownsRow base e size v n xs) : ∀ k, v.ownBlock = some k → k < w.heap.size := by
 intro k hk; rcases h.2 with ⟨rfl, _⟩ | ⟨g, cap, cur, rfl, _, hg, _⟩
 · simp [Value.ownBlock] at hk
 · simp [Value.ownBlock] at hk; subst hk; exact lt_of_block hg
theorem ParIs.tb_ne {w : World} {g tb b : Nat} {ts : List Tok} {op : Nat} {cs : List Value} {t : TypeId} (h : ParIs w g tb ts op) (hb : Blk w b cs t) (hne : t ≠ 96) : tb ≠ b := by
 obtain ⟨k, c, _, ⟨cs', fr, h2, _⟩, _⟩ := h; intro e; subst e; rw [show w.heap[tb]? = _ from hb] at h2; simp at h2; exact hne h2.2.1
theorem ParIs.ne {w : World} {g tb b : Nat} {ts : List Tok} {op : Nat} {cs : List Value} {t : TypeId} (h : ParIs w g tb ts op) (hb : Blk w b cs t) (hne : t ≠ 44) : g ≠ b := by
 obtain ⟨k, c, h2, _⟩ := h; intro e; subst e; unfold Blk at hb; rw [show w.heap[g]? = _ from h2] at hb; simp at hb; exact hne hb.2.symm
theorem ParIs.grown {w w' : World} {g tb : Nat} {ts : List Tok} {op : Nat} {base n : Nat} {v : Value} {xs : List Value} (h : ParIs w g tb ts op) (ho : w.ownsRow base 55 1 v n xs) (hg : w.grownBy w' v.ownBlock) : ParIs w' g tb ts op := by
 have hk : Keep v.ownBlock w w' := (Keep.refl _ _).grown hg (fun k e => .inl e.symm); have hp := h; obtain ⟨k, c, h1, ⟨cs', fr, h2, _⟩, _⟩ := hp; exact h.keep hk (own_ne ho h1 (by decide)) (own_ne_row ho h2 (by decide))
theorem info55 : (Tryz.prog.info? 55).map (fun i => (i.zero, i.size, i.bytes)) = some (some .nilIface, 1, 16) := by kernel_rfl
theorem arity_small (m : Bs) (h : 0 < arity m) : arity m = 1 ∨ arity m = 2 ∨ arity m = 3 := by
 unfold arity at *; split at h
 · simp [*]
 · split at h
   · simp [*]
   · split at h
     · simp [*]
     · split at h <;> simp_all
theorem call_walk (g tb n : Nat) (hA : ∀ m, m ≤ n → Reads g tb m) (t : Tok) (ts : List Tok) (o : Nat) (r : Except Flt (Ex × PS)) (w : World) (h : pCall (n + 1) (t :: ts, o) = some r)
 (hk1 : t.kind = 1) (ha : 0 < arity t.text) (hf : Fit (t :: ts, o)) (hp : ParIs w g tb (t :: ts) o) (hr : Ranks w) :
 Calls Tryz.prog 90 #[.pointer (some ⟨g, 0, none⟩)] w (EOut g tb w r) := by
 rw [pCall] at h; have hk0 : t.kind ≠ 0 := by omega
 have hne := (hf.ends.tail hk0).ne; have HF := yh ((Adv.one (o := o) hk0).fit hf); have HR := yh hr; have HA := yh hA; have HP := yh hp; clear hA hr hf hk0 hp; obtain ⟨ar, har, har3⟩ : ∃ ar : Nat, arity t.text = ar ∧ (ar = 1 ∨ ar = 2 ∨ ar = 3) := by
  rcases arity_small _ ha with h | h | h
  · exact ⟨1, h, by simp⟩
  · exact ⟨2, h, by simp⟩
  · exact ⟨3, h, by simp⟩
 have HAR := yh har; have HAR3 := yh har3; clear har har3 ha hk1; go_enter Tryz.func90, Tryz.ntmps90; go_wp2_with fail; refine (take_any g tb t ts o _ HP.out hne).mono ?_; rintro e w1 ⟨rfl, hp1, hk1⟩; unfold tokV; go_wp2_with fail; have k1 : Keep (some g) w ((w1.alloc (.cells #[.int .i64 t.kind, .int .i64 t.pl, .string (mkS t.text)] 96)).alloc (.cells #[.int .i64 t.pl, .string (mkS t.text), .slice none 0 0] 114)) := (hk1.alloc _).alloc _; have kn : Keep none w1 ((w1.alloc (.cells #[.int .i64 t.kind, .int .i64 t.pl, .string (mkS t.text)] 96)).alloc (.cells #[.int .i64 t.pl, .string (mkS t.text), .slice none 0 0] 114)) := ((Keep.refl _ _).alloc _).alloc _
 have BT := yh ((show Blk (w1.alloc (.cells #[.int .i64 t.kind, .int .i64 t.pl, .string (mkS t.text)] 96)) w1.heap.size [.int .i64 t.kind, .int .i64 t.pl, .string (mkS t.text)] 96 from Blk.new _ _ _).alloc (.cells #[.int .i64 t.pl, .string (mkS t.text), .slice none 0 0] 114)); have BO := yh (show Blk ((w1.alloc (.cells #[.int .i64 t.kind, .int .i64 t.pl, .string (mkS t.text)] 96)).alloc (.cells #[.int .i64 t.pl, .string (mkS t.text), .slice none 0 0] 114)) (w1.heap.size + 1) [.int .i64 t.pl, .string (mkS t.text), .slice none 0 0] 114 from by
  have := Blk.new (w1.alloc (.cells #[.int .i64 t.kind, .int .i64 t.pl, .string (mkS t.text)] 96)) [.int .i64 t.pl, .string (mkS t.text), .slice none 0 0] 114; simpa using this)
 have HG1 := yh (show g < w1.heap.size from by have := hp1; obtain ⟨k, c, hB, _⟩ := this; exact hB.lt); have HGN := yh (show w1.heap.size ≠ g from by have := HG1.out; omega); have HGM := yh (show w1.heap.size + 1 ≠ g from by have := HG1.out; omega); have P1 := yh (hp1.keep kn (by simp) (by simp)); have R1 := yh (HR.out.keep HP.out k1); have K1 := yh k1; have KN := yh kn; have SW := yh hk1.size; clear k1 hk1 kn hp1; generalize hW : (w1.alloc (.cells #[.int .i64 t.kind, .int .i64 t.pl, .string (mkS t.text)] 96)).alloc (.cells #[.int .i64 t.pl, .string (mkS t.text), .slice none 0 0] 114) = W at *
 have HW := yh hW; clear hW; rcases bind_cases h with ⟨f, h1, rfl⟩ | ⟨s1, h1, h⟩
 · have HE := enter_any g tb ts o [40] _ P1.out HF.out.ends HF.out.op; rw [show enter [40] (ts, o) = .error f from by simpa [M.of] using h1] at HE; refine HE.mono ?_; rintro e w3 ⟨rfl, hk3⟩; exact ⟨rfl, rfl, K1.out.trans hk3⟩
 have h1 := of_ok h1; have hne1 : ts ≠ [] := hne; obtain ⟨t2, ts2, hts⟩ := HF.out.ends.kinds; have he2 : tkIs t2 [40] = true ∧ o < 64 ∧ s1 = (ts2, o + 1) := by
  have hts' : ts = t2 :: ts2 := hts; rw [hts'] at h1; exact enter_ok h1
 have F1 : Fit s1 := by
  obtain ⟨hb, ho, rfl⟩ := he2; have hts' : ts = t2 :: ts2 := hts; have := HF.out; rw [hts'] at this; exact ⟨this.ends.tail (tkIs_kind hb), fun u hu => this.marks u (List.mem_cons_of_mem _ hu), ho⟩
 have S1 := yh (show 1 ≤ s1.2 from by obtain ⟨_, _, rfl⟩ := he2; simp); have HE := enter_any g tb ts o [40] _ P1.out HF.out.ends HF.out.op; rw [h1] at HE; have F1 := yh F1; clear h1 hts he2 hne1 hne; refine HE.mono ?_; rintro e w3 ⟨rfl, hp3, hk3⟩; have BT3 := yh (BT.out.keep hk3 (by simpa using HGN.out)); have BO3 := yh (BO.out.keep hk3 (by simpa using HGM.out)); have R3 := yh (R1.out.keep P1.out hk3); have P3 := yh hp3; have K3 := yh (K1.out.trans hk3); clear hp3 hk3 HE; have hcT := BT3.out.cell; go_wp2_with fail; refine (arity_any t.text _).mono ?_; rintro e wx ⟨rfl, rfl⟩
 rw [HAR.out]; have hat : (arity t.text).toNat = ar := by rw [HAR.out]; simp
 rw [hat] at h; clear hat; obtain ⟨i0, hi, hz0, hz1, hz2⟩ := info_parts info55; have HI := yh hi; have HZ0 := yh hz0; have HZ1 := yh hz1; have HZ2 := yh hz2; clear hi hz0 hz1 hz2; obtain ⟨rr, hrr, hrest⟩ : ∃ rr, pArgs n ar [] s1 = some rr ∧ (match rr with | .error f => r = .error f | .ok x => (M.bind (M.of (leave [41] x.2)) fun s2 => some (.ok (mkCall t.pl t.text x.1, s2))) = some r) := by
  rcases bind_cases h with ⟨f, h1, rfl⟩ | ⟨x, h1, h2⟩
  · exact ⟨_, h1, rfl⟩
  · exact ⟨_, h1, h2⟩
 have HRR := yh hrr; have HREST := yh hrest; clear h hrr hrest; have har8 : ar ≤ 3 := by have := HAR3.out; omega
 have har1 : 1 ≤ ar := by have := HAR3.out; omega
 go_wp2_with fail; go_loopw [18] (fun kv wr => ∃ (k m : Nat) (acc : List Ex) (s : PS) (vs : List Value) (sv : Value), kv = .int .i64 (k : Int) ∧ k ≤ ar ∧ m ≤ n ∧ pArgs m (ar - k) acc s = some rr ∧ acc.length = k ∧ Fit s ∧ 1 ≤ s.2 ∧ ParIs wr g tb s.1 s.2 ∧ Keep (some g) w wr ∧ w1.heap.size + 2 ≤ wr.heap.size ∧
  Blk wr w1.heap.size [.int .i64 t.kind, .int .i64 t.pl, .string (mkS t.text)] 96 ∧ Blk wr (w1.heap.size + 1) [.int .i64 t.pl, .string (mkS t.text), sv] 114 ∧ wr.ownsRow w.heap.size 55 1 sv k vs ∧ ExsV wr (fun b => w.heap.size ≤ b ∧ some b ≠ sv.ownBlock) acc vs)
  (fun kv _ => ar - (intOf kv).toNat)
 case atStart =>
  exact ⟨0, n, [], s1, [], .slice none 0 0, rfl, by omega, Nat.le_refl n, HRR.out, rfl, F1.out, S1.out, P3.out, K3.out, by have := BO3.out.lt; omega, BT3.out, BO3.out, ⟨rfl, .inl ⟨rfl, rfl⟩⟩, trivial⟩
 case round =>
  obtain ⟨k, m, acc, s, vs, sv, rfl, hkar, hm, hargs, hacc, hfs, hs1, hps, hks, hsz, hbt, hbo, hown, hxs⟩ := hrel; by_cases hlt : k < ar
  · have hb1 : ((k : Int) < (ar : Int)) := by omega
    have hwr : IntKind.i64.wrap ((k : Int) + 1) = (k : Int) + 1 := IntWalk.i64_in _ (by omega); cases m with
    | zero => cases hargs
    | succ m =>
    obtain ⟨d, hd⟩ : ∃ d, ar - k = d + 1 := ⟨ar - k - 1, by omega⟩; rw [hd, pArgs] at hargs
    -- the comma, where one is due
    by_cases hk0 : k = 0
    · have hacc0 : acc = [] := by cases acc with | nil => rfl | cons a l => simp at hacc; omega
      rw [if_pos hacc0] at hargs; have HARGS := yh (show M.bind (pExpr m 0 s) (fun x => pArgs m d (acc ++ [x.1]) x.2) = some rr from hargs); have hb00 : decide (0 < k) = false := by simp; omega
      have P5 := yh hps; have BT5 := yh hbt; have BO5 := yh hbo; have OW5 := yh hown; have XS5 := yh hxs; have R5 := yh (HR.out.keep HP.out hks); have K5 := yh hks; have F5 := yh hfs; have S5 := yh hs1; have HM := yh hm; have HD := yh hd; have HAC := yh hacc; have HSZ := yh hsz; have HW5 := yh (Nat.le_refl wr.heap.size); clear hargs hps hbt hbo hown hxs hks hfs hs1 hm hd hacc hsz hacc0 hk0; go_wp2_with fail; refine wp_region_pend (fun w' => w'.cell? ⟨w1.heap.size + 1, 2, none⟩ = some sv) 7 (by kernel_rfl) (by kernel_rfl) (fun c a d v w h => by cases d <;> exact h) (by simpa using BO5.out.cell 2) ?_
      simp only [num, List.length_cons, List.length_nil]; repeat
       (refine pend_stable (by decide +kernel) (fun K hK => ?_)
        rw [if_pos (by rfl)]; apply Exists.intro; refine ⟨fun w' hS' => ?_, hK _ ?_⟩
        · (try dsimp only at hS')
          go_simp; try with_reducible rfl
        clear hK K; simp only [Act.put, List.setIfInBounds_toArray, List.set])
      refine pend_active (by decide +kernel) (fun K hK => ?_); rw [if_pos (by rfl)]; go_wp2_with fail; rcases bind_cases HARGS.out with ⟨f, h1, rfl⟩ | ⟨⟨x, s6⟩, h1, h2⟩
      · have hre : r = .error f := HREST.out; subst hre; refine ((HA.out m (by have := HM.out; omega)).expr 0 0 s _ _ rfl (by omega) h1 F5.out (P5.out.keep ((Keep.refl none _).drew) (by simp) (by simp)) (R5.out.keep0 ((Keep.refl none _).drew))).mono ?_; rintro e w6 ⟨rfl, hk6⟩; exact ⟨rfl, rfl, K5.out.trans ((Keep.refl _ _).drew.trans hk6)⟩
      have HX := (HA.out m (by have := HM.out; omega)).expr 0 0 s _ _ rfl (by omega) h1 F5.out (P5.out.keep ((Keep.refl none _).drew) (by simp) (by simp)) (R5.out.keep0 ((Keep.refl none _).drew)); have A6 := yh (((advAll m).expr _ _ _ _ h1).1); have H2 := yh h2; clear h1 h2; refine HX.mono ?_; rintro e w6 ⟨v6, rfl, hv6, hp6, hk6⟩; clear HX; obtain ⟨ty6, y6, rfl⟩ := hv6.iface; have F6 := yh (A6.out.fit F5.out); have BT6 := yh (BT5.out.drew.keep hk6 (by simpa using HGN.out)); have BO6 := yh (BO5.out.drew.keep hk6 (by simpa using HGM.out)); have N5 := P5.out.notRow; have OW6 := yh (own_keep OW5.out ((Keep.refl (some g) _).drew.trans hk6) N5)
      have XS6 := yh (XS5.out.keep ((Keep.refl (some g) _).drew.trans hk6) N5); have V6 := yh hv6; have P6 := yh hp6; have K56 := yh ((Keep.refl (some g) wr).drew.trans hk6); clear hv6 hp6 hk6 N5; refine hK.out _ _ (BO6.out.cell 2) ?_; clear hK K; refine pend_active (by decide +kernel) (fun K hK => ?_); rw [if_pos (by rfl)]; go_simp; refine hK.out _ _ ((BO6.out.alloc _).cell 2) ?_; clear hK K; try simp only [Act.put, List.setIfInBounds_toArray, List.set]
      have NB := yh (Blk.new w6 [.iface ty6 y6] 55); refine pend_active (by decide +kernel) (fun K hK => ?_); refine step_append_lies _ (by rfl) _ _ _ (by rfl) w.heap.size 55 i0 _ 1 16 Tryz.underlying112 HI.out HZ0.out HZ1.out HZ2.out rfl (by omega) sv k vs (by rfl) (own_keep OW6.out ((Keep.refl none _).alloc _) (NotRow.none _ _)) ⟨w6.heap.size, 0, none⟩ 1 1 [.iface ty6 y6] (by rfl) (by rfl) (World.news_of_block NB.out) (by simp [Value.oneCell'])
       (by omega) (by unfold maxLen; omega) (by omega) (by have h1 := SW.out; have h2 := HSZ.out; have h3 := K56.out.size; have h4 := HW5.out; simp; omega) (w6.heap.size + 1) (by simp) ?_
      intro gg cap w7 hown7 hgrow7 hat7 hlt7; have BO7 := yh ((BO6.out.alloc (.cells #[.iface ty6 y6] 55)).grown hgrow7 (own_ne (own_keep OW6.out ((Keep.refl none _).alloc _) (NotRow.none _ _)) (BO6.out.alloc (.cells #[.iface ty6 y6] 55)) (by decide))); have BT7 := yh ((BT6.out.alloc (.cells #[.iface ty6 y6] 55)).grown hgrow7 (own_ne (own_keep OW6.out ((Keep.refl none _).alloc _) (NotRow.none _ _)) (BT6.out.alloc (.cells #[.iface ty6 y6] 55)) (by decide))); have GR7 := yh hgrow7; have OW7 := yh hown7; have AT7 := yh hat7; have LT7 := yh hlt7; clear hown7 hgrow7 hat7 hlt7
      refine hK.out _ _ (BO7.out.cell 2) ?_; clear hK K; try simp only [Act.put, List.setIfInBounds_toArray, List.set]
      repeat
       (refine pend_stable (by decide +kernel) (fun K hK => ?_)
        rw [if_pos (by rfl)]; apply Exists.intro; refine ⟨fun w' hS' => ?_, hK _ ?_⟩
        · (try dsimp only at hS')
          go_simp; try with_reducible rfl
        clear hK K; simp only [Act.put, List.setIfInBounds_toArray, List.set])
      have hf7 := BO7.out.frozen; have hc7 := BO7.out.cell; refine pend_last (by decide +kernel) (by decide +kernel) (by decide +kernel) (fun K hK => ?_); rw [if_pos (by rfl)]; go_simp; refine hK.out _ _ ?_; clear hK K hf7 hc7; try simp only [Act.put, List.setIfInBounds_toArray, List.set]
      have hB8 := BO7.out.set 2 (.slice (some ⟨gg, 0, none⟩) (k + 1) cap); have K78 : Keep (some (w1.heap.size + 1)) w7 (w7.setCell ⟨w1.heap.size + 1, 2, none⟩ (.slice (some ⟨gg, 0, none⟩) (k + 1) cap)) := (Keep.refl _ _).set _ _ (.inl rfl); have OWA := own_keep OW6.out ((Keep.refl none _).alloc (.cells #[.iface ty6 y6] 55)) (NotRow.none _ _); have P7 := (P6.out.keep ((Keep.refl none _).alloc (.cells #[.iface ty6 y6] 55)) (by simp) (by simp)).grown OWA GR7.out; have P8 := P7.keep K78 (by simpa using P7.ne BO7.out (by decide)) (by simpa using P7.tb_ne BO7.out (by decide)); have K08 : Keep (some g) w (w7.setCell ⟨w1.heap.size + 1, 2, none⟩ (.slice (some ⟨gg, 0, none⟩) (k + 1) cap)) :=
       (((K5.out.trans K56.out).alloc _).grown GR7.out (fun q hq => .inr (own_base OWA q hq))).set _ _ (.inr (by have := SW.out; simp; omega))
      have OW8 := own_keep OW7.out K78 (NotRow.blk BO7.out (by decide)); have XA : ExsV w6 (fun b => w.heap.size ≤ b ∧ some b ≠ some gg ∧ some b ≠ sv.ownBlock) (acc ++ [x]) (vs ++ [.iface ty6 y6]) := by
       refine ExsV.snoc (V6.out.mono ?_) (XS6.out.mono ?_)
       · intro b hb hb2; have hb2 : wr.heap.size ≤ b := hb2; have q1 := K5.out.size; refine ⟨by omega, ?_, ?_⟩
         · rcases AT7.out with e | e
           · have := own_lt OW5.out gg e; intro e2; simp at e2; omega
           · intro e2; simp at e2; omega
         · intro e2; have := own_lt OW5.out b e2.symm; omega
       · intro b hb hb2; refine ⟨hb2.1, ?_, hb2.2⟩; rcases AT7.out with e | e
         · rw [← e]; exact hb2.2
         · intro e2; simp at e2; omega
      have XB : ExsV w7 (fun b => w.heap.size ≤ b ∧ some b ≠ some gg ∧ some b ≠ sv.ownBlock) (acc ++ [x]) (vs ++ [.iface ty6 y6]) :=
       (XA.keep ((Keep.refl none _).alloc (.cells #[.iface ty6 y6] 55)) (NotRow.none _ _)).far (fun b cs fr hb hb2 => GR7.out.block b (lt_of_block hb2) hb.2.2)
      have XC := (XB.keep K78 (NotRow.blk BO7.out (by decide))).mono (ok' := fun b => w.heap.size ≤ b ∧ some b ≠ (Value.slice (some ⟨gg, 0, none⟩) (k + 1) cap).ownBlock) (fun b _ hb => ⟨hb.1, hb.2.1⟩); have BT8 := BT7.out.far ⟨w1.heap.size + 1, 2, none⟩ (.slice (some ⟨gg, 0, none⟩) (k + 1) cap) (by simp); have HX8 := yh (And.intro hB8 (And.intro P8 (And.intro K08 (And.intro OW8 (And.intro XC BT8))))); clear hB8 K78 OWA P7 P8 K08 OW8 XA XB XC BT8; go_wp2_with fail; go_roundw; case rel =>
       obtain ⟨hB8, P8, K08, OW8, XC, BT8⟩ := HX8.out; refine ⟨k + 1, m, acc ++ [x], s6, vs ++ [.iface ty6 y6], .slice (some ⟨gg, 0, none⟩) (k + 1) cap, by go_num, by omega, by have := HM.out; omega, ?_, by simp [HAC.out], F6.out, by have := S5.out; have := A6.out.op; omega, P8, K08, ?_, BT8, hB8, OW8, XC⟩
       · rw [show ar - (k + 1) = d from by have := HD.out; omega]; exact H2.out
       · have := hB8.lt; omega
      case measure => simp [intOf]; omega
    · have hacc0 : acc ≠ [] := by intro e; subst e; simp at hacc; omega
      rw [if_neg hacc0] at hargs; have hb00 : decide (0 < k) = true := by simp; omega
      have HW := want_any g tb s.1 s.2 [44] _ hps hfs.ends; have hne1 : ∃ tt tl, s.1 = tt :: tl := hfs.ends.kinds; rcases bind_cases hargs with ⟨f, h1, hre⟩ | ⟨s5, h1, hargs⟩
      · have hre : rr = .error f := hre; subst hre; have hre : r = .error f := HREST.out; subst hre; rw [show want [44] (s.1, s.2) = .error f from by simpa [M.of] using h1] at HW; clear hargs hps hbt hbo hown hxs hfs hs1 hm hd hacc hsz hacc0 hk0 h1; go_wp2_with fail; refine HW.mono ?_; rintro e w5 ⟨rfl, hk5⟩; exact ⟨rfl, rfl, hks.trans hk5⟩
      have h1 := of_ok h1; have HW : Calls Tryz.prog 35 #[.pointer (some ⟨g, 0, none⟩), .string (mkS [44])] wr (POut g tb wr (.ok s5) (.tuple #[])) := by
       rw [← h1]; exact HW
      have AW := yh (want_adv h1).1; have HARGS := yh (show M.bind (pExpr m 0 s5) (fun x => pArgs m d (acc ++ [x.1]) x.2) = some rr from hargs); have HNR := yh hps.notRow; have HPS := yh hps; have HKS := yh hks; have HFS := yh hfs; have HBT := yh hbt; have HBO := yh hbo; have HOW := yh hown; have HXS := yh hxs; have HSZ := yh hsz; have HS1 := yh hs1; have HM := yh hm; have HD := yh hd; have HAC := yh hacc; clear hargs hps hbt hbo hown hxs hks hfs hs1 hm hd hacc hsz hacc0 hk0 h1 hne1; go_wp2_with fail; refine HW.mono ?_; rintro e w5 ⟨rfl, hp5, hk5⟩
      clear HW; have P5 := yh hp5; have BT5 := yh (HBT.out.keep hk5 (by simpa using HGN.out)); have BO5 := yh (HBO.out.keep hk5 (by simpa using HGM.out)); have OW5 := yh (own_keep HOW.out hk5 HNR.out); have XS5 := yh (HXS.out.keep hk5 HNR.out); have R5 := yh ((HR.out.keep HP.out HKS.out).keep HPS.out hk5); have K5 := yh (HKS.out.trans hk5); have F5 := yh (AW.out.fit HFS.out); have S5 := yh (show 1 ≤ s5.2 by have := AW.out.op; have := HS1.out; omega); have HSZ := yh (show w1.heap.size + 2 ≤ w5.heap.size by have := HSZ.out; have := hk5.size; omega)
      have HW5 := yh (Nat.le_refl w5.heap.size); clear hp5 hk5; go_wp2_with fail; refine wp_region_pend (fun w' => w'.cell? ⟨w1.heap.size + 1, 2, none⟩ = some sv) 7 (by kernel_rfl) (by kernel_rfl) (fun c a d v w h => by cases d <;> exact h) (by simpa using BO5.out.cell 2) ?_; simp only [num, List.length_cons, List.length_nil]; repeat
       (refine pend_stable (by decide +kernel) (fun K hK => ?_)
        rw [if_pos (by rfl)]; apply Exists.intro; refine ⟨fun w' hS' => ?_, hK _ ?_⟩
        · (try dsimp only at hS')
          go_simp; try with_reducible rfl
        clear hK K; simp only [Act.put, List.setIfInBounds_toArray, List.set])
      refine pend_active (by decide +kernel) (fun K hK => ?_); rw [if_pos (by rfl)]; go_wp2_with fail; rcases bind_cases HARGS.out with ⟨f, h1, rfl⟩ | ⟨⟨x, s6⟩, h1, h2⟩
      · have hre : r = .error f := HREST.out; subst hre; refine ((HA.out m (by have := HM.out; omega)).expr 0 0 s5 _ _ rfl (by omega) h1 F5.out (P5.out.keep ((Keep.refl none _).drew) (by simp) (by simp)) (R5.out.keep0 ((Keep.refl none _).drew))).mono ?_; rintro e w6 ⟨rfl, hk6⟩; exact ⟨rfl, rfl, K5.out.trans ((Keep.refl _ _).drew.trans hk6)⟩
      have HX := (HA.out m (by have := HM.out; omega)).expr 0 0 s5 _ _ rfl (by omega) h1 F5.out (P5.out.keep ((Keep.refl none _).drew) (by simp) (by simp)) (R5.out.keep0 ((Keep.refl none _).drew)); have A6 := yh (((advAll m).expr _ _ _ _ h1).1); have H2 := yh h2; clear h1 h2; refine HX.mono ?_; rintro e w6 ⟨v6, rfl, hv6, hp6, hk6⟩; clear HX; obtain ⟨ty6, y6, rfl⟩ := hv6.iface; have F6 := yh (A6.out.fit F5.out); have BT6 := yh (BT5.out.drew.keep hk6 (by simpa using HGN.out)); have BO6 := yh (BO5.out.drew.keep hk6 (by simpa using HGM.out)); have N5 := P5.out.notRow; have OW6 := yh (own_keep OW5.out ((Keep.refl (some g) _).drew.trans hk6) N5)
      have XS6 := yh (XS5.out.keep ((Keep.refl (some g) _).drew.trans hk6) N5); have V6 := yh hv6; have P6 := yh hp6; have K56 := yh ((Keep.refl (some g) w5).drew.trans hk6); clear hv6 hp6 hk6 N5; refine hK.out _ _ (BO6.out.cell 2) ?_; clear hK K; refine pend_active (by decide +kernel) (fun K hK => ?_); rw [if_pos (by rfl)]; go_simp; refine hK.out _ _ ((BO6.out.alloc _).cell 2) ?_; clear hK K; try simp only [Act.put, List.setIfInBounds_toArray, List.set]
      have NB := yh (Blk.new w6 [.iface ty6 y6] 55); refine pend_active (by decide +kernel) (fun K hK => ?_); refine step_append_lies _ (by rfl) _ _ _ (by rfl) w.heap.size 55 i0 _ 1 16 Tryz.underlying112 HI.out HZ0.out HZ1.out HZ2.out rfl (by omega) sv k vs (by rfl) (own_keep OW6.out ((Keep.refl none _).alloc _) (NotRow.none _ _)) ⟨w6.heap.size, 0, none⟩ 1 1 [.iface ty6 y6] (by rfl) (by rfl) (World.news_of_block NB.out) (by simp [Value.oneCell'])
       (by omega) (by unfold maxLen; omega) (by omega) (by have h1 := SW.out; have h2 := HSZ.out; have h3 := K56.out.size; have h4 := HW5.out; simp; omega) (w6.heap.size + 1) (by simp) ?_
      intro gg cap w7 hown7 hgrow7 hat7 hlt7; have BO7 := yh ((BO6.out.alloc (.cells #[.iface ty6 y6] 55)).grown hgrow7 (own_ne (own_keep OW6.out ((Keep.refl none _).alloc _) (NotRow.none _ _)) (BO6.out.alloc (.cells #[.iface ty6 y6] 55)) (by decide))); have BT7 := yh ((BT6.out.alloc (.cells #[.iface ty6 y6] 55)).grown hgrow7 (own_ne (own_keep OW6.out ((Keep.refl none _).alloc _) (NotRow.none _ _)) (BT6.out.alloc (.cells #[.iface ty6 y6] 55)) (by decide))); have GR7 := yh hgrow7; have OW7 := yh hown7; have AT7 := yh hat7; have LT7 := yh hlt7; clear hown7 hgrow7 hat7 hlt7
      refine hK.out _ _ (BO7.out.cell 2) ?_; clear hK K; try simp only [Act.put, List.setIfInBounds_toArray, List.set]
      repeat
       (refine pend_stable (by decide +kernel) (fun K hK => ?_)
        rw [if_pos (by rfl)]; apply Exists.intro; refine ⟨fun w' hS' => ?_, hK _ ?_⟩
        · (try dsimp only at hS')
          go_simp; try with_reducible rfl
        clear hK K; simp only [Act.put, List.setIfInBounds_toArray, List.set])
      have hf7 := BO7.out.frozen; have hc7 := BO7.out.cell; refine pend_last (by decide +kernel) (by decide +kernel) (by decide +kernel) (fun K hK => ?_); rw [if_pos (by rfl)]; go_simp; refine hK.out _ _ ?_; clear hK K hf7 hc7; try simp only [Act.put, List.setIfInBounds_toArray, List.set]
      have hB8 := BO7.out.set 2 (.slice (some ⟨gg, 0, none⟩) (k + 1) cap); have K78 : Keep (some (w1.heap.size + 1)) w7 (w7.setCell ⟨w1.heap.size + 1, 2, none⟩ (.slice (some ⟨gg, 0, none⟩) (k + 1) cap)) := (Keep.refl _ _).set _ _ (.inl rfl); have OWA := own_keep OW6.out ((Keep.refl none _).alloc (.cells #[.iface ty6 y6] 55)) (NotRow.none _ _); have P7 := (P6.out.keep ((Keep.refl none _).alloc (.cells #[.iface ty6 y6] 55)) (by simp) (by simp)).grown OWA GR7.out; have P8 := P7.keep K78 (by simpa using P7.ne BO7.out (by decide)) (by simpa using P7.tb_ne BO7.out (by decide)); have K08 : Keep (some g) w (w7.setCell ⟨w1.heap.size + 1, 2, none⟩ (.slice (some ⟨gg, 0, none⟩) (k + 1) cap)) :=
       (((K5.out.trans K56.out).alloc _).grown GR7.out (fun q hq => .inr (own_base OWA q hq))).set _ _ (.inr (by have := SW.out; simp; omega))
      have OW8 := own_keep OW7.out K78 (NotRow.blk BO7.out (by decide)); have XA : ExsV w6 (fun b => w.heap.size ≤ b ∧ some b ≠ some gg ∧ some b ≠ sv.ownBlock) (acc ++ [x]) (vs ++ [.iface ty6 y6]) := by
       refine ExsV.snoc (V6.out.mono ?_) (XS6.out.mono ?_)
       · intro b hb hb2; have hb2 : w5.heap.size ≤ b := hb2; have q1 := K5.out.size; refine ⟨by omega, ?_, ?_⟩
         · rcases AT7.out with e | e
           · have := own_lt OW5.out gg e; intro e2; simp at e2; omega
           · intro e2; simp at e2; omega
         · intro e2; have := own_lt OW5.out b e2.symm; omega
       · intro b hb hb2; refine ⟨hb2.1, ?_, hb2.2⟩; rcases AT7.out with e | e
         · rw [← e]; exact hb2.2
         · intro e2; simp at e2; omega
      have XB : ExsV w7 (fun b => w.heap.size ≤ b ∧ some b ≠ some gg ∧ some b ≠ sv.ownBlock) (acc ++ [x]) (vs ++ [.iface ty6 y6]) :=
       (XA.keep ((Keep.refl none _).alloc (.cells #[.iface ty6 y6] 55)) (NotRow.none _ _)).far (fun b cs fr hb hb2 => GR7.out.block b (lt_of_block hb2) hb.2.2)
      have XC := (XB.keep K78 (NotRow.blk BO7.out (by decide))).mono (ok' := fun b => w.heap.size ≤ b ∧ some b ≠ (Value.slice (some ⟨gg, 0, none⟩) (k + 1) cap).ownBlock) (fun b _ hb => ⟨hb.1, hb.2.1⟩); have BT8 := BT7.out.far ⟨w1.heap.size + 1, 2, none⟩ (.slice (some ⟨gg, 0, none⟩) (k + 1) cap) (by simp); have HX8 := yh (And.intro hB8 (And.intro P8 (And.intro K08 (And.intro OW8 (And.intro XC BT8))))); clear hB8 K78 OWA P7 P8 K08 OW8 XA XB XC BT8; go_wp2_with fail; go_roundw; case rel =>
       obtain ⟨hB8, P8, K08, OW8, XC, BT8⟩ := HX8.out; refine ⟨k + 1, m, acc ++ [x], s6, vs ++ [.iface ty6 y6], .slice (some ⟨gg, 0, none⟩) (k + 1) cap, by go_num, by omega, by have := HM.out; omega, ?_, by simp [HAC.out], F6.out, by have := S5.out; have := A6.out.op; omega, P8, K08, ?_, BT8, hB8, OW8, XC⟩
       · rw [show ar - (k + 1) = d from by have := HD.out; omega]; exact H2.out
       · have := hB8.lt; omega
      case measure => simp [intOf]; omega
  · have hka : k = ar := by omega
    subst hka; have hb1 : ¬ ((k : Int) < (k : Int)) := by omega
    rw [Nat.sub_self] at hargs; cases m with
    | zero => cases hargs
    | succ m =>
    rw [pArgs] at hargs; cases hargs; have HL := leave_any g tb s.1 s.2 [41] _ hps hfs.ends hfs.op hs1; have hrest : (M.bind (M.of (leave [41] s)) fun s2 => some (.ok (mkCall t.pl t.text acc, s2))) = some r := HREST.out; rcases bind_cases hrest with ⟨f, h1, rfl⟩ | ⟨s2, h1, h2⟩
    · rw [show leave [41] (s.1, s.2) = .error f from by simpa [M.of] using h1] at HL; clear hbt hbo hown hxs hfs hs1 hm hacc hsz hps hrest h1; go_wp2_with fail; refine HL.mono ?_; rintro e w5 ⟨rfl, hk5⟩; exact ⟨rfl, rfl, hks.trans hk5⟩
    have h1 := of_ok h1; have HL : Calls Tryz.prog 92 #[.pointer (some ⟨g, 0, none⟩), .string (mkS [41])] wr (POut g tb wr (.ok s2) (.tuple #[])) := by
     rw [← h1]; exact HL
    cases h2; have HNR := yh hps.notRow; have HKS := yh hks; have HBO := yh hbo; have HOW := yh hown; have HXS := yh hxs; have HAC := yh hacc; clear hbt hbo hown hxs hfs hs1 hm hacc hsz hps hks h1 hrest; go_wp2_with fail; refine HL.mono ?_; rintro e w5 ⟨rfl, hp5, hk5⟩; clear HL; have BO5 := yh (HBO.out.keep hk5 (by simpa using HGM.out)); have hc5 := BO5.out.cell; have OW5 := yh (own_keep HOW.out hk5 HNR.out); have XS5 := yh (HXS.out.keep hk5 HNR.out); have P5 := yh hp5; have K5 := yh (HKS.out.trans hk5); clear hp5 hk5; obtain ⟨gg, cap, rfl, hgb, _⟩ := OW5.out.form (by omega)
    go_wp2_with fail; go_ret; refine ⟨_, rfl, ?_, P5.out, K5.out⟩; have hrow := ExRow.of_own OW5.out; have hx5 := XS5.out; have hl5 := OW5.out.1; rcases HAR3.out with rfl | rfl | rfl
    · match acc, vs, HAC.out, hl5, hx5 with
      | [a1], [v1], _, _, hx => exact ⟨gg, cap, v1, ⟨hgb, hrow.1⟩, hx.1.mono (fun _ _ h => h.1), hrow.2, rfl⟩
    · match acc, vs, HAC.out, hl5, hx5 with
      | [a1, a2], [v1, v2], _, _, hx => exact ⟨gg, cap, v1, v2, ⟨hgb, hrow.1⟩, hx.1.mono (fun _ _ h => h.1), hx.2.1.mono (fun _ _ h => h.1), hrow.2, rfl⟩
    · match acc, vs, HAC.out, hl5, hx5 with
      | [a1, a2, a3], [v1, v2, v3], _, _, hx => exact ⟨gg, cap, v1, v2, v3, ⟨hgb, hrow.1⟩, hx.1.mono (fun _ _ h => h.1), hx.2.1.mono (fun _ _ h => h.1), hx.2.2.1.mono (fun _ _ h => h.1), hrow.2, rfl⟩
end Go.Proofs.YtmfabihndpidnaaGreatDoor
