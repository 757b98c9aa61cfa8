/-
  The parser's four readers, together. The parser's program: definitions, the main expression, the end.
-/
import Derived.Test.YtmfabihndpidnaaGreatDoorK05
import Derived.Test.YtmfabihndpidnaaGreatDoorK06
import Derived.Test.YtmfabihndpidnaaGreatDoorK07
namespace Go.Proofs.YtmfabihndpidnaaGreatDoor
open Go.RowKit
set_option linter.unusedVariables false
theorem reads (g tb : Nat) : ∀ n, Reads g tb n := by
 intro n; induction n using Nat.strongRecOn with
 | ind n ih =>
  cases n with
  | zero =>
   refine ⟨?_, ?_, ?_, ?_⟩
   · intro lv l st r w _ _ h; cases h
   · intro st r w h; cases h
   · intro st r w h; cases h
   · intro t ts o r w h; cases h
  | succ n =>
   have hA : ∀ m, m ≤ n → Reads g tb m := fun m hm => ih m (by omega)
   refine ⟨?_, ?_, ?_, ?_⟩
   · intro lv l st r w hl hlv h hf hp hr; subst hl; exact expr_walk g tb n hA lv st r w hlv h hf hp hr
   · intro st r w h hf hp hr; exact post_walk g tb n hA st r w h hf hp hr
   · intro st r w h hf hp hr; exact atom_walk g tb n hA st r w h hf hp hr
   · intro t ts o r w h hk ha hf hp hr; exact call_walk g tb n hA t ts o r w h hk ha hf hp hr
end Go.Proofs.YtmfabihndpidnaaGreatDoor
namespace Go.Proofs.YtmfabihndpidnaaGreatDoor
set_option maxHeartbeats 4000000
open Go.RowKit
set_option maxRecDepth 100000
set_option linter.unusedVariables false
set_option linter.unusedSimpArgs false
attribute [local go_sem ↓] run_field96_0 run_field96_1 run_field96_2
def defCells : List Def → List Value → List Value
 | d :: ds, v :: vs => .int .i64 d.p :: .string (mkS d.name) :: v :: defCells ds vs
 | _, _ => []
theorem defCells_snoc : ∀ (ds : List Def) (vs : List Value) (d : Def) (v : Value), ds.length = vs.length →
 defCells (ds ++ [d]) (vs ++ [v]) = defCells ds vs ++ [.int .i64 d.p, .string (mkS d.name), v]
 | [], [], _, _, _ => rfl
 | _ :: ds, _ :: vs, d, v, h => by simp [defCells, defCells_snoc ds vs d v (by simpa using h)]
 | [], _ :: _, _, _, h => by simp at h
 | _ :: _, [], _, _, h => by simp at h
def ProgV (w : World) (base : Nat) (b : Nat) (p : Prog) : Prop :=
 ∃ sv mv vs, Blk w b [sv, mv] 57 ∧ w.ownsRow base 59 3 sv p.defs.length (defCells p.defs vs) ∧ ExsV w (fun k => base ≤ k) (p.defs.map Def.body) vs ∧ ExV w (fun k => base ≤ k) p.main mv
def GOut (g : Nat) (w : World) (r : Except Flt Prog) (e : Ending) (w' : World) : Prop :=
 match r with
 | .ok p => ∃ b, e = .returned (.pointer (some ⟨b, 0, none⟩)) ∧ ProgV w' w.heap.size b p ∧ w.heap.size ≤ b ∧ Keep (some g) w w'
 | .error f => e = .panicked (flt f.code f.pl) ∧ Keep (some g) w w'
theorem info59 : (Tryz.prog.info? 59).map (fun i => (i.zero, i.size, i.bytes)) = some (some (.agg #[.int .i64 0, .string ⟨#[]⟩, .nilIface]), 3, 40) := by kernel_rfl
theorem ExsV.len {w : World} {ok : Nat → Prop} : ∀ {xs : List Ex} {vs : List Value}, ExsV w ok xs vs → xs.length = vs.length
 | [], [], _ => rfl
 | _ :: _, _ :: _, h => by simp [ExsV.len h.2]
 | [], _ :: _, h => h.elim
 | _ :: _, [], h => h.elim
theorem ParIs.grown' {w w' : World} {g tb : Nat} {ts : List Tok} {op : Nat} {base n size : Nat} {e : TypeId} {v : Value} {xs : List Value} (h : ParIs w g tb ts op) (ho : w.ownsRow base e size v n xs) (h1 : 44 ≠ e) (h2 : 96 ≠ e) (hg : w.grownBy w' v.ownBlock) : ParIs w' g tb ts op := by
 have hk : Keep v.ownBlock w w' := (Keep.refl _ _).grown hg (fun k e => .inl e.symm); have hp := h; obtain ⟨k, c, h1', ⟨cs', fr, h2', _⟩, _⟩ := hp; exact h.keep hk (own_ne ho h1' h1) (own_ne_row ho h2' h2)
theorem NotRow.own {w : World} {base n size : Nat} {e t : TypeId} {v : Value} {xs : List Value} (ho : w.ownsRow base e size v n xs) (hne : t ≠ e) : NotRow t v.ownBlock w := fun b cs fr hb => own_ne_row ho hb hne
theorem Fit.two {t : Tok} {ts : List Tok} {o : Nat} (h : Fit (t :: ts, o)) (hk : t.kind ≠ 0) : ∃ t2 ts2, ts = t2 :: ts2 ∧ Fit (t2 :: ts2, o) := by
 obtain ⟨t2, ts2, rfl⟩ := (h.ends.tail hk).kinds; exact ⟨t2, ts2, rfl, (Adv.one (o := o) hk).fit h⟩
theorem pDefs_stop {n : Nat} {acc : List Def} {t : Tok} {ts : List Tok} {o : Nat} (h : ¬ (t.kind = 1 ∧ t.text = [108, 101, 116])) : pDefs (n + 1) acc (t :: ts, o) = some (.ok (acc, (t :: ts, o))) := by
 cases ts with
 | nil => simp [pDefs]
 | cons t2 ts => rw [pDefs]; simp [h]
theorem program_walk (g tb n : Nat) (st : PS) (r : Except Flt Prog) (w : World) (h : program n st = some r) (hf : Fit st) (hsmall : st.1.length ≤ 100000) (hp : ParIs w g tb st.1 st.2) (hr : Ranks w) :
 Calls Tryz.prog 14 #[.pointer (some ⟨g, 0, none⟩)] w (GOut g w r) := by
 rw [program] at h; have HP := yh hp; have HR := yh hr; have HF := yh hf; have HSM := yh hsmall; have HG := yh (show g < w.heap.size from by have := hp; obtain ⟨k, c, hB, _⟩ := this; exact hB.lt); clear hp hr hf hsmall; obtain ⟨i0, hi, hz0, hz1, hz2⟩ := info_parts info59; have HI := yh hi; have HZ0 := yh hz0; have HZ1 := yh hz1; have HZ2 := yh hz2; clear hi hz0 hz1 hz2; obtain ⟨rr, hrr, hrest⟩ : ∃ rr, pDefs n [] st = some rr ∧ (match rr with | .error f => r = .error f | .ok d => (M.bind (pExpr n 0 d.2) fun x => match x.2 with | ([], _) => none | (t :: _, _) => if t.kind ≠ 0 then some (.error ⟨60, t.pl⟩) else some (.ok ⟨d.1, x.1⟩)) = some r) := by
  rcases bind_cases h with ⟨f, h1, rfl⟩ | ⟨x, h1, h2⟩
  · exact ⟨_, h1, rfl⟩
  · exact ⟨_, h1, h2⟩
 have HRR := yh hrr; have HREST := yh hrest; clear h hrr hrest; go_enter Tryz.func14, Tryz.ntmps14; go_wp2_with fail; have KB : Keep none w (w.alloc (.cells #[.slice none 0 0, .nilIface] 57)) := (Keep.refl _ _).alloc _; have BB := yh (show Blk (w.alloc (.cells #[.slice none 0 0, .nilIface] 57)) w.heap.size [.slice none 0 0, .nilIface] 57 from Blk.new _ _ _); have PB := yh (HP.out.keep KB (by simp) (by simp)); have KB := yh KB; have HGN := yh (show w.heap.size ≠ g from by have := HG.out; omega); go_loopw [] (fun wr => ∃ (m : Nat) (acc : List Def) (s : PS) (vs : List Value) (sv : Value), m ≤ n ∧ pDefs m acc s = some rr ∧ Fit s ∧ ParIs wr g tb s.1 s.2 ∧ Keep (some g) w wr ∧ w.heap.size + 1 ≤ wr.heap.size ∧ acc.length + s.1.length ≤ 100000 ∧
  Blk wr w.heap.size [sv, .nilIface] 57 ∧ wr.ownsRow w.heap.size 59 3 sv acc.length (defCells acc vs) ∧ ExsV wr (fun b => w.heap.size ≤ b) (acc.map Def.body) vs)
  (fun wr => tokLen wr g)
 case atStart =>
  exact ⟨n, [], st, [], .slice none 0 0, Nat.le_refl n, HRR.out, HF.out, PB.out, KB.out.of_none, by have := BB.out.lt; omega, by simpa using HSM.out, BB.out, ⟨rfl, .inl ⟨rfl, rfl⟩⟩, trivial⟩
 case round =>
  obtain ⟨m, acc, ⟨ts, o⟩, vs, sv, hm, hl, hfs, hps, hks, hsz, hsm, hbo, hown, hxs⟩ := hrel; cases ts with
  | nil => exact hfs.ends.elim
  | cons t ts =>
  cases m with
  | zero => cases hl
  | succ m =>
  have hps : ParIs wr g tb (t :: ts) o := hps; have R0 := yh (HR.out.keep HP.out hks); have FS := yh hfs; have PS0 := yh hps; have KS := yh hks; have HM := yh hm; have SZ := yh hsz; have SM := yh hsm; have BO := yh hbo; have OW := yh hown; have XS := yh hxs; clear hfs hps hks hm hsz hsm hbo hown hxs; by_cases hk1 : t.kind = 1
  · have b1 : ((t.kind : Int) == 1) = true := by simp [hk1]
    by_cases htx : t.text = [108, 101, 116]
    · have bt : (t.text == [108, 101, 116]) = true := by simp [htx]
      obtain ⟨t2, ts2, rfl, hf2⟩ := FS.out.two (show t.kind ≠ 0 by omega); rw [pDefs, if_pos ⟨hk1, htx⟩] at hl; have F2 := yh hf2; clear hk1 htx hf2; go_wp2_with fail; refine (peek_any g tb t (t2 :: ts2) o _ PS0.out).mono ?_; rintro e w2 ⟨rfl, hk2⟩; unfold tokV; go_wp2_with fail; refine (peek_any g tb t (t2 :: ts2) o _ (PS0.out.keep hk2 (by simp) (by simp))).mono ?_; rintro e w2b ⟨rfl, hk2b⟩; unfold tokV; replace hk2 := hk2.trans hk2b; clear hk2b; go_wp2_with fail; refine (take_any g tb t (t2 :: ts2) o _ (PS0.out.keep hk2 (by simp) (by simp)) (by simp)).mono ?_; rintro e w3 ⟨rfl, hp3, hk3⟩
      go_wp2_with fail; refine (peek_any g tb t2 ts2 o _ hp3).mono ?_; rintro e w3b ⟨rfl, hk3b⟩; unfold tokV; have K3 : Keep (some g) wr w3b := (hk2.of_none.trans hk3).trans hk3b.of_none; have P3 : ParIs w3b g tb (t2 :: ts2) o := hp3.keep hk3b (by simp) (by simp); clear hk2 hk3 hk3b hp3; have HG3 : g < w3b.heap.size := by have := P3; obtain ⟨k, c, hB, _⟩ := this; exact hB.lt
      by_cases hk1 : t2.kind = 1
      · have c1 : ((t2.kind : Int) != 1) = false := by simp [hk1]
        have KA : Keep none w3b (w3b.alloc (.cells #[.int .i64 t2.kind, .int .i64 t2.pl, .string (mkS t2.text)] 96)) := (Keep.refl _ _).alloc _; have BT := yh (show Blk (w3b.alloc (.cells #[.int .i64 t2.kind, .int .i64 t2.pl, .string (mkS t2.text)] 96)) w3b.heap.size [.int .i64 t2.kind, .int .i64 t2.pl, .string (mkS t2.text)] 96 from Blk.new _ _ _); have N0 := PS0.out.notRow; have P4 := yh (P3.keep KA (by simp) (by simp)); have K4 := yh (K3.trans KA.of_none); have R4 := yh (R0.out.keep PS0.out K4.out); have BO4 := yh (BO.out.keep K4.out (by simpa using HGN.out)); have N59 : NotRow 59 (some g) wr := by obtain ⟨k, c, hB, _⟩ := PS0.out; exact NotRow.blk hB (by decide)
        have OW4 := yh (own_keep OW.out K4.out N59); have XS4 := yh (XS.out.keep K4.out N0); have GT := yh (show w3b.heap.size ≠ g by omega); have GTB := yh (show w3b.heap.size ≠ w.heap.size by have := SZ.out; have := K3.size; omega); have SZT := yh (show w.heap.size + 1 ≤ w3b.heap.size by have := SZ.out; have := K3.size; omega); clear K3 P3 KA N0 N59 HG3; by_cases har : arity t2.text = 0
        · have ca : (arity t2.text != 0) = false := by simp [har]
          rw [if_neg (by simp [hk1, har])] at hl; have F2K := yh (show t2.kind ≠ 0 by omega); clear hk1 har; go_wp2_with fail; refine (arity_any t2.text _).mono ?_; rintro e wx ⟨rfl, rfl⟩; go_wp2_with fail; refine (take_any g tb t2 ts2 o _ P4.out (F2.out.ends.tail F2K.out).ne).mono ?_; rintro e w5 ⟨rfl, hp5, hk5⟩; have BT5 := yh (BT.out.keep hk5 (by simpa using GT.out)); have P5 := yh hp5; have K5 := yh (K4.out.trans hk5); clear hp5 hk5; go_wp2_with fail; have F5 := yh ((Adv.one (o := o) F2K.out).fit F2.out); have HW := want_any g tb ts2 o [61] _ P5.out F5.out.ends; rcases bind_cases hl with ⟨f, h1, hre⟩ | ⟨s5, h1, hl⟩
          · have hre : rr = .error f := hre; subst hre; have hre : r = .error f := HREST.out; subst hre; rw [show want [61] (ts2, o) = .error f from by simpa [M.of] using h1] at HW; refine HW.mono ?_; rintro e w6 ⟨rfl, hk6⟩; exact ⟨rfl, rfl, KS.out.trans (K5.out.trans hk6)⟩
          have h1 := of_ok h1; rw [h1] at HW; have AW := yh (want_adv h1); clear h1; refine HW.mono ?_; rintro e w6 ⟨rfl, hp6, hk6⟩; clear HW; have BT6 := yh (BT5.out.keep hk6 (by simpa using GT.out)); have P6 := yh hp6; have K6 := yh (K5.out.trans hk6); have F6 := yh (AW.out.1.fit F5.out); clear hp6 hk6; have R6 := yh (R0.out.keep PS0.out K6.out); have BO6 := yh (BO.out.keep K6.out (by simpa using HGN.out)); have OW6 := yh (own_keep OW.out K6.out (by obtain ⟨k, c, hB, _⟩ := PS0.out; exact NotRow.blk hB (by decide))); have XS6 := yh (XS.out.keep K6.out PS0.out.notRow)
          go_wp2_with fail; refine wp_region_pend (fun w' => w'.cell? ⟨w.heap.size, 0, none⟩ = some sv ∧ w'.cell? ⟨w3b.heap.size, 1, none⟩ = some (.int .i64 t2.pl) ∧ w'.cell? ⟨w3b.heap.size, 2, none⟩ = some (.string (mkS t2.text))) 16 (by kernel_rfl) (by kernel_rfl) (fun c a d v w h => by cases d <;> exact h) (by exact ⟨BO6.out.cell 0, BT6.out.cell 1, BT6.out.cell 2⟩) ?_; simp only [num, List.length_cons, List.length_nil]; repeat
           (refine pend_stable (by decide +kernel) (fun K hK => ?_)
            rw [if_pos (by rfl)]; apply Exists.intro; refine ⟨fun w' hS' => ?_, hK _ ?_⟩
            · (try dsimp only at hS')
              go_simp; try with_reducible rfl
            clear hK K; simp only [Act.put, List.setIfInBounds_toArray, List.set])
          refine pend_active (by decide +kernel) (fun K hK => ?_); rw [if_pos (by rfl)]; go_wp2_with fail; rcases bind_cases hl with ⟨f, h1, hre⟩ | ⟨⟨x, s7⟩, h1, hl⟩
          · have hre : rr = .error f := hre; subst hre; have hre : r = .error f := HREST.out; subst hre; refine ((reads g tb m).expr 0 0 s5 _ _ rfl (by omega) h1 F6.out (P6.out.keep ((Keep.refl none _).drew) (by simp) (by simp)) (R6.out.keep0 ((Keep.refl none _).drew))).mono ?_; rintro e w7 ⟨rfl, hk7⟩; exact ⟨rfl, rfl, KS.out.trans (K6.out.trans ((Keep.refl _ _).drew.trans hk7))⟩
          have HX := (reads g tb m).expr 0 0 s5 _ _ rfl (by omega) h1 F6.out (P6.out.keep ((Keep.refl none _).drew) (by simp) (by simp)) (R6.out.keep0 ((Keep.refl none _).drew)); have A7 := yh ((advAll m).expr _ _ _ _ h1); clear h1; refine HX.mono ?_; rintro e w7 ⟨v7, rfl, hv7, hp7, hk7⟩; clear HX; obtain ⟨ty7, y7, rfl⟩ := hv7.iface; have F7 := yh (A7.out.1.fit F6.out); have k7 := (Keep.refl (some g) w6).drew.trans hk7; have BT7 := yh (BT6.out.keep k7 (by simpa using GT.out)); have BO7 := yh (BO6.out.keep k7 (by simpa using HGN.out)); have OW7 := yh (own_keep OW6.out k7 (by obtain ⟨k, c, hB, _⟩ := P6.out; exact NotRow.blk hB (by decide)))
          have XS7 := yh (XS6.out.keep k7 P6.out.notRow); have V7 := yh (hv7.since (show w.heap.size ≤ w6.drew.heap.size from (KS.out.trans K6.out).size)); have P7 := yh hp7; have K7 := yh (K6.out.trans k7); clear hv7 hp7 hk7 k7; refine hK.out _ _ ⟨BO7.out.cell 0, BT7.out.cell 1, BT7.out.cell 2⟩ ?_; clear hK K; repeat
           (refine pend_stable (by decide +kernel) (fun K hK => ?_)
            rw [if_pos (by rfl)]; apply Exists.intro; refine ⟨fun w' hS' => ?_, hK _ ?_⟩
            · (try dsimp only at hS')
              go_simp; try with_reducible rfl
            clear hK K; simp only [Act.put, List.setIfInBounds_toArray, List.set])
          refine pend_active (by decide +kernel) (fun K hK => ?_); rw [if_pos (by rfl)]; go_simp; refine hK.out _ _ ⟨(BO7.out.alloc _).cell 0, (BT7.out.alloc _).cell 1, (BT7.out.alloc _).cell 2⟩ ?_; clear hK K; try simp only [Act.put, List.setIfInBounds_toArray, List.set]
          have NB := yh (Blk.new w7 [.int .i64 t2.pl, .string (mkS t2.text), .iface ty7 y7] 59); have OWA := yh (own_keep OW7.out ((Keep.refl none _).alloc (.cells #[.int .i64 t2.pl, .string (mkS t2.text), .iface ty7 y7] 59)) (NotRow.none _ _)); refine pend_active (by decide +kernel) (fun K hK => ?_); have LB := SM.out; refine step_append_lies _ (by rfl) _ _ _ (by rfl) w.heap.size 59 i0 _ 3 40 Tryz.underlying53 HI.out HZ0.out HZ1.out HZ2.out rfl (by omega) sv acc.length (defCells acc vs) (by rfl) OWA.out ⟨w7.heap.size, 0, none⟩ 1 1 [.int .i64 t2.pl, .string (mkS t2.text), .iface ty7 y7] (by rfl) (by rfl) (World.news_of_block NB.out) (by simp [Value.oneCell'])
           (by omega) (by simp at LB; unfold maxLen; omega) (by simp at LB; omega) (by have h1 := (KS.out.trans K7.out).size; simp; omega) (w7.heap.size + 1) (by simp) ?_
          intro gg cap w8 hown8 hgrow8 hat8 hlt8; clear LB; have BO8 := yh ((BO7.out.alloc (.cells #[.int .i64 t2.pl, .string (mkS t2.text), .iface ty7 y7] 59)).grown hgrow8 (own_ne OWA.out (BO7.out.alloc _) (by decide))); have BT8 := yh ((BT7.out.alloc (.cells #[.int .i64 t2.pl, .string (mkS t2.text), .iface ty7 y7] 59)).grown hgrow8 (own_ne OWA.out (BT7.out.alloc _) (by decide))); have GR8 := yh hgrow8; have OW8 := yh hown8; clear hown8 hgrow8 hat8 hlt8; refine hK.out _ _ ⟨BO8.out.cell 0, BT8.out.cell 1, BT8.out.cell 2⟩ ?_; clear hK K; try simp only [Act.put, List.setIfInBounds_toArray, List.set]
          refine pend_active (by decide +kernel) (fun K hK => ?_); rw [if_pos (by rfl)]; go_simp; refine hK.out _ _ ⟨BO8.out.cell 0, BT8.out.cell 1, BT8.out.cell 2⟩ ?_; clear hK K; try simp only [Act.put, List.setIfInBounds_toArray, List.set]
          repeat
           (refine pend_stable (by decide +kernel) (fun K hK => ?_)
            rw [if_pos (by rfl)]; apply Exists.intro; refine ⟨fun w' hS' => ?_, hK _ ?_⟩
            · (try dsimp only at hS')
              go_simp; try with_reducible rfl
            clear hK K; simp only [Act.put, List.setIfInBounds_toArray, List.set])
          have hf8 := BO8.out.frozen; have hc8 := BO8.out.cell; refine pend_last (by decide +kernel) (by decide +kernel) (by decide +kernel) (fun K hK => ?_); rw [if_pos (by rfl)]; go_simp; refine hK.out _ _ ?_; clear hK K hf8 hc8; try simp only [Act.put, List.setIfInBounds_toArray, List.set]
          -- what stands in memory behind the store
          have K89 : Keep (some w.heap.size) w8 (w8.setCell ⟨w.heap.size, 0, none⟩ (.slice (some ⟨gg, 0, none⟩) (acc.length + 1) cap)) := (Keep.refl _ _).set _ _ (.inl rfl); have PA := P7.out.keep ((Keep.refl none _).alloc (.cells #[.int .i64 t2.pl, .string (mkS t2.text), .iface ty7 y7] 59)) (by simp) (by simp); have P8 := PA.grown' OWA.out (by decide) (by decide) GR8.out; have P9 := yh (P8.keep K89 (by simpa using P8.ne BO8.out (by decide)) (by simpa using P8.tb_ne BO8.out (by decide))); have KR8 : Keep sv.ownBlock (w7.alloc (.cells #[.int .i64 t2.pl, .string (mkS t2.text), .iface ty7 y7] 59)) w8 := (Keep.refl _ _).grown GR8.out (fun k e => .inl e.symm)
          have XA := (ExsV.snoc V7.out XS7.out).keep ((Keep.refl none _).alloc (.cells #[.int .i64 t2.pl, .string (mkS t2.text), .iface ty7 y7] 59)) (NotRow.none _ _); have X8 := XA.keep KR8 (NotRow.own OWA.out (by decide)); have X9 := yh (X8.keep K89 (NotRow.blk BO8.out (by decide))); have OW9 := yh (own_keep OW8.out K89 (NotRow.blk BO8.out (by decide))); have BO9 := yh (BO8.out.set 0 (.slice (some ⟨gg, 0, none⟩) (acc.length + 1) cap)); have K9 := yh ((((KS.out.trans K7.out).alloc (.cells #[.int .i64 t2.pl, .string (mkS t2.text), .iface ty7 y7] 59)).grown GR8.out (fun q hq => .inr (own_base OWA.out q hq))).set ⟨w.heap.size, 0, none⟩ (.slice (some ⟨gg, 0, none⟩) (acc.length + 1) cap) (.inr (by simp)))
          have R9 := yh (HR.out.keep HP.out K9.out); clear K89 PA P8 KR8 XA X8; go_wp2_with fail; have HW2 := want_any g tb s7.1 s7.2 [59] _ P9.out F7.out.ends; rcases bind_cases hl with ⟨f, h1, hre⟩ | ⟨s8, h1, hl⟩
          · have hre : rr = .error f := hre; subst hre; have hre : r = .error f := HREST.out; subst hre; rw [show want [59] (s7.1, s7.2) = .error f from by simpa [M.of] using h1] at HW2; refine HW2.mono ?_; rintro e w10 ⟨rfl, hk10⟩; exact ⟨rfl, rfl, K9.out.trans hk10⟩
          have h1 := of_ok h1; have AW2 := yh (want_adv h1); rw [show want [59] (s7.1, s7.2) = .ok s8 from h1] at HW2; clear h1; have HL := yh hl; clear hl; refine HW2.mono ?_; rintro e w10 ⟨rfl, hp10, hk10⟩; clear HW2; have BO10 := yh (BO9.out.keep hk10 (by simpa using HGN.out)); have OW10 := yh (own_keep OW9.out hk10 (by obtain ⟨k, c, hB, _⟩ := P9.out; exact NotRow.blk hB (by decide))); have XS10 := yh (X9.out.keep hk10 P9.out.notRow); have P10 := yh hp10; have K10 := yh (K9.out.trans hk10); clear hp10 hk10; go_wp2_with fail; go_roundw; case rel =>
           refine ⟨m, acc ++ [⟨t2.pl, t2.text, x⟩], s8, vs ++ [.iface ty7 y7], .slice (some ⟨gg, 0, none⟩) (acc.length + 1) cap, by have := HM.out; omega, HL.out, AW2.out.1.fit F7.out, P10.out, K10.out, by have := BO10.out.lt; omega, ?_, BO10.out, ?_, by simpa using XS10.out⟩
           · have e1 := SM.out; have e2 := AW.out.1.len; have e3 := A7.out.1.len; have e4 := AW2.out.1.len; simp at e1 e2 e3 e4 ⊢; omega
           · have := OW10.out; rw [defCells_snoc acc vs _ _ (by simpa using XS.out.len)]; simpa using this
          case measure =>
           rw [PS0.out.len, P10.out.len]; have e2 := AW.out.1.len; have e3 := A7.out.1.len; have e4 := AW2.out.1.len; simp at e2 e3 e4 ⊢; omega
        · have ca : (arity t2.text != 0) = true := by simp [har]
          rw [if_pos (by simp [har])] at hl; cases hl; have hre := HREST.out; simp only at hre; subst hre; clear hk1 har; go_wp2_with fail; refine (arity_any t2.text _).mono ?_; rintro e wx ⟨rfl, rfl⟩; go_wp2_with fail; refine (fail_any g tb t2 ts2 o 60 _ P4.out).mono ?_; rintro e w5 ⟨rfl, hk5⟩; exact ⟨rfl, rfl, KS.out.trans (K4.out.trans hk5.of_none)⟩
      · have c1 : ((t2.kind : Int) != 1) = true := by simp; omega
        have KA : Keep none w3b (w3b.alloc (.cells #[.int .i64 t2.kind, .int .i64 t2.pl, .string (mkS t2.text)] 96)) := (Keep.refl _ _).alloc _; have BT := yh (show Blk (w3b.alloc (.cells #[.int .i64 t2.kind, .int .i64 t2.pl, .string (mkS t2.text)] 96)) w3b.heap.size [.int .i64 t2.kind, .int .i64 t2.pl, .string (mkS t2.text)] 96 from Blk.new _ _ _); have N0 := PS0.out.notRow; have P4 := yh (P3.keep KA (by simp) (by simp)); have K4 := yh (K3.trans KA.of_none); have R4 := yh (R0.out.keep PS0.out K4.out); have BO4 := yh (BO.out.keep K4.out (by simpa using HGN.out)); have N59 : NotRow 59 (some g) wr := by obtain ⟨k, c, hB, _⟩ := PS0.out; exact NotRow.blk hB (by decide)
        have OW4 := yh (own_keep OW.out K4.out N59); have XS4 := yh (XS.out.keep K4.out N0); have GT := yh (show w3b.heap.size ≠ g by omega); have GTB := yh (show w3b.heap.size ≠ w.heap.size by have := SZ.out; have := K3.size; omega); have SZT := yh (show w.heap.size + 1 ≤ w3b.heap.size by have := SZ.out; have := K3.size; omega); clear K3 P3 KA N0 N59 HG3; rw [if_pos (by simp [hk1])] at hl; cases hl; have hre := HREST.out; simp only at hre; subst hre; clear hk1; go_wp2_with fail; refine (fail_any g tb t2 ts2 o 60 _ P4.out).mono ?_; rintro e w5 ⟨rfl, hk5⟩; exact ⟨rfl, rfl, KS.out.trans (K4.out.trans hk5.of_none)⟩
    · have bt : (t.text == [108, 101, 116]) = false := by simpa using htx
      rw [pDefs_stop (fun e => htx e.2)] at hl; cases hl; clear hk1 htx; go_wp2_with fail; refine (peek_any g tb t ts o _ PS0.out).mono ?_; rintro e w2 ⟨rfl, hk2⟩; unfold tokV; go_wp2_with fail; refine (peek_any g tb t ts o _ (PS0.out.keep hk2 (by simp) (by simp))).mono ?_; rintro e w2b ⟨rfl, hk2b⟩; unfold tokV; replace hk2 := hk2.trans hk2b; clear hk2b; have P2 := yh (PS0.out.keep hk2 (by simp) (by simp)); have R2 := yh (R0.out.keep0 hk2); have K2 := yh (KS.out.trans hk2.of_none); have BO2 := yh (BO.out.keep hk2 (by simp)); have OW2 := yh (own_keep OW.out hk2 (NotRow.none _ _))
      have XS2 := yh (XS.out.keep hk2 (NotRow.none _ _)); have hrest : (M.bind (pExpr n 0 (t :: ts, o)) fun x => match x.2 with | ([], _) => none | (t :: _, _) => if t.kind ≠ 0 then some (.error ⟨60, t.pl⟩) else some (.ok ⟨acc, x.1⟩)) = some r := HREST.out; clear hk2; go_wp2_with fail; rcases bind_cases hrest with ⟨f, h1, rfl⟩ | ⟨⟨x, s3⟩, h1, h2⟩
      · refine ((reads g tb n).expr 0 0 (t :: ts, o) _ _ rfl (by omega) h1 FS.out P2.out R2.out).mono ?_; rintro e w3 ⟨rfl, hk3⟩; exact ⟨rfl, rfl, K2.out.trans hk3⟩
      have HX := (reads g tb n).expr 0 0 (t :: ts, o) _ _ rfl (by omega) h1 FS.out P2.out R2.out; have F3 := yh (((advAll n).expr _ _ _ _ h1).1.fit FS.out); have H2 := yh h2; clear h1 h2 hrest; refine HX.mono ?_; rintro e w3 ⟨v3, rfl, hv3, hp3, hk3⟩; clear HX; obtain ⟨ty3, y3, rfl⟩ := hv3.iface; have N2 := P2.out.notRow; have BO3 := yh (BO2.out.keep hk3 (by simpa using HGN.out)); have OW3 := yh (own_keep OW2.out hk3 (by obtain ⟨k, c, hB, _⟩ := P2.out; exact NotRow.blk hB (by decide))); have XS3 := yh (XS2.out.keep hk3 N2); have V3 := yh (hv3.since K2.out.size); have P3 := yh hp3
      have K3 := yh (K2.out.trans hk3); clear hv3 hp3 hk3 N2; have hc3 := BO3.out.cell; have hf3 := BO3.out.frozen; go_wp2_with fail; have KM : Keep (some w.heap.size) w3 (w3.setCell ⟨w.heap.size, 1, none⟩ (.iface ty3 y3)) := (Keep.refl _ _).set _ _ (.inl rfl); have BO4 := yh (BO3.out.set 1 (.iface ty3 y3)); have OW4 := yh (own_keep OW3.out KM (NotRow.blk BO3.out (by decide))); have XS4 := yh (XS3.out.keep KM (NotRow.blk BO3.out (by decide))); have V4 := yh (V3.out.keep KM (NotRow.blk BO3.out (by decide))); have P4 := yh (P3.out.keep KM (by simpa using P3.out.ne BO3.out (by decide)) (by simpa using P3.out.tb_ne BO3.out (by decide)))
      have K4 := yh (K3.out.set ⟨w.heap.size, 1, none⟩ (.iface ty3 y3) (.inr (by simp))); clear KM hc3 hf3; obtain ⟨ts3, o3⟩ := s3; obtain ⟨t4, ts4, hts⟩ := F3.out.ends.kinds; have hts : ts3 = t4 :: ts4 := hts; subst hts; have P4 : ParIs (w3.setCell ⟨w.heap.size, 1, none⟩ (.iface ty3 y3)) g tb (t4 :: ts4) o3 := P4.out; have P4 := yh P4; by_cases hk0 : t4.kind = 0
      · have b0 : ((t4.kind : Int) != 0) = false := by simp [hk0]
        have hres := H2.out; simp only [hk0] at hres; cases hres; clear hk0; refine (peek_any g tb t4 ts4 o3 _ P4.out).mono ?_; rintro e w5 ⟨rfl, hk5⟩; unfold tokV; go_wp2_with fail; go_ret; exact ⟨_, rfl, ⟨_, _, _, BO4.out.keep hk5 (by simp), own_keep OW4.out hk5 (NotRow.none _ _), XS4.out.keep hk5 (NotRow.none _ _), V4.out.keep hk5 (NotRow.none _ _)⟩, Nat.le_refl _, K4.out.trans hk5.of_none⟩
      · have b0 : ((t4.kind : Int) != 0) = true := by simp; omega
        have hres := H2.out; simp only [ne_eq, hk0, not_false_eq_true, if_true] at hres; cases hres; clear hk0; refine (peek_any g tb t4 ts4 o3 _ P4.out).mono ?_; rintro e w5 ⟨rfl, hk5⟩; unfold tokV; go_wp2_with fail; refine (fail_any g tb t4 ts4 o3 60 _ (P4.out.keep hk5 (by simp) (by simp))).mono ?_; rintro e w6 ⟨rfl, hk6⟩; exact ⟨rfl, rfl, K4.out.trans (hk5.trans hk6).of_none⟩
  · have b1 : ((t.kind : Int) == 1) = false := by simp; omega
    rw [pDefs_stop (fun e => hk1 e.1)] at hl; cases hl; clear hk1; go_wp2_with fail; refine (peek_any g tb t ts o _ PS0.out).mono ?_; rintro e w2 ⟨rfl, hk2⟩; unfold tokV; have P2 := yh (PS0.out.keep hk2 (by simp) (by simp)); have R2 := yh (R0.out.keep0 hk2); have K2 := yh (KS.out.trans hk2.of_none); have BO2 := yh (BO.out.keep hk2 (by simp)); have OW2 := yh (own_keep OW.out hk2 (NotRow.none _ _)); have XS2 := yh (XS.out.keep hk2 (NotRow.none _ _)); have hrest : (M.bind (pExpr n 0 (t :: ts, o)) fun x => match x.2 with | ([], _) => none | (t :: _, _) => if t.kind ≠ 0 then some (.error ⟨60, t.pl⟩) else some (.ok ⟨acc, x.1⟩)) = some r := HREST.out
    clear hk2; go_wp2_with fail; rcases bind_cases hrest with ⟨f, h1, rfl⟩ | ⟨⟨x, s3⟩, h1, h2⟩
    · refine ((reads g tb n).expr 0 0 (t :: ts, o) _ _ rfl (by omega) h1 FS.out P2.out R2.out).mono ?_; rintro e w3 ⟨rfl, hk3⟩; exact ⟨rfl, rfl, K2.out.trans hk3⟩
    have HX := (reads g tb n).expr 0 0 (t :: ts, o) _ _ rfl (by omega) h1 FS.out P2.out R2.out; have F3 := yh (((advAll n).expr _ _ _ _ h1).1.fit FS.out); have H2 := yh h2; clear h1 h2 hrest; refine HX.mono ?_; rintro e w3 ⟨v3, rfl, hv3, hp3, hk3⟩; clear HX; obtain ⟨ty3, y3, rfl⟩ := hv3.iface; have N2 := P2.out.notRow; have BO3 := yh (BO2.out.keep hk3 (by simpa using HGN.out)); have OW3 := yh (own_keep OW2.out hk3 (by obtain ⟨k, c, hB, _⟩ := P2.out; exact NotRow.blk hB (by decide))); have XS3 := yh (XS2.out.keep hk3 N2); have V3 := yh (hv3.since K2.out.size); have P3 := yh hp3
    have K3 := yh (K2.out.trans hk3); clear hv3 hp3 hk3 N2; have hc3 := BO3.out.cell; have hf3 := BO3.out.frozen; go_wp2_with fail; have KM : Keep (some w.heap.size) w3 (w3.setCell ⟨w.heap.size, 1, none⟩ (.iface ty3 y3)) := (Keep.refl _ _).set _ _ (.inl rfl); have BO4 := yh (BO3.out.set 1 (.iface ty3 y3)); have OW4 := yh (own_keep OW3.out KM (NotRow.blk BO3.out (by decide))); have XS4 := yh (XS3.out.keep KM (NotRow.blk BO3.out (by decide))); have V4 := yh (V3.out.keep KM (NotRow.blk BO3.out (by decide))); have P4 := yh (P3.out.keep KM (by simpa using P3.out.ne BO3.out (by decide)) (by simpa using P3.out.tb_ne BO3.out (by decide)))
    have K4 := yh (K3.out.set ⟨w.heap.size, 1, none⟩ (.iface ty3 y3) (.inr (by simp))); clear KM hc3 hf3; obtain ⟨ts3, o3⟩ := s3; obtain ⟨t4, ts4, hts⟩ := F3.out.ends.kinds; have hts : ts3 = t4 :: ts4 := hts; subst hts; have P4 : ParIs (w3.setCell ⟨w.heap.size, 1, none⟩ (.iface ty3 y3)) g tb (t4 :: ts4) o3 := P4.out; have P4 := yh P4; by_cases hk0 : t4.kind = 0
    · have b0 : ((t4.kind : Int) != 0) = false := by simp [hk0]
      have hres := H2.out; simp only [hk0] at hres; cases hres; clear hk0; refine (peek_any g tb t4 ts4 o3 _ P4.out).mono ?_; rintro e w5 ⟨rfl, hk5⟩; unfold tokV; go_wp2_with fail; go_ret; exact ⟨_, rfl, ⟨_, _, _, BO4.out.keep hk5 (by simp), own_keep OW4.out hk5 (NotRow.none _ _), XS4.out.keep hk5 (NotRow.none _ _), V4.out.keep hk5 (NotRow.none _ _)⟩, Nat.le_refl _, K4.out.trans hk5.of_none⟩
    · have b0 : ((t4.kind : Int) != 0) = true := by simp; omega
      have hres := H2.out; simp only [ne_eq, hk0, not_false_eq_true, if_true] at hres; cases hres; clear hk0; refine (peek_any g tb t4 ts4 o3 _ P4.out).mono ?_; rintro e w5 ⟨rfl, hk5⟩; unfold tokV; go_wp2_with fail; refine (fail_any g tb t4 ts4 o3 60 _ (P4.out.keep hk5 (by simp) (by simp))).mono ?_; rintro e w6 ⟨rfl, hk6⟩; exact ⟨rfl, rfl, K4.out.trans (hk5.trans hk6).of_none⟩
end Go.Proofs.YtmfabihndpidnaaGreatDoor
