/-
  Terms: Show.
-/
import Derived.Test.YtmfabihndpidnaaGreatDoorK47
namespace Go.Proofs.YtmfabihndpidnaaGreatDoor
set_option maxHeartbeats 4000000
open Go.RowKit
set_option maxRecDepth 100000
set_option linter.unusedVariables false
set_option linter.unusedSimpArgs false
attribute [local go_sem ↓] run_tm_78_78 run_tm_82_78 run_tm_82_82 run_tm_84_78 run_tm_84_82 run_tm_84_84 run_tm_87_78 run_tm_87_82 run_tm_87_84 run_tm_87_87
theorem join_le_head (wd : Bs) (p : Nat) (xs : List Bs) : (Lib.join xs [44]).length ≤ (headT wd p xs).length := by
 simp only [headT, List.length_append, List.length_cons]; omega
theorem node_at (n : Nd) (hn : n.size ≤ 300000) (t : TypeId) (y : Value) (h : ndV n = .iface t y) (X : World) (hE : Escs X) : Calls Tryz.prog 26 #[.iface t y] X fun e w' => e = .returned (.string (mkS (nodeT n))) ∧ Keep none X w' := by
 rw [← h]; exact node_walk n X hE (by have := show_le n 0; omega)
theorem quote_at (s : Bs) (hs : s.length ≤ 100000) (X : World) : Calls Tryz.prog 25 #[.string (mkS s)] X fun e w' => e = .returned (.string (mkS (quote s))) ∧ Keep none X w' := by
 have := quote_walk (mkS s) X (by rw [mkS_size]; exact hs)
 rwa [show (mkS s).data.toList = s from by simp] at this
theorem show_text (w : World) (p : Nat) (s : Bs) (hs : s.length ≤ 100000) (hp : p ≤ 1000000000) (hT : Pow10 w) : ShowOf w (.iface 78 (.agg #[.int .i64 (p : Int), .string (mkS s)])) (headT [116, 101, 120, 116] p [quote s]) := fun V k => by
 have HQ := yh (quote_at s hs); have HT := yh (hT.keep k); have hql := quote_le s; have HQL := yh (show (Lib.join [quote s] [44]).length ≤ 10000000000000 by rw [Lib.join_one]; omega); clear hT; go_enter Tryz.func11, Tryz.ntmps11; go_wp2_with fail; refine (HQ.out _).mono ?_; rintro e x1 ⟨rfl, k1⟩; have HX := yh (((Blk.new V [.iface 78 (.agg #[.int .i64 (p : Int), .string (mkS s)])] 23).alloc (.cells #[.int .i64 (p : Int), .string (mkS s)] 78)).keep k1 (by simp)); have HKK := yh ((((Keep.refl none V).alloc (.cells #[.iface 78 (.agg #[.int .i64 (p : Int), .string (mkS s)])] 23)).alloc (.cells #[.int .i64 (p : Int), .string (mkS s)] 78)).trans k1)
 clear k1; generalize V.heap.size = bx at HX ⊢; go_wp2_with fail; have NB := yh (Blk.new x1 [.string (mkS (quote s))] 9); replace HX := yh (HX.out.alloc (.cells #[.string (mkS (quote s))] 9)); replace HKK := yh (HKK.out.alloc (.cells #[.string (mkS (quote s))] 9)); generalize World.alloc x1 (.cells #[.string (mkS (quote s))] 9) = V2 at NB HX HKK ⊢; generalize x1.heap.size = nb at NB ⊢; have hh := head_walk [116, 101, 120, 116] bx nb 1 [quote s] (.text p s) _ V2 rfl HX.out hp (fun j x hj => by
  match j, hj with
  | 0, hj => cases hj; exact NB.out.cell 0) NB.out.lt (by simp) (by simp) (HT.out.keep HKK.out) (by simp) HQL.out
 refine hh.mono ?_; clear hh; rintro e x2 ⟨rfl, kx⟩; go_wp2_with fail; go_ret; exact ⟨rfl, HKK.out.trans kx⟩
theorem show_rx (w : World) (p : Nat) (n : Nd) (hn : n.size ≤ 300000) (hp : p ≤ 1000000000) (hE : Escs w) (hT : Pow10 w) : ShowOf w (.iface 82 (.agg #[.int .i64 (p : Int), ndV n])) (headT [114, 101, 103, 101, 120] p [nodeT n]) := fun V k => by
 obtain ⟨nt, ny, hnd⟩ := ndV_iface n; have HQ := yh (node_at n hn nt ny hnd); have HM := yh (show ∀ X, TmV X (.rx p n) (.iface 82 (.agg #[.int .i64 (p : Int), .iface nt ny])) from fun X => by rw [← hnd]; rfl); rw [hnd]; have HT := yh (hT.keep k); have HE := yh (hE.keep k); have hql := nodeT_le n; have HQL := yh (show (Lib.join [nodeT n] [44]).length ≤ 10000000000000 by rw [Lib.join_one]; omega); generalize nodeT n = l at HQ HQL ⊢; clear hT hE hnd hql; go_enter Tryz.func11, Tryz.ntmps11; go_wp2_with fail; have HX := yh ((Blk.new V [.iface 82 (.agg #[.int .i64 (p : Int), .iface nt ny])] 23).alloc (.cells #[.int .i64 (p : Int), .iface nt ny] 82))
 have HKK := yh (((Keep.refl none V).alloc (.cells #[.iface 82 (.agg #[.int .i64 (p : Int), .iface nt ny])] 23)).alloc (.cells #[.int .i64 (p : Int), .iface nt ny] 82)); refine (HQ.out _ (HE.out.keep HKK.out)).mono ?_; rintro e x1 ⟨rfl, k1⟩; replace HX := yh (HX.out.keep k1 (by simp)); replace HKK := yh (HKK.out.trans k1); clear k1; generalize V.heap.size = bx at HX ⊢; go_wp2_with fail; have NB := yh (Blk.new x1 [.string (mkS l)] 9); replace HX := yh (HX.out.alloc (.cells #[.string (mkS l)] 9)); replace HKK := yh (HKK.out.alloc (.cells #[.string (mkS l)] 9)); generalize World.alloc x1 (.cells #[.string (mkS l)] 9) = V2 at NB HX HKK ⊢
 generalize x1.heap.size = nb at NB ⊢; have hh := head_walk [114, 101, 103, 101, 120] bx nb 1 [l] (.rx p n) _ V2 (HM.out V2) HX.out hp (fun j x hj => by
  match j, hj with
  | 0, hj => cases hj; exact NB.out.cell 0) NB.out.lt (by simp) (by simp) (HT.out.keep HKK.out) (by simp) HQL.out
 refine hh.mono ?_; clear hh; rintro e x2 ⟨rfl, kx⟩; go_wp2_with fail; go_ret; exact ⟨rfl, HKK.out.trans kx⟩
theorem CnV.showOf {w : World} (hE : Escs w) (hT : Pow10 w) : ∀ {c : Cn} {g : Nat}, CnV w c g → c.low → c.txt → c.size ≤ 300000 → ShowOf w (.iface 84 (ptr g)) c.shown := by
 intro c; induction c with
 | leaf f p n =>
  intro g h hl ht hs; have hlen := Cn.shown_le _ hl ht; have hj := join_le_head (leafName f) p [nodeT n]; have hp : p ≤ 4096 := hl; obtain ⟨nt, ny, hnd⟩ := ndV_iface n; have hs' : 1 + n.size ≤ 300000 := hs; have hb : cnB w g p (leafName f) (ndV n) [] [] nop nop := h; unfold cnB at hb; rw [hnd] at hb; exact show_leaf w (.canon (.leaf f p n)) g p (nodeT n) (leafName f) (mkS (leafName f)) rfl (by cases f <;> decide) (by cases f <;> simp [leafName, mkS]) nt ny (fun X hX => node_at n (by omega) nt ny hnd X hX) hb (by omega) hE hT ⟨g, rfl, h⟩ rfl (by simp only [Cn.shown] at hlen; omega)
 | norm p n fw bw =>
  intro g h hl ht hs; have hlen := Cn.shown_le _ hl ht; have hj := join_le_head [110, 111, 114, 109] p [nodeT n, quote fw, quote bw]; have hp : p ≤ 4096 := hl; obtain ⟨nt, ny, hnd⟩ := ndV_iface n; have hs' : 1 + n.size + textSize fw ≤ 300000 := hs; have hb : cnB w g p [110, 111, 114, 109] (ndV n) fw bw nop nop := h; unfold cnB at hb; rw [hnd] at hb; exact show_norm w (.canon (.norm p n fw bw)) g p (nodeT n) (quote fw) (quote bw) nt ny (fun X hX => node_at n (by omega) nt ny hnd X hX) (mkS fw) (quote_at fw ht.1) (mkS bw) (quote_at bw ht.2) hb (by omega) hE hT ⟨g, rfl, h⟩ rfl (by simp only [Cn.shown] at hlen; omega)
 | star p a iha =>
  intro g h hl ht hs; have hlen := Cn.shown_le _ hl ht; have hj := join_le_head [115, 116, 97, 114] p [a.shown]; have hp : p ≤ 4096 := hl.1; have hs' : 1 + a.size ≤ 300000 := hs; obtain ⟨ga, hb, ha⟩ := id h; exact show_cstar w (.canon (.star p a)) g p a.shown ga (iha ha hl.2 ht (by omega)) hb (by omega) hE hT ⟨g, rfl, h⟩ rfl (by simp only [Cn.shown] at hlen; omega)
 | two c p a b iha ihb =>
  intro g h hl ht hs; have hlen := Cn.shown_le _ hl ht; have hj := join_le_head (twoName c) p [a.shown, b.shown]; have hp : p ≤ 4096 := hl.1; have hs' : 1 + a.size + b.size ≤ 300000 := hs; obtain ⟨ga, gb, hb, ha, hbb⟩ := id h; exact show_ctwo w (.canon (.two c p a b)) g p a.shown b.shown (twoName c) (mkS (twoName c)) rfl (by cases c <;> decide) (by cases c <;> decide +kernel) ga (iha ha hl.2.1 ht.1 (by omega)) gb (ihb hbb hl.2.2 ht.2 (by omega)) hb (by omega) hE hT ⟨g, rfl, h⟩ rfl (by simp only [Cn.shown] at hlen; omega)
theorem LnV.showOf {w : World} (hE : Escs w) (hT : Pow10 w) : ∀ {c : Ln} {g : Nat}, LnV w c g → c.low → c.txt → c.size ≤ 300000 → ShowOf w (.iface 87 (ptr g)) c.shown := by
 intro c; induction c with
 | copy f p n =>
  intro g h hl ht hs; have hlen := Ln.shown_le _ hl ht; have hj := join_le_head (copyName f) p [nodeT n]; have hp : p ≤ 4096 := hl; obtain ⟨nt, ny, hnd⟩ := ndV_iface n; have hs' : 1 + n.size ≤ 300000 := hs; have hb : lnB w g p (copyName f) (ndV n) [] nop nop nop := h; unfold lnB at hb; rw [hnd] at hb; exact show_copy w (.lens (.copy f p n)) g p (nodeT n) (copyName f) (mkS (copyName f)) rfl (by cases f <;> decide) (by cases f <;> simp [copyName, mkS]) nt ny (fun X hX => node_at n (by omega) nt ny hnd X hX) hb (by omega) hE hT ⟨g, rfl, h⟩ rfl (by simp only [Ln.shown] at hlen; omega)
 | del p n t =>
  intro g h hl ht hs; have hlen := Ln.shown_le _ hl ht; have hj := join_le_head [100, 101, 108] p [nodeT n, quote t]; have hp : p ≤ 4096 := hl; obtain ⟨nt, ny, hnd⟩ := ndV_iface n; have hs' : 1 + n.size ≤ 300000 := hs; have hb : lnB w g p [100, 101, 108] (ndV n) t nop nop nop := h; unfold lnB at hb; rw [hnd] at hb; exact show_del w (.lens (.del p n t)) g p (nodeT n) (quote t) nt ny (fun X hX => node_at n (by omega) nt ny hnd X hX) (mkS t) (quote_at t ht) hb (by omega) hE hT ⟨g, rfl, h⟩ rfl (by simp only [Ln.shown] at hlen; omega)
 | ins p t =>
  intro g h hl ht hs; have hlen := Ln.shown_le _ hl ht; have hj := join_le_head [105, 110, 115] p [quote t]; have hp : p ≤ 4096 := hl; exact show_ins w (.lens (.ins p t)) g p (quote t) (mkS t) (quote_at t ht) h (by omega) hE hT ⟨g, rfl, h⟩ rfl (by simp only [Ln.shown] at hlen; omega)
 | keyed p a iha =>
  intro g h hl ht hs; have hlen := Ln.shown_le _ hl ht; have hj := join_le_head [107, 101, 121, 101, 100] p [a.shown]; have hp : p ≤ 4096 := hl.1; have hs' : 1 + a.size ≤ 300000 := hs; obtain ⟨ga, hb, ha⟩ := id h; exact show_lstar w (.lens (.keyed p a)) g p a.shown [107, 101, 121, 101, 100] _ rfl (by decide) (.inr rfl) ga (iha ha hl.2 ht (by omega)) hb (by omega) hE hT ⟨g, rfl, h⟩ rfl (by simp only [Ln.shown] at hlen; omega)
 | star p a iha =>
  intro g h hl ht hs; have hlen := Ln.shown_le _ hl ht; have hj := join_le_head [115, 116, 97, 114] p [a.shown]; have hp : p ≤ 4096 := hl.1; have hs' : 1 + a.size ≤ 300000 := hs; obtain ⟨ga, hb, ha⟩ := id h; exact show_lstar w (.lens (.star p a)) g p a.shown [115, 116, 97, 114] _ rfl (by decide) (.inl rfl) ga (iha ha hl.2 ht (by omega)) hb (by omega) hE hT ⟨g, rfl, h⟩ rfl (by simp only [Ln.shown] at hlen; omega)
 | left p q a iha =>
  intro g h hl ht hs; have hlen := Ln.shown_le _ hl ht; have hj := join_le_head [108, 101, 102, 116] p [q.shown, a.shown]; have hp : p ≤ 4096 := hl.1; have hs' : 1 + q.size + a.size ≤ 300000 := hs; obtain ⟨gq, ga, hb, hq, ha⟩ := id h; exact show_left w (.lens (.left p q a)) g p q.shown a.shown gq (hq.showOf hE hT hl.2.1 ht.1 (by omega)) ga (iha ha hl.2.2 ht.2 (by omega)) hb (by omega) hE hT ⟨g, rfl, h⟩ rfl (by simp only [Ln.shown] at hlen; omega)
 | right p a q iha =>
  intro g h hl ht hs; have hlen := Ln.shown_le _ hl ht; have hj := join_le_head [114, 105, 103, 104, 116] p [a.shown, q.shown]; have hp : p ≤ 4096 := hl.1; have hs' : 1 + q.size + a.size ≤ 300000 := hs; obtain ⟨gq, ga, hb, hq, ha⟩ := id h; exact show_right w (.lens (.right p a q)) g p a.shown q.shown ga (iha ha hl.2.1 ht.2 (by omega)) gq (hq.showOf hE hT hl.2.2 ht.1 (by omega)) hb (by omega) hE hT ⟨g, rfl, h⟩ rfl (by simp only [Ln.shown] at hlen; omega)
 | deflt p a t iha =>
  intro g h hl ht hs; have hlen := Ln.shown_le _ hl ht; have hj := join_le_head [100, 101, 102, 97, 117, 108, 116] p [a.shown, quote t]; have hp : p ≤ 4096 := hl.1; have hs' : 1 + a.size ≤ 300000 := hs; obtain ⟨ga, hb, ha⟩ := id h; exact show_deflt w (.lens (.deflt p a t)) g p a.shown (quote t) ga (iha ha hl.2 ht.1 (by omega)) (mkS t) (quote_at t ht.2) hb (by omega) hE hT ⟨g, rfl, h⟩ rfl (by simp only [Ln.shown] at hlen; omega)
 | two o p a b iha ihb =>
  intro g h hl ht hs; have hlen := Ln.shown_le _ hl ht; have hj := join_le_head o.name p [a.shown, b.shown]; have hp : p ≤ 4096 := hl.1; have hs' : 1 + a.size + b.size ≤ 300000 := hs; obtain ⟨ga, gb, hb, ha, hbb⟩ := id h; exact show_ltwo w (.lens (.two o p a b)) g p a.shown b.shown o.name (mkS o.name) rfl (by cases o <;> decide) (by cases o <;> decide +kernel) ga (iha ha hl.2.1 ht.1 (by omega)) gb (ihb hbb hl.2.2 ht.2 (by omega)) hb (by omega) hE hT ⟨g, rfl, h⟩ rfl (by simp only [Ln.shown] at hlen; omega)
theorem TmV.showOf {w : World} (hE : Escs w) (hT : Pow10 w) {t : Tm} {v : Value} (h : TmV w t v) (hl : t.low) (hg : t.good) : ShowOf w v t.shown := by
 cases t with
 | text p s =>
  obtain rfl : v = _ := h; have hp : p ≤ 4096 := hl; exact show_text w p s hg.1 (by omega) hT
 | rx p n =>
  obtain rfl : v = _ := h; have hp : p ≤ 4096 := hl; exact show_rx w p n hg.2.2 (by omega) hE hT
 | canon c =>
  obtain ⟨g, rfl, hc⟩ := h; exact hc.showOf hE hT hl hg.2.1 hg.2.2
 | lens l =>
  obtain ⟨g, rfl, hc⟩ := h; exact hc.showOf hE hT hl hg.2.1 hg.2.2
theorem shown_len {t : Tm} (hl : t.low) (hg : t.good) : t.shown.length ≤ 1000000000000 := by
 cases t with
 | text p s =>
  have hs : s.length ≤ 100000 := hg.1; have := head_le1 [116, 101, 120, 116] p (quote s) (by decide) hl; have := quote_le s; simp only [Tm.shown]; omega
 | rx p n =>
  have hs : n.size ≤ 300000 := hg.2.2; have := head_le1 [114, 101, 103, 101, 120] p (nodeT n) (by decide) hl; have := nodeT_le n; simp only [Tm.shown]; omega
 | canon c =>
  have hs : c.size ≤ 300000 := hg.2.2; have := c.shown_le hl hg.2.1; simp only [Tm.shown]; omega
 | lens c =>
  have hs : c.size ≤ 300000 := hg.2.2; have := c.shown_le hl hg.2.1; simp only [Tm.shown]; omega
theorem term_show {w : World} {t : Tm} {v : Value} (hE : Escs w) (hT : Pow10 w) (h : TmV w t v) (hl : t.low) (hg : t.good) :
 Calls Tryz.prog 5 #[v] w fun e w' => e = .returned (.string (mkS t.shown)) ∧ Keep none w w' := by
 have HS := yh (h.showOf hE hT hl hg); obtain ⟨tv, yv, rfl⟩ := h.iface; clear h hE hT; go_enter Tryz.func5, Tryz.ntmps5; go_wp2_with fail; refine (HS.out _ (Keep.refl _ _)).mono ?_; rintro e x ⟨rfl, k⟩; go_wp2_with fail; go_ret; exact ⟨rfl, k⟩
end Go.Proofs.YtmfabihndpidnaaGreatDoor
