/- xmat.made: a matrix of polynomials, place by place. -/
import Derived.Shelf.Abstract
import Derived.Test.YtkmfhabgempjiaaQlM5
import Derived.Test.YtkmfhabgempjiaaQlM6
import Derived.Test.YtkmfhabgempjiaaQlM1
import Derived.Test.YtkmfhabgempjiaaQlM4
namespace Go.Proofs.Ytkmfhabgempjiaa
set_option maxHeartbeats 1000000
open Go.RowKit
def RetPs (p : Nat) (w : World) (L : Nat) (f : Pol (Zp p)) (e : Ending) (w' : World) : Prop := ∃ u zs, e = .returned u ∧ Sl .u64 w' u zs ∧ zs.length ≤ L ∧ pl p zs = f ∧ Below w.heap.size w w'
def Qls (p : Nat) (w : World) (base : Nat) (bv : Value) (us : List Value) (n L : Nat) (F : Nat → Pol (Zp p)) : Prop :=
 w.ownsRow base 43 1 bv n us ∧ us.length = n ∧ ∀ (j : Nat) (v : Value), us[j]? = some v → ∃ ys, Own .u64 27 w base v ys ∧ Nrm p ys ∧ pl p ys = F j ∧ ys.length ≤ L
section
variable {p : Nat} {w w' : World} {base n L : Nat} {bv : Value} {us : List Value} {F : Nat → Pol (Zp p)}
theorem Qls.next (h : Qls p w base bv us n L F) (hb : Below w.heap.size w w') : Qls p w' base bv us n L F :=
 ⟨rowOwn_next h.1 hb (Nat.le_refl _), h.2.1, fun j v hv => by obtain ⟨ys, h1, h2⟩ := h.2.2 j v hv; exact ⟨ys, h1.next hb, h2⟩⟩
theorem Qls.low (h : Qls p w base bv us n L F) {a : Addr} (ha : a.block < base) (u : Value) : Qls p (w.setCell a u) base bv us n L F :=
 ⟨ownsRow_setCell_below h.1 ha u, h.2.1, fun j v hv => by obtain ⟨ys, h1, h2⟩ := h.2.2 j v hv; exact ⟨ys, h1.low ha u, h2⟩⟩
theorem Qls.push {b1 : Nat} {bv' r : Value} {zs : List Nat} (h : Qls p w base bv us n L F) (hg : w.grownBy w' bv.ownBlock) (ho : w'.ownsRow base 43 1 bv' (n + 1) (us ++ [r]))
  (hr : Own .u64 27 w b1 r zs) (hb : base ≤ b1) (hz : Nrm p zs) (hD : pl p zs = F n) (hl : zs.length ≤ L) : Qls p w' base bv' (us ++ [r]) (n + 1) L F := by
 refine ⟨ho, by rw [List.length_append, h.2.1]; rfl, fun j v hv => ?_⟩
 by_cases hj : j < n
 ·rw [List.getElem?_append_left (by rw [h.2.1]; exact hj)] at hv
  obtain ⟨ys, h1, h2⟩ := h.2.2 j v hv
  exact ⟨ys, h1.keptP h.1 hg, h2⟩
 ·rw [List.getElem?_append_right (by rw [h.2.1]; omega), h.2.1] at hv
  have : j = n := by
   have := (List.getElem?_eq_some_iff.1 hv).1
   simp at this; omega
  subst this
  simp at hv
  subst hv
  exact ⟨zs, (hr.mono hb).keptP h.1 hg, hz, hD, hl⟩
theorem Qls.ns (h : Qls p w base bv us n L F) (hp : FP p) : ∃ qs : List (List Nat), qs.length = n ∧ Ns w bv qs ∧ ∀ j, j < n → Nrm p (qs.getD j []) ∧ pl p (qs.getD j []) = F j ∧ (qs.getD j []).length ≤ L := by
 have hc : ∀ j, ∃ ys : List Nat, j < n → ∃ v, us[j]? = some v ∧ Own .u64 27 w base v ys ∧ Nrm p ys ∧ pl p ys = F j ∧ ys.length ≤ L := fun j => by
  by_cases hj : j < n
  ·obtain ⟨v, hv⟩ : ∃ v, us[j]? = some v := ⟨_, List.getElem?_eq_getElem (by rw [h.2.1]; exact hj)⟩
   obtain ⟨ys, h1⟩ := h.2.2 j v hv
   exact ⟨ys, fun _ => ⟨v, hv, h1⟩⟩
  ·exact ⟨[], fun h => absurd h hj⟩
 obtain ⟨Y, hY⟩ := Classical.axiomOfChoice hc
 have hl : ((List.range n).map Y).length = n := by simp
 have hg : ∀ j, j < n → ((List.range n).map Y).getD j [] = Y j := fun j hj => by simp [List.getD, hj]
 refine ⟨(List.range n).map Y, hl, ?_, fun j hj => by
  rw [hg j hj]
  obtain ⟨v, _, _, h3⟩ := hY j hj
  exact h3⟩
 rcases rowOwn_shape h.1 with ⟨rfl, rfl⟩ | ⟨g, cap, rfl, _, hgl, hnc⟩
 ·exact ⟨none, 0, 0, 0, fun _ => (.bool false), by rw [hl], by rw [hl]; exact Nat.le_refl _, fun h => by rw [hl] at h; omega, fun j hj => by rw [hl] at hj; omega⟩
 ·refine ⟨some ⟨g, 0, none⟩, g, 0, cap, fun j => us.getD j (.bool false), by rw [hl], by rw [hl]; exact hnc, fun _ => ⟨rfl, hgl⟩, fun j hj => ?_⟩
  rw [hl] at hj
  obtain ⟨v, h1, h2, h3, _⟩ := hY j hj
  have e : us.getD j (.bool false) = v := by simp [List.getD, h1]
  rw [hg j hj]
  refine ⟨?_, ?_, ?_⟩
  ·rw [Nat.zero_add, World.ownsRow.cellAt h.1 j (by omega), h1]; simp only [e]
  ·simp only [e]; exact h2.sl
  ·exact fun x hx => by have h8 := h3.1 x hx; have h9 := hp.2; unfold W64; omega
end
theorem Qls.mono {p : Nat} {w : World} {base base' n L : Nat} {bv : Value} {us : List Value} {F : Nat → Pol (Zp p)} (h : Qls p w base bv us n L F) (hb : base' ≤ base) : Qls p w base' bv us n L F :=
 ⟨rowOwn_mono h.1 hb, h.2.1, fun j v hv => by obtain ⟨ys, h1, h2⟩ := h.2.2 j v hv; exact ⟨ys, h1.mono hb, h2⟩⟩
theorem Qls.slc {p : Nat} {w : World} {base n L : Nat} {bv : Value} {us : List Value} {F : Nat → Pol (Zp p)} (h : Qls p w base bv us n L F) : ∃ ao k, bv = .slice ao n k := by
 rcases rowOwn_shape h.1 with ⟨e1, e2⟩ | ⟨_, _, e1, _⟩
 ·exact ⟨none, 0, by rw [e1, e2]⟩
 ·exact ⟨_, _, e1⟩
def RetXm (p : Nat) (w : World) (r c L : Nat) (F : Nat → Pol (Zp p)) (e : Ending) (w' : World) : Prop :=
 ∃ ao k us, e = .returned (.agg #[.int .i64 r, .int .i64 c, .slice ao (r * c) k]) ∧ Qls p w' w.heap.size (.slice ao (r * c) k) us (r * c) L F ∧ Below w.heap.size w w'
def MxR (p : Nat) (w wr : World) (r c L : Nat) (F : Nat → Pol (Zp p)) (g n : Nat) : Prop := ∃ v us, Blk 24 wr (g + 1 + 1) [.int .i64 r, .int .i64 c, v] ∧ Blk 24 wr (g + 1) [.int .i64 0, .int .i64 0, .slice none 0 0] ∧
 Blk 29 wr g [.int .u64 p] ∧ Qls p wr (g + 1 + 1 + 1) v us n L F ∧ Below w.heap.size w wr
set_option maxRecDepth 20000 in
theorem xm_made (p r c L : Nat) (hp : FP p) (hr : r ≤ 128) (hc : c ≤ 128) (hL : L ≤ 1000000000000) (fn : Nat) (hE : Enters Try.prog fn) (caps : List Value) (F : Nat → Pol (Zp p)) (w : World)
  (hf : ∀ (i k : Nat) (w' : World), i < r → k < c → Below w.heap.size w w' → Calls Try.prog fn (.int .i64 i :: .int .i64 k :: caps).toArray w' (RetPs p w' L (F (i * c + k)))) :
  Calls Try.prog 86 #[.agg #[.int .u64 p], .int .i64 r, .int .i64 c, .func (.func fn) #[] caps.toArray] w (RetXm p w r c L F) := by
 have HF := Lib.hid hf; clear hf
 have HP := Lib.hid hp; clear hp
 have HL := Lib.hid hL; clear hL
 obtain ⟨wb, ew, K0, K1, K2, B0, hsz⟩ := boxes3 w 29 24 24 [.int .u64 p] [.int .i64 0, .int .i64 0, .slice none 0 0] [.int .i64 r, .int .i64 c, .slice none 0 0]
 clear hsz
 go_enter Try.func86, Try.ntmps86
 go_upto_region 2 with (fail)
 rw [← ew]
 obtain ⟨g, eg⟩ : ∃ g, g = w.heap.size := ⟨_, rfl⟩
 rw [← eg] at K0 K1 K2 ⊢
 have hgw : w.heap.size ≤ g := by omega
 clear eg ew
 have st : MxR p w wb r c L F g 0 := ⟨_, [], K2, K1, K0, ⟨World.ownsRow_nil _ _ _ _, rfl, fun j v hv => by simp at hv⟩, B0⟩
 clear K0 K1 K2 B0
 go_wp2
 go_loopw [16] (fun iv wr => ∃ i : Nat, i ≤ r ∧ iv = .int .i64 i ∧ MxR p w wr r c L F g (i * c)) (fun iv _ => r - (intOf iv).toNat)
 case atStart => exact ⟨0, by omega, rfl, by rw [Nat.zero_mul]; exact st⟩
 case round =>
  clear st wb
  obtain ⟨i, hi, rfl, st⟩ := hrel
  by_cases hir : i < r
  ·obtain ⟨wo, rfl⟩ : ∃ wo : World, wo = wr := ⟨_, rfl⟩
   go_wp2
   go_loopw [20] (fun kv wr => ∃ k : Nat, k ≤ c ∧ kv = .int .i64 k ∧ MxR p w wr r c L F g (i * c + k)) (fun kv _ => c - (intOf kv).toNat)
   case atStart => exact ⟨0, by omega, rfl, by rw [Nat.add_zero]; exact st⟩
   case round =>
    clear st
    obtain ⟨k, hk, rfl, st⟩ := hrel
    by_cases hkc : k < c
    ·obtain ⟨bv, us, K2, K1, K0, ho, B0⟩ := st
     go_upto_region 8 with (fail)
     have bd := dw wr
     replace K2 := K2.next bd; replace K1 := K1.next bd; replace K0 := K0.next bd; replace ho := ho.next bd
     replace B0 := B0.trans (bd.mono B0.size)
     have hgx : g + 1 + 1 + 1 ≤ wr.drew.heap.size := by have := K2.lt; omega
     have hik : i * c ≤ 128 * 128 := Nat.mul_le_mul (by omega) hc
     have hgw3 : w.heap.size ≤ g + 1 + 1 + 1 := by omega
     clear bd
     have z0 := Lib.hid fun (w : World) (hS : Below (g + 1 + 1 + 1) wr.drew w) => And.intro (((K2.below hS (Nat.lt_succ_self _)).cell) 2) (((K0.below hS (by omega)).cell) 0)
     refine startP (S := (fun w' => Below (g + 1 + 1 + 1) wr.drew w')) (by kernel_rfl) _ rfl rfl rfl (by kernel_rfl) (Below.refl _ _) (fun hHeld => ?_)
     refine tk 0 ?_
     refine tf 1 z0.out ?_
     refine tf 2 z0.out ?_
     refine tk 3 ?_
     refine tk 4 ?_
     refine tk 5 ?_
     refine on 6 fun K hK => ?_
     go_simp
     rw [hE]
     refine (HF.out i k _ hir hkc B0).mono ?_; rintro e w1 ⟨u, zs0, rfl, s1, l1, v1, b1⟩
     refine hK.out _ _ (hHeld.trans (b1.mono (Nat.le_trans hgx hHeld.size))) (fun hHeld => ?_)
     clear hK K
     try simp only [Act.put, zq1, zq2, zq3]
     refine on 7 fun K hK => ?_
     go_simp
     go_at_call 80
     (with_reducible refine (fp_Norm p u zs0 _ HP.out s1 (by have := HL.out; omega)).mono ?_); rintro e w2 ⟨rq, zs, rfl, o2, n2, v2, l2, b2⟩; obtain ⟨aq, cq, eq9⟩ := o2.sliced; subst eq9
     refine hK.out _ _ (hHeld.trans (b2.mono (Nat.le_trans hgx hHeld.size))) (fun hHeld => ?_)
     clear hK K
     try simp only [Act.put, zq1, zq2, zq3]
     refine on 8 fun K hK => ?_
     go_simp
     have hd := hHeld
     refine hK.out _ _ (hHeld.alloc (Nat.le_trans hgx hHeld.size) _) (fun hHeld => ?_)
     clear hK K
     try simp only [Act.put, zq1, zq2, zq3]
     refine on 9 fun K hK => ?_
     have hq := (ho.next b1).next b2
     refine apV 22 43 24 (.slice none 0 0) Try.underlying22 (by kernel_rfl) (by decide) rfl _ _ rfl w2 (g + 1 + 1 + 1) bv (i * c + k) us (.slice aq zs.length cq) rfl hq.1 (by omega) (Nat.le_trans hgx hd.size) rfl rfl ?_
     intro gg cap1 w5 hown' hbel' hgr' _
     refine hK.out _ _ (hd.trans hbel') (fun hHeld => ?_)
     clear hK K
     try simp only [Act.put, zq1, zq2, zq3]
     refine tk 10 ?_
     clear z0; refine doneL (by kernel_rfl) ?_ _
     refine lastL rfl (by rfl) ?_
     have hqq := hq.push hgr' hown' o2 (Nat.le_trans hgx b1.size) n2 (v2.trans v1) (Nat.le_trans l2 l1)
     have K2 := K2.below hHeld (Nat.lt_succ_self _)
     have K1 := K1.below hHeld (by omega)
     have K0 := K0.below hHeld (by omega)
     have B0 := B0.trans (hHeld.mono (by omega))
     have f2 := K2.free 2
     have c2 := K2.cell 2
     have K2' := Lib.hid (K2.set 2 (.slice (some ⟨gg, 0, none⟩) (i * c + k + 1) cap1))
     have K1' := Lib.hid (K1.far (a := ⟨g + 1 + 1, 2, none⟩) (by simp) (.slice (some ⟨gg, 0, none⟩) (i * c + k + 1) cap1))
     have K0' := Lib.hid (K0.far (a := ⟨g + 1 + 1, 2, none⟩) (by simp; omega) (.slice (some ⟨gg, 0, none⟩) (i * c + k + 1) cap1))
     have ho' := Lib.hid (hqq.low (a := ⟨g + 1 + 1, 2, none⟩) (Nat.lt_succ_self _) (.slice (some ⟨gg, 0, none⟩) (i * c + k + 1) cap1))
     have B0' := Lib.hid (B0.setCell (p := ⟨g + 1 + 1, 2, none⟩) (show w.heap.size ≤ g + 1 + 1 by omega) (.slice (some ⟨gg, 0, none⟩) (i * c + k + 1) cap1))
     clear K2 K1 K0 hown' hqq hq ho B0 hHeld hd hbel' hgr' o2 n2 v2 l2 b2 s1 l1 v1 b1
     go_wp2
     go_roundw
     case rel => exact ⟨k + 1, by omega, by go_num, _, _, K2'.out, K1'.out, K0'.out, ho'.out, B0'.out⟩
     case measure => simp [intOf] <;> omega
    ·obtain rfl : k = c := by omega
     go_wp2
     go_roundw
     case rel => exact ⟨i + 1, by omega, by go_num, by rw [Nat.succ_mul]; exact st⟩
     case measure => simp [intOf] <;> omega
  ·obtain rfl : i = r := by omega
   obtain ⟨bv, us, K2, K1, K0, ho, B0⟩ := st
   obtain ⟨aq, cq, rfl⟩ := ho.slc
   have c0 := K2.cell 0; have c1 := K2.cell 1; have c2 := K2.cell 2
   have e0 := K1.cell 0; have e1 := K1.cell 1; have e2 := K1.cell 2
   have f0 := K1.free 0; have f1 := K1.free 1; have f2 := K1.free 2
   have KF := ((K1.set 0 (.int .i64 i)).set 1 (.int .i64 c)).set 2 (.slice aq (i * c) cq)
   have d0 := KF.cell 0; have d1 := KF.cell 1; have d2 := KF.cell 2
   have hlt : g + 1 < g + 1 + 1 + 1 := by omega
   have hof := ((ho.low (a := ⟨g + 1, 0, none⟩) hlt (.int .i64 i)).low (a := ⟨g + 1, 1, none⟩) hlt (.int .i64 c)).low (a := ⟨g + 1, 2, none⟩) hlt (.slice aq (i * c) cq)
   have hgw2 : w.heap.size ≤ g + 1 := by omega
   have BF := ((B0.setCell (p := ⟨g + 1, 0, none⟩) hgw2 (.int .i64 i)).setCell (p := ⟨g + 1, 1, none⟩) hgw2 (.int .i64 c)).setCell (p := ⟨g + 1, 2, none⟩) hgw2 (.slice aq (i * c) cq)
   have FR := Lib.hid (show RetXm p w i c L F (.returned (.agg #[.int .i64 i, .int .i64 c, .slice aq (i * c) cq])) (((wr.setCell ⟨g + 1, 0, none⟩ (.int .i64 i)).setCell ⟨g + 1, 1, none⟩ (.int .i64 c)).setCell ⟨g + 1, 2, none⟩ (.slice aq (i * c) cq)) from ⟨_, _, us, rfl, hof.mono (by omega), BF⟩)
   clear KF K1 K2 K0 hof BF ho B0
   go_wp2
   exact bodyPost_ret (v := .agg #[.int .i64 i, .int .i64 c, .slice aq (i * c) cq]) (by simp [results, Try.results86, go_sem, d0, d1, d2]) rfl FR.out
end Go.Proofs.Ytkmfhabgempjiaa
/- Package xmat: the functions that give a matrix's places. -/
namespace Go.Proofs.Ytkmfhabgempjiaa
set_option maxHeartbeats 1000000
open Go.RowKit
def RetG (w : World) (zs : List Nat) (e : Ending) (w' : World) : Prop := ∃ u, e = .returned u ∧ Sl .u64 w' u zs ∧ Below w.heap.size w w'
theorem RetG.ps {p L : Nat} {w w' : World} {zs : List Nat} {e : Ending} (h : RetG w zs e w') (hl : zs.length ≤ L) : RetPs p w L (pl p zs) e w' := by
 obtain ⟨u, h1, h2, h3⟩ := h; exact ⟨u, zs, h1, h2, hl, rfl, h3⟩
theorem xm_get (v : Value) (R : Int) (c i k : Nat) (qs : List (List Nat)) (w : World) (hm : Xm w v R c qs) (hi : i ≤ 100000) (hc : c ≤ 100000) (hk : k ≤ 100000) (hj : i * c + k < qs.length) :
  Calls Try.prog 81 #[v, .int .i64 i, .int .i64 k] w (RetG w (qs.getD (i * c + k) [])) := by
 obtain ⟨u, rfl, ao, b, off, cap, U, rfl, hcap, hao, hat⟩ := hm
 obtain ⟨rfl, hbl⟩ := hao (by omega)
 obtain ⟨wb, ew, KA, B0, hsz⟩ := boxes1 w 24 [.int .i64 R, .int .i64 c, .slice (some ⟨b, off, none⟩) qs.length cap]
 clear hsz
 have hw : i * c ≤ 100000 * 100000 := Nat.mul_le_mul hi hc
 have h1 : IntKind.i64.wrap ((i : Int) * (c : Int)) = ((i * c : Nat) : Int) := by rw [← Int.natCast_mul]; exact IntWalk.i64_in _ ⟨by omega, by omega⟩
 have h2' : IntKind.i64.wrap (((i * c : Nat) : Int) + (k : Int)) = ((i * c + k : Nat) : Int) := by rw [← Int.natCast_add]; exact IntWalk.i64_in _ ⟨by omega, by omega⟩
 obtain ⟨q0, s0, _⟩ := hat (i * c + k) hj
 have q1 := (B0.cell (p := ⟨b, off + (i * c + k), none⟩) hbl).trans q0
 have FIN := Lib.hid (show RetG w (qs.getD (i * c + k) []) (.returned (U (i * c + k))) wb from ⟨_, rfl, s0.next B0, B0⟩)
 clear hat s0 q0 B0 hao
 go_enter Try.func81, Try.ntmps81
 go_upto_region 1 with (fail)
 rw [← ew]
 clear ew
 have c1 := KA.cell 1; have c2 := KA.cell 2
 clear KA
 go_wp2
 go_ret
 exact FIN.out
theorem xm_one (i k : Nat) (w : World) : Calls Try.prog 126 #[.int .i64 i, .int .i64 k] w (RetG w (if i = k then [1] else [])) := by
 by_cases h : i = k
 ·subst h
  have FIN := Lib.hid (show RetG w (if i = i then [1] else []) (.returned (.slice (some ⟨w.heap.size, 0, none⟩) 1 1)) (w.alloc (.cells #[.int .u64 1] 27)) from ⟨_, rfl, by rw [if_pos rfl]; exact (own_lit1 w 1).sl, (Below.refl _ _).alloc (Nat.le_refl _) _⟩)
  go_enter Try.func126, Try.ntmps126
  go_wp2
  go_ret
  exact FIN.out
 ·have hne : ((i : Int) == (k : Int)) = false := by simp; omega
  rw [if_neg h]
  have FIN := Lib.hid (show RetG w [] (.returned (.slice none 0 0)) w from ⟨_, rfl, Sl.nil _ _, Below.refl _ _⟩)
  go_enter Try.func126, Try.ntmps126
  go_wp2
  go_ret
  exact FIN.out
end Go.Proofs.Ytkmfhabgempjiaa
/- Package xmat: alike, Norm, Identity, Add, Transpose. -/
namespace Go.Proofs.Ytkmfhabgempjiaa
set_option maxHeartbeats 1000000
open Go.RowKit
def RetXE (p : Nat) (w : World) (r c L : Nat) (F : Nat → Pol (Zp p)) (e : Ending) (w' : World) : Prop :=
 ∃ ao k us, e = .returned (.tuple #[.agg #[.int .i64 r, .int .i64 c, .slice ao (r * c) k], .int .i64 0]) ∧ Qls p w' w.heap.size (.slice ao (r * c) k) us (r * c) L F ∧ Below w.heap.size w w'
theorem xm_Identity (p L n : Nat) (w : World) (hp : FP p) (hn : n ≤ 64) (hL : L ≤ 1000000000000) (hL1 : 1 ≤ L)
  (T : Nat → Pol (Zp p)) (hT : ∀ i k, i < n → k < n → T (i * n + k) = if i = k then 1 else 0) :
  Calls Try.prog 70 #[.agg #[.int .u64 p], .int .i64 n] w (RetXE p w n n L T) := by
 obtain ⟨wb, ew, KF, KR, B0, hsz⟩ := boxes2 w 29 24 [.int .u64 p] [.int .i64 0, .int .i64 0, .slice none 0 0]
 clear hsz
 have HP := Lib.hid hp; clear hp
 have HL := Lib.hid hL; have HL1 := Lib.hid hL1; have HTT := Lib.hid (show ∀ i k, i < n → k < n → T (i * n + k) = pl p (if i = k then [1] else []) from fun i k hi hk => by
  rw [hT i k hi hk]
  split
  ·exact pl1.symm
  ·exact (pl_nil p).symm)
 clear hL hL1 hT
 go_enter Try.func70, Try.ntmps70
 go_wp2_with fail
 rw [← ew]
 obtain ⟨g, eg⟩ : ∃ g, g = w.heap.size + 1 := ⟨_, rfl⟩
 rw [← eg] at KR ⊢
 have hgw : w.heap.size ≤ g := by omega
 clear ew eg
 refine (xm_side_yes _ _ ⟨by omega, by omega⟩).mono ?_; rintro e w2 ⟨rfl, rfl⟩
 have fKF0 := KF.cell 0
 go_wp2_with fail
 refine (xm_made p n n L HP.out (by omega) (by omega) HL.out 126 (enters_of Try.func126 rfl rfl) [] T _ (fun i k w' hi hk hb => by
  rw [HTT.out i k hi hk]
  exact (xm_one i k w').mono fun _ _ h => h.ps (by split <;> first | exact HL1.out | exact Nat.zero_le _))).mono ?_; rintro e w3 ⟨a3, k3, us3, rfl, o3, b3⟩
 clear fKF0
 clear KF
 have hgb := KR.lt
 replace KR := KR.next b3
 replace B0 := B0.trans (b3.mono B0.size)
 clear b3
 have f0 := KR.free 0; have f1 := KR.free 1; have f2 := KR.free 2
 have c0 := KR.cell 0; have c1 := KR.cell 1; have c2 := KR.cell 2
 have KF := ((KR.set 0 (.int .i64 (n : Nat))).set 1 (.int .i64 (n : Nat))).set 2 (.slice a3 (n * n) k3)
 have d0 := KF.cell 0; have d1 := KF.cell 1; have d2 := KF.cell 2
 have of := ((o3.low (a := ⟨g, 0, none⟩) hgb (.int .i64 (n : Nat))).low (a := ⟨g, 1, none⟩) hgb (.int .i64 (n : Nat))).low (a := ⟨g, 2, none⟩) hgb (.slice a3 (n * n) k3)
 have BF := ((B0.setCell (p := ⟨g, 0, none⟩) hgw (.int .i64 (n : Nat))).setCell (p := ⟨g, 1, none⟩) hgw (.int .i64 (n : Nat))).setCell (p := ⟨g, 2, none⟩) hgw (.slice a3 (n * n) k3)
 have FR := Lib.hid (show RetXE p w n n L T (.returned (.tuple #[.agg #[.int .i64 (n : Nat), .int .i64 (n : Nat), .slice a3 (n * n) k3], .int .i64 0])) (((w3.setCell ⟨g, 0, none⟩ (.int .i64 (n : Nat))).setCell ⟨g, 1, none⟩ (.int .i64 (n : Nat))).setCell ⟨g, 2, none⟩ (.slice a3 (n * n) k3)) from ⟨a3, k3, us3, rfl, of.mono (by omega), BF⟩)
 clear KF KR of BF B0 o3
 go_wp2
 exact bodyPost_ret (v := .tuple #[.agg #[.int .i64 (n : Nat), .int .i64 (n : Nat), .slice a3 (n * n) k3], .int .i64 0]) (by simp [results, Try.results70, go_sem, d0, d1, d2]) rfl FR.out
end Go.Proofs.Ytkmfhabgempjiaa
/- xmat: what has no determinant; what is not formed. -/
namespace Go.Proofs.Ytkmfhabgempjiaa
set_option maxHeartbeats 1000000
open Go.RowKit
end Go.Proofs.Ytkmfhabgempjiaa
/- xmat.Mul. -/
namespace Go.Proofs.Ytkmfhabgempjiaa
set_option maxHeartbeats 1000000
open Go.RowKit
end Go.Proofs.Ytkmfhabgempjiaa
/- xmat.From. -/
namespace Go.Proofs.Ytkmfhabgempjiaa
set_option maxHeartbeats 1000000
open Go.RowKit
end Go.Proofs.Ytkmfhabgempjiaa
/- xmat.Char: the function that gives its places. -/
namespace Go.Proofs.Ytkmfhabgempjiaa
set_option maxHeartbeats 1000000
open Go.RowKit
theorem xm_Char1 (p i k : Nat) (w : World) (hp : FP p) (hi : i ≤ 100000) (hk : k ≤ 100000) (R1 : Int) (c : Nat) (xs : List Nat) (gF : Nat) (KF : Blk 29 w gF [.int .u64 p]) (gA : Nat) (aA : Option Addr) (cA : Nat) (KA : Blk 63 w gA [.int .i64 R1, .int .i64 c, .slice aA xs.length cA]) (hA : Fm w (.agg #[.int .i64 R1, .int .i64 c, .slice aA xs.length cA]) R1 c xs) (hc : c ≤ 100000) (hj : i * c + k < xs.length) (z : Nat) (hz : z = (-Zp.of p (xs.getD (i * c + k) 0)).val) :
  Calls Try.prog 166 #[.int .i64 i, .int .i64 k, .pointer (some ⟨gF, 0, none⟩), .pointer (some ⟨gA, 0, none⟩)] w (RetG w (if i = k then [z, 1] else [z])) := by
 have HP := Lib.hid hp; clear hp
 obtain ⟨u, eu, ao, b, off, cap, e2, hcap, hzc⟩ := hA
 simp only [Value.agg.injEq, Array.mk.injEq, List.cons.injEq, true_and, and_true] at eu
 rw [← eu] at e2
 simp only [Value.slice.injEq, true_and] at e2
 obtain ⟨rfl, rfl⟩ := e2
 have ha := hzc.ao (by intro h; rw [h] at hj; simp at hj)
 subst ha
 have hw : i * c ≤ 100000 * 100000 := Nat.mul_le_mul hi hc
 have ec : (i : Int) * (c : Int) = ((i * c : Nat) : Int) := by rw [Int.natCast_mul]
 have k3 : IntKind.i64.wrap ((i : Int) * (c : Int) + (k : Int)) = (i : Int) * (c : Int) + (k : Int) := by rw [ec]; exact IntWalk.i64_in _ ⟨by omega, by omega⟩
 have h1 : IntKind.i64.wrap ((i : Int) * (c : Int)) = (i : Int) * (c : Int) := by rw [ec]; exact IntWalk.i64_in _ ⟨by omega, by omega⟩
 have k0 : 0 ≤ (i : Int) * (c : Int) + (k : Int) := by rw [ec]; omega
 have k1 : (i : Int) * (c : Int) + (k : Int) < (xs.length : Int) := by rw [ec]; omega
 have k2 : ((i : Int) * (c : Int) + (k : Int)).toNat = i * c + k := by rw [ec]; omega
 clear ec
 have q0 := hzc.cell _ hj
 have bl := World.block_lt_of_cell? w _ q0
 obtain ⟨x, ex⟩ : ∃ x, x = xs.getD (i * c + k) 0 := ⟨_, rfl⟩
 rw [← ex] at q0 hz
 have HZ := Lib.hid hz
 clear hzc ex eu hz
 go_enter Try.func166, Try.ntmps166
 go_upto_region 1 with (fail)
 have B0 := dw w
 replace KA := KA.next B0; replace KF := KF.next B0
 have q1 := (B0.cell (p := ⟨b, off + (i * c + k), none⟩) bl).trans q0
 have bl2 : b < w.drew.heap.size := bl
 clear q0 bl
 refine startL (S := (fun w' => Below (w.drew).heap.size (w.drew) w')) (by kernel_rfl) (Below.refl _ _) (fun hHeld => ?_)
 refine tg 0 rfl (fun w hS => by have fa := KA.at hS; have f1 := fa 0; have f2 := fa 1; have f3 := fa 2; clear fa; have ff := KF.at hS; have f7 := ff 0; clear ff; have f9 := (hS.cell (p := ⟨b, off + (i * c + k), none⟩) bl2).trans q1; go_simp <;> with_reducible rfl) ?_
 refine tk 1 ?_
 refine tg 2 rfl (fun w hS => by have fa := KA.at hS; have f1 := fa 0; have f2 := fa 1; have f3 := fa 2; clear fa; have ff := KF.at hS; have f7 := ff 0; clear ff; have f9 := (hS.cell (p := ⟨b, off + (i * c + k), none⟩) bl2).trans q1; go_simp <;> with_reducible rfl) ?_
 refine tk 3 ?_
 refine tk 4 ?_
 refine tg 5 rfl (fun w hS => by have fa := KA.at hS; have f1 := fa 0; have f2 := fa 1; have f3 := fa 2; clear fa; have ff := KF.at hS; have f7 := ff 0; clear ff; have f9 := (hS.cell (p := ⟨b, off + (i * c + k), none⟩) bl2).trans q1; go_simp <;> with_reducible rfl) ?_
 refine tk 6 ?_
 refine tk 7 ?_
 refine tk 8 ?_
 refine tk 9 ?_
 refine tg 10 rfl (fun w hS => by have fa := KA.at hS; have f1 := fa 0; have f2 := fa 1; have f3 := fa 2; clear fa; have ff := KF.at hS; have f7 := ff 0; clear ff; have f9 := (hS.cell (p := ⟨b, off + (i * c + k), none⟩) bl2).trans q1; go_simp <;> with_reducible rfl) ?_
 refine on 11 fun K hK => ?_
 go_simp
 go_at_call 110
 (with_reducible refine (gfp_Neg p x z _ HP.out HZ.out).mono ?_); rintro e w2 ⟨rfl, b2⟩
 refine hK.out _ _ (hHeld.trans (b2.mono hHeld.size)) (fun hHeld => ?_)
 clear hK K
 try simp only [Act.put, zq1, zq2, zq3]
 refine tk 12 ?_
 refine doneL (by kernel_rfl) ?_ _
 replace B0 := B0.trans (hHeld.mono B0.size)
 clear hHeld KA KF b2 k0 k1 k2 k3 h1
 by_cases h : i = k
 ·subst h
  rw [if_pos rfl]
  have FIN := Lib.hid (show RetG w [z, 1] (.returned (.slice (some ⟨w2.heap.size, 0, none⟩) 2 2)) (w2.alloc (.cells #[.int .u64 z, .int .u64 1] 27)) from ⟨_, rfl, (own_lit2 w2 z 1).sl, B0.alloc B0.size _⟩)
  go_wp2
  go_ret
  exact FIN.out
 ·rw [if_neg h]
  have hne : ((i : Int) == (k : Int)) = false := by simp; omega
  have FIN := Lib.hid (show RetG w [z] (.returned (.slice (some ⟨w2.heap.size, 0, none⟩) 1 1)) (w2.alloc (.cells #[.int .u64 z] 27)) from ⟨_, rfl, (own_lit1 w2 z).sl, B0.alloc B0.size _⟩)
  go_wp2
  go_ret
  exact FIN.out
theorem xm_Char (p L : Nat) (a : Value) (n : Nat) (xs : List Nat) (w : World) (hp : FP p) (hA : Fm w a n n xs) (hr : n ≤ 64) (hx : xs.length = n * n) (hL : L ≤ 1000000000000) (hl : 2 ≤ L)
  (T : Nat → Pol (Zp p)) (hT : ∀ i k, i < n → k < n → T (i * n + k) = pl p (if i = k then [(-Zp.of p (xs.getD (i * n + k) 0)).val, 1] else [(-Zp.of p (xs.getD (i * n + k) 0)).val])) :
  Calls Try.prog 140 #[.agg #[.int .u64 p], a] w (RetXE p w n n L T) := by
 obtain ⟨aA, cA, rfl⟩ := hA.agg
 have HLL := Lib.hid hl; clear hl
 obtain ⟨wb, ew, KF, KA, KR, B0, hsz⟩ := boxes3 w 29 63 24 [.int .u64 p] [.int .i64 n, .int .i64 n, .slice aA xs.length cA] [.int .i64 0, .int .i64 0, .slice none 0 0]
 clear hsz
 replace hA := hA.next B0
 have HX := Lib.hid hx; have HL := Lib.hid hL; have HTT := Lib.hid hT; clear hx hL hT
 have hnn : ((n : Int) != (n : Int)) = false := by simp
 have HP := Lib.hid hp; clear hp
 go_enter Try.func140, Try.ntmps140
 go_wp2_with fail
 rw [← ew]
 obtain ⟨g, eg⟩ : ∃ g, g = w.heap.size + 1 + 1 := ⟨_, rfl⟩
 rw [← eg] at KR ⊢
 have hgw : w.heap.size ≤ g := by omega
 clear ew eg
 refine (fm_Formed_yes _ n n xs _ hA (Fd.of hr hr HX.out)).mono ?_; rintro e w2 ⟨rfl, b2⟩
 replace hA := hA.next b2; replace KF := KF.next b2; replace KA := KA.next b2; replace KR := KR.next b2
 replace B0 := B0.trans (b2.mono B0.size)
 clear b2
 have fKF0 := KF.cell 0; have fKA0 := KA.cell 0; have fKA1 := KA.cell 1
 go_wp2_with fail
 refine (xm_made p n n L HP.out (by omega) (by omega) HL.out 166 (enters_of Try.func166 rfl rfl) [.pointer (some ⟨w.heap.size, 0, none⟩), .pointer (some ⟨w.heap.size + 1, 0, none⟩)] T _ (fun i k w' hi hk hb => by
  rw [HTT.out i k hi hk]
  exact (xm_Char1 p i k w' HP.out (by omega) (by omega) n n xs _ (KF.next hb) _ _ _ (KA.next hb) (hA.next hb) (by omega) (at_lt HX.out hi hk) _ rfl).mono fun _ _ h => h.ps (by have := HLL.out; split <;> simp <;> omega))).mono ?_; rintro e w3 ⟨a3, k3, us3, rfl, o3, b3⟩
 clear fKF0 fKA0 fKA1
 clear KF KA hA
 have hgb := KR.lt
 replace KR := KR.next b3
 replace B0 := B0.trans (b3.mono B0.size)
 clear b3
 have f0 := KR.free 0; have f1 := KR.free 1; have f2 := KR.free 2
 have c0 := KR.cell 0; have c1 := KR.cell 1; have c2 := KR.cell 2
 have KF := ((KR.set 0 (.int .i64 (n : Nat))).set 1 (.int .i64 (n : Nat))).set 2 (.slice a3 (n * n) k3)
 have d0 := KF.cell 0; have d1 := KF.cell 1; have d2 := KF.cell 2
 have of := ((o3.low (a := ⟨g, 0, none⟩) hgb (.int .i64 (n : Nat))).low (a := ⟨g, 1, none⟩) hgb (.int .i64 (n : Nat))).low (a := ⟨g, 2, none⟩) hgb (.slice a3 (n * n) k3)
 have BF := ((B0.setCell (p := ⟨g, 0, none⟩) hgw (.int .i64 (n : Nat))).setCell (p := ⟨g, 1, none⟩) hgw (.int .i64 (n : Nat))).setCell (p := ⟨g, 2, none⟩) hgw (.slice a3 (n * n) k3)
 have FR := Lib.hid (show RetXE p w n n L T (.returned (.tuple #[.agg #[.int .i64 (n : Nat), .int .i64 (n : Nat), .slice a3 (n * n) k3], .int .i64 0])) (((w3.setCell ⟨g, 0, none⟩ (.int .i64 (n : Nat))).setCell ⟨g, 1, none⟩ (.int .i64 (n : Nat))).setCell ⟨g, 2, none⟩ (.slice a3 (n * n) k3)) from ⟨a3, k3, us3, rfl, of.mono (by omega), BF⟩)
 clear KF KR of BF B0 o3
 go_wp2
 exact bodyPost_ret (v := .tuple #[.agg #[.int .i64 (n : Nat), .int .i64 (n : Nat), .slice a3 (n * n) k3], .int .i64 0]) (by simp [results, Try.results140, go_sem, d0, d1, d2]) rfl FR.out
end Go.Proofs.Ytkmfhabgempjiaa
/- slices.EqualFunc over polynomials, with the function of xmat.Same. -/
namespace Go.Proofs.Ytkmfhabgempjiaa
set_option maxHeartbeats 1000000
open Go.RowKit
end Go.Proofs.Ytkmfhabgempjiaa
/- xmat: Eval, Degree, At; Char, Mul, Eval of what has none. -/
namespace Go.Proofs.Ytkmfhabgempjiaa
set_option maxHeartbeats 1000000
open Go.RowKit
def xdg (p : Nat) (xs : List (List Nat)) : Nat → Int
 | 0 => -1
 | n + 1 => max (xdg p xs n) (((nl p (xs.getD n [])).length : Int) - 1)
theorem xdg_lo (p : Nat) (xs : List (List Nat)) : ∀ n, -1 ≤ xdg p xs n
 | 0 => Int.le_refl _
 | n + 1 => by have := xdg_lo p xs n; unfold xdg; omega
set_option maxRecDepth 20000 in
theorem xm_Degree (p : Nat) (a : Value) (R C : Int) (xs : List (List Nat)) (w : World) (hp : FP p) (hA : Xm w a R C xs) (hF : Fd R C xs.length) (hl : ∀ j, j < xs.length → (xs.getD j []).length ≤ 1000000000000) (hm : xs.length ≤ 1000000000000) (d : Int) (hd : d = xdg p xs xs.length) :
  Calls Try.prog 167 #[.agg #[.int .u64 p], a] w (RetW w (.int .i64 d)) := by
 obtain ⟨aA, cA, rfl⟩ := hA.agg
 have HLL := Lib.hid hl; have HP := Lib.hid hp; have HD := Lib.hid hd; clear hl hp hd
 obtain ⟨wb, ew, KF, KA, B0, hsz⟩ := boxes2 w 29 24 [.int .u64 p] [.int .i64 R, .int .i64 C, .slice aA xs.length cA]
 clear hsz
 replace hA := hA.next B0
 go_enter Try.func167, Try.ntmps167
 go_upto_region 2 with (fail)
 rw [← ew]
 obtain ⟨gF, egF⟩ : ∃ gF, gF = w.heap.size := ⟨_, rfl⟩
 rw [← egF] at KF KA ⊢
 clear ew egF
 have q0 := KA.cell 0; have q1 := KA.cell 1; have q2 := KA.cell 2
 go_wp2_with fail
 refine (xm_Formed_yes _ R C xs _ hA hF).mono ?_; rintro e w2 ⟨rfl, b2⟩
 replace hA := hA.next b2; replace KF := KF.next b2; replace KA := KA.next b2
 replace B0 := B0.trans (b2.mono B0.size)
 clear b2
 clear q0 q1 q2
 have q2 := KA.cell 2
 obtain ⟨ux, eu, ao, bo, off, cap, U, e2, hcap, hao, hat⟩ := hA
 simp only [Value.agg.injEq, Array.mk.injEq, List.cons.injEq, true_and, and_true] at eu
 rw [← eu] at e2
 simp only [Value.slice.injEq, true_and] at e2
 obtain ⟨rfl, rfl⟩ := e2
 have HAT := Lib.hid hat; have HAO := Lib.hid hao
 clear eu hat hao KA
 go_wp2
 go_loopw [13, 5] (fun jv dv wr => ∃ (j : Nat) (e : Int), j ≤ xs.length ∧ jv = .int .i64 j ∧ dv = .int .i64 e ∧ Hid (e = xdg p xs j) ∧ Below w2.heap.size w2 wr) (fun jv _ _ => xs.length - (intOf jv).toNat)
 case atStart => exact ⟨0, -1, by omega, rfl, rfl, Lib.hid rfl, Below.refl _ _⟩
 case round =>
  obtain ⟨j, e, hj, rfl, rfl, HE, BT⟩ := hrel
  by_cases hjn : j < xs.length
  ·obtain ⟨rfl, hbl⟩ := HAO.out (by omega)
   obtain ⟨q0, s0, -⟩ := HAT.out j hjn
   have q1 := (BT.cell (p := ⟨bo, off + j, none⟩) hbl).trans q0
   have f0 := (KF.next BT).cell 0
   have hly := HLL.out j hjn
   obtain ⟨n, en⟩ : ∃ n : Nat, n = (nl p (xs.getD j [])).length := ⟨_, rfl⟩
   obtain ⟨e', ee⟩ : ∃ e', e' = max e ((n : Int) - 1) := ⟨_, rfl⟩
   have HN := Lib.hid (show e' = xdg p xs (j + 1) by rw [ee, HE.out, en]; rfl)
   have hn2 : n ≤ 1000000000000 := by rw [en]; exact Nat.le_trans (nl_len p _) hly
   clear q0
   go_wp2_with fail
   refine (fp_Degree p (U j) (xs.getD j []) (nl p (xs.getD j [])) wr HP.out (s0.below BT (Nat.le_refl _)) hly rfl).mono ?_; rintro e3 w3 ⟨rfl, b3⟩
   rw [← en]
   have B3 := BT.trans (b3.mono BT.size)
   clear b3 q1 f0 BT s0 en
   by_cases hc : e < (n : Int) - 1
   ·have hn3 : e' = (n : Int) - 1 := by omega
    rw [hn3] at HN
    clear hn3 ee
    go_wp2
    all_goals go_roundw
    all_goals first | (case rel => exact ⟨j + 1, _, by omega, by go_num, rfl, HN, B3⟩) | (case measure => simp [intOf] <;> omega) | skip
   ·have hn3 : e' = e := by omega
    rw [hn3] at HN
    clear hn3 ee
    go_wp2
    all_goals go_roundw
    all_goals first | (case rel => exact ⟨j + 1, _, by omega, by go_num, rfl, HN, B3⟩) | (case measure => simp [intOf] <;> omega) | skip
  ·obtain rfl : j = xs.length := by omega
   obtain rfl : e = d := by rw [HE.out, HD.out]
   have B1 := B0.trans (BT.mono B0.size)
   clear BT HE
   go_wp2
   go_ret
   exact ⟨rfl, B1⟩
theorem xm_At (p i k : Nat) (a : Value) (r c : Nat) (xs : List (List Nat)) (w : World) (hp : FP p) (hA : Xm w a r c xs) (hr : r ≤ 64) (hc : c ≤ 64) (hx : xs.length = r * c) (hi : i < r) (hk : k < c) (hl : (xs.getD (i * c + k) []).length ≤ 1000000000000) :
  Calls Try.prog 28 #[.agg #[.int .u64 p], a, .int .i64 i, .int .i64 k] w (RetP p w (xs.getD (i * c + k) []).length (pl p (xs.getD (i * c + k) []))) := by
 obtain ⟨aA, cA, rfl⟩ := hA.agg
 have HX := Lib.hid hx; have HP := Lib.hid hp; clear hx hp
 obtain ⟨ys, ey⟩ : ∃ ys, ys = xs.getD (i * c + k) [] := ⟨_, rfl⟩
 rw [← ey] at hl ⊢
 have EY := Lib.hid ey; clear ey
 obtain ⟨wb, ew, KF, KA, B0, hsz⟩ := boxes2 w 29 24 [.int .u64 p] [.int .i64 r, .int .i64 c, .slice aA xs.length cA]
 clear hsz
 replace hA := hA.next B0
 have d0 : decide ((i : Int) < 0) = false := decide_eq_false (by omega)
 have d1 : decide ((i : Int) ≥ (r : Int)) = false := decide_eq_false (by omega)
 have d2 : decide ((k : Int) < 0) = false := decide_eq_false (by omega)
 have d3 : decide ((k : Int) ≥ (c : Int)) = false := decide_eq_false (by omega)
 go_enter Try.func28, Try.ntmps28
 go_upto_region 1 with (fail)
 rw [← ew]
 obtain ⟨gF, egF⟩ : ∃ gF, gF = w.heap.size := ⟨_, rfl⟩
 rw [← egF] at KF KA ⊢
 clear ew egF
 have q0 := KA.cell 0; have q1 := KA.cell 1; have q2 := KA.cell 2
 go_wp2_with fail
 refine (xm_Formed_yes _ r c xs _ hA (Fd.of hr hc HX.out)).mono ?_; rintro e w2 ⟨rfl, b2⟩
 replace hA := hA.next b2; replace KF := KF.next b2; replace KA := KA.next b2
 replace B0 := B0.trans (b2.mono B0.size)
 clear b2
 clear q0 q1 q2
 have q0 := KA.cell 0; have q1 := KA.cell 1; have q2 := KA.cell 2
 go_upto_region 3 with (fail)
 clear q0 q1 q2
 have bd := dw w2
 replace KF := KF.next bd; replace KA := KA.next bd; replace hA := hA.next bd
 replace B0 := B0.trans (bd.mono B0.size)
 clear bd
 have z0 := Lib.hid fun (w : World) (hS : Below (w2.drew).heap.size (w2.drew) w) => And.intro ((KA.at hS) 0) (And.intro ((KA.at hS) 1) (And.intro ((KA.at hS) 2) ((KF.at hS) 0)))
 refine startL (S := (fun w' => Below (w2.drew).heap.size (w2.drew) w')) (by kernel_rfl) (Below.refl _ _) (fun hHeld => ?_)
 refine tf 0 z0.out ?_
 refine tf 1 z0.out ?_
 refine tk 2 ?_
 refine tk 3 ?_
 refine on 4 fun K hK => ?_
 go_simp
 go_at_call 81
 (with_reducible refine (xm_get _ r c i k xs _ (hA.next hHeld) (by omega) (by omega) (by omega) (at_lt HX.out hi hk)).mono ?_); rintro e w3 ⟨u3, rfl, s3, b3⟩; rw [← EY.out] at s3; have hz3 := Nat.le_trans B0.size (hHeld.trans (b3.mono hHeld.size)).size
 refine hK.out _ _ (hHeld.trans (b3.mono hHeld.size)) (fun hHeld => ?_)
 clear hK K
 try simp only [Act.put, zq1, zq2, zq3]
 refine on 5 fun K hK => ?_
 go_simp
 go_at_call 80
 (with_reducible refine (fp_Norm p u3 ys _ HP.out s3 (by omega)).mono ?_); rintro e w4 ⟨r4, z4, rfl, o4, n4, v4, l4, b4⟩
 refine hK.out _ _ (hHeld.trans (b4.mono hHeld.size)) (fun hHeld => ?_)
 clear hK K
 try simp only [Act.put, zq1, zq2, zq3]
 refine tk 6 ?_
 clear z0; refine doneL (by kernel_rfl) ?_ _
 replace B0 := B0.trans (hHeld.mono B0.size)
 have FIN := Lib.hid (show RetP p w ys.length (pl p ys) (.returned r4) w4 from ⟨r4, z4, rfl, o4.mono hz3, n4, v4, l4, B0⟩)
 clear B0 o4 l4 v4 n4 hHeld KF KA hA
 go_wp2
 go_ret
 exact FIN.out
end Go.Proofs.Ytkmfhabgempjiaa
/- Rows of polynomials that are owned: what a call of xform works on. -/
namespace Go.Proofs.Ytkmfhabgempjiaa
set_option maxHeartbeats 1000000
open Go.RowKit
def Vn (p : Nat) (w : World) (base : Nat) (u : Value) (f : Pol (Zp p)) : Prop := ∃ zs, Own .u64 27 w base u zs ∧ Nrm p zs ∧ pl p zs = f
structure Chg (w w' : World) (S : Nat → Prop) : Prop where
 os : w'.os = w.os
 tape : w'.tape = w.tape
 output : w'.output = w.output
 size : w.heap.size ≤ w'.heap.size
 block : ∀ k, k < w.heap.size → ¬ S k → w'.heap[k]? = w.heap[k]?
theorem Chg.refl (w : World) (S : Nat → Prop) : Chg w w S := ⟨rfl, rfl, rfl, Nat.le_refl _, fun _ _ _ => rfl⟩
theorem Chg.trans {a b c : World} {S : Nat → Prop} (h : Chg a b S) (k : Chg b c S) : Chg a c S :=
 ⟨k.os.trans h.os, k.tape.trans h.tape, k.output.trans h.output, Nat.le_trans h.size k.size, fun i hi hn => (k.block i (Nat.lt_of_lt_of_le hi h.size) hn).trans (h.block i hi hn)⟩
theorem Chg.mono {a b : World} {S T : Nat → Prop} (h : Chg a b S) (k : ∀ i, i < a.heap.size → S i → T i) : Chg a b T := ⟨h.os, h.tape, h.output, h.size, fun i hi hn => h.block i hi fun hs => hn (k i hi hs)⟩
theorem Chg.of {a b : World} (h : Below a.heap.size a b) (S : Nat → Prop) : Chg a b S := ⟨h.os, h.tape, h.output, h.size, fun i hi _ => h.block i hi⟩
theorem Chg.grown {a b : World} {row : Option Nat} (h : a.grownBy b row) : Chg a b (fun i => row = some i) := ⟨h.os, h.tape, h.output, h.size, fun i hi hn => h.block i hi fun e => hn e.symm⟩
theorem Chg.setCell (w : World) (a : Addr) (u : Value) : Chg w (w.setCell a u) (fun i => i = a.block) :=
 ⟨rfl, rfl, rfl, by simp [World.setCell], fun i _ hn => Below.heap_setCell w a u i hn⟩
theorem Chg.below {a b : World} {S : Nat → Prop} {B : Nat} (h : Chg a b S) (hS : ∀ i, i < a.heap.size → S i → B ≤ i) (hB : B ≤ a.heap.size) : Below B a b :=
 ⟨h.os, h.tape, h.output, h.size, fun i hi => h.block i (by omega) fun hs => by have := hS i (by omega) hs; omega⟩
theorem rowOwn_chg {w w' : World} {base : Nat} {e : TypeId} {size n : Nat} {v : Value} {xs : List Value} {S : Nat → Prop} (h : w.ownsRow base e size v n xs) (hc : Chg w w' S) (hn : ∀ b, v.ownBlock = some b → ¬ S b) : w'.ownsRow base e size v n xs := by
 refine ⟨h.1, ?_⟩
 rcases h.2 with h1 | ⟨g, cap, cur, rfl, hb, hg, rest⟩
 ·exact .inl h1
 ·exact .inr ⟨g, cap, cur, rfl, hb, by rw [hc.block g (Array.getElem?_eq_some_iff.1 hg).1 (hn g rfl)]; exact hg, rest⟩
def Tyb (w : World) (e : TypeId) (b : Nat) : Prop := ∃ cur, w.heap[b]? = some (.cells cur e (0, 0))
theorem rowOwn_tyb {w : World} {base : Nat} {e : TypeId} {size n b : Nat} {v : Value} {xs : List Value} (h : w.ownsRow base e size v n xs) (hv : v.ownBlock = some b) : Tyb w e b ∧ base ≤ b ∧ b < w.heap.size := by
 rcases h.2 with ⟨rfl, _⟩ | ⟨g, cap, cur, rfl, hb, hg, _⟩
 ·simp [Value.ownBlock] at hv
 ·simp [Value.ownBlock] at hv
  subst hv
  exact ⟨⟨cur, hg⟩, hb, (Array.getElem?_eq_some_iff.1 hg).1⟩
theorem Tyb.ne {w : World} {e e' : TypeId} {b c : Nat} (h : Tyb w e b) (k : Tyb w e' c) (hne : e ≠ e') : b ≠ c := by
 obtain ⟨x, hx⟩ := h; obtain ⟨y, hy⟩ := k
 intro hbc; subst hbc; rw [hx] at hy; simp at hy; exact hne hy.2
theorem rowOwn_chgT {w w' : World} {base : Nat} {e e' : TypeId} {size n : Nat} {v : Value} {xs : List Value} {S : Nat → Prop} (h : w.ownsRow base e size v n xs) (hc : Chg w w' S) (hS : ∀ b, b < w.heap.size → S b → Tyb w e' b) (hne : e ≠ e') : w'.ownsRow base e size v n xs :=
 rowOwn_chg h hc fun b hb hs => by
  obtain ⟨h1, _, h3⟩ := rowOwn_tyb h hb
  exact h1.ne (hS b h3 hs) hne rfl
theorem Blk.chg {e : TypeId} {w w' : World} {g : Nat} {vs : List Value} {S : Nat → Prop} (h : Blk e w g vs) (hc : Chg w w' S) (hn : ¬ S g) : Blk e w' g vs := by
 have hl := h.lt
 unfold Blk at h ⊢
 rw [hc.block g hl hn]; exact h
theorem Blk.tyb {e : TypeId} {w : World} {g : Nat} {vs : List Value} (h : Blk e w g vs) : Tyb w e g := ⟨_, h⟩
section
variable {p : Nat} {w w' : World} {base : Nat} {u : Value} {f : Pol (Zp p)}
theorem Vn.next (h : Vn p w base u f) (hb : Below w.heap.size w w') : Vn p w' base u f := by
 obtain ⟨zs, h1, h2⟩ := h; exact ⟨zs, h1.next hb, h2⟩
theorem Vn.mono {base' : Nat} (h : Vn p w base u f) (hb : base' ≤ base) : Vn p w base' u f := by
 obtain ⟨zs, h1, h2⟩ := h; exact ⟨zs, h1.mono hb, h2⟩
theorem Vn.chg {S : Nat → Prop} {e : TypeId} (h : Vn p w base u f) (hc : Chg w w' S) (hS : ∀ b, b < w.heap.size → S b → Tyb w e b) (hne : 27 ≠ e) : Vn p w' base u f := by
 obtain ⟨zs, h1, h2⟩ := h; exact ⟨zs, rowOwn_chgT h1 hc hS hne, h2⟩
theorem Vn.chgS {S : Nat → Prop} (h : Vn p w base u f) (hc : Chg w w' S) (hS : ∀ b, b < w.heap.size → S b → ¬ Tyb w 27 b) : Vn p w' base u f := by
 obtain ⟨zs, h1, h2⟩ := h
 exact ⟨zs, rowOwn_chg h1 hc fun b hb hs => by
  obtain ⟨h3, _, h4⟩ := rowOwn_tyb h1 hb
  exact hS b h4 hs h3, h2⟩
theorem Vn.one (h : Vn p w base u f) : u.oneCell' = true := by
 obtain ⟨zs, h1, _⟩ := h; obtain ⟨a, c, rfl⟩ := h1.sliced; rfl
theorem Vn.open (h : Vn p w base u f) : ∃ a n c zs, u = .slice a n c ∧ zs.length = n ∧ Own .u64 27 w base (.slice a n c) zs ∧ Nrm p zs ∧ pl p zs = f := by
 obtain ⟨zs, h1, h2⟩ := h; obtain ⟨a, c, rfl⟩ := h1.sliced; exact ⟨a, zs.length, c, zs, rfl, rfl, h1, h2⟩
end
theorem rowL_set {n k : Nat} (U : Nat → Value) (y : Value) : (rowL n U).set k y = rowL n (fun a => if a = k then y else U a) := by
 refine List.ext_getElem? fun j => ?_
 by_cases hj : j < n
 ·rw [rowL_get hj, List.getElem?_set]
  by_cases e : k = j
  ·rw [if_pos e, if_pos (by rw [rowL_length]; omega), if_pos e.symm]
  ·rw [if_neg e, rowL_get hj, if_neg (fun h => e h.symm)]
 ·rw [List.getElem?_eq_none (by rw [List.length_set, rowL_length]; omega), List.getElem?_eq_none (by rw [rowL_length]; omega)]
structure Xr (p : Nat) (w : World) (base : Nat) (rv : Value) (n : Nat) (N : Nat → Nat) (U : Nat → Value) (E : Nat → Nat → Value) (W : Nat → Nat → Pol (Zp p)) : Prop where
 own : w.ownsRow base 22 1 rv n (rowL n U)
 row : ∀ i, i < n → w.ownsRow base 43 1 (U i) (N i) (rowL (N i) (E i))
 sep : ∀ i j, i < n → j < n → i ≠ j → ∀ b, (U i).ownBlock = some b → (U j).ownBlock ≠ some b
 el : ∀ i k, i < n → k < N i → Vn p w base (E i k) (W i k)
section
variable {p : Nat} {w w' : World} {base n : Nat} {rv : Value} {N : Nat → Nat} {U : Nat → Value} {E : Nat → Nat → Value} {W : Nat → Nat → Pol (Zp p)}
theorem Xr.next (h : Xr p w base rv n N U E W) (hb : Below w.heap.size w w') : Xr p w' base rv n N U E W :=
 ⟨rowOwn_next h.own hb (Nat.le_refl _), fun i hi => rowOwn_next (h.row i hi) hb (Nat.le_refl _), h.sep, fun i k hi hk => (h.el i k hi hk).next hb⟩
theorem Xr.mono {base' : Nat} (h : Xr p w base rv n N U E W) (hb : base' ≤ base) : Xr p w base' rv n N U E W :=
 ⟨rowOwn_mono h.own hb, fun i hi => rowOwn_mono (h.row i hi) hb, h.sep, fun i k hi hk => (h.el i k hi hk).mono hb⟩
theorem Xr.congr {N' : Nat → Nat} {U' : Nat → Value} {E' : Nat → Nat → Value} {W' : Nat → Nat → Pol (Zp p)} (h : Xr p w base rv n N U E W) (hN : ∀ i, i < n → N' i = N i) (hU : ∀ i, i < n → U' i = U i) (hE : ∀ i k, i < n → k < N i → E' i k = E i k) (hW : ∀ i k, i < n → k < N i → W' i k = W i k) : Xr p w base rv n N' U' E' W' :=
 ⟨by rw [rowL_congr hU]; exact h.own, fun i hi => by rw [hU i hi, hN i hi, rowL_congr (hE i · hi)]; exact h.row i hi, fun i j hi hj hne b hb => by
  rw [hU i hi] at hb; rw [hU j hj]; exact h.sep i j hi hj hne b hb, fun i k hi hk => by
  rw [hN i hi] at hk
  rw [hE i k hi hk, hW i k hi hk]; exact h.el i k hi hk⟩
theorem Xr.nil (w : World) (base : Nat) (N : Nat → Nat) (U : Nat → Value) (E : Nat → Nat → Value) (W : Nat → Nat → Pol (Zp p)) : Xr p w base (.slice none 0 0) 0 N U E W :=
 ⟨World.ownsRow_nil _ _ _ _, fun i hi => absurd hi (by omega), fun i j hi => absurd hi (by omega), fun i k hi => absurd hi (by omega)⟩
theorem Xr.slc (h : Xr p w base rv n N U E W) : ∃ a c, rv = .slice a n c := by
 rcases rowOwn_shape h.own with ⟨e1, e2⟩ | ⟨_, _, e1, _⟩
 ·exact ⟨none, 0, by rw [e1, e2]⟩
 ·exact ⟨_, _, e1⟩
theorem Xr.hdr (h : Xr p w base rv n N U E W) {i : Nat} (hi : i < n) : ∃ g cap, rv = .slice (some ⟨g, 0, none⟩) n cap ∧ base ≤ g ∧ g < w.heap.size ∧ n ≤ cap ∧ Tyb w 22 g ∧ (∀ j, j < n → w.cell? ⟨g, j, none⟩ = some (U j)) ∧ ∀ j, w.frozen? ⟨g, j, none⟩ = false := by
 rcases rowOwn_shape h.own with ⟨_, e2⟩ | ⟨g, cap, rfl, h1, h2, h3⟩
 ·omega
 ·exact ⟨g, cap, rfl, h1, h2, h3, (rowOwn_tyb h.own rfl).1, fun j hj => by rw [World.ownsRow.cellAt h.own j (by omega), rowL_get hj], fun j => World.ownsRow.frozenAt h.own j⟩
theorem Xr.rslc (h : Xr p w base rv n N U E W) {i : Nat} (hi : i < n) : ∃ a c, U i = .slice a (N i) c := by
 rcases rowOwn_shape (h.row i hi) with ⟨e1, e2⟩ | ⟨_, _, e1, _⟩
 ·exact ⟨none, 0, by rw [e1, e2]⟩
 ·exact ⟨_, _, e1⟩
theorem Xr.at (h : Xr p w base rv n N U E W) {i : Nat} (hi : i < n) (hN : 0 < N i) : ∃ b cap, U i = .slice (some ⟨b, 0, none⟩) (N i) cap ∧ base ≤ b ∧ b < w.heap.size ∧ N i ≤ cap ∧ Tyb w 43 b ∧ (∀ k, k < N i → w.cell? ⟨b, k, none⟩ = some (E i k)) ∧ ∀ k, w.frozen? ⟨b, k, none⟩ = false := by
 have hr := h.row i hi
 rcases rowOwn_shape hr with ⟨_, e2⟩ | ⟨b, cap, e, h1, h2, h3⟩
 ·omega
 ·rw [e] at hr
  exact ⟨b, cap, e, h1, h2, h3, (rowOwn_tyb hr rfl).1, fun k hk => by rw [World.ownsRow.cellAt hr k (by omega), rowL_get hk], fun k => World.ownsRow.frozenAt hr k⟩
def Xbl (rv : Value) (n : Nat) (U : Nat → Value) (b : Nat) : Prop := rv.ownBlock = some b ∨ ∃ i, i < n ∧ (U i).ownBlock = some b
theorem Xr.blk (h : Xr p w base rv n N U E W) {b : Nat} (hb : Xbl rv n U b) : base ≤ b ∧ b < w.heap.size ∧ (Tyb w 22 b ∨ Tyb w 43 b) := by
 rcases hb with h1 | ⟨i, hi, h1⟩
 ·obtain ⟨h2, h3, h4⟩ := rowOwn_tyb h.own h1; exact ⟨h3, h4, .inl h2⟩
 ·obtain ⟨h2, h3, h4⟩ := rowOwn_tyb (h.row i hi) h1; exact ⟨h3, h4, .inr h2⟩
theorem Xr.chg {S : Nat → Prop} (h : Xr p w base rv n N U E W) (hc : Chg w w' S) (hS : ∀ b, b < w.heap.size → S b → ¬ Xbl rv n U b ∧ ¬ Tyb w 27 b) : Xr p w' base rv n N U E W := by
 have hlt : ∀ {b}, Xbl rv n U b → ¬ S b := fun hb hs => (hS _ (h.blk hb).2.1 hs).1 hb
 exact ⟨rowOwn_chg h.own hc fun b hb => hlt (.inl hb), fun i hi => rowOwn_chg (h.row i hi) hc fun b hb => hlt (.inr ⟨i, hi, hb⟩), h.sep, fun i k hi hk => (h.el i k hi hk).chgS hc fun b h1 h2 => (hS b h1 h2).2⟩
theorem Xr.setE (h : Xr p w base rv n N U E W) {i k b cap : Nat} (hi : i < n) (hk : k < N i) (hU : U i = .slice (some ⟨b, 0, none⟩) (N i) cap) {y : Value} {f : Pol (Zp p)} (hy : Vn p w base y f) :
  Xr p (w.setCell ⟨b, k, none⟩ y) base rv n N U (fun a c => if a = i ∧ c = k then y else E a c) (fun a c => if a = i ∧ c = k then f else W a c) := by
 have hr := h.row i hi
 rw [hU] at hr
 have hc : Chg w (w.setCell ⟨b, k, none⟩ y) (fun j => j = b) := Chg.setCell w ⟨b, k, none⟩ y
 have hbt : Tyb w 43 b := (rowOwn_tyb hr rfl).1
 have keep : ∀ {u : Value} {g : Pol (Zp p)}, Vn p w base u g → Vn p (w.setCell ⟨b, k, none⟩ y) base u g := fun hu => hu.chg hc (e := 43) (fun c _ hcb => by rw [hcb]; exact hbt) (by decide)
 refine ⟨rowOwn_chgT h.own hc (e' := 43) (fun c _ hcb => by rw [hcb]; exact hbt) (by decide), fun a ha => ?_, h.sep, fun a c ha hc' => ?_⟩
 ·by_cases e : a = i
  ·subst e
   rw [hU]
   have := (World.ownsRow.stored hr k y).1
   have e2 : (rowL (N a) (E a)).set k y = rowL (N a) (fun c => if a = a ∧ c = k then y else E a c) := by
    rw [rowL_set]; exact rowL_congr fun c _ => by simp
   rw [e2] at this
   exact this
  ·have h1 := h.row a ha
   have h2 : rowL (N a) (fun c => if a = i ∧ c = k then y else E a c) = rowL (N a) (E a) := rowL_congr fun c _ => if_neg fun h => e h.1
   show World.ownsRow _ _ _ _ (U a) (N a) (rowL (N a) (fun c => if a = i ∧ c = k then y else E a c))
   rw [h2]
   exact rowOwn_chg h1 hc fun c hcb hcs => by
    subst hcs
    exact h.sep a i ha hi e c hcb (by rw [hU]; rfl)
 ·show Vn p _ base (if a = i ∧ c = k then y else E a c) (if a = i ∧ c = k then f else W a c)
  split
  ·exact keep hy
  ·exact keep (h.el a c ha hc')
theorem Xr.setU (h : Xr p w base rv n N U E W) {i g cap M : Nat} (hrv : rv = .slice (some ⟨g, 0, none⟩) n cap) {r : Value} {F : Nat → Value} {R : Nat → Pol (Zp p)}
  (hr : w.ownsRow base 43 1 r M (rowL M F)) (hs : ∀ j, j < n → j ≠ i → ∀ b, r.ownBlock = some b → (U j).ownBlock ≠ some b) (he : ∀ k, k < M → Vn p w base (F k) (R k)) :
  Xr p (w.setCell ⟨g, i, none⟩ r) base rv n (fun a => if a = i then M else N a) (fun a => if a = i then r else U a) (fun a => if a = i then F else E a) (fun a => if a = i then R else W a) := by
 have ho := h.own
 rw [hrv] at ho
 have hc : Chg w (w.setCell ⟨g, i, none⟩ r) (fun j => j = g) := Chg.setCell w ⟨g, i, none⟩ r
 have hgt : Tyb w 22 g := (rowOwn_tyb ho rfl).1
 have keep : ∀ {u : Value} {q : Pol (Zp p)}, Vn p w base u q → Vn p (w.setCell ⟨g, i, none⟩ r) base u q := fun hu => hu.chg hc (e := 22) (fun c _ hcb => by rw [hcb]; exact hgt) (by decide)
 have keepR : ∀ {v : Value} {m : Nat} {xs : List Value}, w.ownsRow base 43 1 v m xs → (w.setCell ⟨g, i, none⟩ r).ownsRow base 43 1 v m xs := fun hv => rowOwn_chgT hv hc (e' := 22) (fun c _ hcb => by rw [hcb]; exact hgt) (by decide)
 refine ⟨?_, fun a ha => ?_, fun a b ha hb hne c hac => ?_, fun a c ha hc' => ?_⟩
 ·have := (World.ownsRow.stored ho i r).1
  rw [rowL_set] at this
  rw [hrv]; exact this
 ·by_cases e : a = i
  ·simp only [e, if_true]; exact keepR hr
  ·simp only [e, if_false]; exact keepR (h.row a ha)
 ·by_cases e : a = i
  ·have e2 : b ≠ i := by omega
   simp only [e, if_true] at hac
   simp only [e2, if_false]
   exact hs b hb e2 c hac
  ·simp only [e, if_false] at hac
   by_cases e2 : b = i
   ·simp only [e2, if_true]
    intro h2
    exact hs a ha e c h2 hac
   ·simp only [e2, if_false]
    exact h.sep a b ha hb hne c hac
 ·by_cases e : a = i
  ·simp only [e, if_true] at hc' ⊢; exact keep (he c hc')
  ·simp only [e, if_false] at hc' ⊢; exact keep (h.el a c ha hc')
theorem Xr.push {w1 w2 : World} {b1 M : Nat} {rv' r : Value} {F : Nat → Value} {R : Nat → Pol (Zp p)} (h : Xr p w base rv n N U E W) (hb : Below w.heap.size w w1) (hr : w1.ownsRow b1 43 1 r M (rowL M F)) (hb1 : w.heap.size ≤ b1) (hbase : base ≤ w.heap.size) (he : ∀ k, k < M → Vn p w1 b1 (F k) (R k))
  (hg : w1.grownBy w2 rv.ownBlock) (ho : w2.ownsRow base 22 1 rv' (n + 1) (rowL n U ++ [r])) :
  Xr p w2 base rv' (n + 1) (fun a => if a = n then M else N a) (fun a => if a = n then r else U a) (fun a => if a = n then F else E a) (fun a => if a = n then R else W a) := by
 have h1 := h.next hb
 have hc := Chg.grown hg
 have hS : ∀ b, b < w1.heap.size → rv.ownBlock = some b → Tyb w1 22 b := fun b _ hb => (rowOwn_tyb h1.own hb).1
 have keep : ∀ {u : Value} {q : Pol (Zp p)} {c : Nat}, Vn p w1 c u q → Vn p w2 c u q := fun hu => hu.chg hc (e := 22) hS (by decide)
 have keepR : ∀ {v : Value} {m c : Nat} {xs : List Value}, w1.ownsRow c 43 1 v m xs → w2.ownsRow c 43 1 v m xs := fun hv => rowOwn_chgT hv hc (e' := 22) hS (by decide)
 refine ⟨?_, fun a ha => ?_, fun a b ha hb hne c hac => ?_, fun a c ha hc' => ?_⟩
 ·rw [rowL_snoc, if_pos rfl, rowL_congr (V := U) (fun k hk => if_neg (by omega))]; exact ho
 ·by_cases e : a = n
  ·simp only [e, if_true]; exact rowOwn_mono (keepR hr) (by omega)
  ·simp only [e, if_false]; exact keepR (h1.row a (by omega))
 ·by_cases e : a = n
  ·have e2 : b ≠ n := by omega
   simp only [e, if_true] at hac
   simp only [e2, if_false]
   intro h2
   have a1 := (rowOwn_tyb hr hac).2.1
   have a2 := (rowOwn_tyb (h.row b (by omega)) h2).2.2
   omega
  ·simp only [e, if_false] at hac
   by_cases e2 : b = n
   ·simp only [e2, if_true]
    intro h2
    have a1 := (rowOwn_tyb hr h2).2.1
    have a2 := (rowOwn_tyb (h.row a (by omega)) hac).2.2
    omega
   ·simp only [e2, if_false]
    exact h1.sep a b (by omega) (by omega) hne c hac
 ·by_cases e : a = n
  ·simp only [e, if_true] at hc' ⊢; exact (keep (he c hc')).mono (by omega)
  ·simp only [e, if_false] at hc' ⊢; exact keep (h1.el a c (by omega) hc')
end
end Go.Proofs.Ytkmfhabgempjiaa
/- Plain: minors of polynomials. What divides all minors of a size stays where rows and columns are mixed; the minors of what has a diagonal alone; so Smith's form of a matrix is one alone. -/
namespace Go.Proofs.Ytkmfhabgempjiaa
set_option maxHeartbeats 1000000
open CR
section
variable {R : Type} [CR R]
theorem dn_tr : ∀ (n : Nat) (A : Nat → Nat → R), dn n (fun i j => A j i) = dn n A
 | 0, _ => rfl
 | n + 1, A => by
  rw [dn_col0 n A]
  show sm (n + 1) (fun k => sg k (A k 0 * dn n (mnr (fun i j => A j i) k))) = _
  exact sm_congr fun k _ => by rw [← dn_tr n (mnc A k)]; rfl
theorem dn_sums (n : Nat) (A : Nat → Nat → R) {i : Nat} (hi : i < n) (x : Nat → R) (B : Nat → Nat → R) : ∀ N, dn n (upd A i fun c => sm N fun s => x s * B s c) = sm N fun s => x s * dn n (upd A i (B s))
 | 0 => dn_row0 hi fun k _ => by rw [upd_same]; rfl
 | N + 1 => by
  have e := dn_lin n A i hi 1 (x N) (fun c => sm N fun s => x s * B s c) (B N)
  rw [dn_sums n A hi x B N, one_mul] at e
  rw [show sm (N + 1) (fun s => x s * dn n (upd A i (B s))) = sm N (fun s => x s * dn n (upd A i (B s))) + x N * dn n (upd A i (B N)) from rfl, ← e]
  congr 2
  funext c
  show sm N _ + _ = _
  rw [one_mul]
theorem Dv.sm {g : Pol R} {f : Nat → Pol R} : ∀ N, (∀ i, i < N → Dv g (f i)) → Dv g (sm N f)
 | 0, _ => Dv.zero g
 | N + 1, h => (Dv.sm N fun i hi => h i (by omega)).add (h N (by omega))
theorem Dv.sg {g f : Pol R} (h : Dv g f) (k : Nat) : Dv g (sg k f) := by
 unfold Go.Proofs.Ytkmfhabgempjiaa.sg; split
 ·exact h.neg
 ·exact h
theorem Dv.both {a b c d : Pol R} (h : Dv a c) (k : Dv b d) : Dv (a * b) (c * d) := by
 obtain ⟨x, rfl⟩ := h; obtain ⟨y, rfl⟩ := k
 exact ⟨x * y, by_ring [a, b, x, y] (X0 * X2 * (X1 * X3)) (X0 * X1 * (X2 * X3)) rfl⟩
def Dvm (g : Pol R) (k n m : Nat) (A : Nat → Nat → Pol R) : Prop := ∀ r c : Nat → Nat, (∀ i, i < k → r i < n) → (∀ j, j < k → c j < m) → Dv g (dn k fun i j => A (r i) (c j))
theorem Dvm.rows {g : Pol R} {k n n' m : Nat} {A : Nat → Nat → Pol R} (h : Dvm g k n m A) (U : Nat → Nat → Pol R) : Dvm g k n' m (mm n U A) := by
 intro r c hr hc
 have key : ∀ t, t ≤ k → ∀ q : Nat → Nat, (∀ i, t ≤ i → i < k → q i < n) → Dv g (dn k fun i j => if i < t then mm n U A (q i) (c j) else A (q i) (c j)) := by
  intro t
  induction t with
  | zero => intro _ q hq; exact h q c (fun i hi => hq i (Nat.zero_le _) hi) hc
  | succ t ih =>
   intro ht q hq
   have e : (dn k fun i j => if i < t + 1 then mm n U A (q i) (c j) else A (q i) (c j))
     = dn k (upd (fun i j => if i < t then mm n U A (q i) (c j) else A (q i) (c j)) t fun j => sm n fun s => U (q t) s * A s (c j)) := dn_congr k fun i j hi hj => by
    by_cases h1 : i = t
    ·subst h1; rw [upd_same, if_pos (by omega)]; rfl
    ·rw [upd_ne _ _ h1]
     by_cases h2 : i < t
     ·rw [if_pos h2, if_pos (by omega)]
     ·rw [if_neg h2, if_neg (by omega)]
   rw [e, dn_sums k _ (by omega) (fun s => U (q t) s) (fun s j => A s (c j))]
   refine Dv.sm n fun s hs => Dv.mul ?_ _
   have e2 : dn k (upd (fun i j => if i < t then mm n U A (q i) (c j) else A (q i) (c j)) t fun j => A s (c j)) = dn k fun i j => if i < t then mm n U A ((fun a => if a = t then s else q a) i) (c j) else A ((fun a => if a = t then s else q a) i) (c j) := dn_congr k fun i j hi hj => by
    by_cases h1 : i = t
    ·subst h1
     rw [upd_same, if_neg (by omega)]
     show A s (c j) = A (if i = i then s else q i) (c j)
     rw [if_pos rfl]
    ·rw [upd_ne _ _ h1]; simp only [h1, if_false]
   rw [e2]
   refine ih (by omega) _ fun i h1 h2 => ?_
   show (if i = t then s else q i) < n
   by_cases h3 : i = t
   ·rw [if_pos h3]; exact hs
   ·rw [if_neg h3]; exact hq i (by omega) h2
 have := key k (Nat.le_refl _) r fun i h1 h2 => by omega
 rwa [dn_congr k fun i j hi hj => by rw [if_pos hi]] at this
theorem Dvm.tr {g : Pol R} {k n m : Nat} {A : Nat → Nat → Pol R} (h : Dvm g k n m A) : Dvm g k m n fun i j => A j i := by
 intro r c hr hc
 have e : (dn k fun i j => A (c j) (r i)) = dn k fun i j => A (c i) (r j) := dn_tr k fun i j => A (c i) (r j)
 show Dv g (dn k fun i j => A (c j) (r i))
 rw [e]
 exact h c r hc hr
theorem Dvm.congr {g : Pol R} {k n m : Nat} {A B : Nat → Nat → Pol R} (h : Dvm g k n m A) (e : ∀ i j, i < n → j < m → A i j = B i j) : Dvm g k n m B := fun r c hr hc => by
 rw [← dn_congr k fun i j hi hj => e (r i) (c j) (hr i hi) (hc j hj)]
 exact h r c hr hc
theorem Dvm.cols {g : Pol R} {k n m m' : Nat} {A : Nat → Nat → Pol R} (h : Dvm g k n m A) (V : Nat → Nat → Pol R) : Dvm g k n m' (mm m A V) :=
 ((h.tr.rows (n' := m') fun i j => V j i).tr).congr fun _ _ _ _ => sm_congr fun _ _ => mul_comm _ _
def Eqv {n m : Nat} (A B : MT R n m) : Prop := ∃ (U U' : MT R n n) (V V' : MT R m m), Inv U U' ∧ Inv V V' ∧ B = U * A * V
theorem Eqv.refl {n m : Nat} (A : MT R n m) : Eqv A A := ⟨_, _, _, _, Inv.one, Inv.one, by rw [MT.one_mul, MT.mul_one]⟩
theorem Eqv.symm {n m : Nat} {A B : MT R n m} (h : Eqv A B) : Eqv B A := by
 obtain ⟨U, U', V, V', h1, h2, rfl⟩ := h
 refine ⟨U', U, V', V, h1.symm, h2.symm, ?_⟩
 rw [← MT.mul_assoc, ← MT.mul_assoc, h1.2, MT.one_mul, MT.mul_assoc, h2.1, MT.mul_one]
theorem Eqv.trans {n m : Nat} {A B C : MT R n m} (h : Eqv A B) (k : Eqv B C) : Eqv A C := by
 obtain ⟨U, U', V, V', h1, h2, rfl⟩ := h
 obtain ⟨X, X', Y, Y', h3, h4, rfl⟩ := k
 exact ⟨X * U, U' * X', V * Y, Y' * V', h3.mul h1, h2.mul h4, by simp only [MT.mul_assoc]⟩
end
section
variable {R : Type} [CR R]
theorem Dvm.mul {g : Pol R} {k n m n' m' : Nat} {A : MT (Pol R) n m} (h : Dvm g k n m A.e) (U : MT (Pol R) n' n) (V : MT (Pol R) m m') : Dvm g k n' m' (U * A * V).e := by
 have h1 : Dvm g k n' m (U * A).e := h.rows U.e
 exact h1.cols V.e
theorem Eqv.dvm {g : Pol R} {k n m : Nat} {A B : MT (Pol R) n m} (e : Eqv A B) : Dvm g k n m A.e ↔ Dvm g k n m B.e := by
 have key : ∀ {A B : MT (Pol R) n m}, Eqv A B → Dvm g k n m A.e → Dvm g k n m B.e := by
  rintro A B ⟨U, _, V, _, _, _, rfl⟩ h
  exact h.mul U V
 exact ⟨key e, key e.symm⟩
def dg (d : Nat → Pol R) : Nat → Nat → Pol R := fun i k => if i = k then d i else 0
def pr (d : Nat → Pol R) : Nat → Pol R
 | 0 => 1
 | k + 1 => pr d k * d k
theorem php : ∀ (k : Nat) (r : Nat → Nat), (∀ i, i < k + 1 → r i < k) → ∃ i j, i < j ∧ j < k + 1 ∧ r i = r j
 | 0, r, h => absurd (h 0 (by omega)) (by omega)
 | k + 1, r, h => by
  by_cases hv : ∃ i, i < k + 1 ∧ r i = r (k + 1)
  ·obtain ⟨i, hi, e⟩ := hv
   exact ⟨i, k + 1, hi, by omega, e⟩
  ·have hn : ∀ i, i < k + 1 → r i ≠ r (k + 1) := fun i hi e => hv ⟨i, hi, e⟩
   have hk := h (k + 1) (by omega)
   obtain ⟨i, j, h1, h2, h3⟩ := php k (fun i => if r i = k then r (k + 1) else r i) fun i hi => by
    show (if r i = k then r (k + 1) else r i) < k
    have a1 := hn i hi
    have a2 := h i (by omega)
    by_cases e : r i = k
    ·rw [if_pos e]; omega
    ·rw [if_neg e]; omega
   refine ⟨i, j, h1, by omega, ?_⟩
   have a1 := hn i (by omega)
   have a2 := hn j (by omega)
   have h4 : (if r i = k then r (k + 1) else r i) = (if r j = k then r (k + 1) else r j) := h3
   by_cases e1 : r i = k
   ·by_cases e2 : r j = k
    ·rw [e1, e2]
    ·rw [if_pos e1, if_neg e2] at h4; exact absurd h4.symm a2
   ·by_cases e2 : r j = k
    ·rw [if_neg e1, if_pos e2] at h4; exact absurd h4 a1
    ·rwa [if_neg e1, if_neg e2] at h4
theorem dvm_dg {d : Nat → Pol R} (hd : ∀ i j, i ≤ j → Dv (d i) (d j)) : ∀ (k : Nat) (r c : Nat → Nat), Dv (pr d k) (dn k fun i j => dg d (r i) (c j))
 | 0, _, _ => Dv.refl 1
 | k + 1, r, c => by
  by_cases hb : ∃ i, i < k + 1 ∧ k ≤ r i
  ·obtain ⟨i, hi, hki⟩ := hb
   have first : ∀ q : Nat → Nat, k ≤ q 0 → Dv (pr d (k + 1)) (dn (k + 1) fun i j => dg d (q i) (c j)) := fun q hq => by
    refine Dv.sm (k + 1) fun j _ => Dv.sg ?_ j
    show Dv (pr d k * d k) _
    rw [mul_comm (pr d k)]
    refine Dv.both ?_ (dvm_dg hd k (fun a => q (a + 1)) fun b => c (if b < j then b else b + 1))
    show Dv (d k) (if q 0 = c j then d (q 0) else 0)
    split
    ·exact hd k _ hq
    ·exact Dv.zero _
   by_cases h0 : i = 0
   ·subst h0; exact first r hki
   ·have h1 := first (fun a => if a = 0 then r i else if a = i then r 0 else r a) (by show k ≤ if (0 : Nat) = 0 then r i else _; rw [if_pos rfl]; exact hki)
    have h2 := dn_swap (n := k + 1) (fun i j => dg d (r i) (c j)) (i := 0) (j := i) (fun e => h0 e.symm) (by omega) hi
    have h3 : (dn (k + 1) fun a j => dg d (if a = 0 then r i else if a = i then r 0 else r a) (c j)) = dn (k + 1) (swB (fun i j => dg d (r i) (c j)) 0 i) := dn_congr _ fun a j _ _ => by
     unfold swB
     split
     ·rfl
     ·split <;> rfl
    have h4 : Dv (pr d (k + 1)) (-dn (k + 1) fun i j => dg d (r i) (c j)) := by rw [← h2, ← h3]; exact h1
    have h5 := h4.neg
    rwa [CR.neg_neg] at h5
  ·obtain ⟨i, j, h1, h2, h3⟩ := php k r fun i hi => by
    apply Classical.byContradiction
    intro h; exact hb ⟨i, hi, by omega⟩
   rw [dn_rep h1 h2 (by funext j; rw [h3])]
   exact Dv.zero _
theorem dn_dg (d : Nat → Pol R) : ∀ k, dn k (dg d) = pr d k
 | 0 => rfl
 | k + 1 => by
  rw [dn_block k 1 (dg d) fun a b _ hb => if_neg (by omega), dn_dg d k]
  show _ = pr d k * d k
  congr 1
  show (0 : Pol R) + sg 0 (dg d (k + 0) (k + 0) * 1) = d k
  rw [sg_zero, mul_one, zero_add]
  exact if_pos rfl
theorem dvm_lead {g : Pol R} {d : Nat → Pol R} {k n m : Nat} (h : Dvm g k n m (dg d)) (hn : k ≤ n) (hm : k ≤ m) : Dv g (pr d k) := by
 have := h (fun i => i) (fun i => i) (fun i hi => by omega) (fun i hi => by omega)
 rwa [show (dn k fun i j => dg d i j) = pr d k from dn_dg d k] at this
end
section
variable {p : Nat}
structure Chain (d : Nat → Pol (Zp p)) : Prop where
 mo : ∀ i, Mo (d i)
 dv : ∀ i j, i ≤ j → Dv (d i) (d j)
theorem Mo.one : Mo (1 : Pol (Zp p)) := Or.inr ⟨0, fun i hi => by rw [Pol.one_def, c_mon, if_neg (by omega)], by rw [Pol.one_def, c_mon, if_pos rfl]⟩
theorem Mo.mul {f g : Pol (Zp p)} (hf : Mo f) (hg : Mo g) : Mo (f * g) := by
 rcases hf with rfl | ⟨a, ha, ha1⟩
 ·exact Or.inl (zero_mul _)
 ·rcases hg with rfl | ⟨b, hb, hb1⟩
  ·exact Or.inl (mul_zero _)
  ·exact Or.inr ⟨a + b, mul_dlt' ha hb, by rw [mul_top ha hb, ha1, hb1, CR.mul_one]⟩
theorem Chain.pr {d : Nat → Pol (Zp p)} (h : Chain d) : ∀ k, Mo (pr d k)
 | 0 => Mo.one
 | k + 1 => (h.pr k).mul (h.mo k)
theorem pr_zero (ht : Trial p) {d : Nat → Pol (Zp p)} : ∀ k, pr d k = 0 → ∃ j, j < k ∧ d j = 0
 | 0, h => absurd h fun e => by
   have h1 : (1 : Pol (Zp p)).c 0 = (0 : Pol (Zp p)).c 0 := congrArg (fun f : Pol (Zp p) => f.c 0) e
   rw [Pol.one_def, c_mon, if_pos rfl, Pol.c_zero] at h1
   exact Zp.one_ne ht h1
 | k + 1, h => by
  rcases no_zero ht (show pr d k * d k = 0 from h) with h1 | h1
  ·obtain ⟨j, h2, h3⟩ := pr_zero ht k h1
   exact ⟨j, by omega, h3⟩
  ·exact ⟨k, by omega, h1⟩
theorem smith_unique (ht : Trial p) {n m : Nat} {d e : Nat → Pol (Zp p)} (hd : Chain d) (he : Chain e) (h : Eqv (MT.of n m (dg d)) (MT.of n m (dg e))) : ∀ k, k < n → k < m → d k = e k := by
 have lead : ∀ {d e : Nat → Pol (Zp p)}, Chain d → Eqv (MT.of n m (dg d)) (MT.of n m (dg e)) → ∀ k, k ≤ n → k ≤ m → Dv (pr d k) (pr e k) := fun {d e} hd h k hn hm => by
  have h1 : Dvm (pr d k) k n m (MT.of n m (dg d)).e := Dvm.congr (fun r c _ _ => dvm_dg hd.dv k r c) fun i j hi hj => (MT.of_e _ hi hj).symm
  exact dvm_lead ((h.dvm.1 h1).congr fun i j hi hj => MT.of_e _ hi hj) hn hm
 have same : ∀ k, k ≤ n → k ≤ m → pr d k = pr e k := fun k hn hm => Mo.unique ht (hd.pr k) (he.pr k) (lead hd h k hn hm) (lead he h.symm k hn hm)
 intro k hn hm
 have h0 := same k (by omega) (by omega)
 have h1 := same (k + 1) (by omega) (by omega)
 by_cases hz : pr d k = 0
 ·obtain ⟨j, hj, e1⟩ := pr_zero ht k hz
  obtain ⟨i, hi, e2⟩ := pr_zero ht k (h0 ▸ hz)
  have a1 := hd.dv j k (by omega)
  have a2 := he.dv i k (by omega)
  rw [e1] at a1; rw [e2] at a2
  rw [a1.of_zero, a2.of_zero]
 ·refine mul_cancel ht hz ?_
  show pr d (k + 1) = pr d k * e k
  rw [h1, h0]; rfl
end
end Go.Proofs.Ytkmfhabgempjiaa
/- Plain: Hermite's form of matrices of polynomials: rows in steps, monic where they begin, what stands above of a less degree. It is one alone. -/
namespace Go.Proofs.Ytkmfhabgempjiaa
set_option maxHeartbeats 1000000
open CR
section
variable {p : Nat}
def Dl (f g : Pol (Zp p)) : Prop := ∃ d, f.dlt d ∧ Ln g (d + 1)
theorem Dl.zero {g : Pol (Zp p)} (h : g ≠ 0) : Dl 0 g := by
 obtain ⟨n, hn⟩ := Ln.exists g
 obtain ⟨m, rfl⟩ := hn.pos h
 exact ⟨m, dlt_zero m, hn⟩
structure HerI (n col : Nat) (W : Nat → Nat → Pol (Zp p)) (P : List Nat) : Prop where
 inc : Incr P col
 len : P.length ≤ n
 mo : ∀ t, t < P.length → Mo (W t (P.getD t 0))
 ne : ∀ t, t < P.length → W t (P.getD t 0) ≠ 0
 zer : ∀ t, t < P.length → ∀ k, k < P.getD t 0 → W t k = 0
 low : ∀ i, P.length ≤ i → i < n → ∀ k, k < col → W i k = 0
 red : ∀ s t, s < t → t < P.length → Dl (W s (P.getD t 0)) (W t (P.getD t 0))
theorem HerI.start (n : Nat) (W : Nat → Nat → Pol (Zp p)) : HerI n 0 W [] :=
 ⟨⟨fun t ht => by simp at ht, fun s t _ ht => by simp at ht⟩, Nat.zero_le _, fun t ht => by simp at ht, fun t ht => by simp at ht, fun t ht => by simp at ht, fun i _ _ k hk => by omega, fun s t _ ht => by simp at ht⟩
theorem HerI.congr {n col : Nat} {W V : Nat → Nat → Pol (Zp p)} {P : List Nat} (h : HerI n col W P) (e : ∀ i k, i < n → k < col → W i k = V i k) : HerI n col V P := by
 have hl := h.len
 have hp : ∀ t, t < P.length → P.getD t 0 < col := h.inc.1
 refine ⟨h.inc, h.len, fun t ht => ?_, fun t ht => ?_, fun t ht k hk => ?_, fun i h1 h2 k hk => ?_, fun s t hs ht => ?_⟩
 ·rw [← e _ _ (by omega) (hp t ht)]; exact h.mo t ht
 ·rw [← e _ _ (by omega) (hp t ht)]; exact h.ne t ht
 ·rw [← e _ _ (by omega) (by have := hp t ht; omega)]; exact h.zer t ht k hk
 ·rw [← e i k h2 hk]; exact h.low i h1 h2 k hk
 ·rw [← e _ _ (by omega) (hp t ht), ← e _ _ (by omega) (hp t ht)]; exact h.red s t hs ht
theorem HerI.at {n m : Nat} {H : Nat → Nat → Pol (Zp p)} {P : List Nat} (h : HerI n m H P) {x : Nat → Pol (Zp p)} {t : Nat} (ht : t < P.length) (hx : ∀ j, j < t → x j = 0) :
  sm n (fun j => x j * H j (P.getD t 0)) = x t * H t (P.getD t 0) := by
 have hl := h.len
 refine sm_one (by omega) fun j hj hne => ?_
 by_cases h1 : j < t
 ·rw [hx j h1, zero_mul]
 ·by_cases h2 : j < P.length
  ·rw [h.zer j h2 _ (h.inc.2 t j (by omega) h2), mul_zero]
  ·rw [h.low j (by omega) hj _ (h.inc.1 t ht), mul_zero]
theorem HerI.lead (tr : Trial p) {n m : Nat} {H : Nat → Nat → Pol (Zp p)} {P : List Nat} (h : HerI n m H P) {x : Nat → Pol (Zp p)} {c : Nat} (hz : ∀ k, k < c → k < m → sm n (fun j => x j * H j k) = 0) :
  ∀ t, t < P.length → P.getD t 0 < c → x t = 0 := by
 intro t
 induction t using Nat.strongRecOn with
 | ind t ih =>
  intro ht hc
  have h0 := hz _ hc (h.inc.1 t ht)
  rw [h.at ht fun j hj => ih j hj (by omega) (by have := h.inc.2 j t hj ht; omega)] at h0
  rcases no_zero tr h0 with h1 | h1
  ·exact h1
  ·exact absurd h1 (h.ne t ht)
theorem HerI.piv (tr : Trial p) {n m : Nat} {H H' : Nat → Nat → Pol (Zp p)} {P P' : List Nat} (h : HerI n m H P) (h' : HerI n m H' P') {X : Nat → Nat → Pol (Zp p)}
  (e : ∀ i k, i < n → k < m → H i k = sm n (fun j => X i j * H' j k)) {t : Nat} (hs : ∀ s, s < t → s < P'.length → s < P.length ∧ P.getD s 0 = P'.getD s 0) (ht : t < P.length) : t < P'.length ∧ P'.getD t 0 ≤ P.getD t 0 := by
 have hl := h.len
 have hpt := h.inc.1 t ht
 have hz : ∀ k, k < P.getD t 0 → k < m → sm n (fun j => X t j * H' j k) = 0 := fun k hk hm => by rw [← e t k (by omega) hm]; exact h.zer t ht k hk
 have hx := h'.lead tr hz
 have hlt : ∀ s, s < t → s < P'.length → X t s = 0 := fun s h1 h2 => hx s h2 (by
  obtain ⟨a, b⟩ := hs s h1 h2
  rw [← b]; exact h.inc.2 s t h1 ht)
 have hne := h.ne t ht
 rw [e t _ (by omega) hpt] at hne
 refine ⟨?_, ?_⟩
 ·apply Classical.byContradiction
  intro hc
  refine hne (sm_zero' fun j hj => ?_)
  by_cases h1 : j < P'.length
  ·rw [hlt j (by omega) h1, zero_mul]
  ·rw [h'.low j (by omega) hj _ hpt, mul_zero]
 ·apply Classical.byContradiction
  intro hc
  refine hne (sm_zero' fun j hj => ?_)
  by_cases h1 : j < P'.length
  ·by_cases h2 : j < t
   ·rw [hlt j h2 h1, zero_mul]
   ·have : P'.getD t 0 ≤ P'.getD j 0 := by
     by_cases h3 : j = t
     ·rw [h3]; exact Nat.le_refl _
     ·exact Nat.le_of_lt (h'.inc.2 t j (by omega) h1)
    rw [h'.zer j h1 _ (by omega), mul_zero]
  ·rw [h'.low j (by omega) hj _ hpt, mul_zero]
theorem her_unique (tr : Trial p) {n m : Nat} {H H' : Nat → Nat → Pol (Zp p)} {P P' : List Nat} (h : HerI n m H P) (h' : HerI n m H' P') {X X' : Nat → Nat → Pol (Zp p)}
  (e : ∀ i k, i < n → k < m → H i k = sm n (fun j => X i j * H' j k)) (e' : ∀ i k, i < n → k < m → H' i k = sm n (fun j => X' i j * H j k)) : P = P' ∧ ∀ i k, i < n → k < m → H i k = H' i k := by
 have key : ∀ t, (t < P.length ↔ t < P'.length) ∧ (t < P.length → P.getD t 0 = P'.getD t 0) := by
  intro t
  induction t using Nat.strongRecOn with
  | ind t ih =>
   have a := h.piv tr h' e (t := t) fun s hs h1 => ⟨(ih s hs).1.2 h1, (ih s hs).2 ((ih s hs).1.2 h1)⟩
   have b := h'.piv tr h e' (t := t) fun s hs h1 => ⟨(ih s hs).1.1 h1, ((ih s hs).2 h1).symm⟩
   refine ⟨⟨fun h1 => (a h1).1, fun h1 => (b h1).1⟩, fun h1 => ?_⟩
   have h2 := (a h1).2
   have h3 := (b (a h1).1).2
   omega
 have hlen : P.length = P'.length := by
  rcases Nat.lt_trichotomy P.length P'.length with h1 | h1 | h1
  ·exact absurd ((key P.length).1.2 h1) (by omega)
  ·exact h1
  ·exact absurd ((key P'.length).1.1 h1) (by omega)
 have hPP : P = P' := by
  refine List.ext_getElem hlen fun t h1 h2 => ?_
  have := (key t).2 h1
  simpa [List.getD, h1, h2] using this
 subst hPP
 refine ⟨rfl, ?_⟩
 have hl := h.len
 -- where the rows begin
 have coef : ∀ {H H' : Nat → Nat → Pol (Zp p)} {X : Nat → Nat → Pol (Zp p)}, HerI n m H P → HerI n m H' P → (∀ i k, i < n → k < m → H i k = sm n (fun j => X i j * H' j k)) → ∀ t, t < P.length → (∀ j, j < t → X t j = 0) ∧ H t (P.getD t 0) = X t t * H' t (P.getD t 0) := by
  intro H H' X h h' e t ht
  have hpt := h.inc.1 t ht
  have hx : ∀ j, j < t → X t j = 0 := fun j hj => h'.lead tr (c := P.getD t 0) (fun k hk hm => by rw [← e t k (by omega) hm]; exact h.zer t ht k hk) j (by omega) (h.inc.2 j t hj ht)
  exact ⟨hx, by rw [e t _ (by omega) hpt]; exact h'.at ht hx⟩
 have hpv : ∀ t, t < P.length → H t (P.getD t 0) = H' t (P.getD t 0) := fun t ht => by
  have a := (coef h h' e t ht).2
  have b := (coef h' h e' t ht).2
  exact Mo.unique tr (h.mo t ht) (h'.mo t ht) ⟨X' t t, by rw [b, mul_comm]⟩ ⟨X t t, by rw [a, mul_comm]⟩
 have hrow : ∀ t, t < P.length → X t t = 1 ∧ ∀ s, t < s → s < P.length → X t s = 0 := fun t ht => by
  obtain ⟨hx, a⟩ := coef h h' e t ht
  have h1 : X t t = 1 := by
   have h2 : H' t (P.getD t 0) * X t t = H' t (P.getD t 0) * 1 := by rw [mul_comm, ← a, mul_one, hpv t ht]
   exact mul_cancel tr (h'.ne t ht) h2
  refine ⟨h1, fun s => ?_⟩
  induction s using Nat.strongRecOn with
  | ind s ih =>
   intro hts hs
   have hps := h.inc.1 s hs
   have ev : H t (P.getD s 0) = H' t (P.getD s 0) + X t s * H' s (P.getD s 0) := by
    rw [e t _ (by omega) hps, sm_two (a := t) (b := s) (by omega) (by omega) (by omega) fun j hj h3 h4 => ?_, h1, one_mul]
    by_cases h5 : j < t
    ·rw [hx j h5, zero_mul]
    ·by_cases h6 : j < s
     ·rw [ih j h6 (by omega) (by omega), zero_mul]
     ·by_cases h7 : j < P.length
      ·rw [h'.zer j h7 _ (h'.inc.2 s j (by omega) h7), mul_zero]
      ·rw [h'.low j (by omega) hj _ hps, mul_zero]
   obtain ⟨d, d1, d2⟩ := h.red t s hts hs
   obtain ⟨d', d3, d4⟩ := h'.red t s hts hs
   rw [hpv s hs] at d2
   have hdd : d = d' := by have := d2.unique d4; omega
   subst hdd
   have := (div_unique tr d2 d1 d3 (q := 0) (q' := X t s) (by rw [zero_mul, zero_add, ev, add_comm])).1
   exact this.symm
 intro i k hi hk
 by_cases hil : i < P.length
 ·obtain ⟨h1, h2⟩ := hrow i hil
  have hx := (coef h h' e i hil).1
  rw [e i k hi hk, sm_one (k := i) hi fun j hj hne => ?_, h1, one_mul]
  by_cases h3 : j < i
  ·rw [hx j h3, zero_mul]
  ·by_cases h4 : j < P.length
   ·rw [h2 j (by omega) h4, zero_mul]
   ·rw [h'.low j (by omega) hj k hk, mul_zero]
 ·rw [h.low i (by omega) hi k hk, h'.low i (by omega) hi k hk]
end
end Go.Proofs.Ytkmfhabgempjiaa
/- Plain: the steps by which rows are brought into Hermite's form. -/
namespace Go.Proofs.Ytkmfhabgempjiaa
set_option maxHeartbeats 1000000
open CR
section
variable {R : Type} [CR R] {n m : Nat}
def mix2 (W : Nat → Nat → R) (s t : Nat) (a b c d : R) : Nat → Nat → R := fun i k => if i = s then a * W s k + b * W t k else if i = t then c * W s k + d * W t k else W i k
def mixM (s t : Nat) (a b c d : R) : Nat → Nat → R := fun i j => if i = s then (if j = s then a else if j = t then b else 0) else if i = t then (if j = s then c else if j = t then d else 0) else if i = j then 1 else 0
theorem mixM_mul {s t : Nat} (hst : s ≠ t) (hs : s < n) (ht : t < n) (a b c d : R) (W : Nat → Nat → R) {i k : Nat} (hi : i < n) : sm n (fun j => mixM s t a b c d i j * W j k) = mix2 W s t a b c d i k := by
 unfold mix2 mixM
 by_cases h1 : i = s
 ·simp only [h1, if_true]
  rw [sm_two hs ht hst fun j hj h2 h3 => by rw [if_neg h2, if_neg h3, zero_mul], if_pos rfl, if_neg (fun e => hst e.symm), if_pos rfl]
 ·by_cases h2 : i = t
  ·simp only [h2, if_neg (fun e => hst (Eq.symm e)), if_true]
   rw [sm_two hs ht hst fun j hj h3 h4 => by rw [if_neg h3, if_neg h4, zero_mul], if_pos rfl, if_neg (fun e => hst e.symm), if_pos rfl]
  ·simp only [h1, h2, if_false]
   rw [sm_one hi fun j hj h3 => by rw [if_neg (fun e => h3 e.symm), zero_mul], if_pos rfl, one_mul]
theorem mix2_s (W : Nat → Nat → R) (s t : Nat) (a b c d : R) (k : Nat) : mix2 W s t a b c d s k = a * W s k + b * W t k := if_pos rfl
theorem mix2_t (W : Nat → Nat → R) {s t : Nat} (h : s ≠ t) (a b c d : R) (k : Nat) : mix2 W s t a b c d t k = c * W s k + d * W t k := by
 unfold mix2; rw [if_neg (fun e => h e.symm), if_pos rfl]
theorem mix2_o (W : Nat → Nat → R) {s t i : Nat} (h1 : i ≠ s) (h2 : i ≠ t) (a b c d : R) (k : Nat) : mix2 W s t a b c d i k = W i k := by
 unfold mix2; rw [if_neg h1, if_neg h2]
theorem mixM_s (s t : Nat) (a b c d : R) (k : Nat) : mixM s t a b c d s k = if k = s then a else if k = t then b else 0 := if_pos rfl
theorem mixM_t {s t : Nat} (h : s ≠ t) (a b c d : R) (k : Nat) : mixM s t a b c d t k = if k = s then c else if k = t then d else 0 := by
 unfold mixM; rw [if_neg (fun e => h e.symm), if_pos rfl]
theorem mixM_o {s t i : Nat} (h1 : i ≠ s) (h2 : i ≠ t) (a b c d : R) (k : Nat) : mixM s t a b c d i k = if i = k then 1 else 0 := by
 unfold mixM; rw [if_neg h1, if_neg h2]
theorem mix2_mix {s t : Nat} (hst : s ≠ t) {a b c d : R} (hd : a * d - b * c = 1) (i k : Nat) : mix2 (mixM s t a b c d) s t d (-b) (-c) a i k = if i = k then 1 else 0 := by
 have e1 : d * a + -b * c = 1 := by rw [← hd]; exact by_ring [a, b, c, d] (X3 * X0 + -X1 * X2) (X0 * X3 - X1 * X2) rfl
 have e2 : d * b + -b * d = 0 := by_ring [b, d] (X1 * X0 + -X0 * X1) 0 rfl
 have e3 : -c * a + a * c = 0 := by_ring [a, c] (-X1 * X0 + X0 * X1) 0 rfl
 have e4 : -c * b + a * d = 1 := by rw [← hd]; exact by_ring [a, b, c, d] (-X2 * X1 + X0 * X3) (X0 * X3 - X1 * X2) rfl
 by_cases h1 : i = s
 ·rw [h1, mix2_s, mixM_s, mixM_t hst]
  by_cases h3 : k = s
  ·rw [if_pos h3, if_pos h3, if_pos h3.symm]; exact e1
  ·have h5 : ¬ s = k := fun e => h3 e.symm
   rw [if_neg h3, if_neg h3, if_neg h5]
   by_cases h4 : k = t
   ·rw [if_pos h4, if_pos h4]; exact e2
   ·rw [if_neg h4, if_neg h4, mul_zero, mul_zero, add_zero]
 ·by_cases h2 : i = t
  ·rw [h2, mix2_t _ hst, mixM_s, mixM_t hst]
   by_cases h3 : k = s
   ·have h5 : ¬ t = k := fun e => hst (by omega)
    rw [if_pos h3, if_pos h3, if_neg h5]; exact e3
   ·rw [if_neg h3, if_neg h3]
    by_cases h4 : k = t
    ·rw [if_pos h4, if_pos h4, if_pos h4.symm]; exact e4
    ·have h5 : ¬ t = k := fun e => h4 e.symm
     rw [if_neg h4, if_neg h4, mul_zero, mul_zero, add_zero, if_neg h5]
  ·rw [mix2_o _ h1 h2, mixM_o h1 h2]
theorem Rq.mix {W : Nat → Nat → R} {s t : Nat} (hst : s ≠ t) (hs : s < n) (ht : t < n) {a b c d : R} (hd : a * d - b * c = 1) : Rq n m W (mix2 W s t a b c d) := by
 have hd' : d * a - -b * -c = 1 := by rw [← hd]; exact by_ring [a, b, c, d] (X3 * X0 - -X1 * -X2) (X0 * X3 - X1 * X2) rfl
 refine Rq.of (f := mixM s t a b c d) (g := mixM s t d (-b) (-c) a) (inv_of (fun i k hi hk => ?_) fun i k hi hk => ?_) fun i k hi _ => (mixM_mul hst hs ht a b c d W hi).symm
 ·rw [mixM_mul hst hs ht _ _ _ _ _ hi]
  have := mix2_mix hst hd' i k
  rwa [neg_neg, neg_neg] at this
 ·rw [mixM_mul hst hs ht _ _ _ _ _ hi]
  exact mix2_mix hst hd i k
end
section
variable {p n col : Nat} {W V : Nat → Nat → Pol (Zp p)} {P : List Nat}
theorem HerI.keep (h : HerI n col W P) (e : ∀ i k, i < P.length → k < col → V i k = W i k) (z : ∀ i k, P.length ≤ i → i < n → k < col → V i k = 0) : HerI n col V P :=
 h.congr fun i k hi hk => by
  by_cases hl : i < P.length
  ·exact (e i k hl hk).symm
  ·rw [h.low i (by omega) hi k hk, z i k (by omega) hi hk]
theorem HerI.mix (h : HerI n col W P) {i : Nat} (hi : P.length < i) (hn : i < n) (a b c d : Pol (Zp p)) : HerI n col (mix2 W P.length i a b c d) P :=
 h.keep (fun j k hj hk => mix2_o W (by omega) (by omega) a b c d k) fun j k h1 h2 hk => by
  by_cases e : j = P.length
  ·rw [e, mix2_s, h.low _ (Nat.le_refl _) (by omega) k hk, h.low i (by omega) hn k hk, mul_zero, mul_zero, add_zero]
  ·by_cases e2 : j = i
   ·rw [e2, mix2_t W (by omega), h.low _ (Nat.le_refl _) (by omega) k hk, h.low i (by omega) hn k hk, mul_zero, mul_zero, add_zero]
   ·rw [mix2_o W e e2]; exact h.low j h1 h2 k hk
theorem HerI.none (h : HerI n col W P) (h0 : ∀ i, P.length ≤ i → i < n → W i col = 0) : HerI n (col + 1) W P :=
 ⟨⟨fun t ht => by have := h.inc.1 t ht; omega, h.inc.2⟩, h.len, h.mo, h.ne, h.zer, fun i h1 h2 k hk => by
  by_cases e : k = col
  ·rw [e]; exact h0 i h1 h2
  ·exact h.low i h1 h2 k (by omega), h.red⟩
theorem HerI.add (h : HerI n col W P) (hn : P.length < n) (hm : Mo (W P.length col)) (h0 : W P.length col ≠ 0) (hz : ∀ i, P.length < i → i < n → W i col = 0) (hr : ∀ s, s < P.length → Dl (W s col) (W P.length col)) : HerI n (col + 1) W (P ++ [col]) := by
 have hl : (P ++ [col]).length = P.length + 1 := by simp
 have cases' : ∀ t, t < (P ++ [col]).length → (t < P.length ∧ (P ++ [col]).getD t 0 = P.getD t 0) ∨ (t = P.length ∧ (P ++ [col]).getD t 0 = col) := fun t ht => getD_app ht
 refine ⟨⟨fun t ht => ?_, fun s t hs ht => ?_⟩, by rw [hl]; omega, fun t ht => ?_, fun t ht => ?_, fun t ht k hk => ?_, fun i h1 h2 k hk => ?_, fun s t hs ht => ?_⟩
 ·rcases cases' t ht with ⟨a, b⟩ | ⟨a, b⟩
  ·rw [b]; have := h.inc.1 t a; omega
  ·rw [b]; omega
 ·rcases cases' t ht with ⟨a, b⟩ | ⟨a, b⟩
  ·rcases cases' s (by omega) with ⟨c, d⟩ | ⟨c, d⟩
   ·rw [b, d]; exact h.inc.2 s t hs a
   ·omega
  ·rcases cases' s (by omega) with ⟨c, d⟩ | ⟨c, d⟩
   ·rw [b, d]; exact h.inc.1 s c
   ·omega
 ·rcases cases' t ht with ⟨a, b⟩ | ⟨a, b⟩
  ·rw [b]; exact h.mo t a
  ·rw [b, a]; exact hm
 ·rcases cases' t ht with ⟨a, b⟩ | ⟨a, b⟩
  ·rw [b]; exact h.ne t a
  ·rw [b, a]; exact h0
 ·rcases cases' t ht with ⟨a, b⟩ | ⟨a, b⟩
  ·rw [b] at hk; exact h.zer t a k hk
  ·rw [b] at hk; rw [a]; exact h.low _ (Nat.le_refl _) hn k hk
 ·rw [hl] at h1
  by_cases e : k = col
  ·rw [e]; exact hz i (by omega) h2
  ·exact h.low i (by omega) h2 k (by omega)
 ·rcases cases' t ht with ⟨a, b⟩ | ⟨a, b⟩
  ·rw [b]; exact h.red s t hs a
  ·rw [b, a]; exact hr s (by omega)
theorem gcd_mix (tr : Trial p) {a b g x y u v : Pol (Zp p)} (hg : g = x * a + y * b) (hu : a = u * g) (hv : b = v * g) (hb : b ≠ 0) : x * u - y * -v = 1 ∧ -v * a + u * b = 0 ∧ g ≠ 0 := by
 have hg0 : g ≠ 0 := fun e => hb (by rw [hv, e, mul_zero])
 refine ⟨mul_cancel tr hg0 ?_, ?_, hg0⟩
 ·rw [mul_one]
  have : g * (x * u - y * -v) = x * (u * g) + y * (v * g) := by_ring [g, x, y, u, v] (X0 * (X1 * X3 - X2 * -X4)) (X1 * (X3 * X0) + X2 * (X4 * X0)) rfl
  rw [this, ← hu, ← hv, ← hg]
 ·conv => lhs; rw [hu, hv]
  exact by_ring [g, u, v] (-X2 * (X1 * X0) + X1 * (X2 * X0)) 0 rfl
theorem gcd_len (tr : Trial p) {a b g x y v : Pol (Zp p)} {la lb lx lv : Nat} (hg : g = x * a + y * b) (hv : b = v * g) (hb : b ≠ 0) (ha : a.dlt la) (hbl : Ln b lb) (hvl : Ln v lv) (hx : x.dlt lx) (hxv : lx < lv) : y.dlt (max la 1) := by
 have hg0 : g ≠ 0 := fun e => hb (by rw [hv, e, mul_zero])
 have hv0 : v ≠ 0 := fun e => hb (by rw [hv, e, zero_mul])
 obtain ⟨dg, hdg⟩ := Ln.exists g
 obtain ⟨dg, rfl⟩ := hdg.pos hg0
 obtain ⟨dv, rfl⟩ := hvl.pos hv0
 have hlb : lb = dv + dg + 1 := by rw [hv] at hbl; exact hbl.unique (hvl.mul tr hdg)
 obtain ⟨dy, hdy⟩ := Ln.exists y
 by_cases hy : y = 0
 ·rw [hy]; exact dlt_zero _
 obtain ⟨dy, rfl⟩ := hdy.pos hy
 have e : y * b = g - x * a := by rw [hg]; exact by_ring [x * a, y * b] X1 (X0 + X1 - X0) rfl
 have h1 := hdy.mul tr (n := dv + dg) (by rw [← hlb]; exact hbl)
 rw [e] at h1
 have h2 : (g - x * a).dlt (max (dg + 1) (lx + la)) := dlt_sub (dlt_mono hdg.1 (by omega)) (dlt_mono (mul_dlt hx ha) (by omega))
 have h3 := h1.le h2
 exact dlt_mono hdy.1 (by omega)
end
end Go.Proofs.Ytkmfhabgempjiaa
