/- xmat.made: a matrix of polynomials, place by place. -/
import Derived.Shelf.Abstract
import Derived.Test.YthghdjpjbngllaaZfFops
import Derived.Test.YthghdjpjbngllaaZfXdz
namespace Go.Proofs.Ythghdjpjbngllaa
open Go.RowKit

/-- A polynomial is returned, read as it stands. -/
def RetPs (p : Nat) (w : World) (L : Nat) (f : Pol (Zp p)) (e : Ending) (w' : World) : Prop := ∃ u zs, e = .returned u ∧ Sl .u64 w' u zs ∧ zs.length ≤ L ∧ pl p zs = f ∧ Below w.heap.size w w'
/-- Owned polynomials in a row. -/
def Qls (p : Nat) (w : World) (base : Nat) (bv : Value) (us : List Value) (n L : Nat) (F : Nat → Pol (Zp p)) : Prop :=
  w.ownsRow base 33 1 bv n us ∧ us.length = n ∧ ∀ (j : Nat) (v : Value), us[j]? = some v → ∃ ys, Own .u64 27 w base v ys ∧ Nrm p ys ∧ pl p ys = F j ∧ ys.length ≤ L
section
variable {p : Nat} {w w' : World} {base n L : Nat} {bv : Value} {us : List Value} {F : Nat → Pol (Zp p)}
theorem Qls.next (h : Qls p w base bv us n L F) (hb : Below w.heap.size w w') : Qls p w' base bv us n L F :=
  ⟨rowOwn_next h.1 hb (Nat.le_refl _), h.2.1, fun j v hv => by obtain ⟨ys, h1, h2⟩ := h.2.2 j v hv; exact ⟨ys, h1.next hb, h2⟩⟩
theorem Qls.low (h : Qls p w base bv us n L F) {a : Addr} (ha : a.block < base) (u : Value) : Qls p (w.setCell a u) base bv us n L F :=
  ⟨ownsRow_setCell_below h.1 ha u, h.2.1, fun j v hv => by obtain ⟨ys, h1, h2⟩ := h.2.2 j v hv; exact ⟨ys, h1.low ha u, h2⟩⟩
theorem Qls.push {b1 : Nat} {bv' r : Value} {zs : List Nat} (h : Qls p w base bv us n L F) (hg : w.grownBy w' bv.ownBlock) (ho : w'.ownsRow base 33 1 bv' (n + 1) (us ++ [r]))
    (hr : Own .u64 27 w b1 r zs) (hb : base ≤ b1) (hz : Nrm p zs) (hD : pl p zs = F n) (hl : zs.length ≤ L) : Qls p w' base bv' (us ++ [r]) (n + 1) L F := by
  refine ⟨ho, by rw [List.length_append, h.2.1]; rfl, fun j v hv => ?_⟩
  by_cases hj : j < n
  · rw [List.getElem?_append_left (by rw [h.2.1]; exact hj)] at hv
    obtain ⟨ys, h1, h2⟩ := h.2.2 j v hv
    exact ⟨ys, h1.keptP h.1 hg, h2⟩
  · rw [List.getElem?_append_right (by rw [h.2.1]; omega), h.2.1] at hv
    have : j = n := by
      have := (List.getElem?_eq_some_iff.1 hv).1
      simp at this; omega
    subst this
    simp at hv
    subst hv
    exact ⟨zs, (hr.mono hb).keptP h.1 hg, hz, hD, hl⟩
theorem Qls.ns (h : Qls p w base bv us n L F) (hp : FP p) : ∃ qs : List (List Nat), qs.length = n ∧ Ns w bv qs ∧ ∀ j, j < n → Nrm p (qs.getD j []) ∧ pl p (qs.getD j []) = F j ∧ (qs.getD j []).length ≤ L := by
  have hc : ∀ j, ∃ ys : List Nat, j < n → ∃ v, us[j]? = some v ∧ Own .u64 27 w base v ys ∧ Nrm p ys ∧ pl p ys = F j ∧ ys.length ≤ L := fun j => by
    by_cases hj : j < n
    · obtain ⟨v, hv⟩ : ∃ v, us[j]? = some v := ⟨_, List.getElem?_eq_getElem (by rw [h.2.1]; exact hj)⟩
      obtain ⟨ys, h1⟩ := h.2.2 j v hv
      exact ⟨ys, fun _ => ⟨v, hv, h1⟩⟩
    · exact ⟨[], fun h => absurd h hj⟩
  obtain ⟨Y, hY⟩ := Classical.axiomOfChoice hc
  have hl : ((List.range n).map Y).length = n := by simp
  have hg : ∀ j, j < n → ((List.range n).map Y).getD j [] = Y j := fun j hj => by simp [List.getD, hj]
  refine ⟨(List.range n).map Y, hl, ?_, fun j hj => by
    rw [hg j hj]
    obtain ⟨v, _, _, h3⟩ := hY j hj
    exact h3⟩
  rcases rowOwn_shape h.1 with ⟨rfl, rfl⟩ | ⟨g, cap, rfl, _, hgl, hnc⟩
  · exact ⟨none, 0, 0, 0, fun _ => (.bool false), by rw [hl], by rw [hl]; exact Nat.le_refl _, fun h => by rw [hl] at h; omega, fun j hj => by rw [hl] at hj; omega⟩
  · refine ⟨some ⟨g, 0, none⟩, g, 0, cap, fun j => us.getD j (.bool false), by rw [hl], by rw [hl]; exact hnc, fun _ => ⟨rfl, hgl⟩, fun j hj => ?_⟩
    rw [hl] at hj
    obtain ⟨v, h1, h2, h3, _⟩ := hY j hj
    have e : us.getD j (.bool false) = v := by simp [List.getD, h1]
    rw [hg j hj]
    refine ⟨?_, ?_, ?_⟩
    · rw [Nat.zero_add, World.ownsRow.cellAt h.1 j (by omega), h1]; simp only [e]
    · simp only [e]; exact h2.sl
    · exact fun x hx => by have h8 := h3.1 x hx; have h9 := hp.2; unfold W64; omega
end
theorem Qls.mono {p : Nat} {w : World} {base base' n L : Nat} {bv : Value} {us : List Value} {F : Nat → Pol (Zp p)} (h : Qls p w base bv us n L F) (hb : base' ≤ base) : Qls p w base' bv us n L F :=
  ⟨rowOwn_mono h.1 hb, h.2.1, fun j v hv => by obtain ⟨ys, h1, h2⟩ := h.2.2 j v hv; exact ⟨ys, h1.mono hb, h2⟩⟩
theorem Qls.slc {p : Nat} {w : World} {base n L : Nat} {bv : Value} {us : List Value} {F : Nat → Pol (Zp p)} (h : Qls p w base bv us n L F) : ∃ ao k, bv = .slice ao n k := by
  rcases rowOwn_shape h.1 with ⟨e1, e2⟩ | ⟨_, _, e1, _⟩
  · exact ⟨none, 0, by rw [e1, e2]⟩
  · exact ⟨_, _, e1⟩
/-- A matrix of polynomials is returned, made anew. -/
def RetXm (p : Nat) (w : World) (r c L : Nat) (F : Nat → Pol (Zp p)) (e : Ending) (w' : World) : Prop :=
  ∃ ao k us, e = .returned (.agg #[.int .i64 r, .int .i64 c, .slice ao (r * c) k]) ∧ Qls p w' w.heap.size (.slice ao (r * c) k) us (r * c) L F ∧ Below w.heap.size w w'
/-- Where the loops of made stand. -/
def MxR (p : Nat) (w wr : World) (r c L : Nat) (F : Nat → Pol (Zp p)) (g n : Nat) : Prop := ∃ v us, Blk 24 wr (g + 1 + 1) [.int .i64 r, .int .i64 c, v] ∧ Blk 24 wr (g + 1) [.int .i64 0, .int .i64 0, .slice none 0 0] ∧
  Blk 29 wr g [.int .u64 p] ∧ Qls p wr (g + 1 + 1 + 1) v us n L F ∧ Below w.heap.size w wr

set_option maxRecDepth 20000 in
set_option maxHeartbeats 1000000 in
theorem xm_made (p r c L : Nat) (hp : FP p) (hr : r ≤ 128) (hc : c ≤ 128) (hL : L ≤ 1000000) (fn : Nat) (hE : Enters Try.prog fn) (caps : List Value) (F : Nat → Pol (Zp p)) (w : World)
    (hf : ∀ (i k : Nat) (w' : World), i < r → k < c → Below w.heap.size w w' → Calls Try.prog fn (.int .i64 i :: .int .i64 k :: caps).toArray w' (RetPs p w' L (F (i * c + k)))) :
    Calls Try.prog 88 #[.agg #[.int .u64 p], .int .i64 r, .int .i64 c, .func (.func fn) #[] caps.toArray] w (RetXm p w r c L F) := by
  have HF := Lib.hid hf; clear hf
  have HP := Lib.hid hp; clear hp
  have HL := Lib.hid hL; clear hL
  obtain ⟨wb, ew, K0, K1, K2, B0, hsz⟩ := boxes3 w 29 24 24 [.int .u64 p] [.int .i64 0, .int .i64 0, .slice none 0 0] [.int .i64 r, .int .i64 c, .slice none 0 0]
  clear hsz
  go_enter Try.func88, Try.ntmps88
  go_upto_region 2 with (fail)
  rw [← ew]
  obtain ⟨g, eg⟩ : ∃ g, g = w.heap.size := ⟨_, rfl⟩
  rw [← eg] at K0 K1 K2 ⊢
  have hgw : w.heap.size ≤ g := by omega
  clear eg ew
  have st : MxR p w wb r c L F g 0 := ⟨_, [], K2, K1, K0, ⟨World.ownsRow_nil _ _ _ _, rfl, fun j v hv => by simp at hv⟩, B0⟩
  clear K0 K1 K2 B0
  go_wp2
  go_loopw [16] (fun iv wr => ∃ i : Nat, i ≤ r ∧ iv = .int .i64 i ∧ MxR p w wr r c L F g (i * c)) (fun iv _ => r - (intOf iv).toNat)
  case atStart => exact ⟨0, by omega, rfl, by rw [Nat.zero_mul]; exact st⟩
  case round =>
    clear st wb
    obtain ⟨i, hi, rfl, st⟩ := hrel
    by_cases hir : i < r
    · obtain ⟨wo, rfl⟩ : ∃ wo : World, wo = wr := ⟨_, rfl⟩
      go_wp2
      go_loopw [20] (fun kv wr => ∃ k : Nat, k ≤ c ∧ kv = .int .i64 k ∧ MxR p w wr r c L F g (i * c + k)) (fun kv _ => c - (intOf kv).toNat)
      case atStart => exact ⟨0, by omega, rfl, by rw [Nat.add_zero]; exact st⟩
      case round =>
        clear st
        obtain ⟨k, hk, rfl, st⟩ := hrel
        by_cases hkc : k < c
        · obtain ⟨bv, us, K2, K1, K0, ho, B0⟩ := st
          go_upto_region 8 with (fail)
          have bd := Drawn.below (w' := wr.drew) ⟨1, rfl⟩ wr.heap.size
          replace K2 := K2.next bd; replace K1 := K1.next bd; replace K0 := K0.next bd; replace ho := ho.next bd
          replace B0 := B0.trans (bd.mono B0.size)
          have hgx : g + 1 + 1 + 1 ≤ wr.drew.heap.size := by have := K2.lt; omega
          have hik : i * c ≤ 128 * 128 := Nat.mul_le_mul (by omega) hc
          have hgw3 : w.heap.size ≤ g + 1 + 1 + 1 := by omega
          clear bd
          refine startP (S := (fun w' => Below (g + 1 + 1 + 1) wr.drew w')) (by kernel_rfl) _ rfl rfl rfl (by kernel_rfl) (Below.refl _ _) (fun hHeld => ?_)
          refine takeL 0 (v := ?_) rfl (by kernel_rfl) (by kernel_rfl) (by kernel_rfl) (fun _ _ _ h => h) ⟨by rfl, ?_⟩ (by assumption) ?_
          rotate_left
          · intro w hS; go_simp <;> with_reducible rfl
          simp only [Act.put, List.setIfInBounds_toArray, List.set_cons_zero, List.set_cons_succ]
          refine takeL 1 (v := ?_) rfl (by kernel_rfl) (by kernel_rfl) (by kernel_rfl) (fun _ _ _ h => h) ⟨by rfl, ?_⟩ (by assumption) ?_
          rotate_left
          · intro w hS; have fa := (K2.below hS (Nat.lt_succ_self _)).cell; have fb := (K0.below hS (by omega)).cell; have f1 := fa 2; have f2 := fb 0; clear fa fb; go_simp <;> with_reducible rfl
          simp only [Act.put, List.setIfInBounds_toArray, List.set_cons_zero, List.set_cons_succ]
          refine takeL 2 (v := ?_) rfl (by kernel_rfl) (by kernel_rfl) (by kernel_rfl) (fun _ _ _ h => h) ⟨by rfl, ?_⟩ (by assumption) ?_
          rotate_left
          · intro w hS; have fa := (K2.below hS (Nat.lt_succ_self _)).cell; have fb := (K0.below hS (by omega)).cell; have f1 := fa 2; have f2 := fb 0; clear fa fb; go_simp <;> with_reducible rfl
          simp only [Act.put, List.setIfInBounds_toArray, List.set_cons_zero, List.set_cons_succ]
          refine takeL 3 (v := ?_) rfl (by kernel_rfl) (by kernel_rfl) (by kernel_rfl) (fun _ _ _ h => h) ⟨by rfl, ?_⟩ (by assumption) ?_
          rotate_left
          · intro w hS; go_simp <;> with_reducible rfl
          simp only [Act.put, List.setIfInBounds_toArray, List.set_cons_zero, List.set_cons_succ]
          refine takeL 4 (v := ?_) rfl (by kernel_rfl) (by kernel_rfl) (by kernel_rfl) (fun _ _ _ h => h) ⟨by rfl, ?_⟩ (by assumption) ?_
          rotate_left
          · intro w hS; go_simp <;> with_reducible rfl
          simp only [Act.put, List.setIfInBounds_toArray, List.set_cons_zero, List.set_cons_succ]
          refine takeL 5 (v := ?_) rfl (by kernel_rfl) (by kernel_rfl) (by kernel_rfl) (fun _ _ _ h => h) ⟨by rfl, ?_⟩ (by assumption) ?_
          rotate_left
          · intro w hS; go_simp <;> with_reducible rfl
          simp only [Act.put, List.setIfInBounds_toArray, List.set_cons_zero, List.set_cons_succ]
          refine oneL 6 rfl (by kernel_rfl) (by rfl) (fun K hK => ?_)
          go_simp
          rw [hE]
          refine (HF.out i k _ hir hkc B0).mono ?_; rintro e w1 ⟨u, zs0, rfl, s1, l1, v1, b1⟩
          refine hK.out _ _ (hHeld.trans (b1.mono (Nat.le_trans hgx hHeld.size))) (fun hHeld => ?_)
          clear hK K
          try simp only [Act.put, List.setIfInBounds_toArray, List.set_cons_zero, List.set_cons_succ]
          refine oneL 7 rfl (by kernel_rfl) (by rfl) (fun K hK => ?_)
          go_simp
          go_at_call 80
          (with_reducible refine (fp_Norm p u zs0 _ HP.out s1 (by have := HL.out; omega)).mono ?_); rintro e w2 ⟨rq, zs, rfl, o2, n2, v2, l2, b2⟩; obtain ⟨aq, cq, eq9⟩ := o2.sliced; subst eq9
          refine hK.out _ _ (hHeld.trans (b2.mono (Nat.le_trans hgx hHeld.size))) (fun hHeld => ?_)
          clear hK K
          try simp only [Act.put, List.setIfInBounds_toArray, List.set_cons_zero, List.set_cons_succ]
          refine oneL 8 rfl (by kernel_rfl) (by rfl) (fun K hK => ?_)
          go_simp
          have hd := hHeld
          refine hK.out _ _ (hHeld.alloc (Nat.le_trans hgx hHeld.size) _) (fun hHeld => ?_)
          clear hK K
          try simp only [Act.put, List.setIfInBounds_toArray, List.set_cons_zero, List.set_cons_succ]
          refine oneL 9 rfl (by kernel_rfl) (by rfl) (fun K hK => ?_)
          have hq := (ho.next b1).next b2
          refine apV 22 33 24 (.slice none 0 0) Try.underlying22 (by kernel_rfl) (by decide) rfl _ _ rfl w2 (g + 1 + 1 + 1) bv (i * c + k) us (.slice aq zs.length cq) rfl hq.1 (by omega) (Nat.le_trans hgx hd.size) rfl rfl ?_
          intro gg cap1 w5 hown' hbel' hgr' _
          refine hK.out _ _ (hd.trans hbel') (fun hHeld => ?_)
          clear hK K
          try simp only [Act.put, List.setIfInBounds_toArray, List.set_cons_zero, List.set_cons_succ]
          refine takeL 10 (v := ?_) rfl (by kernel_rfl) (by kernel_rfl) (by kernel_rfl) (fun _ _ _ h => h) ⟨by rfl, ?_⟩ (by assumption) ?_
          rotate_left
          · intro w hS; go_simp <;> with_reducible rfl
          simp only [Act.put, List.setIfInBounds_toArray, List.set_cons_zero, List.set_cons_succ]
          refine doneL (by kernel_rfl) ?_ _
          refine lastL rfl (by rfl) ?_
          have hqq := hq.push hgr' hown' o2 (Nat.le_trans hgx b1.size) n2 (v2.trans v1) (Nat.le_trans l2 l1)
          have K2 := K2.below hHeld (Nat.lt_succ_self _)
          have K1 := K1.below hHeld (by omega)
          have K0 := K0.below hHeld (by omega)
          have B0 := B0.trans (hHeld.mono (by omega))
          have f2 := K2.free 2
          have c2 := K2.cell 2
          have K2' := Lib.hid (K2.set 2 (.slice (some ⟨gg, 0, none⟩) (i * c + k + 1) cap1))
          have K1' := Lib.hid (K1.far (a := ⟨g + 1 + 1, 2, none⟩) (by simp) (.slice (some ⟨gg, 0, none⟩) (i * c + k + 1) cap1))
          have K0' := Lib.hid (K0.far (a := ⟨g + 1 + 1, 2, none⟩) (by simp; omega) (.slice (some ⟨gg, 0, none⟩) (i * c + k + 1) cap1))
          have ho' := Lib.hid (hqq.low (a := ⟨g + 1 + 1, 2, none⟩) (Nat.lt_succ_self _) (.slice (some ⟨gg, 0, none⟩) (i * c + k + 1) cap1))
          have B0' := Lib.hid (B0.setCell (p := ⟨g + 1 + 1, 2, none⟩) (show w.heap.size ≤ g + 1 + 1 by omega) (.slice (some ⟨gg, 0, none⟩) (i * c + k + 1) cap1))
          clear K2 K1 K0 hown' hqq hq ho B0 hHeld hd hbel' hgr' o2 n2 v2 l2 b2 s1 l1 v1 b1
          go_wp2
          go_roundw
          case rel => exact ⟨k + 1, by omega, by go_num, _, _, K2'.out, K1'.out, K0'.out, ho'.out, B0'.out⟩
          case measure => simp [intOf] <;> omega
        · obtain rfl : k = c := by omega
          go_wp2
          go_roundw
          case rel => exact ⟨i + 1, by omega, by go_num, by rw [Nat.succ_mul]; exact st⟩
          case measure => simp [intOf] <;> omega
    · obtain rfl : i = r := by omega
      obtain ⟨bv, us, K2, K1, K0, ho, B0⟩ := st
      obtain ⟨aq, cq, rfl⟩ := ho.slc
      have c0 := K2.cell 0; have c1 := K2.cell 1; have c2 := K2.cell 2
      have e0 := K1.cell 0; have e1 := K1.cell 1; have e2 := K1.cell 2
      have f0 := K1.free 0; have f1 := K1.free 1; have f2 := K1.free 2
      have KF := ((K1.set 0 (.int .i64 i)).set 1 (.int .i64 c)).set 2 (.slice aq (i * c) cq)
      have d0 := KF.cell 0; have d1 := KF.cell 1; have d2 := KF.cell 2
      have hlt : g + 1 < g + 1 + 1 + 1 := by omega
      have hof := ((ho.low (a := ⟨g + 1, 0, none⟩) hlt (.int .i64 i)).low (a := ⟨g + 1, 1, none⟩) hlt (.int .i64 c)).low (a := ⟨g + 1, 2, none⟩) hlt (.slice aq (i * c) cq)
      have hgw2 : w.heap.size ≤ g + 1 := by omega
      have BF := ((B0.setCell (p := ⟨g + 1, 0, none⟩) hgw2 (.int .i64 i)).setCell (p := ⟨g + 1, 1, none⟩) hgw2 (.int .i64 c)).setCell (p := ⟨g + 1, 2, none⟩) hgw2 (.slice aq (i * c) cq)
      have FR := Lib.hid (show RetXm p w i c L F (.returned (.agg #[.int .i64 i, .int .i64 c, .slice aq (i * c) cq])) (((wr.setCell ⟨g + 1, 0, none⟩ (.int .i64 i)).setCell ⟨g + 1, 1, none⟩ (.int .i64 c)).setCell ⟨g + 1, 2, none⟩ (.slice aq (i * c) cq)) from ⟨_, _, us, rfl, hof.mono (by omega), BF⟩)
      clear KF K1 K2 K0 hof BF ho B0
      go_wp2
      exact bodyPost_ret (v := .agg #[.int .i64 i, .int .i64 c, .slice aq (i * c) cq]) (by simp [results, Try.results88, go_sem, d0, d1, d2]) rfl FR.out

set_option maxRecDepth 20000 in
set_option maxHeartbeats 1000000 in
theorem xm_madeB (p r c L : Nat) (hp : FP p) (hr : r ≤ 128) (hc : c ≤ 128) (hL : L ≤ 1000000) (fn : Nat) (hE : Enters Try.prog fn) (b : Value) (F : Nat → Pol (Zp p)) (w : World)
    (hf : ∀ (i k : Nat) (w' : World), i < r → k < c → Below w.heap.size w w' → Calls Try.prog fn #[b, .int .i64 i, .int .i64 k] w' (RetPs p w' L (F (i * c + k)))) :
    Calls Try.prog 88 #[.agg #[.int .u64 p], .int .i64 r, .int .i64 c, .func (.func fn) #[b] #[]] w (RetXm p w r c L F) := by
  have HF := Lib.hid hf; clear hf
  have HP := Lib.hid hp; clear hp
  have HL := Lib.hid hL; clear hL
  obtain ⟨wb, ew, K0, K1, K2, B0, hsz⟩ := boxes3 w 29 24 24 [.int .u64 p] [.int .i64 0, .int .i64 0, .slice none 0 0] [.int .i64 r, .int .i64 c, .slice none 0 0]
  clear hsz
  go_enter Try.func88, Try.ntmps88
  go_upto_region 2 with (fail)
  rw [← ew]
  obtain ⟨g, eg⟩ : ∃ g, g = w.heap.size := ⟨_, rfl⟩
  rw [← eg] at K0 K1 K2 ⊢
  have hgw : w.heap.size ≤ g := by omega
  clear eg ew
  have st : MxR p w wb r c L F g 0 := ⟨_, [], K2, K1, K0, ⟨World.ownsRow_nil _ _ _ _, rfl, fun j v hv => by simp at hv⟩, B0⟩
  clear K0 K1 K2 B0
  go_wp2
  go_loopw [16] (fun iv wr => ∃ i : Nat, i ≤ r ∧ iv = .int .i64 i ∧ MxR p w wr r c L F g (i * c)) (fun iv _ => r - (intOf iv).toNat)
  case atStart => exact ⟨0, by omega, rfl, by rw [Nat.zero_mul]; exact st⟩
  case round =>
    clear st wb
    obtain ⟨i, hi, rfl, st⟩ := hrel
    by_cases hir : i < r
    · obtain ⟨wo, rfl⟩ : ∃ wo : World, wo = wr := ⟨_, rfl⟩
      go_wp2
      go_loopw [20] (fun kv wr => ∃ k : Nat, k ≤ c ∧ kv = .int .i64 k ∧ MxR p w wr r c L F g (i * c + k)) (fun kv _ => c - (intOf kv).toNat)
      case atStart => exact ⟨0, by omega, rfl, by rw [Nat.add_zero]; exact st⟩
      case round =>
        clear st
        obtain ⟨k, hk, rfl, st⟩ := hrel
        by_cases hkc : k < c
        · obtain ⟨bv, us, K2, K1, K0, ho, B0⟩ := st
          go_upto_region 8 with (fail)
          have bd := Drawn.below (w' := wr.drew) ⟨1, rfl⟩ wr.heap.size
          replace K2 := K2.next bd; replace K1 := K1.next bd; replace K0 := K0.next bd; replace ho := ho.next bd
          replace B0 := B0.trans (bd.mono B0.size)
          have hgx : g + 1 + 1 + 1 ≤ wr.drew.heap.size := by have := K2.lt; omega
          have hik : i * c ≤ 128 * 128 := Nat.mul_le_mul (by omega) hc
          have hgw3 : w.heap.size ≤ g + 1 + 1 + 1 := by omega
          clear bd
          refine startP (S := (fun w' => Below (g + 1 + 1 + 1) wr.drew w')) (by kernel_rfl) _ rfl rfl rfl (by kernel_rfl) (Below.refl _ _) (fun hHeld => ?_)
          refine takeL 0 (v := ?_) rfl (by kernel_rfl) (by kernel_rfl) (by kernel_rfl) (fun _ _ _ h => h) ⟨by rfl, ?_⟩ (by assumption) ?_
          rotate_left
          · intro w hS; go_simp <;> with_reducible rfl
          simp only [Act.put, List.setIfInBounds_toArray, List.set_cons_zero, List.set_cons_succ]
          refine takeL 1 (v := ?_) rfl (by kernel_rfl) (by kernel_rfl) (by kernel_rfl) (fun _ _ _ h => h) ⟨by rfl, ?_⟩ (by assumption) ?_
          rotate_left
          · intro w hS; have fa := (K2.below hS (Nat.lt_succ_self _)).cell; have fb := (K0.below hS (by omega)).cell; have f1 := fa 2; have f2 := fb 0; clear fa fb; go_simp <;> with_reducible rfl
          simp only [Act.put, List.setIfInBounds_toArray, List.set_cons_zero, List.set_cons_succ]
          refine takeL 2 (v := ?_) rfl (by kernel_rfl) (by kernel_rfl) (by kernel_rfl) (fun _ _ _ h => h) ⟨by rfl, ?_⟩ (by assumption) ?_
          rotate_left
          · intro w hS; have fa := (K2.below hS (Nat.lt_succ_self _)).cell; have fb := (K0.below hS (by omega)).cell; have f1 := fa 2; have f2 := fb 0; clear fa fb; go_simp <;> with_reducible rfl
          simp only [Act.put, List.setIfInBounds_toArray, List.set_cons_zero, List.set_cons_succ]
          refine takeL 3 (v := ?_) rfl (by kernel_rfl) (by kernel_rfl) (by kernel_rfl) (fun _ _ _ h => h) ⟨by rfl, ?_⟩ (by assumption) ?_
          rotate_left
          · intro w hS; go_simp <;> with_reducible rfl
          simp only [Act.put, List.setIfInBounds_toArray, List.set_cons_zero, List.set_cons_succ]
          refine takeL 4 (v := ?_) rfl (by kernel_rfl) (by kernel_rfl) (by kernel_rfl) (fun _ _ _ h => h) ⟨by rfl, ?_⟩ (by assumption) ?_
          rotate_left
          · intro w hS; go_simp <;> with_reducible rfl
          simp only [Act.put, List.setIfInBounds_toArray, List.set_cons_zero, List.set_cons_succ]
          refine takeL 5 (v := ?_) rfl (by kernel_rfl) (by kernel_rfl) (by kernel_rfl) (fun _ _ _ h => h) ⟨by rfl, ?_⟩ (by assumption) ?_
          rotate_left
          · intro w hS; go_simp <;> with_reducible rfl
          simp only [Act.put, List.setIfInBounds_toArray, List.set_cons_zero, List.set_cons_succ]
          refine oneL 6 rfl (by kernel_rfl) (by rfl) (fun K hK => ?_)
          go_simp
          rw [hE]
          refine (HF.out i k _ hir hkc B0).mono ?_; rintro e w1 ⟨u, zs0, rfl, s1, l1, v1, b1⟩
          refine hK.out _ _ (hHeld.trans (b1.mono (Nat.le_trans hgx hHeld.size))) (fun hHeld => ?_)
          clear hK K
          try simp only [Act.put, List.setIfInBounds_toArray, List.set_cons_zero, List.set_cons_succ]
          refine oneL 7 rfl (by kernel_rfl) (by rfl) (fun K hK => ?_)
          go_simp
          go_at_call 80
          (with_reducible refine (fp_Norm p u zs0 _ HP.out s1 (by have := HL.out; omega)).mono ?_); rintro e w2 ⟨rq, zs, rfl, o2, n2, v2, l2, b2⟩; obtain ⟨aq, cq, eq9⟩ := o2.sliced; subst eq9
          refine hK.out _ _ (hHeld.trans (b2.mono (Nat.le_trans hgx hHeld.size))) (fun hHeld => ?_)
          clear hK K
          try simp only [Act.put, List.setIfInBounds_toArray, List.set_cons_zero, List.set_cons_succ]
          refine oneL 8 rfl (by kernel_rfl) (by rfl) (fun K hK => ?_)
          go_simp
          have hd := hHeld
          refine hK.out _ _ (hHeld.alloc (Nat.le_trans hgx hHeld.size) _) (fun hHeld => ?_)
          clear hK K
          try simp only [Act.put, List.setIfInBounds_toArray, List.set_cons_zero, List.set_cons_succ]
          refine oneL 9 rfl (by kernel_rfl) (by rfl) (fun K hK => ?_)
          have hq := (ho.next b1).next b2
          refine apV 22 33 24 (.slice none 0 0) Try.underlying22 (by kernel_rfl) (by decide) rfl _ _ rfl w2 (g + 1 + 1 + 1) bv (i * c + k) us (.slice aq zs.length cq) rfl hq.1 (by omega) (Nat.le_trans hgx hd.size) rfl rfl ?_
          intro gg cap1 w5 hown' hbel' hgr' _
          refine hK.out _ _ (hd.trans hbel') (fun hHeld => ?_)
          clear hK K
          try simp only [Act.put, List.setIfInBounds_toArray, List.set_cons_zero, List.set_cons_succ]
          refine takeL 10 (v := ?_) rfl (by kernel_rfl) (by kernel_rfl) (by kernel_rfl) (fun _ _ _ h => h) ⟨by rfl, ?_⟩ (by assumption) ?_
          rotate_left
          · intro w hS; go_simp <;> with_reducible rfl
          simp only [Act.put, List.setIfInBounds_toArray, List.set_cons_zero, List.set_cons_succ]
          refine doneL (by kernel_rfl) ?_ _
          refine lastL rfl (by rfl) ?_
          have hqq := hq.push hgr' hown' o2 (Nat.le_trans hgx b1.size) n2 (v2.trans v1) (Nat.le_trans l2 l1)
          have K2 := K2.below hHeld (Nat.lt_succ_self _)
          have K1 := K1.below hHeld (by omega)
          have K0 := K0.below hHeld (by omega)
          have B0 := B0.trans (hHeld.mono (by omega))
          have f2 := K2.free 2
          have c2 := K2.cell 2
          have K2' := Lib.hid (K2.set 2 (.slice (some ⟨gg, 0, none⟩) (i * c + k + 1) cap1))
          have K1' := Lib.hid (K1.far (a := ⟨g + 1 + 1, 2, none⟩) (by simp) (.slice (some ⟨gg, 0, none⟩) (i * c + k + 1) cap1))
          have K0' := Lib.hid (K0.far (a := ⟨g + 1 + 1, 2, none⟩) (by simp; omega) (.slice (some ⟨gg, 0, none⟩) (i * c + k + 1) cap1))
          have ho' := Lib.hid (hqq.low (a := ⟨g + 1 + 1, 2, none⟩) (Nat.lt_succ_self _) (.slice (some ⟨gg, 0, none⟩) (i * c + k + 1) cap1))
          have B0' := Lib.hid (B0.setCell (p := ⟨g + 1 + 1, 2, none⟩) (show w.heap.size ≤ g + 1 + 1 by omega) (.slice (some ⟨gg, 0, none⟩) (i * c + k + 1) cap1))
          clear K2 K1 K0 hown' hqq hq ho B0 hHeld hd hbel' hgr' o2 n2 v2 l2 b2 s1 l1 v1 b1
          go_wp2
          go_roundw
          case rel => exact ⟨k + 1, by omega, by go_num, _, _, K2'.out, K1'.out, K0'.out, ho'.out, B0'.out⟩
          case measure => simp [intOf] <;> omega
        · obtain rfl : k = c := by omega
          go_wp2
          go_roundw
          case rel => exact ⟨i + 1, by omega, by go_num, by rw [Nat.succ_mul]; exact st⟩
          case measure => simp [intOf] <;> omega
    · obtain rfl : i = r := by omega
      obtain ⟨bv, us, K2, K1, K0, ho, B0⟩ := st
      obtain ⟨aq, cq, rfl⟩ := ho.slc
      have c0 := K2.cell 0; have c1 := K2.cell 1; have c2 := K2.cell 2
      have e0 := K1.cell 0; have e1 := K1.cell 1; have e2 := K1.cell 2
      have f0 := K1.free 0; have f1 := K1.free 1; have f2 := K1.free 2
      have KF := ((K1.set 0 (.int .i64 i)).set 1 (.int .i64 c)).set 2 (.slice aq (i * c) cq)
      have d0 := KF.cell 0; have d1 := KF.cell 1; have d2 := KF.cell 2
      have hlt : g + 1 < g + 1 + 1 + 1 := by omega
      have hof := ((ho.low (a := ⟨g + 1, 0, none⟩) hlt (.int .i64 i)).low (a := ⟨g + 1, 1, none⟩) hlt (.int .i64 c)).low (a := ⟨g + 1, 2, none⟩) hlt (.slice aq (i * c) cq)
      have hgw2 : w.heap.size ≤ g + 1 := by omega
      have BF := ((B0.setCell (p := ⟨g + 1, 0, none⟩) hgw2 (.int .i64 i)).setCell (p := ⟨g + 1, 1, none⟩) hgw2 (.int .i64 c)).setCell (p := ⟨g + 1, 2, none⟩) hgw2 (.slice aq (i * c) cq)
      have FR := Lib.hid (show RetXm p w i c L F (.returned (.agg #[.int .i64 i, .int .i64 c, .slice aq (i * c) cq])) (((wr.setCell ⟨g + 1, 0, none⟩ (.int .i64 i)).setCell ⟨g + 1, 1, none⟩ (.int .i64 c)).setCell ⟨g + 1, 2, none⟩ (.slice aq (i * c) cq)) from ⟨_, _, us, rfl, hof.mono (by omega), BF⟩)
      clear KF K1 K2 K0 hof BF ho B0
      go_wp2
      exact bodyPost_ret (v := .agg #[.int .i64 i, .int .i64 c, .slice aq (i * c) cq]) (by simp [results, Try.results88, go_sem, d0, d1, d2]) rfl FR.out

end Go.Proofs.Ythghdjpjbngllaa
/- Package xmat: the functions that give a matrix's places. -/
namespace Go.Proofs.Ythghdjpjbngllaa
open Go.RowKit

/-- A slice that is there is returned. -/
def RetG (w : World) (zs : List Nat) (e : Ending) (w' : World) : Prop := ∃ u, e = .returned u ∧ Sl .u64 w' u zs ∧ Below w.heap.size w w'
theorem RetG.ps {p L : Nat} {w w' : World} {zs : List Nat} {e : Ending} (h : RetG w zs e w') (hl : zs.length ≤ L) : RetPs p w L (pl p zs) e w' := by
  obtain ⟨u, h1, h2, h3⟩ := h; exact ⟨u, zs, h1, h2, hl, rfl, h3⟩
theorem xm_get (v : Value) (R : Int) (c i k : Nat) (qs : List (List Nat)) (w : World) (hm : Xm w v R c qs) (hi : i ≤ 100000) (hc : c ≤ 100000) (hk : k ≤ 100000) (hj : i * c + k < qs.length) :
    Calls Try.prog 91 #[v, .int .i64 i, .int .i64 k] w (RetG w (qs.getD (i * c + k) [])) := by
  obtain ⟨u, rfl, ao, b, off, cap, U, rfl, hcap, hao, hat⟩ := hm
  obtain ⟨rfl, hbl⟩ := hao (by omega)
  obtain ⟨wb, ew, KA, B0, hsz⟩ := boxes1 w 24 [.int .i64 R, .int .i64 c, .slice (some ⟨b, off, none⟩) qs.length cap]
  clear hsz
  have hw : i * c ≤ 100000 * 100000 := Nat.mul_le_mul hi hc
  have h1 : IntKind.i64.wrap ((i : Int) * (c : Int)) = ((i * c : Nat) : Int) := by rw [← Int.natCast_mul]; exact IntWalk.i64_in _ ⟨by omega, by omega⟩
  have h2' : IntKind.i64.wrap (((i * c : Nat) : Int) + (k : Int)) = ((i * c + k : Nat) : Int) := by rw [← Int.natCast_add]; exact IntWalk.i64_in _ ⟨by omega, by omega⟩
  obtain ⟨q0, s0, _⟩ := hat (i * c + k) hj
  have q1 := (B0.cell (p := ⟨b, off + (i * c + k), none⟩) hbl).trans q0
  have FIN := Lib.hid (show RetG w (qs.getD (i * c + k) []) (.returned (U (i * c + k))) wb from ⟨_, rfl, s0.next B0, B0⟩)
  clear hat s0 q0 B0 hao
  go_enter Try.func91, Try.ntmps91
  go_upto_region 1 with (fail)
  rw [← ew]
  clear ew
  have c1 := KA.cell 1; have c2 := KA.cell 2
  clear KA
  go_wp2
  go_ret
  exact FIN.out

theorem xm_one (i k : Nat) (w : World) : Calls Try.prog 99 #[.int .i64 i, .int .i64 k] w (RetG w (if i = k then [1] else [])) := by
  by_cases h : i = k
  · subst h
    have FIN := Lib.hid (show RetG w (if i = i then [1] else []) (.returned (.slice (some ⟨w.heap.size, 0, none⟩) 1 1)) (w.alloc (.cells #[.int .u64 1] 27)) from ⟨_, rfl, by rw [if_pos rfl]; exact (own_lit1 w 1).sl, (Below.refl _ _).alloc (Nat.le_refl _) _⟩)
    go_enter Try.func99, Try.ntmps99
    go_wp2
    go_ret
    exact FIN.out
  · have hne : ((i : Int) == (k : Int)) = false := by simp; omega
    rw [if_neg h]
    have FIN := Lib.hid (show RetG w [] (.returned (.slice none 0 0)) w from ⟨_, rfl, Sl.nil _ _, Below.refl _ _⟩)
    go_enter Try.func99, Try.ntmps99
    go_wp2
    go_ret
    exact FIN.out

theorem xm_Transpose1 (i k : Nat) (w : World) (hi : i ≤ 100000) (hk : k ≤ 100000) (R1 : Int) (c : Nat) (qs : List (List Nat)) (gA : Nat) (aA : Option Addr) (cA : Nat) (KA : Blk 24 w gA [.int .i64 R1, .int .i64 c, .slice aA qs.length cA]) (hA : Xm w (.agg #[.int .i64 R1, .int .i64 c, .slice aA qs.length cA]) R1 c qs) (hc : c ≤ 100000) (hx : k * c + i < qs.length) :
    Calls Try.prog 102 #[.int .i64 i, .int .i64 k, .pointer (some ⟨gA, 0, none⟩)] w (RetG w (qs.getD (k * c + i) [])) := by
  have a0 := KA.cell 0; have a1 := KA.cell 1; have a2 := KA.cell 2
  go_enter Try.func102, Try.ntmps102
  go_wp2_with fail
  refine (xm_get _ R1 c k i qs _ hA hk hc hi hx).mono ?_; rintro e w2 ⟨u, rfl, s2, b2⟩
  go_wp2
  go_ret
  exact ⟨u, rfl, s2, b2⟩

theorem xm_Add1 (p i k L : Nat) (w : World) (hp : FP p) (hi : i ≤ 100000) (hk : k ≤ 100000) (R1 R2 : Int) (c : Nat) (xs ys : List (List Nat)) (gF : Nat) (KF : Blk 29 w gF [.int .u64 p])
    (gA : Nat) (aA : Option Addr) (cA : Nat) (KA : Blk 24 w gA [.int .i64 R1, .int .i64 c, .slice aA xs.length cA]) (hA : Xm w (.agg #[.int .i64 R1, .int .i64 c, .slice aA xs.length cA]) R1 c xs)
    (gB : Nat) (aB : Option Addr) (cB : Nat) (KB : Blk 24 w gB [.int .i64 R2, .int .i64 c, .slice aB ys.length cB]) (hB : Xm w (.agg #[.int .i64 R2, .int .i64 c, .slice aB ys.length cB]) R2 c ys) (hc : c ≤ 100000) (hx : i * c + k < xs.length) (hy : i * c + k < ys.length) (hL : L ≤ 1000000) (hlx : (xs.getD (i * c + k) []).length ≤ L) (hly : (ys.getD (i * c + k) []).length ≤ L) :
    Calls Try.prog 101 #[.int .i64 i, .int .i64 k, .pointer (some ⟨gF, 0, none⟩), .pointer (some ⟨gA, 0, none⟩), .pointer (some ⟨gB, 0, none⟩)] w (RetPs p w L (pl p (xs.getD (i * c + k) []) + pl p (ys.getD (i * c + k) []))) := by
  have HP := Lib.hid hp; clear hp
  obtain ⟨x, ex⟩ : ∃ x, x = xs.getD (i * c + k) [] := ⟨_, rfl⟩
  obtain ⟨y, ey⟩ : ∃ y, y = ys.getD (i * c + k) [] := ⟨_, rfl⟩
  rw [← ex] at hlx ⊢; rw [← ey] at hly ⊢
  have EX := Lib.hid ex; have EY := Lib.hid ey; clear ex ey
  go_enter Try.func101, Try.ntmps101
  go_upto_region 1 with (fail)
  have B0 := Drawn.below (w' := w.drew) ⟨1, rfl⟩ w.heap.size
  replace KA := KA.next B0; replace KB := KB.next B0; replace KF := KF.next B0; replace hA := hA.next B0; replace hB := hB.next B0
  refine startL (S := (fun w' => Below (w.drew).heap.size (w.drew) w')) (by kernel_rfl) (Below.refl _ _) (fun hHeld => ?_)
  refine takeL 0 (v := ?_) rfl (by kernel_rfl) (by kernel_rfl) (by kernel_rfl) (fun _ _ _ h => h) ⟨by rfl, ?_⟩ (by assumption) ?_
  rotate_left
  · intro w hS; have fa := KA.at hS; have f1 := fa 0; have f2 := fa 1; have f3 := fa 2; clear fa; have fb := KB.at hS; have f4 := fb 0; have f5 := fb 1; have f6 := fb 2; clear fb; have ff := KF.at hS; have f7 := ff 0; clear ff; go_simp <;> with_reducible rfl
  simp only [Act.put, List.setIfInBounds_toArray, List.set_cons_zero, List.set_cons_succ]
  refine takeL 1 (v := ?_) rfl (by kernel_rfl) (by kernel_rfl) (by kernel_rfl) (fun _ _ _ h => h) ⟨by rfl, ?_⟩ (by assumption) ?_
  rotate_left
  · intro w hS; have fa := KA.at hS; have f1 := fa 0; have f2 := fa 1; have f3 := fa 2; clear fa; have fb := KB.at hS; have f4 := fb 0; have f5 := fb 1; have f6 := fb 2; clear fb; have ff := KF.at hS; have f7 := ff 0; clear ff; go_simp <;> with_reducible rfl
  simp only [Act.put, List.setIfInBounds_toArray, List.set_cons_zero, List.set_cons_succ]
  refine takeL 2 (v := ?_) rfl (by kernel_rfl) (by kernel_rfl) (by kernel_rfl) (fun _ _ _ h => h) ⟨by rfl, ?_⟩ (by assumption) ?_
  rotate_left
  · intro w hS; go_simp <;> with_reducible rfl
  simp only [Act.put, List.setIfInBounds_toArray, List.set_cons_zero, List.set_cons_succ]
  refine takeL 3 (v := ?_) rfl (by kernel_rfl) (by kernel_rfl) (by kernel_rfl) (fun _ _ _ h => h) ⟨by rfl, ?_⟩ (by assumption) ?_
  rotate_left
  · intro w hS; go_simp <;> with_reducible rfl
  simp only [Act.put, List.setIfInBounds_toArray, List.set_cons_zero, List.set_cons_succ]
  refine takeL 5 (v := ?_) rfl (by kernel_rfl) (by kernel_rfl) (by kernel_rfl) (fun _ _ _ h => h) ⟨by rfl, ?_⟩ (by assumption) ?_
  rotate_left
  · intro w hS; have fa := KA.at hS; have f1 := fa 0; have f2 := fa 1; have f3 := fa 2; clear fa; have fb := KB.at hS; have f4 := fb 0; have f5 := fb 1; have f6 := fb 2; clear fb; have ff := KF.at hS; have f7 := ff 0; clear ff; go_simp <;> with_reducible rfl
  simp only [Act.put, List.setIfInBounds_toArray, List.set_cons_zero, List.set_cons_succ]
  refine takeL 6 (v := ?_) rfl (by kernel_rfl) (by kernel_rfl) (by kernel_rfl) (fun _ _ _ h => h) ⟨by rfl, ?_⟩ (by assumption) ?_
  rotate_left
  · intro w hS; go_simp <;> with_reducible rfl
  simp only [Act.put, List.setIfInBounds_toArray, List.set_cons_zero, List.set_cons_succ]
  refine takeL 7 (v := ?_) rfl (by kernel_rfl) (by kernel_rfl) (by kernel_rfl) (fun _ _ _ h => h) ⟨by rfl, ?_⟩ (by assumption) ?_
  rotate_left
  · intro w hS; go_simp <;> with_reducible rfl
  simp only [Act.put, List.setIfInBounds_toArray, List.set_cons_zero, List.set_cons_succ]
  refine oneL 4 rfl (by kernel_rfl) (by rfl) (fun K hK => ?_)
  go_simp
  go_at_call 91
  (with_reducible refine (xm_get _ R1 c i k xs _ (hA.next hHeld) (by omega) (by omega) (by omega) hx).mono ?_); rintro e w2 ⟨u2, rfl, s2, b2⟩; rw [← EX.out] at s2
  refine hK.out _ _ (hHeld.trans (b2.mono hHeld.size)) (fun hHeld => ?_)
  clear hK K
  try simp only [Act.put, List.setIfInBounds_toArray, List.set_cons_zero, List.set_cons_succ]
  refine oneL 8 rfl (by kernel_rfl) (by rfl) (fun K hK => ?_)
  go_simp
  go_at_call 91
  (with_reducible refine (xm_get _ R2 c i k ys _ (hB.next hHeld) (by omega) (by omega) (by omega) hy).mono ?_); rintro e w3 ⟨u3, rfl, s3, b3⟩; rw [← EY.out] at s3
  refine hK.out _ _ (hHeld.trans (b3.mono hHeld.size)) (fun hHeld => ?_)
  clear hK K
  try simp only [Act.put, List.setIfInBounds_toArray, List.set_cons_zero, List.set_cons_succ]
  refine oneL 9 rfl (by kernel_rfl) (by rfl) (fun K hK => ?_)
  go_simp
  go_at_call 90
  (with_reducible refine (fp_Add p u2 u3 x y _ HP.out (s2.next b3) s3 (by omega) (by omega)).mono ?_); rintro e w4 ⟨r4, z4, rfl, o4, n4, v4, l4, b4⟩
  refine hK.out _ _ (hHeld.trans (b4.mono hHeld.size)) (fun hHeld => ?_)
  clear hK K
  try simp only [Act.put, List.setIfInBounds_toArray, List.set_cons_zero, List.set_cons_succ]
  refine takeL 10 (v := ?_) rfl (by kernel_rfl) (by kernel_rfl) (by kernel_rfl) (fun _ _ _ h => h) ⟨by rfl, ?_⟩ (by assumption) ?_
  rotate_left
  · intro w hS; go_simp <;> with_reducible rfl
  simp only [Act.put, List.setIfInBounds_toArray, List.set_cons_zero, List.set_cons_succ]
  refine doneL (by kernel_rfl) ?_ _
  replace B0 := B0.trans (hHeld.mono B0.size)
  have FIN := Lib.hid (show RetPs p w L (pl p x + pl p y) (.returned r4) w4 from ⟨r4, z4, rfl, o4.sl, by omega, v4, B0⟩)
  clear B0 o4 l4 v4 n4 hHeld
  go_wp2
  go_ret
  exact FIN.out

end Go.Proofs.Ythghdjpjbngllaa
/- Package xmat: alike, Norm, Identity, Add, Transpose. -/
namespace Go.Proofs.Ythghdjpjbngllaa
open Go.RowKit

theorem xm_alike (a b : Value) (R1 C1 R2 C2 : Int) (xs ys : List (List Nat)) (w : World) (hA : Xm w a R1 C1 xs) (hB : Xm w b R2 C2 ys) :
    Calls Try.prog 100 #[a, b] w (RetW w (.bool (decide (Al R1 C1 R2 C2 xs.length ys.length)))) := by
  obtain ⟨ao, ca, rfl⟩ := hA.agg
  obtain ⟨bo, cb, rfl⟩ := hB.agg
  obtain ⟨wb, ew, KA, KB, B0, hsz⟩ := boxes2 w 24 24 [.int .i64 R1, .int .i64 C1, .slice ao xs.length ca] [.int .i64 R2, .int .i64 C2, .slice bo ys.length cb]
  clear hsz
  replace hA := hA.next B0; replace hB := hB.next B0
  by_cases h1 : Fd R1 C1 xs.length
  · by_cases h2 : Fd R2 C2 ys.length
    · have ed : decide (Al R1 C1 R2 C2 xs.length ys.length) = (R1 == R2 && C1 == C2) := by
        by_cases h3 : R1 = R2 <;> by_cases h4 : C1 = C2 <;> simp [Al, h1, h2, h3, h4] <;> simp_all
      rw [ed]
      clear ed
      go_enter Try.func100, Try.ntmps100
      go_wp2_with fail
      rw [← ew]
      clear ew
      refine (xm_Formed_yes _ R1 C1 xs _ hA h1).mono ?_; rintro e w2 ⟨rfl, b2⟩
      have fb := KB.at b2; have e0 := fb 0; have e1 := fb 1; have e2 := fb 2; clear fb
      go_wp2_with fail
      refine (xm_Formed_yes _ R2 C2 ys _ (hB.next b2) h2).mono ?_; rintro e w3 ⟨rfl, b3⟩
      clear e0 e1 e2
      have b4 := b2.trans (b3.mono b2.size)
      have fa := KA.at b4; have fb := KB.at b4; have f0 := fa 0; have f1 := fa 1; have e0 := fb 0; have e1 := fb 1; clear fa fb
      replace B0 := B0.trans (b4.mono B0.size)
      by_cases h3 : R1 = R2
      · have h3' : (R1 == R2) = true := by simp [h3]
        rw [h3']
        go_wp2
        go_ret
        exact ⟨by simp [h3], B0⟩
      · have h3' : (R1 == R2) = false := by simp [h3]
        rw [h3']
        go_wp2
        go_ret
        exact ⟨by simp [h3], B0⟩
    · rw [decide_eq_false (show ¬ Al R1 C1 R2 C2 xs.length ys.length from fun h => h2 h.2.1)]
      go_enter Try.func100, Try.ntmps100
      go_wp2_with fail
      rw [← ew]
      clear ew
      refine (xm_Formed_yes _ R1 C1 xs _ hA h1).mono ?_; rintro e w2 ⟨rfl, b2⟩
      have fb := KB.at b2; have e0 := fb 0; have e1 := fb 1; have e2 := fb 2; clear fb
      go_wp2_with fail
      refine (xm_Formed_no _ R2 C2 ys _ (hB.next b2) h2).mono ?_; rintro e w3 ⟨rfl, b3⟩
      clear e0 e1 e2
      replace B0 := B0.trans ((b2.trans (b3.mono b2.size)).mono B0.size)
      go_wp2
      go_ret
      exact ⟨rfl, B0⟩
  · rw [decide_eq_false (show ¬ Al R1 C1 R2 C2 xs.length ys.length from fun h => h1 h.1)]
    go_enter Try.func100, Try.ntmps100
    go_wp2_with fail
    rw [← ew]
    clear ew
    refine (xm_Formed_no _ R1 C1 xs _ hA h1).mono ?_; rintro e w2 ⟨rfl, b2⟩
    replace B0 := B0.trans (b2.mono B0.size)
    go_wp2
    go_ret
    exact ⟨rfl, B0⟩
theorem xm_alike_yes (a b : Value) (R1 C1 R2 C2 : Int) (xs ys : List (List Nat)) (w : World) (hA : Xm w a R1 C1 xs) (hB : Xm w b R2 C2 ys) (h : Al R1 C1 R2 C2 xs.length ys.length) :
    Calls Try.prog 100 #[a, b] w (RetW w (.bool true)) := by
  have := xm_alike a b R1 C1 R2 C2 xs ys w hA hB
  rwa [decide_eq_true h] at this
theorem xm_alike_no (a b : Value) (R1 C1 R2 C2 : Int) (xs ys : List (List Nat)) (w : World) (hA : Xm w a R1 C1 xs) (hB : Xm w b R2 C2 ys) (h : ¬ Al R1 C1 R2 C2 xs.length ys.length) :
    Calls Try.prog 100 #[a, b] w (RetW w (.bool false)) := by
  have := xm_alike a b R1 C1 R2 C2 xs ys w hA hB
  rwa [decide_eq_false h] at this

/-- A matrix of polynomials and OK are returned. -/
def RetXE (p : Nat) (w : World) (r c L : Nat) (F : Nat → Pol (Zp p)) (e : Ending) (w' : World) : Prop :=
  ∃ ao k us, e = .returned (.tuple #[.agg #[.int .i64 r, .int .i64 c, .slice ao (r * c) k], .int .i64 0]) ∧ Qls p w' w.heap.size (.slice ao (r * c) k) us (r * c) L F ∧ Below w.heap.size w w'

theorem xm_Norm (p L : Nat) (a : Value) (r c : Nat) (xs : List (List Nat)) (w : World) (hp : FP p) (hA : Xm w a r c xs) (hr : r ≤ 64) (hc : c ≤ 64) (hx : xs.length = r * c) (hL : L ≤ 1000000) (hl : ∀ j, j < r * c → (xs.getD j []).length ≤ L)
    (T : Nat → Pol (Zp p)) (hT : ∀ i k, i < r → k < c → T (i * c + k) = pl p (xs.getD (i * c + k) [])) :
    Calls Try.prog 43 #[.agg #[.int .u64 p], a] w (RetXE p w r c L T) := by
  obtain ⟨aA, cA, rfl⟩ := hA.agg
  have HLL := Lib.hid hl; clear hl
  obtain ⟨wb, ew, KF, KA, KR, B0, hsz⟩ := boxes3 w 29 24 24 [.int .u64 p] [.int .i64 r, .int .i64 c, .slice aA xs.length cA] [.int .i64 0, .int .i64 0, .slice none 0 0]
  clear hsz
  replace hA := hA.next B0
  have HX := Lib.hid hx; have HL := Lib.hid hL; have HTT := Lib.hid hT; clear hx hL hT
  have HP := Lib.hid hp; clear hp
  go_enter Try.func43, Try.ntmps43
  go_wp2_with fail
  rw [← ew]
  obtain ⟨g, eg⟩ : ∃ g, g = w.heap.size + 1 + 1 := ⟨_, rfl⟩
  rw [← eg] at KR ⊢
  have hgw : w.heap.size ≤ g := by omega
  clear ew eg
  refine (xm_Formed_yes _ r c xs _ hA (Fd.of hr hc HX.out)).mono ?_; rintro e w2 ⟨rfl, b2⟩
  replace hA := hA.next b2; replace KF := KF.next b2; replace KA := KA.next b2; replace KR := KR.next b2
  replace B0 := B0.trans (b2.mono B0.size)
  clear b2
  have fKF0 := KF.cell 0; have fKA0 := KA.cell 0; have fKA1 := KA.cell 1; have fKA2 := KA.cell 2
  go_wp2_with fail
  refine (xm_madeB p r c L HP.out (by omega) (by omega) HL.out 91 (enters_of Try.func91 rfl rfl) (.agg #[.int .i64 r, .int .i64 c, .slice aA xs.length cA]) T _ (fun i k w' hi hk hb => by
    rw [HTT.out i k hi hk]
    exact (xm_get _ r c i k xs w' (hA.next hb) (by omega) (by omega) (by omega) (by rw [HX.out]; exact at_lt rfl hi hk)).mono fun _ _ h => h.ps (HLL.out _ (at_lt rfl hi hk)))).mono ?_; rintro e w3 ⟨a3, k3, us3, rfl, o3, b3⟩
  clear fKF0 fKA0 fKA1 fKA2
  clear KF KA hA
  have hgb := KR.lt
  replace KR := KR.next b3
  replace B0 := B0.trans (b3.mono B0.size)
  clear b3
  have f0 := KR.free 0; have f1 := KR.free 1; have f2 := KR.free 2
  have c0 := KR.cell 0; have c1 := KR.cell 1; have c2 := KR.cell 2
  have KF := ((KR.set 0 (.int .i64 (r : Nat))).set 1 (.int .i64 (c : Nat))).set 2 (.slice a3 (r * c) k3)
  have d0 := KF.cell 0; have d1 := KF.cell 1; have d2 := KF.cell 2
  have of := ((o3.low (a := ⟨g, 0, none⟩) hgb (.int .i64 (r : Nat))).low (a := ⟨g, 1, none⟩) hgb (.int .i64 (c : Nat))).low (a := ⟨g, 2, none⟩) hgb (.slice a3 (r * c) k3)
  have BF := ((B0.setCell (p := ⟨g, 0, none⟩) hgw (.int .i64 (r : Nat))).setCell (p := ⟨g, 1, none⟩) hgw (.int .i64 (c : Nat))).setCell (p := ⟨g, 2, none⟩) hgw (.slice a3 (r * c) k3)
  have FR := Lib.hid (show RetXE p w r c L T (.returned (.tuple #[.agg #[.int .i64 (r : Nat), .int .i64 (c : Nat), .slice a3 (r * c) k3], .int .i64 0])) (((w3.setCell ⟨g, 0, none⟩ (.int .i64 (r : Nat))).setCell ⟨g, 1, none⟩ (.int .i64 (c : Nat))).setCell ⟨g, 2, none⟩ (.slice a3 (r * c) k3)) from ⟨a3, k3, us3, rfl, of.mono (by omega), BF⟩)
  clear KF KR of BF B0 o3
  go_wp2
  exact bodyPost_ret (v := .tuple #[.agg #[.int .i64 (r : Nat), .int .i64 (c : Nat), .slice a3 (r * c) k3], .int .i64 0]) (by simp [results, Try.results43, go_sem, d0, d1, d2]) rfl FR.out
theorem xm_Norm_bad (p : Nat) (a : Value) (R C : Int) (xs : List (List Nat)) (w : World) (hA : Xm w a R C xs) (h : ¬ Fd R C xs.length) :
    Calls Try.prog 43 #[.agg #[.int .u64 p], a] w (RetFX w 2) := by
  obtain ⟨aA, cA, rfl⟩ := hA.agg
  obtain ⟨wb, ew, KF, KA, KR, B0, hsz⟩ := boxes3 w 29 24 24 [.int .u64 p] [.int .i64 R, .int .i64 C, .slice aA xs.length cA] [.int .i64 0, .int .i64 0, .slice none 0 0]
  clear hsz
  replace hA := hA.next B0
  go_enter Try.func43, Try.ntmps43
  go_wp2_with fail
  rw [← ew]
  obtain ⟨g, eg⟩ : ∃ g, g = w.heap.size + 1 + 1 := ⟨_, rfl⟩
  rw [← eg] at KR ⊢
  have hgw : w.heap.size ≤ g := by omega
  clear ew eg
  refine (xm_Formed_no _ R C xs _ hA h).mono ?_; rintro e w2 ⟨rfl, b2⟩
  replace KR := KR.next b2
  replace B0 := B0.trans (b2.mono B0.size)
  clear b2
  clear hA KA KF
  have f0 := KR.free 0; have f1 := KR.free 1; have f2 := KR.free 2
  have c0 := KR.cell 0; have c1 := KR.cell 1; have c2 := KR.cell 2
  have KF := ((KR.set 0 (.int .i64 0)).set 1 (.int .i64 0)).set 2 (.slice none 0 0)
  have d0 := KF.cell 0; have d1 := KF.cell 1; have d2 := KF.cell 2
  have FR := Lib.hid (show RetFX w 2 (.returned (.tuple #[.agg #[.int .i64 0, .int .i64 0, .slice none 0 0], .int .i64 2])) (((w2.setCell ⟨g, 0, none⟩ (.int .i64 0)).setCell ⟨g, 1, none⟩ (.int .i64 0)).setCell ⟨g, 2, none⟩ (.slice none 0 0)) from ⟨rfl, ((B0.setCell (p := ⟨g, 0, none⟩) hgw _).setCell (p := ⟨g, 1, none⟩) hgw _).setCell (p := ⟨g, 2, none⟩) hgw _⟩)
  clear KF KR B0
  go_wp2
  exact bodyPost_ret (v := .tuple #[.agg #[.int .i64 0, .int .i64 0, .slice none 0 0], .int .i64 2]) (by simp [results, Try.results43, go_sem, d0, d1, d2]) rfl FR.out
theorem xm_Add (p L : Nat) (a b : Value) (r c : Nat) (xs ys : List (List Nat)) (w : World) (hp : FP p) (hA : Xm w a r c xs) (hB : Xm w b r c ys) (hr : r ≤ 64) (hc : c ≤ 64) (hx : xs.length = r * c) (hy : ys.length = r * c) (hL : L ≤ 1000000)
    (hlx : ∀ j, j < r * c → (xs.getD j []).length ≤ L) (hly : ∀ j, j < r * c → (ys.getD j []).length ≤ L) (T : Nat → Pol (Zp p)) (hT : ∀ i k, i < r → k < c → T (i * c + k) = pl p (xs.getD (i * c + k) []) + pl p (ys.getD (i * c + k) [])) :
    Calls Try.prog 41 #[.agg #[.int .u64 p], a, b] w (RetXE p w r c L T) := by
  obtain ⟨aA, cA, rfl⟩ := hA.agg
  obtain ⟨aB, cB, rfl⟩ := hB.agg
  obtain ⟨wb, ew, KF, KA, KB, KR, B0, hsz⟩ := boxes4 w 29 24 24 24 [.int .u64 p] [.int .i64 r, .int .i64 c, .slice aA xs.length cA] [.int .i64 r, .int .i64 c, .slice aB ys.length cB] [.int .i64 0, .int .i64 0, .slice none 0 0]
  clear hsz
  replace hA := hA.next B0; replace hB := hB.next B0
  have HLX := Lib.hid hlx; have HLY := Lib.hid hly; have HY := Lib.hid hy; clear hlx hly hy
  have HX := Lib.hid hx; have HL := Lib.hid hL; have HTT := Lib.hid hT; clear hx hL hT
  have HP := Lib.hid hp; clear hp
  go_enter Try.func41, Try.ntmps41
  go_wp2_with fail
  rw [← ew]
  obtain ⟨g, eg⟩ : ∃ g, g = w.heap.size + 1 + 1 + 1 := ⟨_, rfl⟩
  rw [← eg] at KR ⊢
  have hgw : w.heap.size ≤ g := by omega
  clear ew eg
  refine (xm_alike_yes _ _ r c r c xs ys _ hA hB ⟨Fd.of hr hc HX.out, Fd.of hr hc HY.out, rfl, rfl⟩).mono ?_; rintro e w2 ⟨rfl, b2⟩
  replace hA := hA.next b2; replace hB := hB.next b2; replace KF := KF.next b2; replace KA := KA.next b2; replace KB := KB.next b2; replace KR := KR.next b2
  replace B0 := B0.trans (b2.mono B0.size)
  clear b2
  have fKF0 := KF.cell 0; have fKA0 := KA.cell 0; have fKA1 := KA.cell 1
  go_wp2_with fail
  refine (xm_made p r c L HP.out (by omega) (by omega) HL.out 101 (enters_of Try.func101 rfl rfl) [.pointer (some ⟨w.heap.size, 0, none⟩), .pointer (some ⟨w.heap.size + 1, 0, none⟩), .pointer (some ⟨w.heap.size + 1 + 1, 0, none⟩)] T _ (fun i k w' hi hk hb => by
    rw [HTT.out i k hi hk]
    exact xm_Add1 p i k L w' HP.out (by omega) (by omega) r r c xs ys _ (KF.next hb) _ _ _ (KA.next hb) (hA.next hb) _ _ _ (KB.next hb) (hB.next hb) (by omega) (by rw [HX.out]; exact at_lt rfl hi hk) (by rw [HY.out]; exact at_lt rfl hi hk) HL.out (HLX.out _ (at_lt rfl hi hk)) (HLY.out _ (at_lt rfl hi hk)))).mono ?_; rintro e w3 ⟨a3, k3, us3, rfl, o3, b3⟩
  clear fKF0 fKA0 fKA1
  clear KF KA KB hA hB
  have hgb := KR.lt
  replace KR := KR.next b3
  replace B0 := B0.trans (b3.mono B0.size)
  clear b3
  have f0 := KR.free 0; have f1 := KR.free 1; have f2 := KR.free 2
  have c0 := KR.cell 0; have c1 := KR.cell 1; have c2 := KR.cell 2
  have KF := ((KR.set 0 (.int .i64 (r : Nat))).set 1 (.int .i64 (c : Nat))).set 2 (.slice a3 (r * c) k3)
  have d0 := KF.cell 0; have d1 := KF.cell 1; have d2 := KF.cell 2
  have of := ((o3.low (a := ⟨g, 0, none⟩) hgb (.int .i64 (r : Nat))).low (a := ⟨g, 1, none⟩) hgb (.int .i64 (c : Nat))).low (a := ⟨g, 2, none⟩) hgb (.slice a3 (r * c) k3)
  have BF := ((B0.setCell (p := ⟨g, 0, none⟩) hgw (.int .i64 (r : Nat))).setCell (p := ⟨g, 1, none⟩) hgw (.int .i64 (c : Nat))).setCell (p := ⟨g, 2, none⟩) hgw (.slice a3 (r * c) k3)
  have FR := Lib.hid (show RetXE p w r c L T (.returned (.tuple #[.agg #[.int .i64 (r : Nat), .int .i64 (c : Nat), .slice a3 (r * c) k3], .int .i64 0])) (((w3.setCell ⟨g, 0, none⟩ (.int .i64 (r : Nat))).setCell ⟨g, 1, none⟩ (.int .i64 (c : Nat))).setCell ⟨g, 2, none⟩ (.slice a3 (r * c) k3)) from ⟨a3, k3, us3, rfl, of.mono (by omega), BF⟩)
  clear KF KR of BF B0 o3
  go_wp2
  exact bodyPost_ret (v := .tuple #[.agg #[.int .i64 (r : Nat), .int .i64 (c : Nat), .slice a3 (r * c) k3], .int .i64 0]) (by simp [results, Try.results41, go_sem, d0, d1, d2]) rfl FR.out
theorem xm_Transpose (p L : Nat) (a : Value) (r c : Nat) (xs : List (List Nat)) (w : World) (hp : FP p) (hA : Xm w a r c xs) (hr : r ≤ 64) (hc : c ≤ 64) (hx : xs.length = r * c) (hL : L ≤ 1000000) (hl : ∀ j, j < r * c → (xs.getD j []).length ≤ L)
    (T : Nat → Pol (Zp p)) (hT : ∀ i k, i < c → k < r → T (i * r + k) = pl p (xs.getD (k * c + i) [])) :
    Calls Try.prog 42 #[.agg #[.int .u64 p], a] w (RetXE p w c r L T) := by
  obtain ⟨aA, cA, rfl⟩ := hA.agg
  have HLL := Lib.hid hl; clear hl
  obtain ⟨wb, ew, KF, KA, KR, B0, hsz⟩ := boxes3 w 29 24 24 [.int .u64 p] [.int .i64 r, .int .i64 c, .slice aA xs.length cA] [.int .i64 0, .int .i64 0, .slice none 0 0]
  clear hsz
  replace hA := hA.next B0
  have HX := Lib.hid hx; have HL := Lib.hid hL; have HTT := Lib.hid hT; clear hx hL hT
  have HP := Lib.hid hp; clear hp
  go_enter Try.func42, Try.ntmps42
  go_wp2_with fail
  rw [← ew]
  obtain ⟨g, eg⟩ : ∃ g, g = w.heap.size + 1 + 1 := ⟨_, rfl⟩
  rw [← eg] at KR ⊢
  have hgw : w.heap.size ≤ g := by omega
  clear ew eg
  refine (xm_Formed_yes _ r c xs _ hA (Fd.of hr hc HX.out)).mono ?_; rintro e w2 ⟨rfl, b2⟩
  replace hA := hA.next b2; replace KF := KF.next b2; replace KA := KA.next b2; replace KR := KR.next b2
  replace B0 := B0.trans (b2.mono B0.size)
  clear b2
  have fKF0 := KF.cell 0; have fKA0 := KA.cell 0; have fKA1 := KA.cell 1
  go_wp2_with fail
  refine (xm_made p c r L HP.out (by omega) (by omega) HL.out 102 (enters_of Try.func102 rfl rfl) [.pointer (some ⟨w.heap.size + 1, 0, none⟩)] T _ (fun i k w' hi hk hb => by
    rw [HTT.out i k hi hk]
    exact (xm_Transpose1 i k w' (by omega) (by omega) r c xs _ _ _ (KA.next hb) (hA.next hb) (by omega) (by rw [HX.out]; exact at_lt rfl hk hi)).mono fun _ _ h => h.ps (HLL.out _ (at_lt rfl hk hi)))).mono ?_; rintro e w3 ⟨a3, k3, us3, rfl, o3, b3⟩
  clear fKF0 fKA0 fKA1
  clear KF KA hA
  have hgb := KR.lt
  replace KR := KR.next b3
  replace B0 := B0.trans (b3.mono B0.size)
  clear b3
  have f0 := KR.free 0; have f1 := KR.free 1; have f2 := KR.free 2
  have c0 := KR.cell 0; have c1 := KR.cell 1; have c2 := KR.cell 2
  have KF := ((KR.set 0 (.int .i64 (c : Nat))).set 1 (.int .i64 (r : Nat))).set 2 (.slice a3 (c * r) k3)
  have d0 := KF.cell 0; have d1 := KF.cell 1; have d2 := KF.cell 2
  have of := ((o3.low (a := ⟨g, 0, none⟩) hgb (.int .i64 (c : Nat))).low (a := ⟨g, 1, none⟩) hgb (.int .i64 (r : Nat))).low (a := ⟨g, 2, none⟩) hgb (.slice a3 (c * r) k3)
  have BF := ((B0.setCell (p := ⟨g, 0, none⟩) hgw (.int .i64 (c : Nat))).setCell (p := ⟨g, 1, none⟩) hgw (.int .i64 (r : Nat))).setCell (p := ⟨g, 2, none⟩) hgw (.slice a3 (c * r) k3)
  have FR := Lib.hid (show RetXE p w c r L T (.returned (.tuple #[.agg #[.int .i64 (c : Nat), .int .i64 (r : Nat), .slice a3 (c * r) k3], .int .i64 0])) (((w3.setCell ⟨g, 0, none⟩ (.int .i64 (c : Nat))).setCell ⟨g, 1, none⟩ (.int .i64 (r : Nat))).setCell ⟨g, 2, none⟩ (.slice a3 (c * r) k3)) from ⟨a3, k3, us3, rfl, of.mono (by omega), BF⟩)
  clear KF KR of BF B0 o3
  go_wp2
  exact bodyPost_ret (v := .tuple #[.agg #[.int .i64 (c : Nat), .int .i64 (r : Nat), .slice a3 (c * r) k3], .int .i64 0]) (by simp [results, Try.results42, go_sem, d0, d1, d2]) rfl FR.out

end Go.Proofs.Ythghdjpjbngllaa
/- xmat: what has no determinant; what is not formed. -/
namespace Go.Proofs.Ythghdjpjbngllaa
open Go.RowKit

theorem xm_Add_bad (p : Nat) (a b : Value) (R1 C1 R2 C2 : Int) (xs ys : List (List Nat)) (w : World) (hA : Xm w a R1 C1 xs) (hB : Xm w b R2 C2 ys) (h : ¬ Al R1 C1 R2 C2 xs.length ys.length) :
    Calls Try.prog 41 #[.agg #[.int .u64 p], a, b] w (RetFX w 2) := by
  obtain ⟨aA, cA, rfl⟩ := hA.agg
  obtain ⟨aB, cB, rfl⟩ := hB.agg
  obtain ⟨wb, ew, KF, KA, KB, KR, B0, hsz⟩ := boxes4 w 29 24 24 24 [.int .u64 p] [.int .i64 R1, .int .i64 C1, .slice aA xs.length cA] [.int .i64 R2, .int .i64 C2, .slice aB ys.length cB] [.int .i64 0, .int .i64 0, .slice none 0 0]
  clear hsz
  replace hA := hA.next B0; replace hB := hB.next B0
  go_enter Try.func41, Try.ntmps41
  go_wp2_with fail
  rw [← ew]
  obtain ⟨g, eg⟩ : ∃ g, g = w.heap.size + 1 + 1 + 1 := ⟨_, rfl⟩
  rw [← eg] at KR ⊢
  have hgw : w.heap.size ≤ g := by omega
  clear ew eg
  refine (xm_alike_no _ _ R1 C1 R2 C2 xs ys _ hA hB h).mono ?_; rintro e w2 ⟨rfl, b2⟩
  replace KR := KR.next b2
  replace B0 := B0.trans (b2.mono B0.size)
  clear b2
  clear hA hB KA KB KF
  have f0 := KR.free 0; have f1 := KR.free 1; have f2 := KR.free 2
  have c0 := KR.cell 0; have c1 := KR.cell 1; have c2 := KR.cell 2
  have KF := ((KR.set 0 (.int .i64 0)).set 1 (.int .i64 0)).set 2 (.slice none 0 0)
  have d0 := KF.cell 0; have d1 := KF.cell 1; have d2 := KF.cell 2
  have FR := Lib.hid (show RetFX w 2 (.returned (.tuple #[.agg #[.int .i64 0, .int .i64 0, .slice none 0 0], .int .i64 2])) (((w2.setCell ⟨g, 0, none⟩ (.int .i64 0)).setCell ⟨g, 1, none⟩ (.int .i64 0)).setCell ⟨g, 2, none⟩ (.slice none 0 0)) from ⟨rfl, ((B0.setCell (p := ⟨g, 0, none⟩) hgw _).setCell (p := ⟨g, 1, none⟩) hgw _).setCell (p := ⟨g, 2, none⟩) hgw _⟩)
  clear KF KR B0
  go_wp2
  exact bodyPost_ret (v := .tuple #[.agg #[.int .i64 0, .int .i64 0, .slice none 0 0], .int .i64 2]) (by simp [results, Try.results41, go_sem, d0, d1, d2]) rfl FR.out
theorem xm_Transpose_bad (p : Nat) (a : Value) (R C : Int) (xs : List (List Nat)) (w : World) (hA : Xm w a R C xs) (h : ¬ Fd R C xs.length) :
    Calls Try.prog 42 #[.agg #[.int .u64 p], a] w (RetFX w 2) := by
  obtain ⟨aA, cA, rfl⟩ := hA.agg
  obtain ⟨wb, ew, KF, KA, KR, B0, hsz⟩ := boxes3 w 29 24 24 [.int .u64 p] [.int .i64 R, .int .i64 C, .slice aA xs.length cA] [.int .i64 0, .int .i64 0, .slice none 0 0]
  clear hsz
  replace hA := hA.next B0
  go_enter Try.func42, Try.ntmps42
  go_wp2_with fail
  rw [← ew]
  obtain ⟨g, eg⟩ : ∃ g, g = w.heap.size + 1 + 1 := ⟨_, rfl⟩
  rw [← eg] at KR ⊢
  have hgw : w.heap.size ≤ g := by omega
  clear ew eg
  refine (xm_Formed_no _ R C xs _ hA h).mono ?_; rintro e w2 ⟨rfl, b2⟩
  replace KR := KR.next b2
  replace B0 := B0.trans (b2.mono B0.size)
  clear b2
  clear hA KA KF
  have f0 := KR.free 0; have f1 := KR.free 1; have f2 := KR.free 2
  have c0 := KR.cell 0; have c1 := KR.cell 1; have c2 := KR.cell 2
  have KF := ((KR.set 0 (.int .i64 0)).set 1 (.int .i64 0)).set 2 (.slice none 0 0)
  have d0 := KF.cell 0; have d1 := KF.cell 1; have d2 := KF.cell 2
  have FR := Lib.hid (show RetFX w 2 (.returned (.tuple #[.agg #[.int .i64 0, .int .i64 0, .slice none 0 0], .int .i64 2])) (((w2.setCell ⟨g, 0, none⟩ (.int .i64 0)).setCell ⟨g, 1, none⟩ (.int .i64 0)).setCell ⟨g, 2, none⟩ (.slice none 0 0)) from ⟨rfl, ((B0.setCell (p := ⟨g, 0, none⟩) hgw _).setCell (p := ⟨g, 1, none⟩) hgw _).setCell (p := ⟨g, 2, none⟩) hgw _⟩)
  clear KF KR B0
  go_wp2
  exact bodyPost_ret (v := .tuple #[.agg #[.int .i64 0, .int .i64 0, .slice none 0 0], .int .i64 2]) (by simp [results, Try.results42, go_sem, d0, d1, d2]) rfl FR.out

end Go.Proofs.Ythghdjpjbngllaa
/- xmat.Mul. -/
namespace Go.Proofs.Ythghdjpjbngllaa
open Go.RowKit

/-- A place of a product. -/
def dotq (p : Nat) (xs ys : List (List Nat)) (m c i k j : Nat) : Pol (Zp p) := sm j fun t => pl p (xs.getD (i * m + t) []) * pl p (ys.getD (t * c + k) [])
theorem dotq_succ (p : Nat) (xs ys : List (List Nat)) (m c i k j : Nat) : dotq p xs ys m c i k (j + 1) = dotq p xs ys m c i k j + pl p (xs.getD (i * m + j) []) * pl p (ys.getD (j * c + k) []) := rfl

set_option maxHeartbeats 1000000 in
theorem xm_Mul1 (p i k L : Nat) (w : World) (hp : FP p) (hi : i ≤ 100000) (hk : k ≤ 100000) (R1 R2 : Int) (m c : Nat) (xs ys : List (List Nat)) (gF : Nat) (KF : Blk 29 w gF [.int .u64 p])
    (gA : Nat) (aA : Option Addr) (cA : Nat) (KA : Blk 24 w gA [.int .i64 R1, .int .i64 m, .slice aA xs.length cA]) (hA : Xm w (.agg #[.int .i64 R1, .int .i64 m, .slice aA xs.length cA]) R1 m xs)
    (gB : Nat) (aB : Option Addr) (cB : Nat) (KB : Blk 24 w gB [.int .i64 R2, .int .i64 c, .slice aB ys.length cB]) (hB : Xm w (.agg #[.int .i64 R2, .int .i64 c, .slice aB ys.length cB]) R2 c ys)
    (hm : m ≤ 64) (hc : c ≤ 100000) (hx : ∀ j, j < m → i * m + j < xs.length) (hy : ∀ j, j < m → j * c + k < ys.length) (hL : L ≤ 100000) (hlx : ∀ j, j < xs.length → (xs.getD j []).length ≤ L) (hly : ∀ j, j < ys.length → (ys.getD j []).length ≤ L) :
    Calls Try.prog 89 #[.int .i64 i, .int .i64 k, .pointer (some ⟨gA, 0, none⟩), .pointer (some ⟨gF, 0, none⟩), .pointer (some ⟨gB, 0, none⟩)] w (RetPs p w (2 * L) (dotq p xs ys m c i k m)) := by
  have HP := Lib.hid hp; clear hp
  have HX := Lib.hid hx; have HY := Lib.hid hy; clear hx hy
  have HLX := Lib.hid hlx; have HLY := Lib.hid hly; clear hlx hly
  have B0 : Below w.heap.size w w := Below.refl _ _
  have a1 := KA.cell 1
  go_enter Try.func89, Try.ntmps89
  go_wp2
  clear a1
  go_loopw [12, 8] (fun jv xv wr => ∃ j : Nat, j ≤ m ∧ jv = .int .i64 j ∧ Pe p (2 * L) wr xv (dotq p xs ys m c i k j) ∧ Below w.heap.size w wr) (fun jv _ _ => m - (intOf jv).toNat)
  case atStart => exact ⟨0, by omega, rfl, ⟨[], Sl.nil _ _, Nat.zero_le _, pl_nil p⟩, B0⟩
  case round =>
    clear B0
    obtain ⟨j, hj, rfl, PX, B0⟩ := hrel
    by_cases hjm : j < m
    · have hxj := HX.out j hjm
      have hyj := HY.out j hjm
      obtain ⟨zx, sx, lx, vx⟩ := PX
      obtain ⟨u, eu⟩ : ∃ u, u = xs.getD (i * m + j) [] := ⟨_, rfl⟩
      obtain ⟨v, ev⟩ : ∃ v, v = ys.getD (j * c + k) [] := ⟨_, rfl⟩
      have lu : u.length ≤ L := by rw [eu]; exact HLX.out _ hxj
      have lv : v.length ≤ L := by rw [ev]; exact HLY.out _ hyj
      have VX := Lib.hid vx
      have UU := Lib.hid eu; have VV := Lib.hid ev
      clear eu ev vx
      go_upto_region 5 with (fail)
      have bd := Drawn.below (w' := wr.drew) ⟨1, rfl⟩ wr.heap.size
      replace sx := sx.next bd
      replace B0 := B0.trans (bd.mono B0.size)
      clear bd
      have kA := KA.next B0; have kB := KB.next B0; have kF := KF.next B0
      have hA' := hA.next B0; have hB' := hB.next B0
      refine startL (S := (fun w' => Below (wr.drew).heap.size (wr.drew) w')) (by kernel_rfl) (Below.refl _ _) (fun hHeld => ?_)
      refine takeL 0 (v := ?_) rfl (by kernel_rfl) (by kernel_rfl) (by kernel_rfl) (fun _ _ _ h => h) ⟨by rfl, ?_⟩ (by assumption) ?_
      rotate_left
      · intro w hS; have fa := kA.at hS; have f1 := fa 0; have f2 := fa 1; have f3 := fa 2; clear fa; have fb := kB.at hS; have f4 := fb 0; have f5 := fb 1; have f6 := fb 2; clear fb; have ff := kF.at hS; have f7 := ff 0; clear ff; go_simp <;> with_reducible rfl
      simp only [Act.put, List.setIfInBounds_toArray, List.set_cons_zero, List.set_cons_succ]
      refine takeL 1 (v := ?_) rfl (by kernel_rfl) (by kernel_rfl) (by kernel_rfl) (fun _ _ _ h => h) ⟨by rfl, ?_⟩ (by assumption) ?_
      rotate_left
      · intro w hS; go_simp <;> with_reducible rfl
      simp only [Act.put, List.setIfInBounds_toArray, List.set_cons_zero, List.set_cons_succ]
      refine takeL 2 (v := ?_) rfl (by kernel_rfl) (by kernel_rfl) (by kernel_rfl) (fun _ _ _ h => h) ⟨by rfl, ?_⟩ (by assumption) ?_
      rotate_left
      · intro w hS; have fa := kA.at hS; have f1 := fa 0; have f2 := fa 1; have f3 := fa 2; clear fa; have fb := kB.at hS; have f4 := fb 0; have f5 := fb 1; have f6 := fb 2; clear fb; have ff := kF.at hS; have f7 := ff 0; clear ff; go_simp <;> with_reducible rfl
      simp only [Act.put, List.setIfInBounds_toArray, List.set_cons_zero, List.set_cons_succ]
      refine takeL 3 (v := ?_) rfl (by kernel_rfl) (by kernel_rfl) (by kernel_rfl) (fun _ _ _ h => h) ⟨by rfl, ?_⟩ (by assumption) ?_
      rotate_left
      · intro w hS; have fa := kA.at hS; have f1 := fa 0; have f2 := fa 1; have f3 := fa 2; clear fa; have fb := kB.at hS; have f4 := fb 0; have f5 := fb 1; have f6 := fb 2; clear fb; have ff := kF.at hS; have f7 := ff 0; clear ff; go_simp <;> with_reducible rfl
      simp only [Act.put, List.setIfInBounds_toArray, List.set_cons_zero, List.set_cons_succ]
      refine takeL 4 (v := ?_) rfl (by kernel_rfl) (by kernel_rfl) (by kernel_rfl) (fun _ _ _ h => h) ⟨by rfl, ?_⟩ (by assumption) ?_
      rotate_left
      · intro w hS; go_simp <;> with_reducible rfl
      simp only [Act.put, List.setIfInBounds_toArray, List.set_cons_zero, List.set_cons_succ]
      refine takeL 5 (v := ?_) rfl (by kernel_rfl) (by kernel_rfl) (by kernel_rfl) (fun _ _ _ h => h) ⟨by rfl, ?_⟩ (by assumption) ?_
      rotate_left
      · intro w hS; go_simp <;> with_reducible rfl
      simp only [Act.put, List.setIfInBounds_toArray, List.set_cons_zero, List.set_cons_succ]
      refine takeL 7 (v := ?_) rfl (by kernel_rfl) (by kernel_rfl) (by kernel_rfl) (fun _ _ _ h => h) ⟨by rfl, ?_⟩ (by assumption) ?_
      rotate_left
      · intro w hS; have fa := kA.at hS; have f1 := fa 0; have f2 := fa 1; have f3 := fa 2; clear fa; have fb := kB.at hS; have f4 := fb 0; have f5 := fb 1; have f6 := fb 2; clear fb; have ff := kF.at hS; have f7 := ff 0; clear ff; go_simp <;> with_reducible rfl
      simp only [Act.put, List.setIfInBounds_toArray, List.set_cons_zero, List.set_cons_succ]
      refine takeL 8 (v := ?_) rfl (by kernel_rfl) (by kernel_rfl) (by kernel_rfl) (fun _ _ _ h => h) ⟨by rfl, ?_⟩ (by assumption) ?_
      rotate_left
      · intro w hS; go_simp <;> with_reducible rfl
      simp only [Act.put, List.setIfInBounds_toArray, List.set_cons_zero, List.set_cons_succ]
      refine takeL 9 (v := ?_) rfl (by kernel_rfl) (by kernel_rfl) (by kernel_rfl) (fun _ _ _ h => h) ⟨by rfl, ?_⟩ (by assumption) ?_
      rotate_left
      · intro w hS; go_simp <;> with_reducible rfl
      simp only [Act.put, List.setIfInBounds_toArray, List.set_cons_zero, List.set_cons_succ]
      refine oneL 6 rfl (by kernel_rfl) (by rfl) (fun K hK => ?_)
      go_simp
      go_at_call 91
      (with_reducible refine (xm_get _ R1 m i j xs _ (hA'.next hHeld) (by omega) (by omega) (by omega) hxj).mono ?_); rintro e w2 ⟨u2, rfl, s2, b2⟩; rw [← UU.out] at s2
      refine hK.out _ _ (hHeld.trans (b2.mono hHeld.size)) (fun hHeld => ?_)
      clear hK K
      try simp only [Act.put, List.setIfInBounds_toArray, List.set_cons_zero, List.set_cons_succ]
      refine oneL 10 rfl (by kernel_rfl) (by rfl) (fun K hK => ?_)
      go_simp
      go_at_call 91
      (with_reducible refine (xm_get _ R2 c j k ys _ (hB'.next hHeld) (by omega) (by omega) (by omega) hyj).mono ?_); rintro e w3 ⟨u3, rfl, s3, b3⟩; rw [← VV.out] at s3
      refine hK.out _ _ (hHeld.trans (b3.mono hHeld.size)) (fun hHeld => ?_)
      clear hK K
      try simp only [Act.put, List.setIfInBounds_toArray, List.set_cons_zero, List.set_cons_succ]
      refine oneL 11 rfl (by kernel_rfl) (by rfl) (fun K hK => ?_)
      go_simp
      go_at_call 53
      (with_reducible refine (fp_Mul p u2 u3 u v _ HP.out (s2.next b3) s3 (by omega) (by omega)).mono ?_); rintro e w4 ⟨r4, z4, rfl, o4, n4, v4, l4, b4⟩
      refine hK.out _ _ (hHeld.trans (b4.mono hHeld.size)) (fun hHeld => ?_)
      clear hK K
      try simp only [Act.put, List.setIfInBounds_toArray, List.set_cons_zero, List.set_cons_succ]
      refine oneL 12 rfl (by kernel_rfl) (by rfl) (fun K hK => ?_)
      go_simp
      go_at_call 90
      (with_reducible refine (fp_Add p _ r4 zx z4 _ HP.out (sx.next hHeld) o4.sl (by omega) (by omega)).mono ?_); rintro e w5 ⟨r5, z5, rfl, o5, n5, v5, l5, b5⟩
      refine hK.out _ _ (hHeld.trans (b5.mono hHeld.size)) (fun hHeld => ?_)
      clear hK K
      try simp only [Act.put, List.setIfInBounds_toArray, List.set_cons_zero, List.set_cons_succ]
      refine takeL 13 (v := ?_) rfl (by kernel_rfl) (by kernel_rfl) (by kernel_rfl) (fun _ _ _ h => h) ⟨by rfl, ?_⟩ (by assumption) ?_
      rotate_left
      · intro w hS; go_simp <;> with_reducible rfl
      simp only [Act.put, List.setIfInBounds_toArray, List.set_cons_zero, List.set_cons_succ]
      refine doneL (by kernel_rfl) ?_ _
      replace B0 := B0.trans (hHeld.mono B0.size)
      have PN := Lib.hid (show Pe p (2 * L) w5 r5 (dotq p xs ys m c i k (j + 1)) from ⟨z5, o5.sl, by omega, by rw [v5, v4, dotq_succ, VX.out, UU.out, VV.out]⟩)
      clear hHeld b2 b3 b4 b5 kA kB kF hA' hB' o4 o5 s2 s3 sx n4 n5 v4 v5 l4 l5
      go_wp2
      go_roundw
      case rel => exact ⟨j + 1, by omega, by go_num, PN.out, B0⟩
      case measure => simp [intOf] <;> omega
    · obtain rfl : j = m := by omega
      obtain ⟨zx, sx, lx, vx⟩ := PX
      have FIN := Lib.hid (fun (xv : Value) (h : Sl .u64 wr xv zx) => (show RetPs p w (2 * L) (dotq p xs ys j c i k j) (.returned xv) wr from ⟨xv, zx, rfl, h, lx, vx, B0⟩))
      have SX := Lib.hid sx
      clear sx lx vx B0
      go_wp2
      go_ret
      exact FIN.out _ SX.out

theorem xm_Mul (p L M : Nat) (a b : Value) (r m c : Nat) (xs ys : List (List Nat)) (w : World) (hp : FP p) (hA : Xm w a r m xs) (hB : Xm w b m c ys) (hr : r ≤ 64) (hm : m ≤ 64) (hc : c ≤ 64) (hx : xs.length = r * m) (hy : ys.length = m * c) (hM : M ≤ 100000) (hLM : L = 2 * M)
    (hlx : ∀ j, j < xs.length → (xs.getD j []).length ≤ M) (hly : ∀ j, j < ys.length → (ys.getD j []).length ≤ M) (T : Nat → Pol (Zp p)) (hT : ∀ i k, i < r → k < c → T (i * c + k) = dotq p xs ys m c i k m) :
    Calls Try.prog 36 #[.agg #[.int .u64 p], a, b] w (RetXE p w r c L T) := by
  obtain ⟨aA, cA, rfl⟩ := hA.agg
  obtain ⟨aB, cB, rfl⟩ := hB.agg
  subst hLM
  obtain ⟨wb, ew, KF, KA, KB, KR, B0, hsz⟩ := boxes4 w 29 24 24 24 [.int .u64 p] [.int .i64 r, .int .i64 m, .slice aA xs.length cA] [.int .i64 m, .int .i64 c, .slice aB ys.length cB] [.int .i64 0, .int .i64 0, .slice none 0 0]
  clear hsz
  replace hA := hA.next B0; replace hB := hB.next B0
  have HX := Lib.hid hx; have HY := Lib.hid hy; have HLX := Lib.hid hlx; have HLY := Lib.hid hly; have HTT := Lib.hid hT; have HL := Lib.hid (show 2 * M ≤ 1000000 by omega); have HM := Lib.hid hM
  clear hx hy hlx hly hT hM
  have hmm : ((m : Int) != (m : Int)) = false := by simp
  have HP := Lib.hid hp; clear hp
  go_enter Try.func36, Try.ntmps36
  go_wp2_with fail
  rw [← ew]
  obtain ⟨g, eg⟩ : ∃ g, g = w.heap.size + 1 + 1 + 1 := ⟨_, rfl⟩
  rw [← eg] at KR ⊢
  have hgw : w.heap.size ≤ g := by omega
  clear ew eg
  refine (xm_Formed_yes _ r m xs _ hA (Fd.of hr hm HX.out)).mono ?_; rintro e w2 ⟨rfl, b2⟩
  replace hA := hA.next b2; replace hB := hB.next b2; replace KF := KF.next b2; replace KA := KA.next b2; replace KB := KB.next b2; replace KR := KR.next b2
  replace B0 := B0.trans (b2.mono B0.size)
  clear b2
  have fKB0 := KB.cell 0; have fKB1 := KB.cell 1; have fKB2 := KB.cell 2
  go_wp2_with fail
  refine (xm_Formed_yes _ m c ys _ hB (Fd.of hm hc HY.out)).mono ?_; rintro e w4 ⟨rfl, b4⟩
  replace hA := hA.next b4; replace hB := hB.next b4; replace KF := KF.next b4; replace KA := KA.next b4; replace KB := KB.next b4; replace KR := KR.next b4
  replace B0 := B0.trans (b4.mono B0.size)
  clear b4
  clear fKB0 fKB1 fKB2
  have fKF0 := KF.cell 0; have fKA0 := KA.cell 0; have fKA1 := KA.cell 1; have fKB0 := KB.cell 0; have fKB1 := KB.cell 1
  go_wp2_with fail
  refine (xm_made p r c (2 * M) HP.out (by omega) (by omega) HL.out 89 (enters_of Try.func89 rfl rfl) [.pointer (some ⟨w.heap.size + 1, 0, none⟩), .pointer (some ⟨w.heap.size, 0, none⟩), .pointer (some ⟨w.heap.size + 1 + 1, 0, none⟩)] T _ (fun i k w' hi hk hb => by
    rw [HTT.out i k hi hk]
    exact xm_Mul1 p i k M w' HP.out (by omega) (by omega) r m m c xs ys _ (KF.next hb) _ _ _ (KA.next hb) (hA.next hb) _ _ _ (KB.next hb) (hB.next hb) hm (by omega) (fun j hj => by rw [HX.out]; exact at_lt rfl hi hj) (fun j hj => by rw [HY.out]; exact at_lt rfl hj hk) HM.out HLX.out HLY.out)).mono ?_; rintro e w3 ⟨a3, k3, us3, rfl, o3, b3⟩
  clear fKF0 fKA0 fKA1 fKB0 fKB1
  clear KF KA KB hA hB
  have hgb := KR.lt
  replace KR := KR.next b3
  replace B0 := B0.trans (b3.mono B0.size)
  clear b3
  have f0 := KR.free 0; have f1 := KR.free 1; have f2 := KR.free 2
  have c0 := KR.cell 0; have c1 := KR.cell 1; have c2 := KR.cell 2
  have KF := ((KR.set 0 (.int .i64 (r : Nat))).set 1 (.int .i64 (c : Nat))).set 2 (.slice a3 (r * c) k3)
  have d0 := KF.cell 0; have d1 := KF.cell 1; have d2 := KF.cell 2
  have of := ((o3.low (a := ⟨g, 0, none⟩) hgb (.int .i64 (r : Nat))).low (a := ⟨g, 1, none⟩) hgb (.int .i64 (c : Nat))).low (a := ⟨g, 2, none⟩) hgb (.slice a3 (r * c) k3)
  have BF := ((B0.setCell (p := ⟨g, 0, none⟩) hgw (.int .i64 (r : Nat))).setCell (p := ⟨g, 1, none⟩) hgw (.int .i64 (c : Nat))).setCell (p := ⟨g, 2, none⟩) hgw (.slice a3 (r * c) k3)
  have FR := Lib.hid (show RetXE p w r c (2 * M) T (.returned (.tuple #[.agg #[.int .i64 (r : Nat), .int .i64 (c : Nat), .slice a3 (r * c) k3], .int .i64 0])) (((w3.setCell ⟨g, 0, none⟩ (.int .i64 (r : Nat))).setCell ⟨g, 1, none⟩ (.int .i64 (c : Nat))).setCell ⟨g, 2, none⟩ (.slice a3 (r * c) k3)) from ⟨a3, k3, us3, rfl, of.mono (by omega), BF⟩)
  clear KF KR of BF B0 o3
  go_wp2
  exact bodyPost_ret (v := .tuple #[.agg #[.int .i64 (r : Nat), .int .i64 (c : Nat), .slice a3 (r * c) k3], .int .i64 0]) (by simp [results, Try.results36, go_sem, d0, d1, d2]) rfl FR.out

end Go.Proofs.Ythghdjpjbngllaa
/- xmat.From. -/
namespace Go.Proofs.Ythghdjpjbngllaa
open Go.RowKit

end Go.Proofs.Ythghdjpjbngllaa
/- xmat.Char: the function that gives its places. -/
namespace Go.Proofs.Ythghdjpjbngllaa
open Go.RowKit

end Go.Proofs.Ythghdjpjbngllaa
/- slices.EqualFunc over polynomials, with the function of xmat.Same. -/
namespace Go.Proofs.Ythghdjpjbngllaa
open Go.RowKit

theorem xm_Same1 (p gF : Nat) (v u : Value) (xs ys : List Nat) (β : Bool) (w : World) (hp : FP p) (KF : Blk 29 w gF [.int .u64 p]) (s0 : Sl .u64 w v xs) (s1 : Sl .u64 w u ys) (hm : xs.length ≤ 1000000) (hn : ys.length ≤ 1000000) (hβ : β = decide (nl p xs = nl p ys)) :
    Calls Try.prog 105 #[v, u, .pointer (some ⟨gF, 0, none⟩)] w (RetW w (.bool β)) := by
  have HB := Lib.hid hβ; have HP := Lib.hid hp; clear hβ hp
  have f0 := KF.cell 0
  go_enter Try.func105, Try.ntmps105
  go_wp2_with fail
  refine (fp_Same p v u xs ys β _ HP.out s0 s1 hm hn HB.out).mono ?_; rintro e w2 ⟨rfl, b2⟩
  go_wp2
  go_ret
  exact ⟨rfl, b2⟩

set_option maxRecDepth 20000 in
set_option maxHeartbeats 400000 in
theorem ef_polys (p gF m : Nat) (v u : Value) (qs rs : List (List Nat)) (w : World) (hp : FP p) (KF : Blk 29 w gF [.int .u64 p]) (hv : Ns w v qs) (hu : Ns w u rs) (hq : qs.length = m) (hr : rs.length = m) (hm : m ≤ 1000000)
    (h1 : ∀ j, j < m → (qs.getD j []).length ≤ 1000000) (h2 : ∀ j, j < m → (rs.getD j []).length ≤ 1000000) (β : Bool) (hβ : β = true ↔ ∀ j, j < m → nl p (qs.getD j []) = nl p (rs.getD j [])) :
    Calls Try.prog 104 #[v, u, .func (.func 105) #[] #[.pointer (some ⟨gF, 0, none⟩)]] w (RetW w (.bool β)) := by
  obtain ⟨ao, b, off, cap, U, rfl, hcap, hao, hat⟩ := hv
  obtain ⟨ao', b', off', cap', U', rfl, hcap', hao', hat'⟩ := hu
  rw [hq] at hcap hao hat ⊢; rw [hr] at hcap' hao' hat' ⊢
  have HP := Lib.hid hp; have HA := Lib.hid hao; have HA' := Lib.hid hao'; have HT := Lib.hid hat; have HT' := Lib.hid hat'; have H1 := Lib.hid h1; have H2 := Lib.hid h2; have HB := Lib.hid hβ
  have hmm : ((m : Int) != (m : Int)) = false := by simp
  clear hp hao hao' hat hat' h1 h2 hβ hq hr
  go_enter Try.func104, Try.ntmps104
  go_wp2
  go_loopw [17] (fun kv wr => ∃ k : Nat, k ≤ m ∧ kv = .int .i64 k ∧ Hid (∀ j, j < k → nl p (qs.getD j []) = nl p (rs.getD j [])) ∧ Below w.heap.size w wr) (fun kv _ => m - (intOf kv).toNat)
  case atStart => exact ⟨0, by omega, rfl, Lib.hid (fun j h => by omega), Below.refl _ _⟩
  case round =>
    obtain ⟨k, hk, rfl, HK, hB⟩ := hrel
    by_cases hkm : k < m
    · obtain ⟨rfl, hbl⟩ := HA.out (by omega)
      obtain ⟨rfl, hbl'⟩ := HA'.out (by omega)
      obtain ⟨q0, s0, -⟩ := HT.out k hkm
      obtain ⟨q0', s0', -⟩ := HT'.out k hkm
      have q1 := (hB.cell (p := ⟨b, off + k, none⟩) hbl).trans q0
      have q2 := (hB.cell (p := ⟨b', off' + k, none⟩) hbl').trans q0'
      have KF2 := KF.below hB KF.lt
      have t0 := s0.below hB (Nat.le_refl _)
      have t1 := s0'.below hB (Nat.le_refl _)
      clear q0 q0' s0 s0'
      obtain ⟨γ, eγ⟩ : ∃ γ, γ = decide (nl p (qs.getD k []) = nl p (rs.getD k [])) := ⟨_, rfl⟩
      have EG := Lib.hid eγ; clear eγ
      go_wp2_with fail
      refine (xm_Same1 p gF (U k) (U' k) (qs.getD k []) (rs.getD k []) γ wr HP.out KF2 t0 t1 (H1.out k hkm) (H2.out k hkm) EG.out).mono ?_; rintro e w2 ⟨rfl, b2⟩
      have B2 := hB.trans (b2.mono hB.size)
      clear b2 q1 q2 KF2 t0 t1 hB
      cases γ with
      | true =>
        have HN := Lib.hid (show ∀ j, j < k + 1 → nl p (qs.getD j []) = nl p (rs.getD j []) from fun j hj => by
          by_cases e : j = k
          · rw [e]; exact of_decide_eq_true EG.out.symm
          · exact HK.out j (by omega))
        go_wp2
        go_roundw
        case rel => exact ⟨k + 1, by omega, by go_num, HN, B2⟩
        case measure => simp [intOf] <;> omega
      | false =>
        have e : β = false := by
          cases β with
          | false => rfl
          | true => exact absurd (HB.out.1 rfl k hkm) (of_decide_eq_false EG.out.symm)
        subst e
        go_wp2
        go_ret
        exact ⟨rfl, B2⟩
    · obtain rfl : k = m := by omega
      have e : β = true := HB.out.2 fun j hj => HK.out j hj
      subst e
      go_wp2
      go_ret
      exact ⟨rfl, hB⟩

theorem xm_Same (p : Nat) (a b : Value) (R1 C1 R2 C2 : Int) (xs ys : List (List Nat)) (w : World) (hp : FP p) (hA : Xm w a R1 C1 xs) (hB : Xm w b R2 C2 ys) (h : Al R1 C1 R2 C2 xs.length ys.length) (hl : ys.length = xs.length) (hm : xs.length ≤ 1000000)
    (h1 : ∀ j, j < xs.length → (xs.getD j []).length ≤ 1000000) (h2 : ∀ j, j < xs.length → (ys.getD j []).length ≤ 1000000) (β : Bool) (hβ : β = true ↔ ∀ j, j < xs.length → nl p (xs.getD j []) = nl p (ys.getD j [])) :
    Calls Try.prog 48 #[.agg #[.int .u64 p], a, b] w (RetW w (.bool β)) := by
  obtain ⟨aA, cA, rfl⟩ := hA.agg
  obtain ⟨aB, cB, rfl⟩ := hB.agg
  have HP := Lib.hid hp; have H1 := Lib.hid h1; have H2 := Lib.hid h2; have HB := Lib.hid hβ; have HH := Lib.hid h; have HL := Lib.hid hl
  clear hp h1 h2 hβ h hl
  obtain ⟨wb, ew, KF, KA, KB, B0, hsz⟩ := boxes3 w 29 24 24 [.int .u64 p] [.int .i64 R1, .int .i64 C1, .slice aA xs.length cA] [.int .i64 R2, .int .i64 C2, .slice aB ys.length cB]
  clear hsz
  replace hA := hA.next B0; replace hB := hB.next B0
  go_enter Try.func48, Try.ntmps48
  go_upto_region 1 with (fail)
  rw [← ew]
  clear ew
  have q0 := KA.cell 0; have q1 := KA.cell 1; have q2 := KA.cell 2; have q3 := KB.cell 0; have q4 := KB.cell 1; have q5 := KB.cell 2
  go_wp2_with fail
  refine (xm_alike_yes _ _ R1 C1 R2 C2 xs ys _ hA hB HH.out).mono ?_; rintro e w2 ⟨rfl, b2⟩
  clear q0 q1 q2 q3 q4 q5
  replace KA := KA.next b2; replace KB := KB.next b2; replace KF := KF.next b2; replace hA := hA.next b2; replace hB := hB.next b2
  replace B0 := B0.trans (b2.mono B0.size)
  clear b2
  have q2 := KA.cell 2; have q5 := KB.cell 2
  obtain ⟨u1, e1, n1⟩ := hA
  obtain ⟨u2, e2, n2⟩ := hB
  simp only [Value.agg.injEq, Array.mk.injEq, List.cons.injEq, true_and, and_true] at e1 e2
  subst e1 e2
  go_wp2_with fail
  refine (ef_polys p w.heap.size xs.length _ _ xs ys _ HP.out KF n1 n2 rfl HL.out hm H1.out H2.out β HB.out).mono ?_; rintro e w3 ⟨rfl, b3⟩
  replace B0 := B0.trans (b3.mono B0.size)
  clear q2 q5 n1 n2 KA KB KF b3
  go_wp2
  go_ret
  exact ⟨rfl, B0⟩

theorem xm_Same_no (p : Nat) (a b : Value) (R1 C1 R2 C2 : Int) (xs ys : List (List Nat)) (w : World) (hA : Xm w a R1 C1 xs) (hB : Xm w b R2 C2 ys) (h : ¬ Al R1 C1 R2 C2 xs.length ys.length) :
    Calls Try.prog 48 #[.agg #[.int .u64 p], a, b] w (RetW w (.bool false)) := by
  obtain ⟨aA, cA, rfl⟩ := hA.agg
  obtain ⟨aB, cB, rfl⟩ := hB.agg
  obtain ⟨wb, ew, KF, KA, KB, B0, hsz⟩ := boxes3 w 29 24 24 [.int .u64 p] [.int .i64 R1, .int .i64 C1, .slice aA xs.length cA] [.int .i64 R2, .int .i64 C2, .slice aB ys.length cB]
  clear hsz
  replace hA := hA.next B0; replace hB := hB.next B0
  go_enter Try.func48, Try.ntmps48
  go_upto_region 1 with (fail)
  rw [← ew]
  clear ew
  have q0 := KA.cell 0; have q1 := KA.cell 1; have q2 := KA.cell 2; have q3 := KB.cell 0; have q4 := KB.cell 1; have q5 := KB.cell 2
  go_wp2_with fail
  refine (xm_alike_no _ _ R1 C1 R2 C2 xs ys _ hA hB h).mono ?_; rintro e w2 ⟨rfl, b2⟩
  replace B0 := B0.trans (b2.mono B0.size)
  clear q0 q1 q2 q3 q4 q5 b2 KA KB KF
  go_wp2
  go_ret
  exact ⟨rfl, B0⟩

end Go.Proofs.Ythghdjpjbngllaa
/- xmat: Eval, Degree, At; Char, Mul, Eval of what has none. -/
namespace Go.Proofs.Ythghdjpjbngllaa
open Go.RowKit

theorem xm_Mul_bad (p : Nat) (a b : Value) (R1 C1 R2 C2 : Int) (xs ys : List (List Nat)) (w : World) (hA : Xm w a R1 C1 xs) (hB : Xm w b R2 C2 ys) (h : ¬ (Fd R1 C1 xs.length ∧ Fd R2 C2 ys.length ∧ C1 = R2)) :
    Calls Try.prog 36 #[.agg #[.int .u64 p], a, b] w (RetFX w 2) := by
  obtain ⟨aA, cA, rfl⟩ := hA.agg
  obtain ⟨aB, cB, rfl⟩ := hB.agg
  obtain ⟨wb, ew, KF, KA, KB, KR, B0, hsz⟩ := boxes4 w 29 24 24 24 [.int .u64 p] [.int .i64 R1, .int .i64 C1, .slice aA xs.length cA] [.int .i64 R2, .int .i64 C2, .slice aB ys.length cB] [.int .i64 0, .int .i64 0, .slice none 0 0]
  clear hsz
  replace hA := hA.next B0; replace hB := hB.next B0
  by_cases hF : Fd R1 C1 xs.length
  · by_cases hG : Fd R2 C2 ys.length
    · have hne : (C1 != R2) = true := by
        have h1 : C1 ≠ R2 := fun e => h ⟨hF, hG, e⟩
        simpa using h1
      go_enter Try.func36, Try.ntmps36
      go_wp2_with fail
      rw [← ew]
      obtain ⟨g, eg⟩ : ∃ g, g = w.heap.size + 1 + 1 + 1 := ⟨_, rfl⟩
      rw [← eg] at KR ⊢
      have hgw : w.heap.size ≤ g := by omega
      clear ew eg
      refine (xm_Formed_yes _ R1 C1 xs _ hA hF).mono ?_; rintro e w2 ⟨rfl, b2⟩
      replace KA := KA.next b2; replace KB := KB.next b2; replace KR := KR.next b2; replace hB := hB.next b2
      replace B0 := B0.trans (b2.mono B0.size)
      clear b2
      have q1 := KB.cell 0; have q2 := KB.cell 1; have q3 := KB.cell 2
      go_wp2_with fail
      refine (xm_Formed_yes _ R2 C2 ys _ hB hG).mono ?_; rintro e w3 ⟨rfl, b3⟩
      replace KA := KA.next b3; replace KB := KB.next b3; replace KR := KR.next b3
      replace B0 := B0.trans (b3.mono B0.size)
      clear b3
      clear q1 q2 q3
      have q1 := KA.cell 1; have q2 := KB.cell 0
      clear hA hB KF
      have f0 := KR.free 0; have f1 := KR.free 1; have f2 := KR.free 2
      have c0 := KR.cell 0; have c1 := KR.cell 1; have c2 := KR.cell 2
      have KF := ((KR.set 0 (.int .i64 0)).set 1 (.int .i64 0)).set 2 (.slice none 0 0)
      have d0 := KF.cell 0; have d1 := KF.cell 1; have d2 := KF.cell 2
      have FR := Lib.hid (show RetFX w 2 (.returned (.tuple #[.agg #[.int .i64 0, .int .i64 0, .slice none 0 0], .int .i64 2])) (((w3.setCell ⟨g, 0, none⟩ (.int .i64 0)).setCell ⟨g, 1, none⟩ (.int .i64 0)).setCell ⟨g, 2, none⟩ (.slice none 0 0)) from ⟨rfl, ((B0.setCell (p := ⟨g, 0, none⟩) hgw _).setCell (p := ⟨g, 1, none⟩) hgw _).setCell (p := ⟨g, 2, none⟩) hgw _⟩)
      clear KF KR B0 KA KB
      go_wp2
      exact bodyPost_ret (v := .tuple #[.agg #[.int .i64 0, .int .i64 0, .slice none 0 0], .int .i64 2]) (by simp [results, Try.results36, go_sem, d0, d1, d2]) rfl FR.out
    · go_enter Try.func36, Try.ntmps36
      go_wp2_with fail
      rw [← ew]
      obtain ⟨g, eg⟩ : ∃ g, g = w.heap.size + 1 + 1 + 1 := ⟨_, rfl⟩
      rw [← eg] at KR ⊢
      have hgw : w.heap.size ≤ g := by omega
      clear ew eg
      refine (xm_Formed_yes _ R1 C1 xs _ hA hF).mono ?_; rintro e w2 ⟨rfl, b2⟩
      replace KB := KB.next b2; replace KR := KR.next b2; replace hB := hB.next b2
      replace B0 := B0.trans (b2.mono B0.size)
      clear b2
      have q1 := KB.cell 0; have q2 := KB.cell 1; have q3 := KB.cell 2
      go_wp2_with fail
      refine (xm_Formed_no _ R2 C2 ys _ hB hG).mono ?_; rintro e w3 ⟨rfl, b3⟩
      replace KR := KR.next b3
      replace B0 := B0.trans (b3.mono B0.size)
      clear b3
      clear q1 q2 q3
      clear hA hB KF KA KB
      have f0 := KR.free 0; have f1 := KR.free 1; have f2 := KR.free 2
      have c0 := KR.cell 0; have c1 := KR.cell 1; have c2 := KR.cell 2
      have KF := ((KR.set 0 (.int .i64 0)).set 1 (.int .i64 0)).set 2 (.slice none 0 0)
      have d0 := KF.cell 0; have d1 := KF.cell 1; have d2 := KF.cell 2
      have FR := Lib.hid (show RetFX w 2 (.returned (.tuple #[.agg #[.int .i64 0, .int .i64 0, .slice none 0 0], .int .i64 2])) (((w3.setCell ⟨g, 0, none⟩ (.int .i64 0)).setCell ⟨g, 1, none⟩ (.int .i64 0)).setCell ⟨g, 2, none⟩ (.slice none 0 0)) from ⟨rfl, ((B0.setCell (p := ⟨g, 0, none⟩) hgw _).setCell (p := ⟨g, 1, none⟩) hgw _).setCell (p := ⟨g, 2, none⟩) hgw _⟩)
      clear KF KR B0
      go_wp2
      exact bodyPost_ret (v := .tuple #[.agg #[.int .i64 0, .int .i64 0, .slice none 0 0], .int .i64 2]) (by simp [results, Try.results36, go_sem, d0, d1, d2]) rfl FR.out
  · go_enter Try.func36, Try.ntmps36
    go_wp2_with fail
    rw [← ew]
    obtain ⟨g, eg⟩ : ∃ g, g = w.heap.size + 1 + 1 + 1 := ⟨_, rfl⟩
    rw [← eg] at KR ⊢
    have hgw : w.heap.size ≤ g := by omega
    clear ew eg
    refine (xm_Formed_no _ R1 C1 xs _ hA hF).mono ?_; rintro e w2 ⟨rfl, b2⟩
    replace KR := KR.next b2
    replace B0 := B0.trans (b2.mono B0.size)
    clear b2
    clear hA hB KA KB KF
    have f0 := KR.free 0; have f1 := KR.free 1; have f2 := KR.free 2
    have c0 := KR.cell 0; have c1 := KR.cell 1; have c2 := KR.cell 2
    have KF := ((KR.set 0 (.int .i64 0)).set 1 (.int .i64 0)).set 2 (.slice none 0 0)
    have d0 := KF.cell 0; have d1 := KF.cell 1; have d2 := KF.cell 2
    have FR := Lib.hid (show RetFX w 2 (.returned (.tuple #[.agg #[.int .i64 0, .int .i64 0, .slice none 0 0], .int .i64 2])) (((w2.setCell ⟨g, 0, none⟩ (.int .i64 0)).setCell ⟨g, 1, none⟩ (.int .i64 0)).setCell ⟨g, 2, none⟩ (.slice none 0 0)) from ⟨rfl, ((B0.setCell (p := ⟨g, 0, none⟩) hgw _).setCell (p := ⟨g, 1, none⟩) hgw _).setCell (p := ⟨g, 2, none⟩) hgw _⟩)
    clear KF KR B0
    go_wp2
    exact bodyPost_ret (v := .tuple #[.agg #[.int .i64 0, .int .i64 0, .slice none 0 0], .int .i64 2]) (by simp [results, Try.results36, go_sem, d0, d1, d2]) rfl FR.out
/-- The greatest degree, up to a place. -/
def xdg (p : Nat) (xs : List (List Nat)) : Nat → Int
  | 0 => -1
  | n + 1 => max (xdg p xs n) (((nl p (xs.getD n [])).length : Int) - 1)
set_option maxRecDepth 20000 in
set_option maxHeartbeats 1000000 in
theorem xm_Degree (p : Nat) (a : Value) (R C : Int) (xs : List (List Nat)) (w : World) (hp : FP p) (hA : Xm w a R C xs) (hF : Fd R C xs.length) (hl : ∀ j, j < xs.length → (xs.getD j []).length ≤ 1000000) (hm : xs.length ≤ 1000000) (d : Int) (hd : d = xdg p xs xs.length) :
    Calls Try.prog 45 #[.agg #[.int .u64 p], a] w (RetW w (.int .i64 d)) := by
  obtain ⟨aA, cA, rfl⟩ := hA.agg
  have HLL := Lib.hid hl; have HP := Lib.hid hp; have HD := Lib.hid hd; clear hl hp hd
  obtain ⟨wb, ew, KF, KA, B0, hsz⟩ := boxes2 w 29 24 [.int .u64 p] [.int .i64 R, .int .i64 C, .slice aA xs.length cA]
  clear hsz
  replace hA := hA.next B0
  go_enter Try.func45, Try.ntmps45
  go_upto_region 2 with (fail)
  rw [← ew]
  obtain ⟨gF, egF⟩ : ∃ gF, gF = w.heap.size := ⟨_, rfl⟩
  rw [← egF] at KF KA ⊢
  clear ew egF
  have q0 := KA.cell 0; have q1 := KA.cell 1; have q2 := KA.cell 2
  go_wp2_with fail
  refine (xm_Formed_yes _ R C xs _ hA hF).mono ?_; rintro e w2 ⟨rfl, b2⟩
  replace hA := hA.next b2; replace KF := KF.next b2; replace KA := KA.next b2
  replace B0 := B0.trans (b2.mono B0.size)
  clear b2
  clear q0 q1 q2
  have q2 := KA.cell 2
  obtain ⟨ux, eu, ao, bo, off, cap, U, e2, hcap, hao, hat⟩ := hA
  simp only [Value.agg.injEq, Array.mk.injEq, List.cons.injEq, true_and, and_true] at eu
  rw [← eu] at e2
  simp only [Value.slice.injEq, true_and] at e2
  obtain ⟨rfl, rfl⟩ := e2
  have HAT := Lib.hid hat; have HAO := Lib.hid hao
  clear eu hat hao KA
  go_wp2
  go_loopw [13, 5] (fun jv dv wr => ∃ (j : Nat) (e : Int), j ≤ xs.length ∧ jv = .int .i64 j ∧ dv = .int .i64 e ∧ Hid (e = xdg p xs j) ∧ Below w2.heap.size w2 wr) (fun jv _ _ => xs.length - (intOf jv).toNat)
  case atStart => exact ⟨0, -1, by omega, rfl, rfl, Lib.hid rfl, Below.refl _ _⟩
  case round =>
    obtain ⟨j, e, hj, rfl, rfl, HE, BT⟩ := hrel
    by_cases hjn : j < xs.length
    · obtain ⟨rfl, hbl⟩ := HAO.out (by omega)
      obtain ⟨q0, s0, -⟩ := HAT.out j hjn
      have q1 := (BT.cell (p := ⟨bo, off + j, none⟩) hbl).trans q0
      have f0 := (KF.next BT).cell 0
      have hly := HLL.out j hjn
      obtain ⟨n, en⟩ : ∃ n : Nat, n = (nl p (xs.getD j [])).length := ⟨_, rfl⟩
      obtain ⟨e', ee⟩ : ∃ e', e' = max e ((n : Int) - 1) := ⟨_, rfl⟩
      have HN := Lib.hid (show e' = xdg p xs (j + 1) by rw [ee, HE.out, en]; rfl)
      have hn2 : n ≤ 1000000 := by rw [en]; exact Nat.le_trans (nl_len p _) hly
      clear q0
      go_wp2_with fail
      refine (fp_Degree p (U j) (xs.getD j []) (nl p (xs.getD j [])) wr HP.out (s0.below BT (Nat.le_refl _)) hly rfl).mono ?_; rintro e3 w3 ⟨rfl, b3⟩
      rw [← en]
      have B3 := BT.trans (b3.mono BT.size)
      clear b3 q1 f0 BT s0 en
      by_cases hc : e < (n : Int) - 1
      · have hn3 : e' = (n : Int) - 1 := by omega
        rw [hn3] at HN
        clear hn3 ee
        go_wp2
        all_goals go_roundw
        all_goals first | (case rel => exact ⟨j + 1, _, by omega, by go_num, rfl, HN, B3⟩) | (case measure => simp [intOf] <;> omega) | skip
      · have hn3 : e' = e := by omega
        rw [hn3] at HN
        clear hn3 ee
        go_wp2
        all_goals go_roundw
        all_goals first | (case rel => exact ⟨j + 1, _, by omega, by go_num, rfl, HN, B3⟩) | (case measure => simp [intOf] <;> omega) | skip
    · obtain rfl : j = xs.length := by omega
      obtain rfl : e = d := by rw [HE.out, HD.out]
      have B1 := B0.trans (BT.mono B0.size)
      clear BT HE
      go_wp2
      go_ret
      exact ⟨rfl, B1⟩

theorem xm_Degree_bad (p : Nat) (a : Value) (R C : Int) (xs : List (List Nat)) (w : World) (hA : Xm w a R C xs) (hF : ¬ Fd R C xs.length) :
    Calls Try.prog 45 #[.agg #[.int .u64 p], a] w (RetW w (.int .i64 (-1))) := by
  obtain ⟨aA, cA, rfl⟩ := hA.agg
  obtain ⟨wb, ew, KF, KA, B0, hsz⟩ := boxes2 w 29 24 [.int .u64 p] [.int .i64 R, .int .i64 C, .slice aA xs.length cA]
  clear hsz
  replace hA := hA.next B0
  go_enter Try.func45, Try.ntmps45
  go_upto_region 2 with (fail)
  rw [← ew]
  clear ew
  have q0 := KA.cell 0; have q1 := KA.cell 1; have q2 := KA.cell 2
  go_wp2_with fail
  refine (xm_Formed_no _ R C xs _ hA hF).mono ?_; rintro e w2 ⟨rfl, b2⟩

  replace B0 := B0.trans (b2.mono B0.size)
  clear b2
  go_wp2
  go_ret
  exact ⟨rfl, B0⟩

end Go.Proofs.Ythghdjpjbngllaa
