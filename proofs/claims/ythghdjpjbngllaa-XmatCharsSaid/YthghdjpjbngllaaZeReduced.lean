/- fmat.reduced: rows reduced as far as a column, or as far as they go. -/
import Derived.Test.YthghdjpjbngllaaZeColumn
namespace Go.Proofs.Ythghdjpjbngllaa
open Go.RowKit

/-- Where the loop of reduced stands. -/
def RdR (p : Nat) (w wb wr : World) (gW n C D g : Nat) (mat : List Value) (W0 : Nat → Nat → Zp p) (col : Nat) : Prop :=
  ∃ W P d rv pv vs, Wk p wr wb.heap.size gW n (C + D) W P d rv pv vs ∧ RedI n (C + D) col W0 W P d ∧ Blk 42 wr g mat ∧ g < wb.heap.size ∧ Below wb.heap.size wb wr ∧ Below w.heap.size w wr
/-- Reduced rows are returned. -/
def RetRed (p : Nat) (w : World) (n C D : Nat) (W0 : Nat → Nat → Zp p) (e : Ending) (w' : World) : Prop :=
  ∃ gW W P d rv pv vs, e = .returned (.pointer (some ⟨gW, 0, none⟩)) ∧ Wk p w' w.heap.size gW n (C + D) W P d rv pv vs ∧ RedF n (C + D) C W0 W P d ∧ Below w.heap.size w w'
theorem Wk.mono {p : Nat} {w : World} {base base' gW n N : Nat} {W : Nat → Nat → Zp p} {P : List Nat} {d : Zp p} {rv pv : Value} {vs : List Value} (h : Wk p w base gW n N W P d rv pv vs) (hb : base' ≤ base) : Wk p w base' gW n N W P d rv pv vs :=
  ⟨h.blk, Nat.le_trans hb h.gw, h.rows.mono hb, h.piv.mono hb⟩

set_option maxRecDepth 20000 in
set_option maxHeartbeats 2000000 in
theorem fw_reduced (p : Nat) (a b : Value) (n C D : Nat) (xs ys : List Nat) (w : World) (hp : FP p) (ht : Trial p) (hA : Fm w a n C xs) (hB : Fm w b n D ys) (hn : n ≤ 64) (hC : C ≤ 64) (hD : D ≤ 64) (hx : xs.length = n * C) (hy : ys.length = n * D) :
    Calls Try.prog 112 #[.agg #[.int .u64 p], a, b] w (RetRed p w n C D (beside C (mx p n C xs).e (mx p n D ys).e)) := by
  obtain ⟨aA, cA, rfl⟩ := hA.agg
  obtain ⟨aB, cB, rfl⟩ := hB.agg
  obtain ⟨wb, ew, KF, KA, KB, B0, hsz⟩ := boxes3 w 29 42 42 [.int .u64 p] [.int .i64 n, .int .i64 C, .slice aA xs.length cA] [.int .i64 n, .int .i64 D, .slice aB ys.length cB]
  clear hsz
  have HP := Lib.hid hp; clear hp
  have HTR := Lib.hid ht; clear ht
  replace hA := hA.next B0; replace hB := hB.next B0
  have HX := Lib.hid hx; have HY := Lib.hid hy; clear hx hy
  obtain ⟨W0, eW0⟩ : ∃ W0, W0 = beside C (mx p n C xs).e (mx p n D ys).e := ⟨_, rfl⟩
  rw [← eW0]
  have EW0 := Lib.hid eW0; clear eW0
  go_enter Try.func112, Try.ntmps112
  go_upto_region 1 with (fail)
  rw [← ew]
  obtain ⟨g, eg⟩ : ∃ g, g = w.heap.size := ⟨_, rfl⟩
  rw [← eg] at KF KA KB ⊢
  have hgw : w.heap.size ≤ g := by omega
  clear eg ew
  have f0 := KF.cell 0; have f1 := KA.cell 0; have f2 := KA.cell 1; have f3 := KA.cell 2; have f4 := KB.cell 0; have f5 := KB.cell 1; have f6 := KB.cell 2
  go_wp2_with fail
  refine (fw_begun p _ _ n C D xs ys _ HP.out hA hB hn hC hD HX.out HY.out).mono ?_; rintro e w2 ⟨gW, W, P, d, rv, pv, vs, rfl, h1, ⟨eW, eP, ed⟩, b2⟩
  rw [← EW0.out] at eW
  subst eW eP ed
  have st : RdR p w wb w2 gW n C D (g + 1) [.int .i64 n, .int .i64 C, .slice aA xs.length cA] W 0 := ⟨_, _, _, _, _, _, h1, RedI.start W, KA.next b2, KA.lt, b2, B0.trans (b2.mono B0.size)⟩
  clear h1 b2 KF KA KB hA hB f0 f1 f2 f3 f4 f5 f6
  have hBs := B0.size
  clear B0
  go_wp2
  go_loopw [8] (fun kv wr => ∃ col : Nat, col ≤ C ∧ kv = .int .i64 col ∧ RdR p w wb wr gW n C D (g + 1) [.int .i64 n, .int .i64 C, .slice aA xs.length cA] W col) (fun kv _ => C - (intOf kv).toNat)
  case atStart => exact ⟨0, by omega, rfl, st⟩
  case round =>
    clear st
    obtain ⟨col, hcol, rfl, V, P, d, rv, pv, vs, h, hr, KA, hg, B1, B2⟩ := hrel
    have hbw := B1.size
    by_cases hc : col < C
    · obtain ⟨pa, pc, epv⟩ := h.piv.sliced
      obtain ⟨ra, rc, erv⟩ : ∃ ra rc, rv = .slice ra n rc := by
        rcases h.rows.shape with ⟨e, e2⟩ | ⟨g, cap, e, -⟩
        · exact ⟨_, _, by rw [e, e2]⟩
        · exact ⟨_, _, e⟩
      subst epv erv
      go_upto_region 3 with (fail)
      have bd := Drawn.below (w' := wr.drew) ⟨1, rfl⟩ wr.heap.size
      replace h := h.next bd
      replace KA := KA.next bd
      replace B1 := B1.trans (bd.mono hbw); replace B2 := B2.trans (bd.mono B2.size)
      have hbw : wb.heap.size ≤ wr.drew.heap.size := hbw
      clear bd
      obtain ⟨m, em⟩ : ∃ m, m = P.length := ⟨_, rfl⟩
      have hml : m ≤ n := by rw [em]; exact hr.len
      have hblk := h.blk
      rw [← em] at hblk
      have EM := Lib.hid em; clear em
      refine startL (S := (fun w' => Below (wr.drew).heap.size (wr.drew) w')) (by kernel_rfl) (Below.refl _ _) (fun hHeld => ?_)
      refine takeL 0 (v := ?_) rfl (by kernel_rfl) (by kernel_rfl) (by kernel_rfl) (fun _ _ _ h => h) ⟨by rfl, ?_⟩ (by assumption) ?_
      rotate_left
      · intro w hS; go_simp <;> with_reducible rfl
      simp only [Act.put, List.setIfInBounds_toArray, List.set_cons_zero, List.set_cons_succ]
      refine takeL 1 (v := ?_) rfl (by kernel_rfl) (by kernel_rfl) (by kernel_rfl) (fun _ _ _ h => h) ⟨by rfl, ?_⟩ (by assumption) ?_
      rotate_left
      · intro w hS; go_simp <;> with_reducible rfl
      simp only [Act.put, List.setIfInBounds_toArray, List.set_cons_zero, List.set_cons_succ]
      refine takeL 2 (v := ?_) rfl (by kernel_rfl) (by kernel_rfl) (by kernel_rfl) (fun _ _ _ h => h) ⟨by rfl, ?_⟩ (by assumption) ?_
      rotate_left
      · intro w hS; have fa := KA.at hS; have fb := hblk.at hS; have f1 := fa 1; have f2 := fb 1; have f3 := fb 2; clear fa fb; go_simp <;> with_reducible rfl
      simp only [Act.put, List.setIfInBounds_toArray, List.set_cons_zero, List.set_cons_succ]
      refine takeL 3 (v := ?_) rfl (by kernel_rfl) (by kernel_rfl) (by kernel_rfl) (fun _ _ _ h => h) ⟨by rfl, ?_⟩ (by assumption) ?_
      rotate_left
      · intro w hS; go_simp <;> with_reducible rfl
      simp only [Act.put, List.setIfInBounds_toArray, List.set_cons_zero, List.set_cons_succ]
      refine takeL 4 (v := ?_) rfl (by kernel_rfl) (by kernel_rfl) (by kernel_rfl) (fun _ _ _ h => h) ⟨by rfl, ?_⟩ (by assumption) ?_
      rotate_left
      · intro w hS; go_simp <;> with_reducible rfl
      simp only [Act.put, List.setIfInBounds_toArray, List.set_cons_zero, List.set_cons_succ]
      refine takeL 5 (v := ?_) rfl (by kernel_rfl) (by kernel_rfl) (by kernel_rfl) (fun _ _ _ h => h) ⟨by rfl, ?_⟩ (by assumption) ?_
      rotate_left
      · intro w hS; go_simp <;> with_reducible rfl
      simp only [Act.put, List.setIfInBounds_toArray, List.set_cons_zero, List.set_cons_succ]
      refine takeL 6 (v := ?_) rfl (by kernel_rfl) (by kernel_rfl) (by kernel_rfl) (fun _ _ _ h => h) ⟨by rfl, ?_⟩ (by assumption) ?_
      rotate_left
      · intro w hS; go_simp <;> with_reducible rfl
      simp only [Act.put, List.setIfInBounds_toArray, List.set_cons_zero, List.set_cons_succ]
      refine takeL 7 (v := ?_) rfl (by kernel_rfl) (by kernel_rfl) (by kernel_rfl) (fun _ _ _ h => h) ⟨by rfl, ?_⟩ (by assumption) ?_
      rotate_left
      · intro w hS; go_simp <;> with_reducible rfl
      simp only [Act.put, List.setIfInBounds_toArray, List.set_cons_zero, List.set_cons_succ]
      refine takeL 8 (v := ?_) rfl (by kernel_rfl) (by kernel_rfl) (by kernel_rfl) (fun _ _ _ h => h) ⟨by rfl, ?_⟩ (by assumption) ?_
      rotate_left
      · intro w hS; have fa := KA.at hS; have fb := hblk.at hS; have f1 := fa 1; have f2 := fb 1; have f3 := fb 2; clear fa fb; go_simp <;> with_reducible rfl
      simp only [Act.put, List.setIfInBounds_toArray, List.set_cons_zero, List.set_cons_succ]
      refine takeL 9 (v := ?_) rfl (by kernel_rfl) (by kernel_rfl) (by kernel_rfl) (fun _ _ _ h => h) ⟨by rfl, ?_⟩ (by assumption) ?_
      rotate_left
      · intro w hS; go_simp <;> with_reducible rfl
      simp only [Act.put, List.setIfInBounds_toArray, List.set_cons_zero, List.set_cons_succ]
      refine takeL 10 (v := ?_) rfl (by kernel_rfl) (by kernel_rfl) (by kernel_rfl) (fun _ _ _ h => h) ⟨by rfl, ?_⟩ (by assumption) ?_
      rotate_left
      · intro w hS; go_simp <;> with_reducible rfl
      simp only [Act.put, List.setIfInBounds_toArray, List.set_cons_zero, List.set_cons_succ]
      refine takeL 11 (v := ?_) rfl (by kernel_rfl) (by kernel_rfl) (by kernel_rfl) (fun _ _ _ h => h) ⟨by rfl, ?_⟩ (by assumption) ?_
      rotate_left
      · intro w hS; go_simp <;> with_reducible rfl
      simp only [Act.put, List.setIfInBounds_toArray, List.set_cons_zero, List.set_cons_succ]
      refine takeL 12 (v := ?_) rfl (by kernel_rfl) (by kernel_rfl) (by kernel_rfl) (fun _ _ _ h => h) ⟨by rfl, ?_⟩ (by assumption) ?_
      rotate_left
      · intro w hS; go_simp <;> with_reducible rfl
      simp only [Act.put, List.setIfInBounds_toArray, List.set_cons_zero, List.set_cons_succ]
      refine takeL 13 (v := ?_) rfl (by kernel_rfl) (by kernel_rfl) (by kernel_rfl) (fun _ _ _ h => h) ⟨by rfl, ?_⟩ (by assumption) ?_
      rotate_left
      · intro w hS; have fa := KA.at hS; have fb := hblk.at hS; have f1 := fa 1; have f2 := fb 1; have f3 := fb 2; clear fa fb; go_simp <;> with_reducible rfl
      simp only [Act.put, List.setIfInBounds_toArray, List.set_cons_zero, List.set_cons_succ]
      refine takeL 14 (v := ?_) rfl (by kernel_rfl) (by kernel_rfl) (by kernel_rfl) (fun _ _ _ h => h) ⟨by rfl, ?_⟩ (by assumption) ?_
      rotate_left
      · intro w hS; go_simp <;> with_reducible rfl
      simp only [Act.put, List.setIfInBounds_toArray, List.set_cons_zero, List.set_cons_succ]
      refine takeL 15 (v := ?_) rfl (by kernel_rfl) (by kernel_rfl) (by kernel_rfl) (fun _ _ _ h => h) ⟨by rfl, ?_⟩ (by assumption) ?_
      rotate_left
      · intro w hS; go_simp <;> with_reducible rfl
      simp only [Act.put, List.setIfInBounds_toArray, List.set_cons_zero, List.set_cons_succ]
      refine takeL 16 (v := ?_) rfl (by kernel_rfl) (by kernel_rfl) (by kernel_rfl) (fun _ _ _ h => h) ⟨by rfl, ?_⟩ (by assumption) ?_
      rotate_left
      · intro w hS; go_simp <;> with_reducible rfl
      simp only [Act.put, List.setIfInBounds_toArray, List.set_cons_zero, List.set_cons_succ]
      refine doneL (by kernel_rfl) ?_ _
      clear hHeld hblk
      by_cases hm : m < n
      · go_wp2_with fail
        refine (fw_column p _ HP.out HTR.out wb.heap.size gW n (C + D) V P d _ _ vs h col (by omega) (by rw [← EM.out]; exact hm) (by omega) (by omega) hbw).mono ?_; rintro e w5 ⟨rfl, W', P', d', rv', pv', vs', h6, k6, b6⟩
        have st := Lib.hid (show RdR p w wb w5 gW n C D (g + 1) [.int .i64 n, .int .i64 C, .slice aA xs.length cA] W (col + 1) from ⟨_, _, _, _, _, _, h6, k6.red hr, KA.below b6 hg, hg, B1.trans b6, B2.trans (b6.mono hBs)⟩)
        clear h h6 k6 b6 hr KA B1 B2
        go_wp2
        go_roundw
        case rel => exact ⟨col + 1, by omega, by go_num, st.out⟩
        case measure => simp [intOf] <;> omega
      · have st := Lib.hid (show RedF n (C + D) C W V P d from ⟨col, by omega, hr, .inl (by have := EM.out; omega)⟩)
        have h := Lib.hid (h.mono hBs); have B2 := Lib.hid B2
        clear hr KA B1
        go_wp2
        go_ret
        exact ⟨gW, _, _, _, _, _, _, rfl, h.out, st.out, B2.out⟩
    · obtain rfl : col = C := by omega
      go_upto_region 3 with (fail)
      have bd := Drawn.below (w' := wr.drew) ⟨1, rfl⟩ wr.heap.size
      replace h := h.next bd
      replace KA := KA.next bd
      replace B2 := B2.trans (bd.mono B2.size)
      clear bd
      refine startL (S := (fun w' => Below (wr.drew).heap.size (wr.drew) w')) (by kernel_rfl) (Below.refl _ _) (fun hHeld => ?_)
      refine takeL 0 (v := ?_) rfl (by kernel_rfl) (by kernel_rfl) (by kernel_rfl) (fun _ _ _ h => h) ⟨by rfl, ?_⟩ (by assumption) ?_
      rotate_left
      · intro w hS; go_simp <;> with_reducible rfl
      simp only [Act.put, List.setIfInBounds_toArray, List.set_cons_zero, List.set_cons_succ]
      refine takeL 1 (v := ?_) rfl (by kernel_rfl) (by kernel_rfl) (by kernel_rfl) (fun _ _ _ h => h) ⟨by rfl, ?_⟩ (by assumption) ?_
      rotate_left
      · intro w hS; go_simp <;> with_reducible rfl
      simp only [Act.put, List.setIfInBounds_toArray, List.set_cons_zero, List.set_cons_succ]
      refine takeL 2 (v := ?_) rfl (by kernel_rfl) (by kernel_rfl) (by kernel_rfl) (fun _ _ _ h => h) ⟨by rfl, ?_⟩ (by assumption) ?_
      rotate_left
      · intro w hS; have fa := KA.at hS; have f1 := fa 1; clear fa; go_simp <;> with_reducible rfl
      simp only [Act.put, List.setIfInBounds_toArray, List.set_cons_zero, List.set_cons_succ]
      refine takeL 3 (v := ?_) rfl (by kernel_rfl) (by kernel_rfl) (by kernel_rfl) (fun _ _ _ h => h) ⟨by rfl, ?_⟩ (by assumption) ?_
      rotate_left
      · intro w hS; go_simp <;> with_reducible rfl
      simp only [Act.put, List.setIfInBounds_toArray, List.set_cons_zero, List.set_cons_succ]
      refine takeL 4 (v := ?_) rfl (by kernel_rfl) (by kernel_rfl) (by kernel_rfl) (fun _ _ _ h => h) ⟨by rfl, ?_⟩ (by assumption) ?_
      rotate_left
      · intro w hS; go_simp <;> with_reducible rfl
      simp only [Act.put, List.setIfInBounds_toArray, List.set_cons_zero, List.set_cons_succ]
      refine skipL 5 rfl (by kernel_rfl) (by kernel_rfl) (by kernel_rfl) (fun _ _ _ h => h) (by rfl) (by assumption) ?_
      simp only [Act.put, List.setIfInBounds_toArray, List.set_cons_zero, List.set_cons_succ]
      refine skipL 6 rfl (by kernel_rfl) (by kernel_rfl) (by kernel_rfl) (fun _ _ _ h => h) (by rfl) (by assumption) ?_
      simp only [Act.put, List.setIfInBounds_toArray, List.set_cons_zero, List.set_cons_succ]
      refine skipL 7 rfl (by kernel_rfl) (by kernel_rfl) (by kernel_rfl) (fun _ _ _ h => h) (by rfl) (by assumption) ?_
      simp only [Act.put, List.setIfInBounds_toArray, List.set_cons_zero, List.set_cons_succ]
      refine skipL 8 rfl (by kernel_rfl) (by kernel_rfl) (by kernel_rfl) (fun _ _ _ h => h) (by rfl) (by assumption) ?_
      simp only [Act.put, List.setIfInBounds_toArray, List.set_cons_zero, List.set_cons_succ]
      refine skipL 9 rfl (by kernel_rfl) (by kernel_rfl) (by kernel_rfl) (fun _ _ _ h => h) (by rfl) (by assumption) ?_
      simp only [Act.put, List.setIfInBounds_toArray, List.set_cons_zero, List.set_cons_succ]
      refine skipL 10 rfl (by kernel_rfl) (by kernel_rfl) (by kernel_rfl) (fun _ _ _ h => h) (by rfl) (by assumption) ?_
      simp only [Act.put, List.setIfInBounds_toArray, List.set_cons_zero, List.set_cons_succ]
      refine skipL 11 rfl (by kernel_rfl) (by kernel_rfl) (by kernel_rfl) (fun _ _ _ h => h) (by rfl) (by assumption) ?_
      simp only [Act.put, List.setIfInBounds_toArray, List.set_cons_zero, List.set_cons_succ]
      refine skipL 12 rfl (by kernel_rfl) (by kernel_rfl) (by kernel_rfl) (fun _ _ _ h => h) (by rfl) (by assumption) ?_
      simp only [Act.put, List.setIfInBounds_toArray, List.set_cons_zero, List.set_cons_succ]
      refine skipL 13 rfl (by kernel_rfl) (by kernel_rfl) (by kernel_rfl) (fun _ _ _ h => h) (by rfl) (by assumption) ?_
      simp only [Act.put, List.setIfInBounds_toArray, List.set_cons_zero, List.set_cons_succ]
      refine skipL 14 rfl (by kernel_rfl) (by kernel_rfl) (by kernel_rfl) (fun _ _ _ h => h) (by rfl) (by assumption) ?_
      simp only [Act.put, List.setIfInBounds_toArray, List.set_cons_zero, List.set_cons_succ]
      refine skipL 15 rfl (by kernel_rfl) (by kernel_rfl) (by kernel_rfl) (fun _ _ _ h => h) (by rfl) (by assumption) ?_
      simp only [Act.put, List.setIfInBounds_toArray, List.set_cons_zero, List.set_cons_succ]
      refine takeL 16 (v := ?_) rfl (by kernel_rfl) (by kernel_rfl) (by kernel_rfl) (fun _ _ _ h => h) ⟨by rfl, ?_⟩ (by assumption) ?_
      rotate_left
      · intro w hS; go_simp <;> with_reducible rfl
      simp only [Act.put, List.setIfInBounds_toArray, List.set_cons_zero, List.set_cons_succ]
      refine doneL (by kernel_rfl) ?_ _
      clear hHeld
      have st := Lib.hid (show RedF n (col + D) col W V P d from ⟨col, by omega, hr, .inr rfl⟩)
      have h := Lib.hid (h.mono hBs); have B2 := Lib.hid B2
      clear hr KA B1
      go_wp2
      go_ret
      exact ⟨gW, _, _, _, _, _, _, rfl, h.out, st.out, B2.out⟩

end Go.Proofs.Ythghdjpjbngllaa
