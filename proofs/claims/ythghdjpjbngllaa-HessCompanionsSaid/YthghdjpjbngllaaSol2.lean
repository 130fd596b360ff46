/- fmat.Solve. -/
import Derived.Test.YthghdjpjbngllaaSol1
namespace Go.Proofs.Ythghdjpjbngllaa
open Go.RowKit


section
variable {p n C N : Nat} {W : Nat → Nat → Zp p} {P : List Nat}
/-- What stands at a place of the solution, by the number that Index tells. -/
theorem solv_at (hi : Incr P C) {i k : Nat} {R : Int} {β : Nat → Bool} (hβ : β = fun j => decide (P.getD j 0 = i)) (hR : IxR β P.length R) : (∃ j : Nat, R = j ∧ j < P.length ∧ solv C W P i k = W j (C + k)) ∨ (R = -1 ∧ solv C W P i k = 0) := by
  rcases hR with ⟨j, e, hj, h1, h2⟩ | ⟨e, h⟩
  · left
    rw [hβ] at h1
    have hg : P.getD j 0 = i := by simpa using h1
    refine ⟨j, e, hj, ?_⟩
    unfold solv
    rw [if_pos (by rw [← hg]; exact getD_mem hj)]
    have := hi.idx hj
    rw [hg] at this
    rw [this]
  · right
    refine ⟨e, ?_⟩
    unfold solv
    rw [if_neg]
    intro hm
    obtain ⟨t, ht, e2⟩ := mem_getD hm
    have h9 := h t ht
    rw [hβ] at h9
    have h8 : decide (P.getD t 0 = i) = false := h9
    rw [decide_eq_true e2] at h8
    cases h8
end

set_option maxRecDepth 20000 in
set_option maxHeartbeats 1000000 in
theorem solve2 (p n C D i k base gP gW gA : Nat) (rv pv : Value) (vs mat : List Value) (W : Nat → Nat → Zp p) (P : List Nat) (d : Zp p) (w : World) (hi : Incr P C) (hP : P.length ≤ n) (hn : n ≤ 64) (hC : C ≤ 64) (hD : D ≤ 64) (hii : i < C) (hk : k < D)
    (KP : Blk 123 w gP [.pointer (some ⟨gW, 0, none⟩)]) (hW : Wk p w base gW n (C + D) W P d rv pv vs) (KA : Blk 42 w gA mat) (hA1 : mat[1]? = some (.int .i64 C)) :
    Calls Try.prog 154 #[.int .i64 i, .int .i64 k, .pointer (some ⟨gP, 0, none⟩), .pointer (some ⟨gA, 0, none⟩)] w (RetW w (.int .u64 ((solv C W P i k).val : Nat))) := by
  obtain ⟨pa, pc, rfl⟩ := hW.piv.sliced
  have hps := hW.piv.sl
  obtain ⟨R, hR⟩ := IxR.ex (fun j => decide (P.getD j 0 = i)) P.length
  have hix := Lib.hid (ix_int _ P i w hps (by omega) _ rfl R hR)
  have q0 : w.cell? ⟨gP, 0, none⟩ = some (.pointer (some ⟨gW, 0, none⟩)) := KP.cell 0
  have q1 : w.cell? ⟨gW, 2, none⟩ = some (.slice pa P.length pc) := hW.blk.cell 2
  have s0 := solv_at (W := W) (C := C) (k := k) hi rfl hR
  have hlP := KP.lt; have hlW := hW.blk.lt; have hlA := KA.lt
  rcases s0 with ⟨j, rfl, hj, e⟩ | ⟨rfl, e⟩
  · have hjn : j < n := by omega
    obtain ⟨g, cg, b, o, cap, rfl, hcg, hlg, qh, hcap, hlb, qr⟩ := hW.rows.atR hjn (by omega)
    have q2 : w.cell? ⟨gW, 1, none⟩ = some (.slice (some ⟨g, 0, none⟩) n cg) := hW.blk.cell 1
    have q3 : w.cell? ⟨gA, 1, none⟩ = some (.int .i64 (C : Nat)) := (KA.cell 1).trans hA1
    obtain ⟨c, ec⟩ : ∃ c, c = C + k := ⟨_, rfl⟩
    have q4 : w.cell? ⟨b, o + c, none⟩ = some (.int .u64 ((W j c).val : Nat)) := qr c (by omega)
    have ha1 : IntKind.i64.wrap ((C : Int) + (k : Int)) = (c : Int) := by rw [ec, ← Int.natCast_add]; exact IntWalk.i64_in _ ⟨by omega, by omega⟩
    have hcN : c < C + D := by omega
    rw [e, ← ec]
    obtain ⟨x, ex⟩ : ∃ x, x = (W j c).val := ⟨_, rfl⟩
    rw [← ex] at q4 ⊢
    obtain ⟨N, eN⟩ : ∃ N, N = C + D := ⟨_, rfl⟩
    rw [← eN] at qh hcap hcN
    clear ec e ex eN qr hR hps hW KP KA hi hP
    go_enter Try.func154, Try.ntmps154
    go_wp2_with fail
    refine hix.out.mono ?_; rintro e w' ⟨rfl, rfl⟩
    clear q1 hix
    go_upto_region 3 with (fail)
    have bd := Drawn.below (w' := w.drew) ⟨1, rfl⟩ w.heap.size
    replace q0 := (bd.cell (p := ⟨gP, 0, none⟩) hlP).trans q0
    replace q2 := (bd.cell (p := ⟨gW, 1, none⟩) hlW).trans q2
    replace q3 := (bd.cell (p := ⟨gA, 1, none⟩) hlA).trans q3
    replace qh := (bd.cell (p := ⟨g, j, none⟩) hlg).trans qh
    replace q4 := (bd.cell (p := ⟨b, o + c, none⟩) hlb).trans q4
    replace hlP : gP < w.drew.heap.size := hlP
    replace hlW : gW < w.drew.heap.size := hlW
    replace hlA : gA < w.drew.heap.size := hlA
    replace hlg : g < w.drew.heap.size := hlg
    replace hlb : b < w.drew.heap.size := hlb
    refine startL (S := (fun w' => Below (w.drew).heap.size (w.drew) w')) (by kernel_rfl) (Below.refl _ _) (fun hHeld => ?_)
    refine takeL 0 (v := ?_) rfl (by kernel_rfl) (by kernel_rfl) (by kernel_rfl) (fun _ _ _ h => h) ⟨by rfl, ?_⟩ (by assumption) ?_
    rotate_left
    · intro w hS; have f1 := (hS.cell (p := ⟨gP, 0, none⟩) hlP).trans q0; have f2 := (hS.cell (p := ⟨gW, 1, none⟩) hlW).trans q2; have f3 := (hS.cell (p := ⟨gA, 1, none⟩) hlA).trans q3; have f4 := (hS.cell (p := ⟨g, j, none⟩) hlg).trans qh; have f5 := (hS.cell (p := ⟨b, o + c, none⟩) hlb).trans q4; go_simp <;> with_reducible rfl
    simp only [Act.put, List.setIfInBounds_toArray, List.set_cons_zero, List.set_cons_succ]
    refine takeL 1 (v := ?_) rfl (by kernel_rfl) (by kernel_rfl) (by kernel_rfl) (fun _ _ _ h => h) ⟨by rfl, ?_⟩ (by assumption) ?_
    rotate_left
    · intro w hS; go_simp <;> with_reducible rfl
    simp only [Act.put, List.setIfInBounds_toArray, List.set_cons_zero, List.set_cons_succ]
    refine takeL 2 (v := ?_) rfl (by kernel_rfl) (by kernel_rfl) (by kernel_rfl) (fun _ _ _ h => h) ⟨by rfl, ?_⟩ (by assumption) ?_
    rotate_left
    · intro w hS; go_simp <;> with_reducible rfl
    simp only [Act.put, List.setIfInBounds_toArray, List.set_cons_zero, List.set_cons_succ]
    refine takeL 3 (v := ?_) rfl (by kernel_rfl) (by kernel_rfl) (by kernel_rfl) (fun _ _ _ h => h) ⟨by rfl, ?_⟩ (by assumption) ?_
    rotate_left
    · intro w hS; have f1 := (hS.cell (p := ⟨gP, 0, none⟩) hlP).trans q0; have f2 := (hS.cell (p := ⟨gW, 1, none⟩) hlW).trans q2; have f3 := (hS.cell (p := ⟨gA, 1, none⟩) hlA).trans q3; have f4 := (hS.cell (p := ⟨g, j, none⟩) hlg).trans qh; have f5 := (hS.cell (p := ⟨b, o + c, none⟩) hlb).trans q4; go_simp <;> with_reducible rfl
    simp only [Act.put, List.setIfInBounds_toArray, List.set_cons_zero, List.set_cons_succ]
    refine takeL 4 (v := ?_) rfl (by kernel_rfl) (by kernel_rfl) (by kernel_rfl) (fun _ _ _ h => h) ⟨by rfl, ?_⟩ (by assumption) ?_
    rotate_left
    · intro w hS; go_simp <;> with_reducible rfl
    simp only [Act.put, List.setIfInBounds_toArray, List.set_cons_zero, List.set_cons_succ]
    refine takeL 5 (v := ?_) rfl (by kernel_rfl) (by kernel_rfl) (by kernel_rfl) (fun _ _ _ h => h) ⟨by rfl, ?_⟩ (by assumption) ?_
    rotate_left
    · intro w hS; go_simp <;> with_reducible rfl
    simp only [Act.put, List.setIfInBounds_toArray, List.set_cons_zero, List.set_cons_succ]
    refine takeL 6 (v := ?_) rfl (by kernel_rfl) (by kernel_rfl) (by kernel_rfl) (fun _ _ _ h => h) ⟨by rfl, ?_⟩ (by assumption) ?_
    rotate_left
    · intro w hS; have f1 := (hS.cell (p := ⟨gP, 0, none⟩) hlP).trans q0; have f2 := (hS.cell (p := ⟨gW, 1, none⟩) hlW).trans q2; have f3 := (hS.cell (p := ⟨gA, 1, none⟩) hlA).trans q3; have f4 := (hS.cell (p := ⟨g, j, none⟩) hlg).trans qh; have f5 := (hS.cell (p := ⟨b, o + c, none⟩) hlb).trans q4; go_simp <;> with_reducible rfl
    simp only [Act.put, List.setIfInBounds_toArray, List.set_cons_zero, List.set_cons_succ]
    refine takeL 7 (v := ?_) rfl (by kernel_rfl) (by kernel_rfl) (by kernel_rfl) (fun _ _ _ h => h) ⟨by rfl, ?_⟩ (by assumption) ?_
    rotate_left
    · intro w hS; go_simp <;> with_reducible rfl
    simp only [Act.put, List.setIfInBounds_toArray, List.set_cons_zero, List.set_cons_succ]
    refine takeL 8 (v := ?_) rfl (by kernel_rfl) (by kernel_rfl) (by kernel_rfl) (fun _ _ _ h => h) ⟨by rfl, ?_⟩ (by assumption) ?_
    rotate_left
    · intro w hS; have f1 := (hS.cell (p := ⟨gP, 0, none⟩) hlP).trans q0; have f2 := (hS.cell (p := ⟨gW, 1, none⟩) hlW).trans q2; have f3 := (hS.cell (p := ⟨gA, 1, none⟩) hlA).trans q3; have f4 := (hS.cell (p := ⟨g, j, none⟩) hlg).trans qh; have f5 := (hS.cell (p := ⟨b, o + c, none⟩) hlb).trans q4; go_simp <;> with_reducible rfl
    simp only [Act.put, List.setIfInBounds_toArray, List.set_cons_zero, List.set_cons_succ]
    refine takeL 9 (v := ?_) rfl (by kernel_rfl) (by kernel_rfl) (by kernel_rfl) (fun _ _ _ h => h) ⟨by rfl, ?_⟩ (by assumption) ?_
    rotate_left
    · intro w hS; go_simp <;> with_reducible rfl
    simp only [Act.put, List.setIfInBounds_toArray, List.set_cons_zero, List.set_cons_succ]
    refine takeL 10 (v := ?_) rfl (by kernel_rfl) (by kernel_rfl) (by kernel_rfl) (fun _ _ _ h => h) ⟨by rfl, ?_⟩ (by assumption) ?_
    rotate_left
    · intro w hS; go_simp <;> with_reducible rfl
    simp only [Act.put, List.setIfInBounds_toArray, List.set_cons_zero, List.set_cons_succ]
    refine takeL 11 (v := ?_) rfl (by kernel_rfl) (by kernel_rfl) (by kernel_rfl) (fun _ _ _ h => h) ⟨by rfl, ?_⟩ (by assumption) ?_
    rotate_left
    · intro w hS; go_simp <;> with_reducible rfl
    simp only [Act.put, List.setIfInBounds_toArray, List.set_cons_zero, List.set_cons_succ]
    refine takeL 12 (v := ?_) rfl (by kernel_rfl) (by kernel_rfl) (by kernel_rfl) (fun _ _ _ h => h) ⟨by rfl, ?_⟩ (by assumption) ?_
    rotate_left
    · intro w hS; have f1 := (hS.cell (p := ⟨gP, 0, none⟩) hlP).trans q0; have f2 := (hS.cell (p := ⟨gW, 1, none⟩) hlW).trans q2; have f3 := (hS.cell (p := ⟨gA, 1, none⟩) hlA).trans q3; have f4 := (hS.cell (p := ⟨g, j, none⟩) hlg).trans qh; have f5 := (hS.cell (p := ⟨b, o + c, none⟩) hlb).trans q4; go_simp <;> with_reducible rfl
    simp only [Act.put, List.setIfInBounds_toArray, List.set_cons_zero, List.set_cons_succ]
    refine takeL 13 (v := ?_) rfl (by kernel_rfl) (by kernel_rfl) (by kernel_rfl) (fun _ _ _ h => h) ⟨by rfl, ?_⟩ (by assumption) ?_
    rotate_left
    · intro w hS; go_simp <;> with_reducible rfl
    simp only [Act.put, List.setIfInBounds_toArray, List.set_cons_zero, List.set_cons_succ]
    refine doneL (by kernel_rfl) ?_ _
    clear hHeld q0 q2 q3 qh q4
    go_wp2
    go_ret
    exact ⟨rfl, bd⟩
  · rw [e]
    have hv0 : ((0 : Zp p).val : Nat) = 0 := Zp.zero_val p
    rw [hv0]
    clear e hR hps hW KP KA hi hA1 hP
    go_enter Try.func154, Try.ntmps154
    go_wp2_with fail
    refine hix.out.mono ?_; rintro e w' ⟨rfl, rfl⟩
    clear q1 q0 hix
    go_wp2
    go_ret
    exact ⟨rfl, Below.refl _ _⟩

/-- What a solution is. -/
def RetSol (p : Nat) (w : World) (n C D : Nat) (A : MT (Zp p) n C) (B : MT (Zp p) n D) (e : Ending) (w' : World) : Prop :=
  (∃ X : MT (Zp p) C D, A * X = B ∧ RetFE p w C D X e w') ∨ ((∀ X : MT (Zp p) C D, A * X ≠ B) ∧ RetFX w 10 e w')

set_option maxRecDepth 20000 in
set_option maxHeartbeats 4000000 in
theorem fm_Solve (p : Nat) (a b : Value) (n C D : Nat) (xs ys : List Nat) (w : World) (hp : FP p) (ht : Trial p) (hA : Fm w a n C xs) (hB : Fm w b n D ys) (hn : n ≤ 64) (hC : C ≤ 64) (hD : D ≤ 64) (hD0 : 0 < D) (hx : xs.length = n * C) (hy : ys.length = n * D) :
    Calls Try.prog 141 #[.agg #[.int .u64 p], a, b] w (RetSol p w n C D (mx p n C xs) (mx p n D ys)) := by
  obtain ⟨aA, cA, rfl⟩ := hA.agg
  obtain ⟨aB, cB, rfl⟩ := hB.agg
  obtain ⟨wb, ew, KF, KA, KB, KR, B0, hsz⟩ := boxes4 w 29 42 42 42 [.int .u64 p] [.int .i64 n, .int .i64 C, .slice aA xs.length cA] [.int .i64 n, .int .i64 D, .slice aB ys.length cB] [.int .i64 0, .int .i64 0, .slice none 0 0]
  clear hsz
  have HP := Lib.hid hp; have HT := Lib.hid ht; clear hp ht
  replace hA := hA.next B0; replace hB := hB.next B0
  have HX := Lib.hid hx; have HY := Lib.hid hy; clear hx hy
  have hnn : ((n : Int) != (n : Int)) = false := by simp
  obtain ⟨A, eA⟩ : ∃ A, A = mx p n C xs := ⟨_, rfl⟩
  obtain ⟨B, eB⟩ : ∃ B, B = mx p n D ys := ⟨_, rfl⟩
  rw [← eA, ← eB]
  have EA := Lib.hid eA; have EB := Lib.hid eB; clear eA eB
  go_enter Try.func141, Try.ntmps141
  go_upto_region 1 with (fail)
  rw [← ew]
  obtain ⟨g, eg⟩ : ∃ g, g = w.heap.size := ⟨_, rfl⟩
  rw [← eg] at KF KA KB KR ⊢
  have hgw : w.heap.size ≤ g := by omega
  clear ew eg
  have f0 := KF.cell 0; have f1 := KA.cell 0; have f2 := KA.cell 1; have f3 := KA.cell 2; have f4 := KB.cell 0; have f5 := KB.cell 1; have f6 := KB.cell 2
  go_wp2_with fail
  refine (fm_Formed_yes _ n C xs _ hA (Fd.of hn hC HX.out)).mono ?_; rintro e w2 ⟨rfl, b2⟩
  clear f0 f1 f2 f3 f4 f5 f6
  replace hA := hA.next b2; replace hB := hB.next b2; replace KF := KF.next b2; replace KA := KA.next b2; replace KB := KB.next b2; replace KR := KR.next b2
  replace B0 := B0.trans (b2.mono B0.size)
  have f0 := KF.cell 0; have f1 := KA.cell 0; have f2 := KA.cell 1; have f3 := KA.cell 2; have f4 := KB.cell 0; have f5 := KB.cell 1; have f6 := KB.cell 2
  go_wp2_with fail
  refine (fm_Formed_yes _ n D ys _ hB (Fd.of hn hD HY.out)).mono ?_; rintro e w3 ⟨rfl, b3⟩
  clear f0 f1 f2 f3 f4 f5 f6 b2
  replace hA := hA.next b3; replace hB := hB.next b3; replace KF := KF.next b3; replace KA := KA.next b3; replace KB := KB.next b3; replace KR := KR.next b3
  replace B0 := B0.trans (b3.mono B0.size)
  have f0 := KF.cell 0; have f1 := KA.cell 0; have f2 := KA.cell 1; have f3 := KA.cell 2; have f4 := KB.cell 0; have f5 := KB.cell 1; have f6 := KB.cell 2
  go_wp2_with fail
  refine (fw_reduced p _ _ n C D xs ys _ HP.out HT.out hA hB hn hC hD HX.out HY.out).mono ?_; rintro e w4 ⟨gW, W, P, d, rv, pv, vs, rfl, hW, hr, b4⟩
  clear f0 f1 f2 f3 f4 f5 f6 b3
  rw [← EA.out, ← EB.out] at hr
  have HR := Lib.hid hr; clear hr
  have hPn := HR.out.len
  have hPC := HR.out.incr.len
  have hbg : g ≤ w4.heap.size := Nat.le_trans (Nat.le_of_lt KF.lt) b4.size
  replace KF := KF.next b4; replace KA := KA.next b4; replace KB := KB.next b4; replace KR := KR.next b4
  replace B0 := B0.trans (b4.mono B0.size)
  clear hA hB
  obtain ⟨w5, ew5, KP, b5, -⟩ := boxes1 w4 123 [.pointer (some ⟨gW, 0, none⟩)]
  go_upto_region 4 with (fail)
  rw [← ew5]
  obtain ⟨gP, egP⟩ : ∃ g, g = w4.heap.size := ⟨_, rfl⟩
  rw [← egP] at KP ⊢
  clear ew5 egP b4
  replace hW := hW.next b5; replace KF := KF.next b5; replace KA := KA.next b5; replace KB := KB.next b5; replace KR := KR.next b5
  replace B0 := B0.trans (b5.mono B0.size)
  clear b5
  obtain ⟨pa, pc, rfl⟩ := hW.piv.sliced
  obtain ⟨m2, em2⟩ : ∃ m2, m2 = n - P.length := ⟨_, rfl⟩
  have HM2 := Lib.hid em2
  go_cut [40, 41, 42] (fun v40 v41 v42 wx => ∃ ao c, v40 = .slice ao m2 c ∧ m2 ≤ c ∧ v41 = .int .i64 m2 ∧ v42 = .int .i64 0 ∧ (0 < m2 → ∃ gr cr, rv = .slice (some ⟨gr, 0, none⟩) n cr ∧ ao = some ⟨gr, P.length, none⟩) ∧ Below w5.heap.size w5 wx)
  case first =>
    have bd := Drawn.below (w' := w5.drew) ⟨1, rfl⟩ w5.heap.size
    have KP5 := KP.next bd; have hW5 := hW.next bd
    clear KF KA KB KR B0
    have hsh := hW.rows.shape
    clear hW KP
    rcases hsh with ⟨rfl, h0⟩ | ⟨gr, cr, rfl, _, _, hcr⟩
    · obtain rfl : P = [] := List.eq_nil_of_length_eq_zero (by omega)
      have hm20 : m2 = 0 := by omega
      clear em2
      subst hm20
      subst h0
      refine startL (S := (fun w' => Below (w5.drew).heap.size (w5.drew) w')) (by kernel_rfl) (Below.refl _ _) (fun hHeld => ?_)
      refine takeL 0 (v := ?_) rfl (by kernel_rfl) (by kernel_rfl) (by kernel_rfl) (fun _ _ _ h => h) ⟨by rfl, ?_⟩ (by assumption) ?_
      rotate_left
      · intro w hS; have f1 := (KP5.at hS) 0; have fw := hW5.blk.at hS; have f2 := fw 1; have f3 := fw 2; clear fw; go_simp <;> with_reducible rfl
      simp only [Act.put, List.setIfInBounds_toArray, List.set_cons_zero, List.set_cons_succ]
      refine takeL 1 (v := ?_) rfl (by kernel_rfl) (by kernel_rfl) (by kernel_rfl) (fun _ _ _ h => h) ⟨by rfl, ?_⟩ (by assumption) ?_
      rotate_left
      · intro w hS; go_simp <;> with_reducible rfl
      simp only [Act.put, List.setIfInBounds_toArray, List.set_cons_zero, List.set_cons_succ]
      refine takeL 2 (v := ?_) rfl (by kernel_rfl) (by kernel_rfl) (by kernel_rfl) (fun _ _ _ h => h) ⟨by rfl, ?_⟩ (by assumption) ?_
      rotate_left
      · intro w hS; go_simp <;> with_reducible rfl
      simp only [Act.put, List.setIfInBounds_toArray, List.set_cons_zero, List.set_cons_succ]
      refine takeL 3 (v := ?_) rfl (by kernel_rfl) (by kernel_rfl) (by kernel_rfl) (fun _ _ _ h => h) ⟨by rfl, ?_⟩ (by assumption) ?_
      rotate_left
      · intro w hS; have f1 := (KP5.at hS) 0; have fw := hW5.blk.at hS; have f2 := fw 1; have f3 := fw 2; clear fw; go_simp <;> with_reducible rfl
      simp only [Act.put, List.setIfInBounds_toArray, List.set_cons_zero, List.set_cons_succ]
      refine takeL 4 (v := ?_) rfl (by kernel_rfl) (by kernel_rfl) (by kernel_rfl) (fun _ _ _ h => h) ⟨by rfl, ?_⟩ (by assumption) ?_
      rotate_left
      · intro w hS; have f1 := (KP5.at hS) 0; have fw := hW5.blk.at hS; have f2 := fw 1; have f3 := fw 2; clear fw; go_simp <;> with_reducible rfl
      simp only [Act.put, List.setIfInBounds_toArray, List.set_cons_zero, List.set_cons_succ]
      refine takeL 5 (v := ?_) rfl (by kernel_rfl) (by kernel_rfl) (by kernel_rfl) (fun _ _ _ h => h) ⟨by rfl, ?_⟩ (by assumption) ?_
      rotate_left
      · intro w hS; go_simp <;> with_reducible rfl
      simp only [Act.put, List.setIfInBounds_toArray, List.set_cons_zero, List.set_cons_succ]
      refine takeL 6 (v := ?_) rfl (by kernel_rfl) (by kernel_rfl) (by kernel_rfl) (fun _ _ _ h => h) ⟨by rfl, ?_⟩ (by assumption) ?_
      rotate_left
      · intro w hS; go_simp <;> with_reducible rfl
      simp only [Act.put, List.setIfInBounds_toArray, List.set_cons_zero, List.set_cons_succ]
      refine takeL 7 (v := ?_) rfl (by kernel_rfl) (by kernel_rfl) (by kernel_rfl) (fun _ _ _ h => h) ⟨by rfl, ?_⟩ (by assumption) ?_
      rotate_left
      · intro w hS; have f1 := (KP5.at hS) 0; have fw := hW5.blk.at hS; have f2 := fw 1; have f3 := fw 2; clear fw; go_simp <;> with_reducible rfl
      simp only [Act.put, List.setIfInBounds_toArray, List.set_cons_zero, List.set_cons_succ]
      refine takeL 8 (v := ?_) rfl (by kernel_rfl) (by kernel_rfl) (by kernel_rfl) (fun _ _ _ h => h) ⟨by rfl, ?_⟩ (by assumption) ?_
      rotate_left
      · intro w hS; go_simp <;> with_reducible rfl
      simp only [Act.put, List.setIfInBounds_toArray, List.set_cons_zero, List.set_cons_succ]
      refine takeL 9 (v := ?_) rfl (by kernel_rfl) (by kernel_rfl) (by kernel_rfl) (fun _ _ _ h => h) ⟨by rfl, ?_⟩ (by assumption) ?_
      rotate_left
      · intro w hS; go_simp <;> with_reducible rfl
      simp only [Act.put, List.setIfInBounds_toArray, List.set_cons_zero, List.set_cons_succ]
      refine takeL 10 (v := ?_) rfl (by kernel_rfl) (by kernel_rfl) (by kernel_rfl) (fun _ _ _ h => h) ⟨by rfl, ?_⟩ (by assumption) ?_
      rotate_left
      · intro w hS; go_simp <;> with_reducible rfl
      simp only [Act.put, List.setIfInBounds_toArray, List.set_cons_zero, List.set_cons_succ]
      refine takeL 11 (v := ?_) rfl (by kernel_rfl) (by kernel_rfl) (by kernel_rfl) (fun _ _ _ h => h) ⟨by rfl, ?_⟩ (by assumption) ?_
      rotate_left
      · intro w hS; go_simp <;> with_reducible rfl
      simp only [Act.put, List.setIfInBounds_toArray, List.set_cons_zero, List.set_cons_succ]
      refine doneL (by kernel_rfl) ?_ _
      have hb5 := bd.trans (hHeld.mono bd.size)
      clear KP5 hW5 bd
      go_wp2_with fail
      go_meet
      exact ⟨none, 0, rfl, Nat.le_refl _, rfl, rfl, fun h => absurd h (by omega), hb5⟩
    · rcases Nat.lt_or_ge P.length cr with hlc | hlc
      · have hm2c : n - P.length = m2 := em2.symm
        have hm3 : (n : Int) - (P.length : Int) = (m2 : Int) := by omega
        clear em2
        refine startL (S := (fun w' => Below (w5.drew).heap.size (w5.drew) w')) (by kernel_rfl) (Below.refl _ _) (fun hHeld => ?_)
        refine takeL 0 (v := ?_) rfl (by kernel_rfl) (by kernel_rfl) (by kernel_rfl) (fun _ _ _ h => h) ⟨by rfl, ?_⟩ (by assumption) ?_
        rotate_left
        · intro w hS; have f1 := (KP5.at hS) 0; have fw := hW5.blk.at hS; have f2 := fw 1; have f3 := fw 2; clear fw; go_simp <;> with_reducible rfl
        simp only [Act.put, List.setIfInBounds_toArray, List.set_cons_zero, List.set_cons_succ]
        refine takeL 1 (v := ?_) rfl (by kernel_rfl) (by kernel_rfl) (by kernel_rfl) (fun _ _ _ h => h) ⟨by rfl, ?_⟩ (by assumption) ?_
        rotate_left
        · intro w hS; go_simp <;> with_reducible rfl
        simp only [Act.put, List.setIfInBounds_toArray, List.set_cons_zero, List.set_cons_succ]
        refine takeL 2 (v := ?_) rfl (by kernel_rfl) (by kernel_rfl) (by kernel_rfl) (fun _ _ _ h => h) ⟨by rfl, ?_⟩ (by assumption) ?_
        rotate_left
        · intro w hS; go_simp <;> with_reducible rfl
        simp only [Act.put, List.setIfInBounds_toArray, List.set_cons_zero, List.set_cons_succ]
        refine takeL 3 (v := ?_) rfl (by kernel_rfl) (by kernel_rfl) (by kernel_rfl) (fun _ _ _ h => h) ⟨by rfl, ?_⟩ (by assumption) ?_
        rotate_left
        · intro w hS; have f1 := (KP5.at hS) 0; have fw := hW5.blk.at hS; have f2 := fw 1; have f3 := fw 2; clear fw; go_simp <;> with_reducible rfl
        simp only [Act.put, List.setIfInBounds_toArray, List.set_cons_zero, List.set_cons_succ]
        refine takeL 4 (v := ?_) rfl (by kernel_rfl) (by kernel_rfl) (by kernel_rfl) (fun _ _ _ h => h) ⟨by rfl, ?_⟩ (by assumption) ?_
        rotate_left
        · intro w hS; have f1 := (KP5.at hS) 0; have fw := hW5.blk.at hS; have f2 := fw 1; have f3 := fw 2; clear fw; go_simp <;> with_reducible rfl
        simp only [Act.put, List.setIfInBounds_toArray, List.set_cons_zero, List.set_cons_succ]
        refine takeL 5 (v := ?_) rfl (by kernel_rfl) (by kernel_rfl) (by kernel_rfl) (fun _ _ _ h => h) ⟨by rfl, ?_⟩ (by assumption) ?_
        rotate_left
        · intro w hS; go_simp <;> with_reducible rfl
        simp only [Act.put, List.setIfInBounds_toArray, List.set_cons_zero, List.set_cons_succ]
        refine takeL 6 (v := ?_) rfl (by kernel_rfl) (by kernel_rfl) (by kernel_rfl) (fun _ _ _ h => h) ⟨by rfl, ?_⟩ (by assumption) ?_
        rotate_left
        · intro w hS; go_simp <;> with_reducible rfl
        simp only [Act.put, List.setIfInBounds_toArray, List.set_cons_zero, List.set_cons_succ]
        refine takeL 7 (v := ?_) rfl (by kernel_rfl) (by kernel_rfl) (by kernel_rfl) (fun _ _ _ h => h) ⟨by rfl, ?_⟩ (by assumption) ?_
        rotate_left
        · intro w hS; have f1 := (KP5.at hS) 0; have fw := hW5.blk.at hS; have f2 := fw 1; have f3 := fw 2; clear fw; go_simp <;> with_reducible rfl
        simp only [Act.put, List.setIfInBounds_toArray, List.set_cons_zero, List.set_cons_succ]
        refine takeL 8 (v := ?_) rfl (by kernel_rfl) (by kernel_rfl) (by kernel_rfl) (fun _ _ _ h => h) ⟨by rfl, ?_⟩ (by assumption) ?_
        rotate_left
        · intro w hS; go_simp <;> with_reducible rfl
        simp only [Act.put, List.setIfInBounds_toArray, List.set_cons_zero, List.set_cons_succ]
        refine takeL 9 (v := ?_) rfl (by kernel_rfl) (by kernel_rfl) (by kernel_rfl) (fun _ _ _ h => h) ⟨by rfl, ?_⟩ (by assumption) ?_
        rotate_left
        · intro w hS; go_simp <;> with_reducible rfl
        simp only [Act.put, List.setIfInBounds_toArray, List.set_cons_zero, List.set_cons_succ]
        refine takeL 10 (v := ?_) rfl (by kernel_rfl) (by kernel_rfl) (by kernel_rfl) (fun _ _ _ h => h) ⟨by rfl, ?_⟩ (by assumption) ?_
        rotate_left
        · intro w hS; go_simp <;> with_reducible rfl
        simp only [Act.put, List.setIfInBounds_toArray, List.set_cons_zero, List.set_cons_succ]
        refine takeL 11 (v := ?_) rfl (by kernel_rfl) (by kernel_rfl) (by kernel_rfl) (fun _ _ _ h => h) ⟨by rfl, ?_⟩ (by assumption) ?_
        rotate_left
        · intro w hS; go_simp <;> with_reducible rfl
        simp only [Act.put, List.setIfInBounds_toArray, List.set_cons_zero, List.set_cons_succ]
        refine doneL (by kernel_rfl) ?_ _
        have hb5 := bd.trans (hHeld.mono bd.size)
        clear KP5 hW5 bd hm3
        go_wp2_with fail
        go_meet
        exact ⟨_, _, rfl, by have := HM2.out; omega, rfl, rfl, fun h => ⟨gr, cr, rfl, rfl⟩, hb5⟩
      · have hPe : P.length = n := by omega
        obtain rfl : cr = n := by omega
        have hm20 : m2 = 0 := by omega
        clear em2
        subst hm20
        clear hlc
        refine startL (S := (fun w' => Below (w5.drew).heap.size (w5.drew) w')) (by kernel_rfl) (Below.refl _ _) (fun hHeld => ?_)
        refine takeL 0 (v := ?_) rfl (by kernel_rfl) (by kernel_rfl) (by kernel_rfl) (fun _ _ _ h => h) ⟨by rfl, ?_⟩ (by assumption) ?_
        rotate_left
        · intro w hS; have f1 := (KP5.at hS) 0; have fw := hW5.blk.at hS; have f2 := fw 1; have f3 := fw 2; clear fw; go_simp <;> with_reducible rfl
        simp only [Act.put, List.setIfInBounds_toArray, List.set_cons_zero, List.set_cons_succ]
        refine takeL 1 (v := ?_) rfl (by kernel_rfl) (by kernel_rfl) (by kernel_rfl) (fun _ _ _ h => h) ⟨by rfl, ?_⟩ (by assumption) ?_
        rotate_left
        · intro w hS; go_simp <;> with_reducible rfl
        simp only [Act.put, List.setIfInBounds_toArray, List.set_cons_zero, List.set_cons_succ]
        refine takeL 2 (v := ?_) rfl (by kernel_rfl) (by kernel_rfl) (by kernel_rfl) (fun _ _ _ h => h) ⟨by rfl, ?_⟩ (by assumption) ?_
        rotate_left
        · intro w hS; go_simp <;> with_reducible rfl
        simp only [Act.put, List.setIfInBounds_toArray, List.set_cons_zero, List.set_cons_succ]
        refine takeL 3 (v := ?_) rfl (by kernel_rfl) (by kernel_rfl) (by kernel_rfl) (fun _ _ _ h => h) ⟨by rfl, ?_⟩ (by assumption) ?_
        rotate_left
        · intro w hS; have f1 := (KP5.at hS) 0; have fw := hW5.blk.at hS; have f2 := fw 1; have f3 := fw 2; clear fw; go_simp <;> with_reducible rfl
        simp only [Act.put, List.setIfInBounds_toArray, List.set_cons_zero, List.set_cons_succ]
        refine takeL 4 (v := ?_) rfl (by kernel_rfl) (by kernel_rfl) (by kernel_rfl) (fun _ _ _ h => h) ⟨by rfl, ?_⟩ (by assumption) ?_
        rotate_left
        · intro w hS; have f1 := (KP5.at hS) 0; have fw := hW5.blk.at hS; have f2 := fw 1; have f3 := fw 2; clear fw; go_simp <;> with_reducible rfl
        simp only [Act.put, List.setIfInBounds_toArray, List.set_cons_zero, List.set_cons_succ]
        refine takeL 5 (v := ?_) rfl (by kernel_rfl) (by kernel_rfl) (by kernel_rfl) (fun _ _ _ h => h) ⟨by rfl, ?_⟩ (by assumption) ?_
        rotate_left
        · intro w hS; go_simp <;> with_reducible rfl
        simp only [Act.put, List.setIfInBounds_toArray, List.set_cons_zero, List.set_cons_succ]
        refine takeL 6 (v := ?_) rfl (by kernel_rfl) (by kernel_rfl) (by kernel_rfl) (fun _ _ _ h => h) ⟨by rfl, ?_⟩ (by assumption) ?_
        rotate_left
        · intro w hS; go_simp <;> with_reducible rfl
        simp only [Act.put, List.setIfInBounds_toArray, List.set_cons_zero, List.set_cons_succ]
        refine takeL 7 (v := ?_) rfl (by kernel_rfl) (by kernel_rfl) (by kernel_rfl) (fun _ _ _ h => h) ⟨by rfl, ?_⟩ (by assumption) ?_
        rotate_left
        · intro w hS; have f1 := (KP5.at hS) 0; have fw := hW5.blk.at hS; have f2 := fw 1; have f3 := fw 2; clear fw; go_simp <;> with_reducible rfl
        simp only [Act.put, List.setIfInBounds_toArray, List.set_cons_zero, List.set_cons_succ]
        refine takeL 8 (v := ?_) rfl (by kernel_rfl) (by kernel_rfl) (by kernel_rfl) (fun _ _ _ h => h) ⟨by rfl, ?_⟩ (by assumption) ?_
        rotate_left
        · intro w hS; go_simp <;> with_reducible rfl
        simp only [Act.put, List.setIfInBounds_toArray, List.set_cons_zero, List.set_cons_succ]
        refine takeL 9 (v := ?_) rfl (by kernel_rfl) (by kernel_rfl) (by kernel_rfl) (fun _ _ _ h => h) ⟨by rfl, ?_⟩ (by assumption) ?_
        rotate_left
        · intro w hS; go_simp <;> with_reducible rfl
        simp only [Act.put, List.setIfInBounds_toArray, List.set_cons_zero, List.set_cons_succ]
        refine takeL 10 (v := ?_) rfl (by kernel_rfl) (by kernel_rfl) (by kernel_rfl) (fun _ _ _ h => h) ⟨by rfl, ?_⟩ (by assumption) ?_
        rotate_left
        · intro w hS; go_simp <;> with_reducible rfl
        simp only [Act.put, List.setIfInBounds_toArray, List.set_cons_zero, List.set_cons_succ]
        refine takeL 11 (v := ?_) rfl (by kernel_rfl) (by kernel_rfl) (by kernel_rfl) (fun _ _ _ h => h) ⟨by rfl, ?_⟩ (by assumption) ?_
        rotate_left
        · intro w hS; go_simp <;> with_reducible rfl
        simp only [Act.put, List.setIfInBounds_toArray, List.set_cons_zero, List.set_cons_succ]
        refine doneL (by kernel_rfl) ?_ _
        have hb5 := bd.trans (hHeld.mono bd.size)
        clear KP5 hW5 bd
        go_wp2_with fail
        go_meet
        exact ⟨_, _, rfl, Nat.le_refl _, rfl, rfl, fun h => absurd h (by omega), hb5⟩
  case rest =>
    clear em2
    obtain ⟨ao, c, rfl, hmc, rfl, rfl, hao, bx⟩ := hcut
    replace hW := hW.next bx; replace KF := KF.next bx; replace KA := KA.next bx; replace KB := KB.next bx; replace KR := KR.next bx; replace KP := KP.next bx
    replace B0 := B0.trans (bx.mono B0.size)
    clear bx
    have q1 := KA.cell 1
    obtain ⟨N, eN⟩ : ∃ N, N = C + D := ⟨_, rfl⟩
    have hCN : C < N := by omega
    have hND : N - C = D := by omega
    have HN := Lib.hid eN; clear eN
    have HAO := Lib.hid hao; clear hao
    have HKW := Lib.hid hW; clear hW
    go_wp2
    go_loop [42] (fun kv => ∃ k : Nat, k ≤ m2 ∧ kv = .int .i64 k ∧ ∀ l j, l < k → j < D → W (P.length + l) (C + j) = 0) (fun kv => m2 - (intOf kv).toNat)
    case atStart => exact ⟨0, by omega, rfl, fun l j h => by omega⟩
    case round =>
      obtain ⟨k, hk, rfl, hz⟩ := hrel
      have HZ := Lib.hid hz; clear hz
      by_cases hkm : k < m2
      · obtain ⟨gr, cr, rfl, rfl⟩ := HAO.out (by omega)
        have hrn : P.length + k < n := by have := HM2.out; omega
        obtain ⟨g', cg, b, o, cap, e1, hcg, hlg, qh, hcap, hlb, qr⟩ := HKW.out.rows.atR hrn (by omega)
        simp only [Value.slice.injEq] at e1
        obtain ⟨e2, -, -⟩ := e1
        simp only [Option.some.injEq, Addr.mk.injEq] at e2
        obtain ⟨rfl, -⟩ := e2
        have hvs : VsF wc (.slice (some ⟨b, o + C, none⟩) D (cap - C)) D (fun j => .int .u64 ((W (P.length + k) (C + j)).val : Nat)) :=
          ⟨_, b, o + C, cap - C, rfl, by omega, fun _ => ⟨rfl, hlb⟩, fun j hj => by rw [Nat.add_assoc]; exact qr (C + j) (by omega)⟩
        rw [← HN.out] at qh hcap
        clear qr hcg hlg
        have HVS := Lib.hid hvs; clear hvs
        obtain ⟨R, hR⟩ := IxR.ex (fun j => decide ((W (P.length + k) (C + j)).val ≠ 0)) D
        go_wp2_with fail
        have hcont := cont_u64 153 (enters_of Try.func153 rfl rfl) _ D _ _ HVS.out (by omega) _ (fun j hj => solve1 _ _ _ rfl) R hR _ rfl
        rcases hR with ⟨j, rfl, hj, h1, _⟩ | ⟨rfl, hall⟩
        · rw [decide_eq_true (by omega)] at hcont
          refine hcont.mono ?_; rintro e w' ⟨rfl, rfl⟩
          clear hcont
          have hno := Lib.hid (fun X => solv_no (q := D) (r := P.length + k) (k := j) HR.out (by omega) hrn hj (fun h => of_decide_eq_true h1 (by rw [h, Zp.zero_val])) X)
          clear h1 q1 qh
          have hgb : w.heap.size ≤ g + 1 + 1 + 1 := by omega
          have f0 := KR.free 0; have f1 := KR.free 1; have f2 := KR.free 2
          have c0 := KR.cell 0; have c1 := KR.cell 1; have c2 := KR.cell 2
          have KF2 := ((KR.set 0 (.int .i64 0)).set 1 (.int .i64 0)).set 2 (.slice none 0 0)
          have d0 := KF2.cell 0; have d1 := KF2.cell 1; have d2 := KF2.cell 2
          have FR := Lib.hid (show RetSol p w n C D A B (.returned (.tuple #[.agg #[.int .i64 0, .int .i64 0, .slice none 0 0], .int .i64 10])) (((wc.setCell ⟨g + 1 + 1 + 1, 0, none⟩ (.int .i64 0)).setCell ⟨g + 1 + 1 + 1, 1, none⟩ (.int .i64 0)).setCell ⟨g + 1 + 1 + 1, 2, none⟩ (.slice none 0 0)) from
            .inr ⟨hno.out, rfl, ((B0.setCell (p := ⟨g + 1 + 1 + 1, 0, none⟩) hgb _).setCell (p := ⟨g + 1 + 1 + 1, 1, none⟩) hgb _).setCell (p := ⟨g + 1 + 1 + 1, 2, none⟩) hgb _⟩)
          clear KF2 KR B0 KF KA KB KP
          go_wp2
          exact bodyPost_ret (v := .tuple #[.agg #[.int .i64 0, .int .i64 0, .slice none 0 0], .int .i64 10]) (by simp [results, Try.results141, go_sem, d0, d1, d2]) rfl FR.out
        · rw [decide_eq_false (by omega)] at hcont
          refine hcont.mono ?_; rintro e w' ⟨rfl, rfl⟩
          clear hcont
          have HZ2 := Lib.hid (show ∀ l j, l < k + 1 → j < D → W (P.length + l) (C + j) = 0 from fun l j hl hj => by
            by_cases e : l = k
            · have := hall j hj
              rw [e]
              refine zp0 ?_
              simpa using this
            · exact HZ.out l j (by omega) hj)
          clear hall qh
          go_wp2
          go_round
          case rel => exact ⟨k + 1, by omega, by go_num, HZ2.out⟩
          case measure => simp [intOf] <;> omega
      · obtain rfl : k = m2 := by omega
        have hsol := Lib.hid (solv_ok (q := D) (A := A) (B := B) HR.out (fun r k' h1 h2 h3 => by
          have := HZ.out (r - P.length) k' (by have := HM2.out; omega) h3
          rwa [show P.length + (r - P.length) = r by omega] at this))
        have q3 := KB.cell 1; have q4 := KF.cell 0
        go_wp2_with fail
        refine (fm_made p C D HP.out (by omega) (by omega) 154 (enters_of Try.func154 rfl rfl) [.pointer (some ⟨gP, 0, none⟩), .pointer (some ⟨g + 1, 0, none⟩)] (fun i k => (solv C W P i k).val) _ (fun i k w' hi hk hb =>
          solve2 p n C D i k _ gP gW (g + 1) rv _ vs _ W P d w' HR.out.incr hPn hn hC hD hi hk (KP.next hb) (HKW.out.next hb) (KA.next hb) rfl)).mono ?_; rintro e w7 ⟨a7, k7, rfl, o7, b7⟩
        clear q1 q3 q4
        obtain ⟨M, eM⟩ : ∃ M, M = MT.of C D fun i k => Zp.of p (solv C W P i k).val := ⟨_, rfl⟩
        rw [← eM] at o7 ⊢
        have hM : A * M = B := by
          have h : M = MT.of C D (solv C W P) := by rw [eM]; exact MT.ext fun i k hi hk => by rw [MT.of_e _ hi hk, MT.of_e _ hi hk, Zp.of_val]
          rw [h]; exact hsol.out
        have HMM := Lib.hid hM; clear hM eM
        have hgb := KR.lt
        replace KR := KR.next b7
        have hgy : w.heap.size ≤ g + 1 + 1 + 1 := by omega
        replace B0 := B0.trans (b7.mono B0.size)
        have hw7 : w.heap.size ≤ wc.heap.size := by omega
        clear b7 KF KA KB KP
        have f0 := KR.free 0; have f1 := KR.free 1; have f2 := KR.free 2
        have c0 := KR.cell 0; have c1 := KR.cell 1; have c2 := KR.cell 2
        have KF2 := ((KR.set 0 (.int .i64 C)).set 1 (.int .i64 D)).set 2 (.slice a7 (tbv M).length k7)
        have d0 := KF2.cell 0; have d1 := KF2.cell 1; have d2 := KF2.cell 2
        have of := ((o7.low (a := ⟨g + 1 + 1 + 1, 0, none⟩) hgb (.int .i64 C)).low (a := ⟨g + 1 + 1 + 1, 1, none⟩) hgb (.int .i64 D)).low (a := ⟨g + 1 + 1 + 1, 2, none⟩) hgb (.slice a7 (tbv M).length k7)
        have BF := ((B0.setCell (p := ⟨g + 1 + 1 + 1, 0, none⟩) hgy (.int .i64 C)).setCell (p := ⟨g + 1 + 1 + 1, 1, none⟩) hgy (.int .i64 D)).setCell (p := ⟨g + 1 + 1 + 1, 2, none⟩) hgy (.slice a7 (tbv M).length k7)
        have FR := Lib.hid (show RetSol p w n C D A B (.returned (.tuple #[.agg #[.int .i64 C, .int .i64 D, .slice a7 (tbv M).length k7], .int .i64 0])) (((w7.setCell ⟨g + 1 + 1 + 1, 0, none⟩ (.int .i64 C)).setCell ⟨g + 1 + 1 + 1, 1, none⟩ (.int .i64 D)).setCell ⟨g + 1 + 1 + 1, 2, none⟩ (.slice a7 (tbv M).length k7)) from .inl ⟨M, HMM.out, _, _, rfl, of.mono hw7, BF⟩)
        clear KF2 KR of BF B0 o7 hgb
        go_wp2
        exact bodyPost_ret (v := .tuple #[.agg #[.int .i64 C, .int .i64 D, .slice a7 (tbv M).length k7], .int .i64 0]) (by simp [results, Try.results141, go_sem, d0, d1, d2]) rfl FR.out

end Go.Proofs.Ythghdjpjbngllaa
