/- hess: Eval. -/
import Derived.Test.YthghdjpjbngllaaHz
namespace Go.Proofs.Ythghdjpjbngllaa
open Go.RowKit


theorem rowOwn_ne' {w : World} {base : Nat} {e e' : TypeId} {size n b : Nat} {v : Value} {xs vals : List Value} (h : w.ownsRow base e size v n xs) (hb : Blk e' w b vals) (he : e ≠ e') : v.ownBlock ≠ some b := rowOwn_ne h hb he
theorem pev_cons {p n : Nat} (x : Nat) (xs : List Nat) (A : MT (Zp p) n n) : pev (pl p (x :: xs)) A = pev (pl p xs) A * A + (MT.one n).sc (Zp.of p x) := by
  rw [plc, CR.mul_comm, pev_add, pev_mul, pev_mon, pev_mon, MT.one_sc, show A.pow 1 = A from MT.one_mul A, show A.pow 0 = MT.one n from rfl]
  exact MT.ext fun i k hi hk => by rw [MT.e_add, MT.e_add, CR.add_comm]
theorem pev_drop {p n i : Nat} {gs : List Nat} (hi : i < gs.length) (A : MT (Zp p) n n) : pev (pl p (gs.drop i)) A = pev (pl p (gs.drop (i + 1))) A * A + (MT.one n).sc (Zp.of p (gs.getD i 0)) := by
  rw [List.drop_eq_getElem_cons hi, pev_cons]
  simp only [List.getD, List.getElem?_eq_getElem hi, Option.getD_some]

set_option maxRecDepth 20000 in
theorem hs_Eval_no (p : Nat) (v a : Value) (R C : Int) (xs : List Nat) (w : World) (hA : Fm w a R C xs) (hno : ¬ (Fd R C xs.length ∧ R = C)) :
    Calls Try.prog 52 #[.agg #[.int .u64 p], v, a] w (RetFX w 2) := by
  obtain ⟨aA, cA, rfl⟩ := hA.agg
  obtain ⟨wb, ew, KF, KA, KR, B0, hsz⟩ := boxes3 w 29 42 42 [.int .u64 p] [.int .i64 R, .int .i64 C, .slice aA xs.length cA] [.int .i64 0, .int .i64 0, .slice none 0 0]
  clear hsz
  replace hA := hA.next B0
  go_enter Try.func52, Try.ntmps52
  go_upto_region 1 with (fail)
  rw [← ew]
  obtain ⟨g, eg⟩ : ∃ g, g = w.heap.size + 1 + 1 := ⟨_, rfl⟩
  rw [← eg] at KR ⊢
  have hgw : w.heap.size ≤ g := by omega
  clear ew eg
  have f1 := KA.cell 0; have f2 := KA.cell 1; have f3 := KA.cell 2
  go_wp2_with fail
  refine (hs_square_no _ R C xs _ hA hno).mono ?_; rintro e w2 ⟨rfl, b2⟩
  replace B0 := B0.trans (b2.mono B0.size)
  replace KR := KR.next b2
  clear f1 f2 f3 KF KA hA b2
  have f0 := KR.free 0; have f1 := KR.free 1; have f2 := KR.free 2
  have c0 := KR.cell 0; have c1 := KR.cell 1; have c2 := KR.cell 2
  have KF := ((KR.set 0 (.int .i64 0)).set 1 (.int .i64 0)).set 2 (.slice none 0 0)
  have d0 := KF.cell 0; have d1 := KF.cell 1; have d2 := KF.cell 2
  have FR := Lib.hid (show RetFX w 2 (.returned (.tuple #[.agg #[.int .i64 0, .int .i64 0, .slice none 0 0], .int .i64 2])) (((w2.setCell ⟨g, 0, none⟩ (.int .i64 0)).setCell ⟨g, 1, none⟩ (.int .i64 0)).setCell ⟨g, 2, none⟩ (.slice none 0 0)) from ⟨rfl, ((B0.setCell (p := ⟨g, 0, none⟩) hgw _).setCell (p := ⟨g, 1, none⟩) hgw _).setCell (p := ⟨g, 2, none⟩) hgw _⟩)
  clear KF KR B0
  go_wp2
  exact bodyPost_ret (v := .tuple #[.agg #[.int .i64 0, .int .i64 0, .slice none 0 0], .int .i64 2]) (by simp [results, Try.results52, go_sem, d0, d1, d2]) rfl FR.out

theorem Own.off {w : World} {base : Nat} {v : Value} {xs : List Nat} (h : Own .u64 27 w base v xs) {g : Nat} {vals : List Value} (hb : Blk 42 w g vals) (i : Nat) (u : Value) : Own .u64 27 (w.setCell ⟨g, i, none⟩ u) base v xs :=
  ownsRow_setCell_other h (rowOwn_ne' h hb (by decide)) u
/-- Where Horner's loop stands. -/
def HoR (p : Nat) (w w4 wr : World) (gO n : Nat) (M : MT (Zp p) n n) : Prop := ∃ ao k, Blk 42 wr gO [.int .i64 n, .int .i64 n, .slice ao (tbv M).length k] ∧ Own .u64 27 wr w.heap.size (.slice ao (tbv M).length k) (tbv M) ∧ Below gO w4 wr

set_option maxRecDepth 20000 in
set_option maxHeartbeats 4000000 in
theorem hs_Eval (p : Nat) (v a : Value) (n : Nat) (gs xs : List Nat) (w : World) (hp : FP p) (hv : Sl .u64 w v gs) (hA : Fm w a n n xs) (hn : n ≤ 64) (hx : xs.length = n * n) (hg : gs.length ≤ 1000) :
    Calls Try.prog 52 #[.agg #[.int .u64 p], v, a] w (RetFE p w n n (pev (pl p gs) (mx p n n xs))) := by
  obtain ⟨aA, cA, rfl⟩ := hA.agg
  obtain ⟨av, bv, ov, cv, rfl, hcv, hz⟩ := hv
  obtain ⟨wb, ew, KF, KA, KR, B0, hsz⟩ := boxes3 w 29 42 42 [.int .u64 p] [.int .i64 n, .int .i64 n, .slice aA xs.length cA] [.int .i64 0, .int .i64 0, .slice none 0 0]
  clear hsz
  have HP := Lib.hid hp; clear hp
  replace hA := hA.next B0
  replace hz := hz.below B0 (Nat.le_refl _)
  have HX := Lib.hid hx; clear hx
  obtain ⟨A, eA⟩ : ∃ A, A = mx p n n xs := ⟨_, rfl⟩
  rw [← eA]
  have EA := Lib.hid eA; clear eA
  go_enter Try.func52, Try.ntmps52
  go_upto_region 1 with (fail)
  rw [← ew]
  obtain ⟨g, eg⟩ : ∃ g, g = w.heap.size + 1 + 1 := ⟨_, rfl⟩
  rw [← eg] at KR ⊢
  have hgw : w.heap.size ≤ g := by omega
  clear ew eg
  obtain ⟨gF, egF⟩ : ∃ gF, gF = w.heap.size := ⟨_, rfl⟩
  rw [← egF] at KF KA ⊢
  clear egF
  have f1 := KA.cell 0; have f2 := KA.cell 1; have f3 := KA.cell 2
  go_wp2_with fail
  refine (hs_square_yes _ n xs _ hA hn HX.out).mono ?_; rintro e w2 ⟨rfl, b2⟩
  clear f1 f2 f3
  replace B0 := B0.trans (b2.mono B0.size)
  replace KR := KR.next b2; replace KF := KF.next b2; replace KA := KA.next b2; replace hA := hA.next b2; replace hz := hz.below b2 (Nat.le_refl _)
  clear b2
  have f0 := KF.cell 0; have f1 := KA.cell 0
  go_wp2_with fail
  refine (fm_Identity p n _ HP.out hn).mono ?_; rintro e w3 ⟨aI, kI, rfl, oI, b3⟩
  clear f0 f1
  obtain ⟨I, eI⟩ : ∃ I, I = (MT.one n : MT (Zp p) n n) := ⟨_, rfl⟩
  rw [← eI] at oI ⊢
  have EI := Lib.hid eI; clear eI
  obtain ⟨w4, ew4, KI, b4, -⟩ := boxes1 w3 42 [.int .i64 n, .int .i64 n, .slice aI (tbv I).length kI]
  have b34 := b3.trans (b4.mono b3.size)
  replace B0 := B0.trans (b34.mono B0.size)
  replace KR := KR.next b34; replace KF := KF.next b34; replace KA := KA.next b34; replace hA := hA.next b34; replace hz := hz.below b34 (Nat.le_refl _)
  have hI : Fm w4 (.agg #[.int .i64 n, .int .i64 n, .slice aI (tbv I).length kI]) n n (tbv I) := ⟨_, rfl, (oI.next b4).sl⟩
  go_upto_region 4 with (fail)
  rw [← ew4]
  obtain ⟨gI, egI⟩ : ∃ gI, gI = w3.heap.size := ⟨_, rfl⟩
  rw [← egI] at KI ⊢
  clear ew4 egI oI b3 b4 b34
  have lI := Lib.hid (tbv_length I)
  have f0 := KF.cell 0; have f1 := KI.cell 0; have f2 := KI.cell 1; have f3 := KI.cell 2
  go_wp2_with fail
  refine (fm_Scale p 0 _ n n (tbv I) _ HP.out hI hn hn lI.out).mono ?_; rintro e w5 ⟨aZ, kZ, rfl, oZ, b5⟩
  clear f0 f1 f2 f3
  obtain ⟨M, eM⟩ : ∃ M, M = (mx p n n (tbv I)).sc (Zp.of p 0) := ⟨_, rfl⟩
  rw [← eM] at oZ ⊢
  have hM : M = pev (pl p (gs.drop gs.length)) A := by
    rw [List.drop_length, pl_nil, pev_zero, eM, Zp.of_zero]
    exact MT.ext fun i k hi hk => by rw [MT.e_sc, CR.zero_mul]; rfl
  have HM := Lib.hid hM; clear hM eM
  have hw4 := Lib.hid B0.size
  replace B0 := B0.trans (b5.mono B0.size)
  replace KR := KR.next b5; replace KF := KF.next b5; replace KA := KA.next b5; replace hA := hA.next b5; replace hz := hz.below b5 (Nat.le_refl _); replace KI := KI.next b5; replace hI := hI.next b5
  have hgl : IntKind.i64.wrap (((gs.length : Nat) : Int) - 1) = ((gs.length : Nat) : Int) - 1 := IntWalk.i64_in _ ⟨by omega, by omega⟩
  obtain ⟨w6, ew6, KO, b6, -⟩ := boxes1 w5 42 [.int .i64 n, .int .i64 n, .slice aZ (tbv M).length kZ]
  go_upto_region 5 with (fail)
  rw [← ew6]
  obtain ⟨gO, egO⟩ : ∃ gO, gO = w5.heap.size := ⟨_, rfl⟩
  rw [← egO] at KO b6 ⊢
  have HGO := Lib.hid egO
  have hS5 := Lib.hid B0.size
  have st : HoR p w w5 w6 gO n (pev (pl p (gs.drop gs.length)) A) := by
    rw [← HM.out]
    exact ⟨_, _, KO, (oZ.mono hw4.out).below b6 (by rw [egO]; exact Nat.le_refl _), b6⟩
  clear ew6 egO KO oZ b5 b6
  have HB0 := Lib.hid B0; have HKR := Lib.hid KR; have HKF := Lib.hid KF; have HKA := Lib.hid KA; have HA := Lib.hid hA; have HZ := Lib.hid hz; have HKI := Lib.hid KI; have HII := Lib.hid hI
  have hgg : g < gO := by rw [HGO.out]; exact KR.lt
  clear B0 KR KF KA hA hz KI hI HM
  go_wp2
  clear hgl
  go_loopw [12] (fun iv wr => ∃ i : Nat, i ≤ gs.length ∧ iv = .int .i64 ((i : Int) - 1) ∧ HoR p w w5 wr gO n (pev (pl p (gs.drop i)) A)) (fun iv _ => (intOf iv + 1).toNat)
  case atStart => exact ⟨gs.length, Nat.le_refl _, rfl, st⟩
  case round =>
    clear st
    obtain ⟨i, hi, rfl, ao, k, KO, oM, B1⟩ := hrel
    have B1' : Below w5.heap.size w5 wr := by rw [← HGO.out]; exact B1
    have B2 := HB0.out.trans (B1'.mono hS5.out)
    cases i with
    | zero =>
      rw [show (((0 : Nat) : Int) - 1) = -1 by omega]
      rw [List.drop_zero] at KO oM
      obtain ⟨M, eM⟩ : ∃ M, M = pev (pl p gs) A := ⟨_, rfl⟩
      rw [← eM] at KO oM
      have EM := Lib.hid eM; clear eM
      have KR := HKR.out.next B1'
      have k0 := KO.cell 0; have k1 := KO.cell 1; have k2 := KO.cell 2
      have f0 := KR.free 0; have f1 := KR.free 1; have f2 := KR.free 2
      have c0 := KR.cell 0; have c1 := KR.cell 1; have c2 := KR.cell 2
      have KF := ((KR.set 0 (.int .i64 n)).set 1 (.int .i64 n)).set 2 (.slice ao (tbv M).length k)
      have d0 := KF.cell 0; have d1 := KF.cell 1; have d2 := KF.cell 2
      have hne : ∀ b : Nat, g = b → g ≤ b := fun b h => by omega
      have BF := ((B2.setCell (p := ⟨g, 0, none⟩) hgw (.int .i64 n)).setCell (p := ⟨g, 1, none⟩) hgw (.int .i64 n)).setCell (p := ⟨g, 2, none⟩) hgw (.slice ao (tbv M).length k)
      have of := ((oM.off KR 0 (.int .i64 n)).off (KR.set 0 _) 1 (.int .i64 n)).off ((KR.set 0 _).set 1 _) 2 (.slice ao (tbv M).length k)
      have FR := Lib.hid (show RetFE p w n n (pev (pl p gs) A) (.returned (.tuple #[.agg #[.int .i64 n, .int .i64 n, .slice ao (tbv M).length k], .int .i64 0])) (((wr.setCell ⟨g, 0, none⟩ (.int .i64 n)).setCell ⟨g, 1, none⟩ (.int .i64 n)).setCell ⟨g, 2, none⟩ (.slice ao (tbv M).length k)) from
        by rw [← EM.out]; exact ⟨_, _, rfl, of, BF⟩)
      clear KF KR of BF B1 B1' B2 oM KO
      go_wp2
      exact bodyPost_ret (v := .tuple #[.agg #[.int .i64 n, .int .i64 n, .slice ao (tbv M).length k], .int .i64 0]) (by simp [results, Try.results52, go_sem, d0, d1, d2]) rfl FR.out
    | succ j =>
      rw [show (((j + 1 : Nat) : Int) - 1) = (j : Int) by omega]
      obtain ⟨M, eM⟩ : ∃ M, M = pev (pl p (gs.drop (j + 1))) A := ⟨_, rfl⟩
      rw [← eM] at KO oM
      have hjl : j < gs.length := by omega
      have hst : M * A + (MT.one n).sc (Zp.of p (gs.getD j 0)) = pev (pl p (gs.drop j)) A := by rw [eM]; exact (pev_drop hjl A).symm
      have HST := Lib.hid hst; clear hst eM
      have hMf : Fm wr (.agg #[.int .i64 n, .int .i64 n, .slice ao (tbv M).length k]) n n (tbv M) := ⟨_, rfl, oM.sl⟩
      have lM := Lib.hid (tbv_length M)
      have hj0 : (j : Int) ≥ 0 := by omega
      have f0 := (HKF.out.next B1').cell 0; have f1 := KO.cell 0; have f2 := KO.cell 1; have f3 := KO.cell 2
      have h0 := (HKA.out.next B1').cell 0; have h1 := (HKA.out.next B1').cell 1; have h2 := (HKA.out.next B1').cell 2
      go_wp2_with fail
      refine (fm_Mul p _ _ n n n (tbv M) xs _ HP.out hMf (HA.out.next B1') hn hn hn lM.out HX.out).mono ?_; rintro e w7 ⟨a7, k7, rfl, o7, b7⟩
      clear f0 f1 f2 f3 h0 h1 h2
      rw [mx_tbv, ← EA.out] at o7 ⊢
      obtain ⟨Q7, eQ7⟩ : ∃ Q, Q = M * A := ⟨_, rfl⟩
      rw [← eQ7] at o7 ⊢
      have EQ7 := Lib.hid eQ7; clear eQ7
      obtain ⟨w8, ew8, K8, b8, -⟩ := boxes1 w7 42 [.int .i64 n, .int .i64 n, .slice a7 (tbv Q7).length k7]
      go_upto_region 9 with (fail)
      rw [← ew8]
      obtain ⟨g8, eg8⟩ : ∃ g, g = w7.heap.size := ⟨_, rfl⟩
      rw [← eg8] at K8 ⊢
      clear ew8 eg8
      have b78 := b7.trans (b8.mono b7.size)
      have m7 : Fm w8 (.agg #[.int .i64 n, .int .i64 n, .slice a7 (tbv Q7).length k7]) n n (tbv Q7) := ⟨_, rfl, (o7.next b8).sl⟩
      replace KO := KO.next b78; replace oM := oM.next b78
      have hO7 := B1.size
      have hsO : gO ≤ wr.heap.size := by rw [HGO.out]; exact B1'.size
      replace B1 := B1.trans (b78.mono hsO); replace B1' := B1'.trans (b78.mono B1'.size); replace B2 := B2.trans (b78.mono B2.size)
      clear o7 b7 b8 b78 hO7 hsO hMf
      have bd := Drawn.below (w' := w8.drew) ⟨1, rfl⟩ w8.heap.size
      have hsO : gO ≤ w8.heap.size := by rw [HGO.out]; exact B1'.size
      replace KO := KO.next bd; replace oM := oM.next bd; replace m7 := m7.next bd; replace K8 := K8.next bd
      replace B1 := B1.trans (bd.mono hsO); replace B1' := B1'.trans (bd.mono B1'.size); replace B2 := B2.trans (bd.mono B2.size)
      clear bd hsO
      have hzr := HZ.out.below B1' (Nat.le_refl _)
      have KF := HKF.out.next B1'; have KI := HKI.out.next B1'; have hI := HII.out.next B1'
      obtain rfl := hzr.ao (by intro h; subst h; simp at hjl)
      have qx := hzr.cell _ hjl
      have lx : bv < w8.drew.heap.size := hzr.lt (by intro h; subst h; simp at hjl)
      obtain ⟨x, ex⟩ : ∃ x, x = gs.getD j 0 := ⟨_, rfl⟩
      rw [← ex] at qx HST
      clear ex hzr
      refine startL (S := (fun w' => Below (w8.drew).heap.size (w8.drew) w')) (by kernel_rfl) (Below.refl _ _) (fun hHeld => ?_)
      refine takeL 0 (v := ?_) rfl (by kernel_rfl) (by kernel_rfl) (by kernel_rfl) (fun _ _ _ h => h) ⟨by rfl, ?_⟩ (by assumption) ?_
      rotate_left
      · intro w hS; have f1 := (KF.at hS) 0; have fb := KI.at hS; have f4 := fb 0; have f5 := fb 1; have f6 := fb 2; clear fb; have f7 := (hS.cell (p := ⟨bv, ov + j, none⟩) lx).trans qx; go_simp <;> with_reducible rfl
      simp only [Act.put, List.setIfInBounds_toArray, List.set_cons_zero, List.set_cons_succ]
      refine takeL 1 (v := ?_) rfl (by kernel_rfl) (by kernel_rfl) (by kernel_rfl) (fun _ _ _ h => h) ⟨by rfl, ?_⟩ (by assumption) ?_
      rotate_left
      · intro w hS; have f1 := (KF.at hS) 0; have fb := KI.at hS; have f4 := fb 0; have f5 := fb 1; have f6 := fb 2; clear fb; have f7 := (hS.cell (p := ⟨bv, ov + j, none⟩) lx).trans qx; go_simp <;> with_reducible rfl
      simp only [Act.put, List.setIfInBounds_toArray, List.set_cons_zero, List.set_cons_succ]
      refine takeL 2 (v := ?_) rfl (by kernel_rfl) (by kernel_rfl) (by kernel_rfl) (fun _ _ _ h => h) ⟨by rfl, ?_⟩ (by assumption) ?_
      rotate_left
      · intro w hS; go_simp <;> with_reducible rfl
      simp only [Act.put, List.setIfInBounds_toArray, List.set_cons_zero, List.set_cons_succ]
      refine takeL 3 (v := ?_) rfl (by kernel_rfl) (by kernel_rfl) (by kernel_rfl) (fun _ _ _ h => h) ⟨by rfl, ?_⟩ (by assumption) ?_
      rotate_left
      · intro w hS; go_simp <;> with_reducible rfl
      simp only [Act.put, List.setIfInBounds_toArray, List.set_cons_zero, List.set_cons_succ]
      refine takeL 4 (v := ?_) rfl (by kernel_rfl) (by kernel_rfl) (by kernel_rfl) (fun _ _ _ h => h) ⟨by rfl, ?_⟩ (by assumption) ?_
      rotate_left
      · intro w hS; go_simp <;> with_reducible rfl
      simp only [Act.put, List.setIfInBounds_toArray, List.set_cons_zero, List.set_cons_succ]
      refine takeL 5 (v := ?_) rfl (by kernel_rfl) (by kernel_rfl) (by kernel_rfl) (fun _ _ _ h => h) ⟨by rfl, ?_⟩ (by assumption) ?_
      rotate_left
      · intro w hS; have f1 := (KF.at hS) 0; have fb := KI.at hS; have f4 := fb 0; have f5 := fb 1; have f6 := fb 2; clear fb; have f7 := (hS.cell (p := ⟨bv, ov + j, none⟩) lx).trans qx; go_simp <;> with_reducible rfl
      simp only [Act.put, List.setIfInBounds_toArray, List.set_cons_zero, List.set_cons_succ]
      refine twoL 6 10 rfl rfl (by kernel_rfl) (by rfl) (by rfl) (fun K hK => ?_) (fun K hK => ?_)
      · go_simp
        go_at_call 110
        (with_reducible refine (fm_Scale p x _ n n (tbv I) _ HP.out (hI.next hHeld) hn hn lI.out).mono ?_); rintro e w9 ⟨a9, k9, rfl, o9, b9⟩; rw [mx_tbv] at o9 ⊢; obtain ⟨Q9, eQ9⟩ : ∃ Q, Q = I.sc (Zp.of p x) := ⟨_, rfl⟩; rw [← eQ9] at o9 ⊢; have EQ9 := Lib.hid eQ9; clear eQ9
        refine hK.out _ _ (hHeld.trans (b9.mono hHeld.size)) (fun hHeld => ?_)
        clear hK K
        try simp only [Act.put, List.setIfInBounds_toArray, List.set_cons_zero, List.set_cons_succ]
        refine takeL 7 (v := ?_) rfl (by kernel_rfl) (by kernel_rfl) (by kernel_rfl) (fun _ _ _ h => h) ⟨by rfl, ?_⟩ (by assumption) ?_
        rotate_left
        · intro w hS; go_simp <;> with_reducible rfl
        simp only [Act.put, List.setIfInBounds_toArray, List.set_cons_zero, List.set_cons_succ]
        refine takeL 8 (v := ?_) rfl (by kernel_rfl) (by kernel_rfl) (by kernel_rfl) (fun _ _ _ h => h) ⟨by rfl, ?_⟩ (by assumption) ?_
        rotate_left
        · intro w hS; go_simp <;> with_reducible rfl
        simp only [Act.put, List.setIfInBounds_toArray, List.set_cons_zero, List.set_cons_succ]
        refine takeL 9 (v := ?_) rfl (by kernel_rfl) (by kernel_rfl) (by kernel_rfl) (fun _ _ _ h => h) ⟨by rfl, ?_⟩ (by assumption) ?_
        rotate_left
        · intro w hS; go_simp <;> with_reducible rfl
        simp only [Act.put, List.setIfInBounds_toArray, List.set_cons_zero, List.set_cons_succ]
        refine oneL 10 rfl (by kernel_rfl) (by rfl) (fun K hK => ?_)
        go_simp
        have hd9 := hHeld
        have KZ := Blk.lit w9 42 [.int .i64 0, .int .i64 0, .slice none 0 0]
        refine hK.out _ _ (hHeld.alloc hHeld.size _) (fun hHeld => ?_)
        clear hK K
        try simp only [Act.put, List.setIfInBounds_toArray, List.set_cons_zero, List.set_cons_succ]
        refine oneL 11 rfl (by kernel_rfl) (by rfl) (fun K hK => ?_)
        have y0 := KZ.cell 0; have y1 := KZ.cell 1; have y2 := KZ.cell 2; have z0 := KZ.free 0; have z1 := KZ.free 1; have z2 := KZ.free 2
        go_simp
        refine hK.out _ _ (hd9.alloc hd9.size _) (fun hHeld => ?_)
        clear hK K
        try simp only [Act.put, List.setIfInBounds_toArray, List.set_cons_zero, List.set_cons_succ]
        refine takeL 12 (v := ?_) rfl (by kernel_rfl) (by kernel_rfl) (by kernel_rfl) (fun _ _ _ h => h) ⟨by rfl, ?_⟩ (by assumption) ?_
        rotate_left
        · intro w hS; go_simp <;> with_reducible rfl
        simp only [Act.put, List.setIfInBounds_toArray, List.set_cons_zero, List.set_cons_succ]
        refine doneL (by kernel_rfl) ?_ _
        obtain ⟨w10, ew10, K15, b15, -⟩ := boxes1 w9 42 [.int .i64 n, .int .i64 n, .slice a9 (tbv Q9).length k9]
        rw [← ew10] at hHeld ⊢
        have m9 : Fm w10 (.agg #[.int .i64 n, .int .i64 n, .slice a9 (tbv Q9).length k9]) n n (tbv Q9) := ⟨_, rfl, (o9.next b15).sl⟩
        obtain ⟨g15, eg15⟩ : ∃ g, g = w9.heap.size := ⟨_, rfl⟩
        rw [← eg15] at K15 ⊢
        clear ew10 eg15 b15 o9 b9 KZ hd9 y0 y1 y2 z0 z1 z2
        have hsO : gO ≤ w8.drew.heap.size := by rw [HGO.out]; exact B1'.size
        replace KO := KO.next hHeld; replace oM := oM.next hHeld; replace m7 := m7.next hHeld; replace K8 := K8.next hHeld
        replace B1 := B1.trans (hHeld.mono hsO); replace B1' := B1'.trans (hHeld.mono B1'.size); replace B2 := B2.trans (hHeld.mono B2.size)
        clear hHeld hsO KF KI hI qx lx
        have hsO : gO ≤ w10.heap.size := by rw [HGO.out]; exact B1'.size
        have f0 := (HKF.out.next B1').cell 0; have f1 := K8.cell 0; have f2 := K8.cell 1; have f3 := K8.cell 2
        have h0 := K15.cell 0; have h1 := K15.cell 1; have h2 := K15.cell 2
        have l7 := Lib.hid (tbv_length Q7); have l9 := Lib.hid (tbv_length Q9)
        go_wp2_with fail
        refine (fm_Add p _ _ n n (tbv Q7) (tbv Q9) _ HP.out m7 m9 hn hn l7.out l9.out).mono ?_; rintro e w11 ⟨a11, k11, rfl, o11, b11⟩
        clear f0 f1 f2 f3 h0 h1 h2
        have hM2 : mx p n n (tbv Q7) + mx p n n (tbv Q9) = pev (pl p (gs.drop j)) A := by rw [mx_tbv, mx_tbv, EQ7.out, EQ9.out, EI.out]; exact HST.out
        rw [hM2] at o11 ⊢
        clear hM2
        obtain ⟨M2, eM2⟩ : ∃ M, M = pev (pl p (gs.drop j)) A := ⟨_, rfl⟩
        rw [← eM2] at o11 ⊢
        have EM2 := Lib.hid eM2; clear eM2
        replace KO := KO.next b11
        replace B1 := B1.trans (b11.mono hsO)
        have hw10 := B2.size
        have k0 := KO.cell 0; have k1 := KO.cell 1; have k2 := KO.cell 2
        have z0 := KO.free 0; have z1 := KO.free 1; have z2 := KO.free 2
        have KN := ((KO.set 0 (.int .i64 n)).set 1 (.int .i64 n)).set 2 (.slice a11 (tbv M2).length k11)
        have oN := (((o11.mono hw10).off KO 0 (.int .i64 n)).off (KO.set 0 _) 1 (.int .i64 n)).off ((KO.set 0 _).set 1 _) 2 (.slice a11 (tbv M2).length k11)
        have BN := ((B1.setCell (p := ⟨gO, 0, none⟩) (Nat.le_refl _) (.int .i64 n)).setCell (p := ⟨gO, 1, none⟩) (Nat.le_refl _) (.int .i64 n)).setCell (p := ⟨gO, 2, none⟩) (Nat.le_refl _) (.slice a11 (tbv M2).length k11)
        have st := Lib.hid (show HoR p w w5 (((w11.setCell ⟨gO, 0, none⟩ (.int .i64 n)).setCell ⟨gO, 1, none⟩ (.int .i64 n)).setCell ⟨gO, 2, none⟩ (.slice a11 (tbv M2).length k11)) gO n (pev (pl p (gs.drop j)) A) from by rw [← EM2.out]; exact ⟨_, _, KN, oN, BN⟩)
        have hk2 : IntKind.i64.wrap ((j : Int) - 1) = (j : Int) - 1 := IntWalk.i64_in _ ⟨by omega, by omega⟩
        clear KO oM KN oN BN B1 B1' B2 K8 K15 m7 m9 o11 b11
        go_wp2
        go_roundw
        case rel => exact ⟨j, by omega, rfl, st.out⟩
        case measure => simp [intOf] <;> omega
      · go_simp
        have hd9 := hHeld
        have KZ := Blk.lit w8.drew 42 [.int .i64 0, .int .i64 0, .slice none 0 0]
        refine hK.out _ _ (hHeld.alloc hHeld.size _) (fun hHeld => ?_)
        clear hK K
        try simp only [Act.put, List.setIfInBounds_toArray, List.set_cons_zero, List.set_cons_succ]
        refine oneL 6 rfl (by kernel_rfl) (by rfl) (fun K hK => ?_)
        go_simp
        go_at_call 110
        (with_reducible refine (fm_Scale p x _ n n (tbv I) _ HP.out (hI.next hHeld) hn hn lI.out).mono ?_); rintro e w9 ⟨a9, k9, rfl, o9, b9⟩; rw [mx_tbv] at o9 ⊢; obtain ⟨Q9, eQ9⟩ : ∃ Q, Q = I.sc (Zp.of p x) := ⟨_, rfl⟩; rw [← eQ9] at o9 ⊢; have EQ9 := Lib.hid eQ9; clear eQ9; have KZ2 : Blk 42 w9 w8.heap.size [.int .i64 0, .int .i64 0, .slice none 0 0] := KZ.next b9; have y0 := KZ2.cell 0; have y1 := KZ2.cell 1; have y2 := KZ2.cell 2; have z0 := KZ2.free 0; have z1 := KZ2.free 1; have z2 := KZ2.free 2
        refine hK.out _ _ (hHeld.trans (b9.mono hHeld.size)) (fun hHeld => ?_)
        clear hK K
        try simp only [Act.put, List.setIfInBounds_toArray, List.set_cons_zero, List.set_cons_succ]
        refine takeL 7 (v := ?_) rfl (by kernel_rfl) (by kernel_rfl) (by kernel_rfl) (fun _ _ _ h => h) ⟨by rfl, ?_⟩ (by assumption) ?_
        rotate_left
        · intro w hS; go_simp <;> with_reducible rfl
        simp only [Act.put, List.setIfInBounds_toArray, List.set_cons_zero, List.set_cons_succ]
        refine takeL 8 (v := ?_) rfl (by kernel_rfl) (by kernel_rfl) (by kernel_rfl) (fun _ _ _ h => h) ⟨by rfl, ?_⟩ (by assumption) ?_
        rotate_left
        · intro w hS; go_simp <;> with_reducible rfl
        simp only [Act.put, List.setIfInBounds_toArray, List.set_cons_zero, List.set_cons_succ]
        refine takeL 9 (v := ?_) rfl (by kernel_rfl) (by kernel_rfl) (by kernel_rfl) (fun _ _ _ h => h) ⟨by rfl, ?_⟩ (by assumption) ?_
        rotate_left
        · intro w hS; go_simp <;> with_reducible rfl
        simp only [Act.put, List.setIfInBounds_toArray, List.set_cons_zero, List.set_cons_succ]
        refine oneL 11 rfl (by kernel_rfl) (by rfl) (fun K hK => ?_)
        go_simp
        have he9 := hHeld
        refine hK.out _ _ (((hHeld.setCell (p := ⟨w8.heap.size, 0, none⟩) (Nat.le_refl _) (.int .i64 n)).setCell (p := ⟨w8.heap.size, 1, none⟩) (Nat.le_refl _) (.int .i64 n)).setCell (p := ⟨w8.heap.size, 2, none⟩) (Nat.le_refl _) (.slice a9 (tbv Q9).length k9)) (fun hHeld => ?_)
        clear hK K
        try simp only [Act.put, List.setIfInBounds_toArray, List.set_cons_zero, List.set_cons_succ]
        refine takeL 12 (v := ?_) rfl (by kernel_rfl) (by kernel_rfl) (by kernel_rfl) (fun _ _ _ h => h) ⟨by rfl, ?_⟩ (by assumption) ?_
        rotate_left
        · intro w hS; go_simp <;> with_reducible rfl
        simp only [Act.put, List.setIfInBounds_toArray, List.set_cons_zero, List.set_cons_succ]
        refine doneL (by kernel_rfl) ?_ _
        have K15 := ((KZ2.set 0 (.int .i64 n)).set 1 (.int .i64 n)).set 2 (.slice a9 (tbv Q9).length k9)
        have o15 := ((o9.off KZ2 0 (.int .i64 n)).off (KZ2.set 0 _) 1 (.int .i64 n)).off ((KZ2.set 0 _).set 1 _) 2 (.slice a9 (tbv Q9).length k9)
        have m9 : Fm _ (.agg #[.int .i64 n, .int .i64 n, .slice a9 (tbv Q9).length k9]) n n (tbv Q9) := ⟨_, rfl, o15.sl⟩
        obtain ⟨w10, ew10⟩ : ∃ w10, w10 = ((w9.setCell ⟨w8.heap.size, 0, none⟩ (.int .i64 n)).setCell ⟨w8.heap.size, 1, none⟩ (.int .i64 n)).setCell ⟨w8.heap.size, 2, none⟩ (.slice a9 (tbv Q9).length k9) := ⟨_, rfl⟩
        rw [← ew10] at hHeld K15 m9 ⊢
        obtain ⟨g15, eg15⟩ : ∃ g, g = w8.heap.size := ⟨_, rfl⟩
        rw [← eg15] at K15 ⊢
        clear ew10 eg15 o15 o9 b9 KZ KZ2 hd9 he9 y0 y1 y2 z0 z1 z2
        have hsO : gO ≤ w8.drew.heap.size := by rw [HGO.out]; exact B1'.size
        replace KO := KO.next hHeld; replace oM := oM.next hHeld; replace m7 := m7.next hHeld; replace K8 := K8.next hHeld
        replace B1 := B1.trans (hHeld.mono hsO); replace B1' := B1'.trans (hHeld.mono B1'.size); replace B2 := B2.trans (hHeld.mono B2.size)
        clear hHeld hsO KF KI hI qx lx
        have hsO : gO ≤ w10.heap.size := by rw [HGO.out]; exact B1'.size
        have f0 := (HKF.out.next B1').cell 0; have f1 := K8.cell 0; have f2 := K8.cell 1; have f3 := K8.cell 2
        have h0 := K15.cell 0; have h1 := K15.cell 1; have h2 := K15.cell 2
        have l7 := Lib.hid (tbv_length Q7); have l9 := Lib.hid (tbv_length Q9)
        go_wp2_with fail
        refine (fm_Add p _ _ n n (tbv Q7) (tbv Q9) _ HP.out m7 m9 hn hn l7.out l9.out).mono ?_; rintro e w11 ⟨a11, k11, rfl, o11, b11⟩
        clear f0 f1 f2 f3 h0 h1 h2
        have hM2 : mx p n n (tbv Q7) + mx p n n (tbv Q9) = pev (pl p (gs.drop j)) A := by rw [mx_tbv, mx_tbv, EQ7.out, EQ9.out, EI.out]; exact HST.out
        rw [hM2] at o11 ⊢
        clear hM2
        obtain ⟨M2, eM2⟩ : ∃ M, M = pev (pl p (gs.drop j)) A := ⟨_, rfl⟩
        rw [← eM2] at o11 ⊢
        have EM2 := Lib.hid eM2; clear eM2
        replace KO := KO.next b11
        replace B1 := B1.trans (b11.mono hsO)
        have hw10 := B2.size
        have k0 := KO.cell 0; have k1 := KO.cell 1; have k2 := KO.cell 2
        have z0 := KO.free 0; have z1 := KO.free 1; have z2 := KO.free 2
        have KN := ((KO.set 0 (.int .i64 n)).set 1 (.int .i64 n)).set 2 (.slice a11 (tbv M2).length k11)
        have oN := (((o11.mono hw10).off KO 0 (.int .i64 n)).off (KO.set 0 _) 1 (.int .i64 n)).off ((KO.set 0 _).set 1 _) 2 (.slice a11 (tbv M2).length k11)
        have BN := ((B1.setCell (p := ⟨gO, 0, none⟩) (Nat.le_refl _) (.int .i64 n)).setCell (p := ⟨gO, 1, none⟩) (Nat.le_refl _) (.int .i64 n)).setCell (p := ⟨gO, 2, none⟩) (Nat.le_refl _) (.slice a11 (tbv M2).length k11)
        have st := Lib.hid (show HoR p w w5 (((w11.setCell ⟨gO, 0, none⟩ (.int .i64 n)).setCell ⟨gO, 1, none⟩ (.int .i64 n)).setCell ⟨gO, 2, none⟩ (.slice a11 (tbv M2).length k11)) gO n (pev (pl p (gs.drop j)) A) from by rw [← EM2.out]; exact ⟨_, _, KN, oN, BN⟩)
        have hk2 : IntKind.i64.wrap ((j : Int) - 1) = (j : Int) - 1 := IntWalk.i64_in _ ⟨by omega, by omega⟩
        clear KO oM KN oN BN B1 B1' B2 K8 K15 m7 m9 o11 b11
        go_wp2
        go_roundw
        case rel => exact ⟨j, by omega, rfl, st.out⟩
        case measure => simp [intOf] <;> omega

end Go.Proofs.Ythghdjpjbngllaa
