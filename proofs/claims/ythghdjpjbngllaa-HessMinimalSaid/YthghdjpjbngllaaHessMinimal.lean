/- HessMinimal: for every number and matrix the law returns true: the powers below the degree of the minimal polynomial hang on none of each other, or there is none. No condition. -/
import Derived.Test.YthghdjpjbngllaaRows
import Derived.Test.YthghdjpjbngllaaHz
import Derived.Test.YthghdjpjbngllaaRfk
namespace Go.Proofs.Ythghdjpjbngllaa.hessMinimal
open Go.ChangeShapes Go.WideShapes Go.ChangeAt Go.RowKit
open Go.ChangeMaps (open_string shut_string)

theorem own : ownKnob Try.prog.godebug = none := by kernel_rfl
theorem laidOut : laidOutB Try.prog = true := by kernel_rfl

theorem at2 {n : Nat} (hn : n ≤ 4) : n * n ≤ 16 := Nat.mul_le_mul hn hn
/-- The powers below the minimal polynomial's degree hang on none of each other. -/
theorem pow_indep {p n d N : Nat} (ht : Trial p) {A : MT (Zp p) n n} {L : Pol (Zp p)} (hL : MinTo A n L) (hl : Ln L (d + 1)) (hN : N = n * n) (x : Nat → Zp p) (h : ∀ k, k < N → sm d (fun j => x j * (powM A d N).e j k) = 0) : ∀ j, j < d → x j = 0 := by
  have h0 : pev (pof d x) A = 0 := by
    rw [pev_eq (pof_dlt d x)]
    refine MT.ext fun i k hi hk => ?_
    unfold pvN
    rw [ms_e, MT.e_zero]
    have hlt : i * n + k < N := by rw [hN]; exact at_lt rfl hi hk
    rw [← h (i * n + k) hlt]
    refine sm_congr fun j hj => ?_
    unfold powM
    rw [MT.e_sc, pof_c _ hj, MT.of_e _ hj hlt]
    have h1 : (i * n + k) / n = i := by rw [Nat.mul_comm, Nat.mul_add_div (by omega), Nat.div_eq_of_lt hk, Nat.add_zero]
    have h2 : (i * n + k) % n = k := by rw [Nat.mul_comm, Nat.mul_add_mod, Nat.mod_eq_of_lt hk]
    rw [h1, h2]
  have h1 := hL.indep ht hl (pof_dlt d x) h0
  intro j hj
  rw [← pof_c x hj, h1]; rfl

set_option maxRecDepth 20000 in
set_option maxHeartbeats 4000000 in
theorem not_few (x0 : Nat) (v : Value) (R C : Int) (xs : List Nat) (w : World) (mA : Fm w v R C xs) (hf : ¬ (R ≤ 4 ∧ C ≤ 4 ∧ xs.length ≤ 100)) :
    Calls Try.prog 13 #[.int .u8 x0, v] w (LawOk w) := by
  obtain ⟨aA, cA, rfl⟩ := mA.agg
  obtain ⟨wb, ew, KA, B0, hsz⟩ := boxes1 w 42 [.int .i64 R, .int .i64 C, .slice aA xs.length cA]
  clear hsz
  replace mA := mA.next B0
  have HF := Lib.hid hf; clear hf
  go_enter Try.func13, Try.ntmps13
  go_upto_region 1 with (fail)
  rw [← ew]
  clear ew
  go_wp2_with fail
  refine (law22_awake _).mono ?_; rintro e w1 ⟨rfl, b1⟩
  replace mA := mA.next b1
  replace KA := KA.next b1
  replace B0 := B0.trans (b1.mono B0.size)
  clear b1
  have qKA0 := KA.cell 0
  have qKA1 := KA.cell 1
  have qKA2 := KA.cell 2
  go_wp2_with fail
  refine (rf21_Few _ R C 4 xs _ mA false (decide_eq_false HF.out).symm).mono ?_; rintro e w2 ⟨rfl, b2⟩
  clear qKA0 qKA1 qKA2
  replace mA := mA.next b2
  replace KA := KA.next b2
  replace B0 := B0.trans (b2.mono B0.size)
  clear b2
  clear mA
  go_wp2_with fail
  refine (law22_awake _).mono ?_; rintro e w3 ⟨rfl, b3⟩
  replace KA := KA.next b3
  replace B0 := B0.trans (b3.mono B0.size)
  clear b3
  go_wp2
  go_ret
  exact ⟨rfl, B0⟩

set_option maxRecDepth 20000 in
set_option maxHeartbeats 4000000 in
theorem bad (x0 : Nat) (v : Value) (R C : Int) (xs : List Nat) (w : World) (mA : Fm w v R C xs) (hf : R ≤ 4 ∧ C ≤ 4 ∧ xs.length ≤ 100) (hs : ¬ (Fd R C xs.length ∧ R = C)) :
    Calls Try.prog 13 #[.int .u8 x0, v] w (LawOk w) := by
  obtain ⟨p, ep⟩ : ∃ p, p = Ps (x0 % 12) := ⟨_, rfl⟩
  have hp : FP p := by rw [ep]; exact Ps_FP (by omega)
  have ht : Trial p := by rw [ep]; exact Ps_trial (by omega)
  have cOf : ∀ w : World, Calls Try.prog 17 #[.int .u8 x0] w fun e w' => e = .returned (.agg #[.int .u64 (p : Nat)]) ∧ Below w.heap.size w w' := fun w => by rw [ep]; exact law9_Of x0 w
  have cP : ∀ w : World, Calls Try.prog 18 #[.int .u8 x0] w fun e w' => e = .returned (.int .u64 (p : Nat)) ∧ w = w' := fun w => by rw [ep]; exact ref8_P x0 w
  have hp2 := hp.1
  have hp3 := hp.2
  have HP := Lib.hid hp; have HT := Lib.hid ht; have COF := Lib.hid cOf; have CP := Lib.hid cP
  clear hp ht cOf cP ep
  obtain ⟨aA, cA, rfl⟩ := mA.agg
  obtain ⟨wb, ew, KA, B0, hsz⟩ := boxes1 w 42 [.int .i64 R, .int .i64 C, .slice aA xs.length cA]
  clear hsz
  replace mA := mA.next B0
  have HF := Lib.hid hf; have HS := Lib.hid hs; clear hf hs
  go_enter Try.func13, Try.ntmps13
  go_upto_region 1 with (fail)
  rw [← ew]
  clear ew
  go_wp2_with fail
  refine (law22_awake _).mono ?_; rintro e w1 ⟨rfl, b1⟩
  replace mA := mA.next b1
  replace KA := KA.next b1
  replace B0 := B0.trans (b1.mono B0.size)
  clear b1
  have qKA0 := KA.cell 0
  have qKA1 := KA.cell 1
  have qKA2 := KA.cell 2
  go_wp2_with fail
  refine (rf21_Few _ R C 4 xs _ mA true (decide_eq_true HF.out).symm).mono ?_; rintro e w2 ⟨rfl, b2⟩
  clear qKA0 qKA1 qKA2
  replace mA := mA.next b2
  replace KA := KA.next b2
  replace B0 := B0.trans (b2.mono B0.size)
  clear b2
  go_wp2_with fail
  refine (COF.out _).mono ?_; rintro e w3 ⟨rfl, b3⟩
  replace mA := mA.next b3
  replace KA := KA.next b3
  replace B0 := B0.trans (b3.mono B0.size)
  clear b3
  go_wp2_with fail
  refine (CP.out _).mono ?_; rintro e wx ⟨rfl, rfl⟩
  obtain ⟨w4, e4, KF, b4, hs4⟩ := boxes1 w3 29 [.int .u64 p]
  clear hs4
  replace mA := mA.next b4
  replace KA := KA.next b4
  replace B0 := B0.trans (b4.mono B0.size)
  clear b4
  go_upto_region 4 with (fail)
  rw [← e4]
  clear e4
  have qKF0 := KF.cell 0
  have qKA0 := KA.cell 0
  have qKA1 := KA.cell 1
  have qKA2 := KA.cell 2
  go_wp2_with fail
  refine (hs_Min_no p _ R C xs _ mA HS.out).mono ?_; rintro e w5 ⟨rfl, b5⟩
  clear qKF0 qKA0 qKA1 qKA2
  replace mA := mA.next b5
  replace KA := KA.next b5
  replace KF := KF.next b5
  replace B0 := B0.trans (b5.mono B0.size)
  clear b5
  go_upto_region 5 with (fail)
  have qKA0 := KA.cell 0
  have qKA1 := KA.cell 1
  have qKA2 := KA.cell 2
  go_wp2_with fail
  refine (law22_square _ R C xs _ mA false (decide_eq_false HS.out).symm).mono ?_; rintro e w6 ⟨rfl, b6⟩
  clear qKA0 qKA1 qKA2
  replace mA := mA.next b6
  replace KA := KA.next b6
  replace KF := KF.next b6
  replace B0 := B0.trans (b6.mono B0.size)
  clear b6
  go_wp2
  go_ret
  exact ⟨rfl, B0⟩

set_option maxRecDepth 20000 in
set_option maxHeartbeats 4000000 in
theorem good (x0 : Nat) (v : Value) (n : Nat) (xs : List Nat) (w : World) (mA : Fm w v n n xs) (hn : n ≤ 4) (hx : xs.length = n * n) (hf : (n : Int) ≤ 4 ∧ (n : Int) ≤ 4 ∧ xs.length ≤ 100) :
    Calls Try.prog 13 #[.int .u8 x0, v] w (LawOk w) := by
  obtain ⟨p, ep⟩ : ∃ p, p = Ps (x0 % 12) := ⟨_, rfl⟩
  have hp : FP p := by rw [ep]; exact Ps_FP (by omega)
  have ht : Trial p := by rw [ep]; exact Ps_trial (by omega)
  have cOf : ∀ w : World, Calls Try.prog 17 #[.int .u8 x0] w fun e w' => e = .returned (.agg #[.int .u64 (p : Nat)]) ∧ Below w.heap.size w w' := fun w => by rw [ep]; exact law9_Of x0 w
  have cP : ∀ w : World, Calls Try.prog 18 #[.int .u8 x0] w fun e w' => e = .returned (.int .u64 (p : Nat)) ∧ w = w' := fun w => by rw [ep]; exact ref8_P x0 w
  have hp2 := hp.1
  have hp3 := hp.2
  have HP := Lib.hid hp; have HT := Lib.hid ht; have COF := Lib.hid cOf; have CP := Lib.hid cP
  clear hp ht cOf cP ep
  obtain ⟨aA, cA, rfl⟩ := mA.agg
  obtain ⟨wb, ew, KA, B0, hsz⟩ := boxes1 w 42 [.int .i64 n, .int .i64 n, .slice aA xs.length cA]
  clear hsz
  replace mA := mA.next B0
  have HF := Lib.hid hf; have HX := Lib.hid hx; clear hf hx
  have HFd := Lib.hid (Fd.of (show n ≤ 64 by omega) (show n ≤ 64 by omega) HX.out)
  have hnn : ((n : Int) != (n : Int)) = false := by simp
  obtain ⟨A, eA⟩ : ∃ A, A = mx p n n xs := ⟨_, rfl⟩
  have EA := Lib.hid eA; clear eA
  obtain ⟨N, eN⟩ : ∃ N, N = n * n := ⟨_, rfl⟩
  have hN16 : N ≤ 16 := by rw [eN]; exact at2 hn
  have HN := Lib.hid eN; clear eN
  go_enter Try.func13, Try.ntmps13
  go_upto_region 1 with (fail)
  rw [← ew]
  clear ew
  go_wp2_with fail
  refine (law22_awake _).mono ?_; rintro e w1 ⟨rfl, b1⟩
  replace mA := mA.next b1
  replace KA := KA.next b1
  replace B0 := B0.trans (b1.mono B0.size)
  clear b1
  have qKA0 := KA.cell 0
  have qKA1 := KA.cell 1
  have qKA2 := KA.cell 2
  go_wp2_with fail
  refine (rf21_Few _ n n 4 xs _ mA true (decide_eq_true HF.out).symm).mono ?_; rintro e w2 ⟨rfl, b2⟩
  clear qKA0 qKA1 qKA2
  replace mA := mA.next b2
  replace KA := KA.next b2
  replace B0 := B0.trans (b2.mono B0.size)
  clear b2
  go_wp2_with fail
  refine (COF.out _).mono ?_; rintro e w3 ⟨rfl, b3⟩
  replace mA := mA.next b3
  replace KA := KA.next b3
  replace B0 := B0.trans (b3.mono B0.size)
  clear b3
  go_wp2_with fail
  refine (CP.out _).mono ?_; rintro e wx ⟨rfl, rfl⟩
  obtain ⟨w4, e4, KF, b4, hs4⟩ := boxes1 w3 29 [.int .u64 p]
  clear hs4
  replace mA := mA.next b4
  replace KA := KA.next b4
  replace B0 := B0.trans (b4.mono B0.size)
  clear b4
  go_upto_region 4 with (fail)
  rw [← e4]
  clear e4
  have qKF0 := KF.cell 0
  have qKA0 := KA.cell 0
  have qKA1 := KA.cell 1
  have qKA2 := KA.cell 2
  go_wp2_with fail
  refine (hs_Min p _ n xs _ HP.out HT.out mA (by omega) HX.out).mono ?_; rintro e w5 ⟨am, cm, ms, d, rfl, oM, nM, vM, lM, ld, b5⟩; rw [← EA.out] at vM
  clear qKF0 qKA0 qKA1 qKA2
  replace mA := mA.next b5
  replace KA := KA.next b5
  replace KF := KF.next b5
  replace B0 := B0.trans (b5.mono B0.size)
  clear b5
  have NM := Lib.hid (show Nrm p ms ∧ MinTo A n (pl p ms) ∧ ms.length = d + 1 from ⟨nM, vM, lM⟩)
  have ha1 : IntKind.i64.wrap ((ms.length : Int) - 1) = (d : Int) := by rw [lM, IntWalk.i64_in _ ⟨by omega, by omega⟩]; omega
  have hdn : ¬ (n : Int) < (d : Int) := by omega
  clear nM vM lM oM
  go_upto_region 5 with (fail)
  have qKA0 := KA.cell 0
  have qKA1 := KA.cell 1
  have qKA2 := KA.cell 2
  go_wp2_with fail
  refine (law22_square _ n n xs _ mA true (decide_eq_true ⟨HFd.out, rfl⟩).symm).mono ?_; rintro e w6 ⟨rfl, b6⟩
  clear qKA0 qKA1 qKA2
  replace mA := mA.next b6
  replace KA := KA.next b6
  replace KF := KF.next b6
  replace B0 := B0.trans (b6.mono B0.size)
  clear b6
  have qKA0 := KA.cell 0
  go_upto_region 10 with (fail)
  clear qKA0
  go_cut [11, 12] (fun v11 v12 wx => ∃ pa pc, v11 = .slice pa d pc ∧ v12 = .int .i64 0 ∧ Below w6.heap.size w6 wx)
  case first =>
    have bd := Drawn.below (w' := w6.drew) ⟨1, rfl⟩ w6.heap.size
    replace mA := mA.next bd
    replace KA := KA.next bd
    replace KF := KF.next bd
    refine startL (S := (fun w' => Below (w6.drew).heap.size (w6.drew) w')) (by kernel_rfl) (Below.refl _ _) (fun hHeld => ?_)
    refine takeL 0 (v := ?_) rfl (by kernel_rfl) (by kernel_rfl) (by kernel_rfl) (fun _ _ _ h => h) ⟨by rfl, ?_⟩ (by assumption) ?_
    rotate_left
    · intro w hS; have fa := KA.at hS; have f1 := fa 0; have f2 := fa 1; have f3 := fa 2; clear fa; have fb := KF.at hS; have f4 := fb 0; clear fb; go_simp <;> with_reducible rfl
    simp only [Act.put, List.setIfInBounds_toArray, List.set_cons_zero, List.set_cons_succ]
    refine takeL 1 (v := ?_) rfl (by kernel_rfl) (by kernel_rfl) (by kernel_rfl) (fun _ _ _ h => h) ⟨by rfl, ?_⟩ (by assumption) ?_
    rotate_left
    · intro w hS; have fa := KA.at hS; have f1 := fa 0; have f2 := fa 1; have f3 := fa 2; clear fa; have fb := KF.at hS; have f4 := fb 0; clear fb; go_simp <;> with_reducible rfl
    simp only [Act.put, List.setIfInBounds_toArray, List.set_cons_zero, List.set_cons_succ]
    refine takeL 2 (v := ?_) rfl (by kernel_rfl) (by kernel_rfl) (by kernel_rfl) (fun _ _ _ h => h) ⟨by rfl, ?_⟩ (by assumption) ?_
    rotate_left
    · intro w hS; go_simp <;> with_reducible rfl
    simp only [Act.put, List.setIfInBounds_toArray, List.set_cons_zero, List.set_cons_succ]
    refine takeL 3 (v := ?_) rfl (by kernel_rfl) (by kernel_rfl) (by kernel_rfl) (fun _ _ _ h => h) ⟨by rfl, ?_⟩ (by assumption) ?_
    rotate_left
    · intro w hS; go_simp <;> with_reducible rfl
    simp only [Act.put, List.setIfInBounds_toArray, List.set_cons_zero, List.set_cons_succ]
    refine twoL 4 10 rfl rfl (by kernel_rfl) (by rfl) (by rfl) (fun K hK => ?_) (fun K hK => ?_)
    · go_simp
      go_at_call 69
      (with_reducible refine (law22_flat p _ n d N xs _ HP.out (mA.next hHeld) (by omega) HX.out (by omega) HN.out).mono ?_); rintro e y1 ⟨a4, k4, rfl, o4, c4⟩; rw [← EA.out] at o4 ⊢; obtain ⟨M4, eM4⟩ : ∃ M, M = powM A d N := ⟨_, rfl⟩; rw [← eM4] at o4 ⊢; have EM4 := Lib.hid eM4; clear eM4
      refine hK.out _ _ (hHeld.trans (c4.mono hHeld.size)) (fun hHeld => ?_)
      clear hK K
      try simp only [Act.put, List.setIfInBounds_toArray, List.set_cons_zero, List.set_cons_succ]
      refine twoL 5 10 rfl rfl (by kernel_rfl) (by rfl) (by rfl) (fun K hK => ?_) (fun K hK => ?_)
      · go_simp
        go_at_call 68
        (with_reducible refine (fm_Reduce p _ d N (tbv M4) _ HP.out HT.out (fm_own o4) (by omega) (by omega) (tbv_length M4)).mono ?_); rintro e y2 ⟨a6, pa, k6, pc, W6, P, d6, M6, rfl, hR, -, o6, -, c6⟩; rw [mx_tbv] at hR
        refine hK.out _ _ (hHeld.trans (c6.mono hHeld.size)) (fun hHeld => ?_)
        clear hK K
        try simp only [Act.put, List.setIfInBounds_toArray, List.set_cons_zero, List.set_cons_succ]
        refine takeL 6 (v := ?_) rfl (by kernel_rfl) (by kernel_rfl) (by kernel_rfl) (fun _ _ _ h => h) ⟨by rfl, ?_⟩ (by assumption) ?_
        rotate_left
        · intro w hS; go_simp <;> with_reducible rfl
        simp only [Act.put, List.setIfInBounds_toArray, List.set_cons_zero, List.set_cons_succ]
        refine takeL 7 (v := ?_) rfl (by kernel_rfl) (by kernel_rfl) (by kernel_rfl) (fun _ _ _ h => h) ⟨by rfl, ?_⟩ (by assumption) ?_
        rotate_left
        · intro w hS; go_simp <;> with_reducible rfl
        simp only [Act.put, List.setIfInBounds_toArray, List.set_cons_zero, List.set_cons_succ]
        refine takeL 8 (v := ?_) rfl (by kernel_rfl) (by kernel_rfl) (by kernel_rfl) (fun _ _ _ h => h) ⟨by rfl, ?_⟩ (by assumption) ?_
        rotate_left
        · intro w hS; go_simp <;> with_reducible rfl
        simp only [Act.put, List.setIfInBounds_toArray, List.set_cons_zero, List.set_cons_succ]
        refine takeL 9 (v := ?_) rfl (by kernel_rfl) (by kernel_rfl) (by kernel_rfl) (fun _ _ _ h => h) ⟨by rfl, ?_⟩ (by assumption) ?_
        rotate_left
        · intro w hS; go_simp <;> with_reducible rfl
        simp only [Act.put, List.setIfInBounds_toArray, List.set_cons_zero, List.set_cons_succ]
        refine oneL 10 rfl (by kernel_rfl) (by rfl) (fun K hK => ?_)
        go_simp
        obtain ⟨ya, eya, KZ, bya, -⟩ := boxes1 y2 42 [.int .i64 0, .int .i64 0, .slice none 0 0]
        have hHd := hHeld
        refine hK.out _ _ (hHeld.alloc hHeld.size _) (fun hHeld => ?_)
        clear hK K
        try simp only [Act.put, List.setIfInBounds_toArray, List.set_cons_zero, List.set_cons_succ]
        rw [← eya] at hHeld ⊢
        obtain ⟨g1, eg1⟩ : ∃ g, g = y2.heap.size := ⟨_, rfl⟩
        have hg1 : w6.drew.heap.size ≤ g1 := by rw [eg1]; exact hHd.size
        rw [← eg1] at KZ
        try rw [← eg1]
        clear eya eg1
        refine oneL 11 rfl (by kernel_rfl) (by rfl) (fun K hK => ?_)
        have y0 := KZ.cell 0; have y1_ := KZ.cell 1; have y2_ := KZ.cell 2; have z0 := KZ.free 0; have z1 := KZ.free 1; have z2 := KZ.free 2
        go_simp
        refine hK.out _ _ (((hHeld.setCell (p := ⟨g1, 0, none⟩) hg1 (.int .i64 d)).setCell (p := ⟨g1, 1, none⟩) hg1 (.int .i64 N)).setCell (p := ⟨g1, 2, none⟩) hg1 (.slice a6 (tbv M6).length k6)) (fun hHeld => ?_)
        clear hK K
        try simp only [Act.put, List.setIfInBounds_toArray, List.set_cons_zero, List.set_cons_succ]
        refine takeL 12 (v := ?_) rfl (by kernel_rfl) (by kernel_rfl) (by kernel_rfl) (fun _ _ _ h => h) ⟨by rfl, ?_⟩ (by assumption) ?_
        rotate_left
        · intro w hS; go_simp <;> with_reducible rfl
        simp only [Act.put, List.setIfInBounds_toArray, List.set_cons_zero, List.set_cons_succ]
        refine takeL 13 (v := ?_) rfl (by kernel_rfl) (by kernel_rfl) (by kernel_rfl) (fun _ _ _ h => h) ⟨by rfl, ?_⟩ (by assumption) ?_
        rotate_left
        · intro w hS; go_simp <;> with_reducible rfl
        simp only [Act.put, List.setIfInBounds_toArray, List.set_cons_zero, List.set_cons_succ]
        refine doneL (by kernel_rfl) ?_ _
        have hPd : P.length = d := by
          refine hR.full (by omega) (Zp.one_ne HT.out) fun x hx => ?_
          refine pow_indep HT.out NM.out.2.1 (by rw [← NM.out.2.2]; exact nrm_ln HP.out.pos NM.out.1) HN.out x fun k hk => ?_
          rw [← hx k hk]
          refine sm_congr fun j _ => ?_
          rw [beside_l hk, EM4.out]
        have bx := bd.trans (hHeld.mono bd.size)
        have HPD := Lib.hid hPd
        clear hPd hR KZ y0 y1_ y2_ z0 z1 z2 hHeld o6 mA KA KF
        go_wp2_with fail
        go_meet
        exact ⟨pa, pc, by rw [HPD.out], rfl, bx⟩
      · go_simp
        obtain ⟨ya, eya, KZ, bya, -⟩ := boxes1 y1 42 [.int .i64 0, .int .i64 0, .slice none 0 0]
        have hHd := hHeld
        refine hK.out _ _ (hHeld.alloc hHeld.size _) (fun hHeld => ?_)
        clear hK K
        try simp only [Act.put, List.setIfInBounds_toArray, List.set_cons_zero, List.set_cons_succ]
        rw [← eya] at hHeld ⊢
        obtain ⟨g1, eg1⟩ : ∃ g, g = y1.heap.size := ⟨_, rfl⟩
        have hg1 : w6.drew.heap.size ≤ g1 := by rw [eg1]; exact hHd.size
        rw [← eg1] at KZ
        try rw [← eg1]
        clear eya eg1
        replace o4 := o4.next bya
        refine oneL 5 rfl (by kernel_rfl) (by rfl) (fun K hK => ?_)
        go_simp
        go_at_call 68
        (with_reducible refine (fm_Reduce p _ d N (tbv M4) _ HP.out HT.out (fm_own o4) (by omega) (by omega) (tbv_length M4)).mono ?_); rintro e y2 ⟨a6, pa, k6, pc, W6, P, d6, M6, rfl, hR, -, o6, -, c6⟩; rw [mx_tbv] at hR; replace KZ := KZ.next c6
        refine hK.out _ _ (hHeld.trans (c6.mono hHeld.size)) (fun hHeld => ?_)
        clear hK K
        try simp only [Act.put, List.setIfInBounds_toArray, List.set_cons_zero, List.set_cons_succ]
        refine takeL 6 (v := ?_) rfl (by kernel_rfl) (by kernel_rfl) (by kernel_rfl) (fun _ _ _ h => h) ⟨by rfl, ?_⟩ (by assumption) ?_
        rotate_left
        · intro w hS; go_simp <;> with_reducible rfl
        simp only [Act.put, List.setIfInBounds_toArray, List.set_cons_zero, List.set_cons_succ]
        refine takeL 7 (v := ?_) rfl (by kernel_rfl) (by kernel_rfl) (by kernel_rfl) (fun _ _ _ h => h) ⟨by rfl, ?_⟩ (by assumption) ?_
        rotate_left
        · intro w hS; go_simp <;> with_reducible rfl
        simp only [Act.put, List.setIfInBounds_toArray, List.set_cons_zero, List.set_cons_succ]
        refine takeL 8 (v := ?_) rfl (by kernel_rfl) (by kernel_rfl) (by kernel_rfl) (fun _ _ _ h => h) ⟨by rfl, ?_⟩ (by assumption) ?_
        rotate_left
        · intro w hS; go_simp <;> with_reducible rfl
        simp only [Act.put, List.setIfInBounds_toArray, List.set_cons_zero, List.set_cons_succ]
        refine takeL 9 (v := ?_) rfl (by kernel_rfl) (by kernel_rfl) (by kernel_rfl) (fun _ _ _ h => h) ⟨by rfl, ?_⟩ (by assumption) ?_
        rotate_left
        · intro w hS; go_simp <;> with_reducible rfl
        simp only [Act.put, List.setIfInBounds_toArray, List.set_cons_zero, List.set_cons_succ]
        refine oneL 11 rfl (by kernel_rfl) (by rfl) (fun K hK => ?_)
        have y0 := KZ.cell 0; have y1_ := KZ.cell 1; have y2_ := KZ.cell 2; have z0 := KZ.free 0; have z1 := KZ.free 1; have z2 := KZ.free 2
        go_simp
        refine hK.out _ _ (((hHeld.setCell (p := ⟨g1, 0, none⟩) hg1 (.int .i64 d)).setCell (p := ⟨g1, 1, none⟩) hg1 (.int .i64 N)).setCell (p := ⟨g1, 2, none⟩) hg1 (.slice a6 (tbv M6).length k6)) (fun hHeld => ?_)
        clear hK K
        try simp only [Act.put, List.setIfInBounds_toArray, List.set_cons_zero, List.set_cons_succ]
        refine takeL 12 (v := ?_) rfl (by kernel_rfl) (by kernel_rfl) (by kernel_rfl) (fun _ _ _ h => h) ⟨by rfl, ?_⟩ (by assumption) ?_
        rotate_left
        · intro w hS; go_simp <;> with_reducible rfl
        simp only [Act.put, List.setIfInBounds_toArray, List.set_cons_zero, List.set_cons_succ]
        refine takeL 13 (v := ?_) rfl (by kernel_rfl) (by kernel_rfl) (by kernel_rfl) (fun _ _ _ h => h) ⟨by rfl, ?_⟩ (by assumption) ?_
        rotate_left
        · intro w hS; go_simp <;> with_reducible rfl
        simp only [Act.put, List.setIfInBounds_toArray, List.set_cons_zero, List.set_cons_succ]
        refine doneL (by kernel_rfl) ?_ _
        have hPd : P.length = d := by
          refine hR.full (by omega) (Zp.one_ne HT.out) fun x hx => ?_
          refine pow_indep HT.out NM.out.2.1 (by rw [← NM.out.2.2]; exact nrm_ln HP.out.pos NM.out.1) HN.out x fun k hk => ?_
          rw [← hx k hk]
          refine sm_congr fun j _ => ?_
          rw [beside_l hk, EM4.out]
        have bx := bd.trans (hHeld.mono bd.size)
        have HPD := Lib.hid hPd
        clear hPd hR KZ y0 y1_ y2_ z0 z1 z2 hHeld o6 mA KA KF
        go_wp2_with fail
        go_meet
        exact ⟨pa, pc, by rw [HPD.out], rfl, bx⟩
    · go_simp
      obtain ⟨ya0, eya, KZ, bya, -⟩ := boxes1 w6 42 [.int .i64 0, .int .i64 0, .slice none 0 0]
      have hHd := hHeld
      refine hK.out _ _ (hHeld.alloc hHeld.size _) (fun hHeld => ?_)
      clear hK K
      try simp only [Act.put, List.setIfInBounds_toArray, List.set_cons_zero, List.set_cons_succ]
      rw [← eya] at hHeld ⊢
      obtain ⟨ya, eyb⟩ : ∃ y, y = ya0.drew := ⟨_, rfl⟩
      rw [← eyb] at hHeld ⊢
      replace KZ : Blk 42 ya w6.heap.size [.int .i64 0, .int .i64 0, .slice none 0 0] := by rw [eyb]; exact KZ.drew
      clear eyb bya
      obtain ⟨g1, eg1⟩ : ∃ g, g = w6.heap.size := ⟨_, rfl⟩
      have hg1 : w6.drew.heap.size ≤ g1 := by rw [eg1]; exact hHd.size
      rw [← eg1] at KZ
      try rw [← eg1]
      clear eya eg1
      refine oneL 4 rfl (by kernel_rfl) (by rfl) (fun K hK => ?_)
      go_simp
      go_at_call 69
      (with_reducible refine (law22_flat p _ n d N xs _ HP.out (mA.next hHeld) (by omega) HX.out (by omega) HN.out).mono ?_); rintro e y1 ⟨a4, k4, rfl, o4, c4⟩; rw [← EA.out] at o4 ⊢; obtain ⟨M4, eM4⟩ : ∃ M, M = powM A d N := ⟨_, rfl⟩; rw [← eM4] at o4 ⊢; have EM4 := Lib.hid eM4; clear eM4; replace KZ := KZ.next c4
      refine hK.out _ _ (hHeld.trans (c4.mono hHeld.size)) (fun hHeld => ?_)
      clear hK K
      try simp only [Act.put, List.setIfInBounds_toArray, List.set_cons_zero, List.set_cons_succ]
      refine oneL 5 rfl (by kernel_rfl) (by rfl) (fun K hK => ?_)
      go_simp
      go_at_call 68
      (with_reducible refine (fm_Reduce p _ d N (tbv M4) _ HP.out HT.out (fm_own o4) (by omega) (by omega) (tbv_length M4)).mono ?_); rintro e y2 ⟨a6, pa, k6, pc, W6, P, d6, M6, rfl, hR, -, o6, -, c6⟩; rw [mx_tbv] at hR; replace KZ := KZ.next c6
      refine hK.out _ _ (hHeld.trans (c6.mono hHeld.size)) (fun hHeld => ?_)
      clear hK K
      try simp only [Act.put, List.setIfInBounds_toArray, List.set_cons_zero, List.set_cons_succ]
      refine takeL 6 (v := ?_) rfl (by kernel_rfl) (by kernel_rfl) (by kernel_rfl) (fun _ _ _ h => h) ⟨by rfl, ?_⟩ (by assumption) ?_
      rotate_left
      · intro w hS; go_simp <;> with_reducible rfl
      simp only [Act.put, List.setIfInBounds_toArray, List.set_cons_zero, List.set_cons_succ]
      refine takeL 7 (v := ?_) rfl (by kernel_rfl) (by kernel_rfl) (by kernel_rfl) (fun _ _ _ h => h) ⟨by rfl, ?_⟩ (by assumption) ?_
      rotate_left
      · intro w hS; go_simp <;> with_reducible rfl
      simp only [Act.put, List.setIfInBounds_toArray, List.set_cons_zero, List.set_cons_succ]
      refine takeL 8 (v := ?_) rfl (by kernel_rfl) (by kernel_rfl) (by kernel_rfl) (fun _ _ _ h => h) ⟨by rfl, ?_⟩ (by assumption) ?_
      rotate_left
      · intro w hS; go_simp <;> with_reducible rfl
      simp only [Act.put, List.setIfInBounds_toArray, List.set_cons_zero, List.set_cons_succ]
      refine takeL 9 (v := ?_) rfl (by kernel_rfl) (by kernel_rfl) (by kernel_rfl) (fun _ _ _ h => h) ⟨by rfl, ?_⟩ (by assumption) ?_
      rotate_left
      · intro w hS; go_simp <;> with_reducible rfl
      simp only [Act.put, List.setIfInBounds_toArray, List.set_cons_zero, List.set_cons_succ]
      refine oneL 11 rfl (by kernel_rfl) (by rfl) (fun K hK => ?_)
      have y0 := KZ.cell 0; have y1_ := KZ.cell 1; have y2_ := KZ.cell 2; have z0 := KZ.free 0; have z1 := KZ.free 1; have z2 := KZ.free 2
      go_simp
      refine hK.out _ _ (((hHeld.setCell (p := ⟨g1, 0, none⟩) hg1 (.int .i64 d)).setCell (p := ⟨g1, 1, none⟩) hg1 (.int .i64 N)).setCell (p := ⟨g1, 2, none⟩) hg1 (.slice a6 (tbv M6).length k6)) (fun hHeld => ?_)
      clear hK K
      try simp only [Act.put, List.setIfInBounds_toArray, List.set_cons_zero, List.set_cons_succ]
      refine takeL 12 (v := ?_) rfl (by kernel_rfl) (by kernel_rfl) (by kernel_rfl) (fun _ _ _ h => h) ⟨by rfl, ?_⟩ (by assumption) ?_
      rotate_left
      · intro w hS; go_simp <;> with_reducible rfl
      simp only [Act.put, List.setIfInBounds_toArray, List.set_cons_zero, List.set_cons_succ]
      refine takeL 13 (v := ?_) rfl (by kernel_rfl) (by kernel_rfl) (by kernel_rfl) (fun _ _ _ h => h) ⟨by rfl, ?_⟩ (by assumption) ?_
      rotate_left
      · intro w hS; go_simp <;> with_reducible rfl
      simp only [Act.put, List.setIfInBounds_toArray, List.set_cons_zero, List.set_cons_succ]
      refine doneL (by kernel_rfl) ?_ _
      have hPd : P.length = d := by
        refine hR.full (by omega) (Zp.one_ne HT.out) fun x hx => ?_
        refine pow_indep HT.out NM.out.2.1 (by rw [← NM.out.2.2]; exact nrm_ln HP.out.pos NM.out.1) HN.out x fun k hk => ?_
        rw [← hx k hk]
        refine sm_congr fun j _ => ?_
        rw [beside_l hk, EM4.out]
      have bx := bd.trans (hHeld.mono bd.size)
      have HPD := Lib.hid hPd
      clear hPd hR KZ y0 y1_ y2_ z0 z1 z2 hHeld o6 mA KA KF
      go_wp2_with fail
      go_meet
      exact ⟨pa, pc, by rw [HPD.out], rfl, bx⟩
  case rest =>
    obtain ⟨pa, pc, rfl, rfl, bx⟩ := hcut
    replace B0 := B0.trans (bx.mono B0.size)
    clear bx
    go_wp2
    go_ret
    exact ⟨rfl, B0⟩

set_option maxHeartbeats 1000000 in
theorem walk (x0 : Nat) (v : Value) (R C : Int) (xs : List Nat) (w : World) (mA : Fm w v R C xs) : Calls Try.prog 13 #[.int .u8 x0, v] w (LawOk w) := by
  by_cases hf : R ≤ 4 ∧ C ≤ 4 ∧ xs.length ≤ 100
  · by_cases hs : Fd R C xs.length ∧ R = C
    · obtain ⟨h1, rfl⟩ := hs
      obtain ⟨r, c, e1, e2, h3, h4, h5⟩ := h1.nat
      subst e1
      have e3 : c = r := by omega
      subst e3
      exact good x0 v c xs w mA (by omega) h5 hf
    · exact bad x0 v R C xs w mA hf hs
  · exact not_few x0 v R C xs w mA hf

set_option maxRecDepth 100000 in
theorem lifted (os : Os) (started : os.Started) (H : Type) (enc : TypeId × Value → H) :
    ReturnsInHanded {} Try.checked os 13 .any (Rows.hessMinimalSpec.pre6 enc Try.prog Try.f13 Rows.hessMinimalRow.domain false) (Rows.hessMinimalSpec.post enc Try.prog Try.f13 false true false false) := by
  refine returnsInHanded_of_change (C := Try.checked) own started (by kernel_rfl) Try.func13
    (ChangeSpec.witness6 (enc := enc) (C := Try.checked) false ⟨#[], #[.int .u8 0, .agg #[.int .i64 0, .int .i64 0, .slice none 0 0]], []⟩ 8 (by kernel_rfl) (by kernel_rfl) (by kernel_rfl) (by kernel_rfl)) ?_
  intro W base args ds gs before hval0 hW hcnd _
  have hval : ∀ (j : Nat) t v, Try.f13.params[j]? = some t → args[j]? = some v → Value.okWide Try.prog W .any base t v := hval0
  have hW' := hW
  obtain ⟨p, q, hA0, hV, rfl, hfz, hnd⟩ := hW
  have hA : DataW.TrodAll enc Try.prog W 0 (fun _ => true) true Try.f13.params.toList args.toList ds p := hA0
  rw [Try.params13] at hA hval
  obtain ⟨v0, vs0, d0, ds0, p0, q0, hargs, rfl, rfl, h0, r0⟩ := trodAll_cons hA
  obtain ⟨v1, vs1, d1, ds1, p1, q1, rfl, rfl, rfl, h1, r1⟩ := trodAll_cons r0
  obtain ⟨rfl, rfl, rfl⟩ := trodAll_nil r1
  obtain rfl : args = #[v0, v1] := by cases args; simp_all
  obtain ⟨rfl, rfl⟩ := trodVars_none hV
  have k0 := h0
  have lt0 : ∀ x ∈ p0, x.block < W.heap.size := by obtain ⟨m, hm⟩ := k0; exact DataW.trod_lt m _ _ _ hm
  obtain ⟨i0, rfl, rfl, rfl, wi0⟩ := open_int Try.underlying5 (hval 0 5 v0 rfl rfl) h0
  obtain ⟨x0, rfl⟩ := Int.eq_ofNat_of_zero_le (wf_u8_bounds wi0).1
  have k1 := h1
  have lt1 : ∀ x ∈ p1, x.block < W.heap.size := by obtain ⟨m, hm⟩ := k1; exact DataW.trod_lt m _ _ _ hm
  obtain ⟨R1, C1, xs1, m1, rb1, cb1⟩ := open_fm (hval 1 42 v1 rfl rfl) h1
  clear hA0 hval0
  refine (walk x0 v1 R1 C1 xs1 W  m1).mono fun e W' ⟨he, bel⟩ => ?_
  subst he
  exact ⟨_, rfl, _, _, _, [], _, [], hW', trodAll_mk1 (shut_bool Try.underlying4 _), (trodAll_cons_mk (Below.trod laidOut (by kernel_rfl) (of_decide_eq_true (by kernel_rfl)) k0 bel lt0) (trodAll_cons_mk (Below.trod laidOut (by kernel_rfl) (of_decide_eq_true (by kernel_rfl)) k1 bel lt1) trodAll_mk0)), rfl, bel.frame _, fun h => by cases h⟩

theorem over : Rows.hessMinimalRow.holds Try.pinned (OpenSpec.ofChange Rows.hessMinimalSpec) :=
  OpenClaim.holds_of_wide 13 Try.f13 rfl rfl rfl rfl rfl rfl rfl ⟨rfl, rfl, rfl, rfl, rfl⟩ rfl rfl rfl rfl rfl (by kernel_rfl) Try.func13 (by kernel_rfl)
    (of_decide_eq_true (by kernel_rfl)) (by unfold Func.isWrapper; first | (rw [if_pos (by decide +kernel)]; kernel_rfl) | (rw [if_neg (by decide +kernel)]; exact ⟨rfl, rfl⟩))
    (fun os started H enc _ => lifted os started H enc)

theorem proved : Rows.HessMinimalSaid := over
#print axioms proved
end Go.Proofs.Ythghdjpjbngllaa.hessMinimal
