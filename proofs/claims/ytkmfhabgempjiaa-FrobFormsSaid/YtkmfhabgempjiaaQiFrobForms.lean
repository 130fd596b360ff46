/- FrobForms: for every number and matrix the law returns true: the form is that of the invariants, and what makes it is invertible; or there is none. No condition. -/
import Derived.Test.YtkmfhabgempjiaaRows
import Derived.Test.YtkmfhabgempjiaaQiM8
import Derived.Test.YtkmfhabgempjiaaQiM21
namespace Go.Proofs.Ytkmfhabgempjiaa.frobForms
set_option maxHeartbeats 4000000
open Go.ChangeShapes Go.WideShapes Go.ChangeAt Go.RowKit
open Go.ChangeMaps (open_string shut_string)
theorem own : ownKnob Try.prog.godebug = none := by kernel_rfl
theorem laidOut : laidOutB Try.prog = true := by kernel_rfl
theorem at2 {n : Nat} (hn : n ≤ 4) : n * n ≤ 16 := Nat.mul_le_mul hn hn
set_option maxRecDepth 20000 in
theorem not_few (x0 : Nat) (v : Value) (R C : Int) (xs : List Nat) (w : World) (mA : Fm w v R C xs) (hf : ¬ (R ≤ 4 ∧ C ≤ 4 ∧ xs.length ≤ 100)) :
  Calls Try.prog 11 #[.int .u8 x0, v] w (LawOk w) := by
 obtain ⟨aA, cA, rfl⟩ := mA.agg
 obtain ⟨wb, ew, KA, B0, hsz⟩ := boxes1 w 63 [.int .i64 R, .int .i64 C, .slice aA xs.length cA]
 clear hsz
 replace mA := mA.next B0
 have HF := Lib.hid hf; clear hf
 go_enter Try.func11, Try.ntmps11
 go_upto_region 1 with (fail)
 rw [← ew]
 clear ew
 go_wp2_with fail
 refine (law25_awake _).mono ?_; rintro e w1 ⟨rfl, b1⟩
 replace mA := mA.next b1
 replace KA := KA.next b1
 replace B0 := B0.trans (b1.mono B0.size)
 clear b1
 have qKA0 := KA.cell 0
 have qKA1 := KA.cell 1
 have qKA2 := KA.cell 2
 go_wp2_with fail
 refine (rf21_Few _ R C 4 xs _ mA false (decide_eq_false HF.out).symm).mono ?_; rintro e w2 ⟨rfl, b2⟩
 clear qKA0 qKA1 qKA2
 replace mA := mA.next b2
 replace KA := KA.next b2
 replace B0 := B0.trans (b2.mono B0.size)
 clear b2
 clear mA
 go_wp2_with fail
 refine (law25_awake _).mono ?_; rintro e w3 ⟨rfl, b3⟩
 replace KA := KA.next b3
 replace B0 := B0.trans (b3.mono B0.size)
 clear b3
 go_wp2
 go_ret
 exact ⟨rfl, B0⟩
set_option maxRecDepth 20000 in
theorem bad (x0 : Nat) (v : Value) (R C : Int) (xs : List Nat) (w : World) (mA : Fm w v R C xs) (hf : (R ≤ 4 ∧ C ≤ 4 ∧ xs.length ≤ 100)) (hs : ¬ (Fd R C xs.length ∧ R = C)) :
  Calls Try.prog 11 #[.int .u8 x0, v] w (LawOk w) := by
 obtain ⟨p, ep⟩ : ∃ p, p = Ps (x0 % 12) := ⟨_, rfl⟩
 have hp : FP p := by rw [ep]; exact Ps_FP (by omega)
 have ht : Trial p := by rw [ep]; exact Ps_trial (by omega)
 have cOf : ∀ w : World, Calls Try.prog 17 #[.int .u8 x0] w fun e w' => e = .returned (.agg #[.int .u64 (p : Nat)]) ∧ Below w.heap.size w w' := fun w => by rw [ep]; exact law9_Of x0 w
 have cP : ∀ w : World, Calls Try.prog 18 #[.int .u8 x0] w fun e w' => e = .returned (.int .u64 (p : Nat)) ∧ w = w' := fun w => by rw [ep]; exact ref8_P x0 w
 have hp2 := hp.1
 have hp3 := hp.2
 have HP := Lib.hid hp; have HT := Lib.hid ht; have COF := Lib.hid cOf; have CP := Lib.hid cP
 clear hp ht cOf cP ep
 obtain ⟨aA, cA, rfl⟩ := mA.agg
 obtain ⟨wb, ew, KA, B0, hsz⟩ := boxes1 w 63 [.int .i64 R, .int .i64 C, .slice aA xs.length cA]
 clear hsz
 replace mA := mA.next B0
 have HF := Lib.hid hf; have HS := Lib.hid hs; clear hf hs
 go_enter Try.func11, Try.ntmps11
 go_upto_region 1 with (fail)
 rw [← ew]
 clear ew
 go_wp2_with fail
 refine (law25_awake _).mono ?_; rintro e w1 ⟨rfl, b1⟩
 replace mA := mA.next b1
 replace KA := KA.next b1
 replace B0 := B0.trans (b1.mono B0.size)
 clear b1
 have qKA0 := KA.cell 0
 have qKA1 := KA.cell 1
 have qKA2 := KA.cell 2
 go_wp2_with fail
 refine (rf21_Few _ R C 4 xs _ mA true (decide_eq_true HF.out).symm).mono ?_; rintro e w2 ⟨rfl, b2⟩
 clear qKA0 qKA1 qKA2
 replace mA := mA.next b2
 replace KA := KA.next b2
 replace B0 := B0.trans (b2.mono B0.size)
 clear b2
 go_wp2_with fail
 refine (COF.out _).mono ?_; rintro e w3 ⟨rfl, b3⟩
 replace mA := mA.next b3
 replace KA := KA.next b3
 replace B0 := B0.trans (b3.mono B0.size)
 clear b3
 go_wp2_with fail
 refine (CP.out _).mono ?_; rintro e wx ⟨rfl, rfl⟩
 obtain ⟨w4, e4, KF, b4, hs4⟩ := boxes1 w3 29 [.int .u64 p]
 clear hs4
 replace mA := mA.next b4
 replace KA := KA.next b4
 replace B0 := B0.trans (b4.mono B0.size)
 clear b4
 go_upto_region 4 with (fail)
 rw [← e4]
 clear e4
 have qKF0 := KF.cell 0
 have qKA0 := KA.cell 0
 have qKA1 := KA.cell 1
 have qKA2 := KA.cell 2
 go_wp2_with fail
 refine (fb_Frobenius_no p _ R C xs _ mA HS.out).mono ?_; rintro e w5 ⟨rfl, b5⟩
 clear qKF0 qKA0 qKA1 qKA2
 replace mA := mA.next b5
 replace KA := KA.next b5
 replace KF := KF.next b5
 replace B0 := B0.trans (b5.mono B0.size)
 clear b5
 obtain ⟨w6, e6, KM, KY, b6, hs6⟩ := boxes2 w5 63 63 [.int .i64 0, .int .i64 0, .slice none 0 0] [.int .i64 0, .int .i64 0, .slice none 0 0]
 clear hs6
 replace mA := mA.next b6
 replace KA := KA.next b6
 replace KF := KF.next b6
 replace B0 := B0.trans (b6.mono B0.size)
 clear b6
 go_upto_region 5 with (fail)
 rw [← e6]
 clear e6
 have qKF0 := KF.cell 0
 have qKA0 := KA.cell 0
 have qKA1 := KA.cell 1
 have qKA2 := KA.cell 2
 go_wp2_with fail
 refine (fb_Invariants_no p _ R C xs _ mA HS.out).mono ?_; rintro e w7 ⟨rfl, b7⟩
 clear qKF0 qKA0 qKA1 qKA2
 replace mA := mA.next b7
 replace KA := KA.next b7
 replace KF := KF.next b7
 replace KM := KM.next b7
 replace KY := KY.next b7
 replace B0 := B0.trans (b7.mono B0.size)
 clear b7
 go_upto_region 6 with (fail)
 have qKA0 := KA.cell 0
 have qKA1 := KA.cell 1
 have qKA2 := KA.cell 2
 go_wp2_with fail
 refine (law25_square _ R C xs _ mA false (decide_eq_false HS.out).symm).mono ?_; rintro e w8 ⟨rfl, b8⟩
 clear qKA0 qKA1 qKA2
 replace mA := mA.next b8
 replace KA := KA.next b8
 replace KF := KF.next b8
 replace KM := KM.next b8
 replace KY := KY.next b8
 replace B0 := B0.trans (b8.mono B0.size)
 clear b8
 have qKM0 := KM.cell 0
 have qKM1 := KM.cell 1
 have qKM2 := KM.cell 2
 go_wp2_with fail
 refine (rf21_None none 0 _).mono ?_; rintro e w9 ⟨rfl, b9⟩
 clear qKM0 qKM1 qKM2
 replace mA := mA.next b9
 replace KA := KA.next b9
 replace KF := KF.next b9
 replace KM := KM.next b9
 replace KY := KY.next b9
 replace B0 := B0.trans (b9.mono B0.size)
 clear b9
 have qKY0 := KY.cell 0
 have qKY1 := KY.cell 1
 have qKY2 := KY.cell 2
 go_wp2_with fail
 refine (rf21_None none 0 _).mono ?_; rintro e w10 ⟨rfl, b10⟩
 clear qKY0 qKY1 qKY2
 replace mA := mA.next b10
 replace KA := KA.next b10
 replace KF := KF.next b10
 replace KM := KM.next b10
 replace KY := KY.next b10
 replace B0 := B0.trans (b10.mono B0.size)
 clear b10
 go_wp2
 go_ret
 exact ⟨rfl, B0⟩
set_option maxRecDepth 20000 in
theorem good (x0 : Nat) (n : Nat) (v : Value) (xs : List Nat) (w : World) (mA : Fm w v n n xs) (hn : n ≤ 4) (hx : xs.length = n * n) (hf : ((n : Int) ≤ 4 ∧ (n : Int) ≤ 4 ∧ xs.length ≤ 100)) :
  Calls Try.prog 11 #[.int .u8 x0, v] w (LawOk w) := by
 obtain ⟨p, ep⟩ : ∃ p, p = Ps (x0 % 12) := ⟨_, rfl⟩
 have hp : FP p := by rw [ep]; exact Ps_FP (by omega)
 have ht : Trial p := by rw [ep]; exact Ps_trial (by omega)
 have cOf : ∀ w : World, Calls Try.prog 17 #[.int .u8 x0] w fun e w' => e = .returned (.agg #[.int .u64 (p : Nat)]) ∧ Below w.heap.size w w' := fun w => by rw [ep]; exact law9_Of x0 w
 have cP : ∀ w : World, Calls Try.prog 18 #[.int .u8 x0] w fun e w' => e = .returned (.int .u64 (p : Nat)) ∧ w = w' := fun w => by rw [ep]; exact ref8_P x0 w
 have hp2 := hp.1
 have hp3 := hp.2
 have HP := Lib.hid hp; have HT := Lib.hid ht; have COF := Lib.hid cOf; have CP := Lib.hid cP
 clear hp ht cOf cP ep
 obtain ⟨aA, cA, rfl⟩ := mA.agg
 obtain ⟨wb, ew, KA, B0, hsz⟩ := boxes1 w 63 [.int .i64 n, .int .i64 n, .slice aA xs.length cA]
 clear hsz
 replace mA := mA.next B0
 have HF := Lib.hid hf; have HX := Lib.hid hx; clear hf hx
 have HFd := Lib.hid (Fd.of (show n ≤ 64 by omega) (show n ≤ 64 by omega) HX.out)
 have hnn : ((n : Int) != (n : Int)) = false := by simp
 obtain ⟨A, eA⟩ : ∃ A, A = mx p n n xs := ⟨_, rfl⟩
 have EA := Lib.hid eA; clear eA
 go_enter Try.func11, Try.ntmps11
 go_upto_region 1 with (fail)
 rw [← ew]
 clear ew
 go_wp2_with fail
 refine (law25_awake _).mono ?_; rintro e w1 ⟨rfl, b1⟩
 replace mA := mA.next b1
 replace KA := KA.next b1
 replace B0 := B0.trans (b1.mono B0.size)
 clear b1
 have qKA0 := KA.cell 0
 have qKA1 := KA.cell 1
 have qKA2 := KA.cell 2
 go_wp2_with fail
 refine (rf21_Few _ n n 4 xs _ mA true (decide_eq_true HF.out).symm).mono ?_; rintro e w2 ⟨rfl, b2⟩
 clear qKA0 qKA1 qKA2
 replace mA := mA.next b2
 replace KA := KA.next b2
 replace B0 := B0.trans (b2.mono B0.size)
 clear b2
 go_wp2_with fail
 refine (COF.out _).mono ?_; rintro e w3 ⟨rfl, b3⟩
 replace mA := mA.next b3
 replace KA := KA.next b3
 replace B0 := B0.trans (b3.mono B0.size)
 clear b3
 go_wp2_with fail
 refine (CP.out _).mono ?_; rintro e wx ⟨rfl, rfl⟩
 obtain ⟨w4, e4, KF, b4, hs4⟩ := boxes1 w3 29 [.int .u64 p]
 clear hs4
 replace mA := mA.next b4
 replace KA := KA.next b4
 replace B0 := B0.trans (b4.mono B0.size)
 clear b4
 go_upto_region 4 with (fail)
 rw [← e4]
 clear e4
 have qKF0 := KF.cell 0
 have qKA0 := KA.cell 0
 have qKA1 := KA.cell 1
 have qKA2 := KA.cell 2
 go_wp2_with fail
 refine (fb_Frobenius p _ n xs _ HP.out HT.out mA hn HX.out).mono ?_; rintro e w5 ⟨W, U, V, X, M, Y, hSF, hM, hdY, hYA, aF, kF, aY, kY, rfl, oF, oY, b5⟩; rw [← EA.out] at hSF hM hYA
 clear qKF0 qKA0 qKA1 qKA2
 replace mA := mA.next b5
 replace KA := KA.next b5
 replace KF := KF.next b5
 replace B0 := B0.trans (b5.mono B0.size)
 clear b5
 have mF : Fm w5 (.agg #[.int .i64 n, .int .i64 n, .slice aF (n * n) kF]) n n (tbv M) := ⟨_, rfl, oF.sl⟩
 have mY : Fm w5 (.agg #[.int .i64 n, .int .i64 n, .slice aY (n * n) kY]) n n (tbv Y) := ⟨_, rfl, oY.sl⟩
 have lF := Lib.hid (tbv_length M); have lY := Lib.hid (tbv_length Y)
 have wF := Lib.hid (tbv_wf HP.out.pos M); have wY := Lib.hid (tbv_wf HP.out.pos Y)
 have HSF := Lib.hid hSF; have HM := Lib.hid hM
 obtain ⟨d, ed⟩ : ∃ d, d = (dn n (mx p n n (tbv Y)).e : Zp p).val := ⟨_, rfl⟩
 have hd0 : d ≠ 0 := by
  rw [ed, mx_tbv]
  intro h
  obtain ⟨Y', hI⟩ := hdY
  exact inv_det (Zp.one_ne HT.out) hI (zp0 h)
 have hd1 : ((d : Int) == 0) = false := by simpa using hd0
 have HD := Lib.hid ed
 have hq := Lib.hid (show mx p n n (tbv Y) * mx p n n xs = mx p n n (tbv M) * mx p n n (tbv Y) by rw [mx_tbv, mx_tbv, ← EA.out]; exact hYA)
 clear oF oY ed hd0 hdY hYA hSF hM
 obtain ⟨w6, e6, KM, KY, b6, hs6⟩ := boxes2 w5 63 63 [.int .i64 n, .int .i64 n, .slice aF (n * n) kF] [.int .i64 n, .int .i64 n, .slice aY (n * n) kY]
 clear hs6
 replace mA := mA.next b6
 replace KA := KA.next b6
 replace KF := KF.next b6
 replace mF := mF.next b6
 replace mY := mY.next b6
 replace B0 := B0.trans (b6.mono B0.size)
 clear b6
 go_upto_region 5 with (fail)
 rw [← e6]
 clear e6
 have qKF0 := KF.cell 0
 have qKA0 := KA.cell 0
 have qKA1 := KA.cell 1
 have qKA2 := KA.cell 2
 go_wp2_with fail
 refine (fb_Invariants p _ n xs _ HP.out HT.out mA hn HX.out).mono ?_; rintro e w7 ⟨W2, U2, V2, X2, h1, h2, h3, h4, h5, iv, us, rfl, QI, b7⟩; rw [← EA.out] at h1
 clear qKF0 qKA0 qKA1 qKA2
 replace mA := mA.next b7
 replace KA := KA.next b7
 replace KF := KF.next b7
 replace mF := mF.next b7
 replace mY := mY.next b7
 replace KM := KM.next b7
 replace KY := KY.next b7
 replace B0 := B0.trans (b7.mono B0.size)
 clear b7
 have hSF2 : SmF A W2 U2 V2 X2 := ⟨h1, h2, h3, h4, h5⟩
 obtain ⟨zz, zl, nz, hz⟩ := QI.ns HP.out
 have hIv : IvL n W2 zz := ⟨zl, fun j hj => ⟨(hz j hj).1, (hz j hj).2.1⟩⟩
 have hb := ivl_bls HP.out HT.out hSF2 hIv
 have HBD := Lib.hid hb.1
 have HFM := Lib.hid (show (MT.of n n (fmE (bls p zz)) : MT (Zp p) n n) = M by rw [hb.2.1, HM.out]; exact frM_same (smF_same HT.out (Eqv.refl _) hSF2 HSF.out))
 have MOL := Lib.hid (ivl_mol HP.out HT.out hSF2 hIv (by omega))
 have zl4 : zz.length ≤ 1000 := by rw [zl]; have := pks_len W2 n; omega
 clear hSF2 hIv hb h1 h2 h3 h4 h5 QI hz us zl
 go_upto_region 6 with (fail)
 have qKA0 := KA.cell 0
 have qKA1 := KA.cell 1
 have qKA2 := KA.cell 2
 go_wp2_with fail
 refine (law25_square _ n n xs _ mA true (decide_eq_true ⟨HFd.out, rfl⟩).symm).mono ?_; rintro e w8 ⟨rfl, b8⟩
 clear qKA0 qKA1 qKA2
 replace mA := mA.next b8
 replace KA := KA.next b8
 replace KF := KF.next b8
 replace mF := mF.next b8
 replace mY := mY.next b8
 replace KM := KM.next b8
 replace KY := KY.next b8
 replace nz := nz.next b8
 replace B0 := B0.trans (b8.mono B0.size)
 clear b8
 go_wp2_with fail
 refine (law25_plain _ zz _ nz zl4).mono ?_; rintro e w9 ⟨rl, rfl, nl, b9⟩
 replace mA := mA.next b9
 replace KA := KA.next b9
 replace KF := KF.next b9
 replace mF := mF.next b9
 replace mY := mY.next b9
 replace KM := KM.next b9
 replace KY := KY.next b9
 replace nz := nz.next b9
 replace B0 := B0.trans (b9.mono B0.size)
 clear b9
 go_wp2_with fail
 refine (rf25_Degrees p _ zz n _ HP.out nl MOL.out HBD.out (by omega)).mono ?_; rintro e w10 ⟨rfl, b10⟩
 replace mA := mA.next b10
 replace KA := KA.next b10
 replace KF := KF.next b10
 replace mF := mF.next b10
 replace mY := mY.next b10
 replace KM := KM.next b10
 replace KY := KY.next b10
 replace nz := nz.next b10
 replace nl := nl.next b10
 replace B0 := B0.trans (b10.mono B0.size)
 clear b10
 clear nl
 have qKA0 := KA.cell 0
 have qKY0 := KY.cell 0
 have qKY1 := KY.cell 1
 have qKY2 := KY.cell 2
 go_wp2_with fail
 refine (rf21_Normal _ n n p (tbv Y) _ mY (Fd.of (by omega) (by omega) lY.out) wY.out (by have := at2 hn; rw [lY.out]; omega)).mono ?_; rintro e w11 ⟨rfl, b11⟩
 clear qKA0 qKY0 qKY1 qKY2
 replace mA := mA.next b11
 replace KA := KA.next b11
 replace KF := KF.next b11
 replace mF := mF.next b11
 replace mY := mY.next b11
 replace KM := KM.next b11
 replace KY := KY.next b11
 replace nz := nz.next b11
 replace B0 := B0.trans (b11.mono B0.size)
 clear b11
 have qKA0 := KA.cell 0
 have qKY0 := KY.cell 0
 have qKY1 := KY.cell 1
 have qKY2 := KY.cell 2
 go_wp2_with fail
 refine ((show Calls Try.prog 59 _ _ (RetW _ (.int .u64 (d : Nat))) by rw [HD.out]; exact rf21_Det p HP.out n (by omega) _ (tbv Y) _ mY lY.out)).mono ?_; rintro e w12 ⟨rfl, b12⟩
 clear qKA0 qKY0 qKY1 qKY2
 replace mA := mA.next b12
 replace KA := KA.next b12
 replace KF := KF.next b12
 replace mF := mF.next b12
 replace mY := mY.next b12
 replace KM := KM.next b12
 replace KY := KY.next b12
 replace nz := nz.next b12
 replace B0 := B0.trans (b12.mono B0.size)
 clear b12
 go_upto_region 11 with (fail)
 have bd := dw w12
 replace mA := mA.next bd
 replace KA := KA.next bd
 replace KF := KF.next bd
 replace mF := mF.next bd
 replace mY := mY.next bd
 replace KM := KM.next bd
 replace KY := KY.next bd
 replace nz := nz.next bd
 replace B0 := B0.trans (bd.mono B0.size)
 clear bd
 have z0 := Lib.hid fun (w : World) (hS : Below (w12.drew).heap.size (w12.drew) w) => And.intro ((KA.at hS) 0) (And.intro ((KA.at hS) 1) (And.intro ((KA.at hS) 2) (And.intro ((KY.at hS) 0) (And.intro ((KY.at hS) 1) (And.intro ((KY.at hS) 2) (And.intro ((KM.at hS) 0) (And.intro ((KM.at hS) 1) ((KM.at hS) 2))))))))
 refine startL (S := (fun w' => Below (w12.drew).heap.size (w12.drew) w')) (by kernel_rfl) (Below.refl _ _) (fun hHeld => ?_)
 refine tf 0 z0.out ?_
 refine tk 1 ?_
 refine tk 3 ?_
 refine tk 4 ?_
 refine tk 6 ?_
 refine on 2 fun K hK => ?_
 go_simp
 go_at_call 46
 (with_reducible refine (law25_plain _ zz _ (nz.next hHeld) zl4).mono ?_); rintro e y1 ⟨rl2, rfl, nl2, c1⟩
 refine hK.out _ _ (hHeld.trans (c1.mono hHeld.size)) (fun hHeld => ?_)
 clear hK K
 try simp only [Act.put, zq1, zq2, zq3]
 refine on 5 fun K hK => ?_
 go_simp
 go_at_call 49
 (with_reducible refine (rf25_Form p _ zz n _ HP.out nl2 MOL.out zl4 (by omega)).mono ?_); rintro e y2 ⟨a2, k2, rfl, o2, c2⟩; rw [HFM.out] at o2 ⊢
 have m2 : Fm y2 (.agg #[.int .i64 n, .int .i64 n, .slice a2 (tbv M).length k2]) n n (tbv M) := ⟨_, rfl, o2.sl⟩
 refine hK.out _ _ (hHeld.trans (c2.mono hHeld.size)) (fun hHeld => ?_)
 clear hK K
 try simp only [Act.put, zq1, zq2, zq3]
 refine on 7 fun K hK => ?_
 go_simp
 go_at_call 48
 (with_reducible refine (rf21_Is _ _ n n p (tbv M) (tbv M) _ (by omega) (mF.next hHeld) m2 (Fd.of (by omega) (by omega) lF.out) wF.out rfl (fun _ _ => rfl) (by have := at2 hn; rw [lF.out]; omega)).mono ?_); rintro e y3 ⟨rfl, c3⟩
 clear m2 o2
 refine hK.out _ _ (hHeld.trans (c3.mono hHeld.size)) (fun hHeld => ?_)
 clear hK K
 try simp only [Act.put, zq1, zq2, zq3]
 refine tk 8 ?_
 refine tf 9 z0.out ?_
 refine tf 10 z0.out ?_
 refine tk 11 ?_
 refine tf 13 z0.out ?_
 refine tf 14 z0.out ?_
 refine tk 15 ?_
 refine tk 17 ?_
 refine on 12 fun K hK => ?_
 go_simp
 go_at_call 61
 (with_reducible refine (rf21_Mul p _ _ n n n (tbv Y) xs _ HP.out (mY.next hHeld) (mA.next hHeld) (by omega) (by omega) (by omega) lY.out HX.out).mono ?_); rintro e y4 ⟨a5, k5, rfl, o5, c5⟩; obtain ⟨Q1, eQ1⟩ : ∃ Q, Q = mx p n n (tbv Y) * mx p n n xs := ⟨_, rfl⟩; rw [← eQ1] at o5 ⊢
 have EQ1 := Lib.hid eQ1; clear eQ1
 refine hK.out _ _ (hHeld.trans (c5.mono hHeld.size)) (fun hHeld => ?_)
 clear hK K
 try simp only [Act.put, zq1, zq2, zq3]
 refine on 16 fun K hK => ?_
 go_simp
 go_at_call 61
 (with_reducible refine (rf21_Mul p _ _ n n n (tbv M) (tbv Y) _ HP.out (mF.next hHeld) (mY.next hHeld) (by omega) (by omega) (by omega) lF.out lY.out).mono ?_); rintro e y5 ⟨a6, k6, rfl, o6, c6⟩; rw [← hq.out, ← EQ1.out] at o6 ⊢; replace o5 := o5.next c6; have l5 := Lib.hid (tbv_length Q1); have m5 : Fm y5 (.agg #[.int .i64 n, .int .i64 n, .slice a5 (tbv Q1).length k5]) n n (tbv Q1) := ⟨_, rfl, o5.sl⟩; have m6 : Fm y5 (.agg #[.int .i64 n, .int .i64 n, .slice a6 (tbv Q1).length k6]) n n (tbv Q1) := ⟨_, rfl, o6.sl⟩
 refine hK.out _ _ (hHeld.trans (c6.mono hHeld.size)) (fun hHeld => ?_)
 clear hK K
 try simp only [Act.put, zq1, zq2, zq3]
 refine on 18 fun K hK => ?_
 go_simp
 go_at_call 60
 (with_reducible refine (rf21_Same _ _ n n p (tbv Q1) (tbv Q1) _ (by omega) m5 m6 rfl (fun _ _ => rfl) (by have := at2 hn; rw [l5.out]; omega)).mono ?_); rintro e y6 ⟨rfl, c7⟩
 refine hK.out _ _ (hHeld.trans (c7.mono hHeld.size)) (fun hHeld => ?_)
 clear hK K
 try simp only [Act.put, zq1, zq2, zq3]
 refine tk 19 ?_
 refine tk 20 ?_
 clear z0; refine doneL (by kernel_rfl) ?_ _
 replace B0 := B0.trans (hHeld.mono B0.size)
 clear mA KA mF mY KM KY hHeld nz KF
 go_wp2
 go_ret
 exact ⟨rfl, B0⟩
theorem walk (x0 : Nat) (v : Value) (R C : Int) (xs : List Nat) (w : World) (mA : Fm w v R C xs) : Calls Try.prog 11 #[.int .u8 x0, v] w (LawOk w) := by
 by_cases hf : R ≤ 4 ∧ C ≤ 4 ∧ xs.length ≤ 100
 ·by_cases hs : Fd R C xs.length ∧ R = C
  ·obtain ⟨h1, rfl⟩ := hs
   obtain ⟨r, c, e1, e2, h3, h4, h5⟩ := h1.nat
   subst e1
   have e3 : c = r := by omega
   subst e3
   exact good x0 c v xs w mA (by omega) h5 hf
  ·exact bad x0 v R C xs w mA hf hs
 ·exact not_few x0 v R C xs w mA hf
set_option maxRecDepth 100000 in
theorem lifted (os : Os) (started : os.Started) (H : Type) (enc : TypeId × Value → H) :
  ReturnsInHanded {} Try.checked os 11 .any (Rows.frobFormsSpec.pre6 enc Try.prog Try.f11 Rows.frobFormsRow.domain false) (Rows.frobFormsSpec.post enc Try.prog Try.f11 false true false false) := by
 refine returnsInHanded_of_change (C := Try.checked) own started (by kernel_rfl) Try.func11
  (ChangeSpec.witness6 (enc := enc) (C := Try.checked) false ⟨#[], #[.int .u8 0, .agg #[.int .i64 0, .int .i64 0, .slice none 0 0]], []⟩ 8 (by kernel_rfl) (by kernel_rfl) (by kernel_rfl) (by kernel_rfl)) ?_
 intro W base args ds gs before hval0 hW hcnd _
 have hval : ∀ (j : Nat) t v, Try.f11.params[j]? = some t → args[j]? = some v → Value.okWide Try.prog W .any base t v := hval0
 have hW' := hW
 obtain ⟨p, q, hA0, hV, rfl, hfz, hnd⟩ := hW
 have hA : DataW.TrodAll enc Try.prog W 0 (fun _ => true) true Try.f11.params.toList args.toList ds p := hA0
 rw [Try.params11] at hA hval
 obtain ⟨v0, vs0, d0, ds0, p0, q0, hargs, rfl, rfl, h0, r0⟩ := trodAll_cons hA
 obtain ⟨v1, vs1, d1, ds1, p1, q1, rfl, rfl, rfl, h1, r1⟩ := trodAll_cons r0
 obtain ⟨rfl, rfl, rfl⟩ := trodAll_nil r1
 obtain rfl : args = #[v0, v1] := by cases args; simp_all
 obtain ⟨rfl, rfl⟩ := trodVars_none hV
 have k0 := h0
 have lt0 : ∀ x ∈ p0, x.block < W.heap.size := by obtain ⟨m, hm⟩ := k0; exact DataW.trod_lt m _ _ _ hm
 obtain ⟨i0, rfl, rfl, rfl, wi0⟩ := open_int Try.underlying5 (hval 0 5 v0 rfl rfl) h0
 obtain ⟨x0, rfl⟩ := Int.eq_ofNat_of_zero_le (wf_u8_bounds wi0).1
 have k1 := h1
 have lt1 : ∀ x ∈ p1, x.block < W.heap.size := by obtain ⟨m, hm⟩ := k1; exact DataW.trod_lt m _ _ _ hm
 obtain ⟨R1, C1, xs1, m1, rb1, cb1⟩ := open_fm (hval 1 63 v1 rfl rfl) h1
 clear hA0 hval0
 refine (walk x0 v1 R1 C1 xs1 W  m1).mono fun e W' ⟨he, bel⟩ => ?_
 subst he
 exact ⟨_, rfl, _, _, _, [], _, [], hW', trodAll_mk1 (shut_bool Try.underlying4 _), (trodAll_cons_mk (Below.trod laidOut (by kernel_rfl) (of_decide_eq_true (by kernel_rfl)) k0 bel lt0) (trodAll_cons_mk (Below.trod laidOut (by kernel_rfl) (of_decide_eq_true (by kernel_rfl)) k1 bel lt1) trodAll_mk0)), rfl, bel.frame _, fun h => by cases h⟩
theorem over : Rows.frobFormsRow.holds Try.pinned (OpenSpec.ofChange Rows.frobFormsSpec) :=
 OpenClaim.holds_of_wide 11 Try.f11 rfl rfl rfl rfl rfl rfl rfl ⟨rfl, rfl, rfl, rfl, rfl⟩ rfl rfl rfl rfl rfl (by kernel_rfl) Try.func11 (by kernel_rfl)
  (of_decide_eq_true (by kernel_rfl)) (by unfold Func.isWrapper; first | (rw [if_pos (by decide +kernel)]; kernel_rfl) | (rw [if_neg (by decide +kernel)]; exact ⟨rfl, rfl⟩))
  (fun os started H enc _ => lifted os started H enc)
theorem proved : Rows.FrobFormsSaid := over
#print axioms proved
end Go.Proofs.Ytkmfhabgempjiaa.frobForms
