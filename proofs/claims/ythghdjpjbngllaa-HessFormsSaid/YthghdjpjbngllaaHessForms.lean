/- HessForms: for every number and matrix the law returns true: the form and what makes it are those that the chapter says, or none. No condition. -/
import Derived.Test.YthghdjpjbngllaaRows
import Derived.Test.YthghdjpjbngllaaRfz
namespace Go.Proofs.Ythghdjpjbngllaa.hessForms
open Go.ChangeShapes Go.WideShapes Go.ChangeAt Go.RowKit
open Go.ChangeMaps (open_string shut_string)

theorem own : ownKnob Try.prog.godebug = none := by kernel_rfl
theorem laidOut : laidOutB Try.prog = true := by kernel_rfl

theorem at2 {n : Nat} (hn : n ≤ 4) : n * n ≤ 16 := Nat.mul_le_mul hn hn

set_option maxRecDepth 20000 in
set_option maxHeartbeats 4000000 in
theorem not_few (x0 : Nat) (v : Value) (R C : Int) (xs : List Nat) (w : World) (mA : Fm w v R C xs) (hf : ¬ (R ≤ 4 ∧ C ≤ 4 ∧ xs.length ≤ 100)) :
    Calls Try.prog 5 #[.int .u8 x0, v] w (LawOk w) := by
  obtain ⟨aA, cA, rfl⟩ := mA.agg
  obtain ⟨wb, ew, KA, B0, hsz⟩ := boxes1 w 42 [.int .i64 R, .int .i64 C, .slice aA xs.length cA]
  clear hsz
  replace mA := mA.next B0
  have HF := Lib.hid hf; clear hf
  go_enter Try.func5, Try.ntmps5
  go_upto_region 1 with (fail)
  rw [← ew]
  clear ew
  go_wp2_with fail
  refine (law22_awake _).mono ?_; rintro e w1 ⟨rfl, b1⟩
  replace mA := mA.next b1
  replace KA := KA.next b1
  replace B0 := B0.trans (b1.mono B0.size)
  clear b1
  have qKA0 := KA.cell 0
  have qKA1 := KA.cell 1
  have qKA2 := KA.cell 2
  go_wp2_with fail
  refine (rf21_Few _ R C 4 xs _ mA false (decide_eq_false HF.out).symm).mono ?_; rintro e w2 ⟨rfl, b2⟩
  clear qKA0 qKA1 qKA2
  replace mA := mA.next b2
  replace KA := KA.next b2
  replace B0 := B0.trans (b2.mono B0.size)
  clear b2
  clear mA
  go_wp2_with fail
  refine (law22_awake _).mono ?_; rintro e w3 ⟨rfl, b3⟩
  replace KA := KA.next b3
  replace B0 := B0.trans (b3.mono B0.size)
  clear b3
  go_wp2
  go_ret
  exact ⟨rfl, B0⟩

set_option maxRecDepth 20000 in
set_option maxHeartbeats 4000000 in
theorem bad (x0 : Nat) (v : Value) (R C : Int) (xs : List Nat) (w : World) (mA : Fm w v R C xs) (hf : R ≤ 4 ∧ C ≤ 4 ∧ xs.length ≤ 100) (hs : ¬ (Fd R C xs.length ∧ R = C)) :
    Calls Try.prog 5 #[.int .u8 x0, v] w (LawOk w) := by
  obtain ⟨p, ep⟩ : ∃ p, p = Ps (x0 % 12) := ⟨_, rfl⟩
  have hp : FP p := by rw [ep]; exact Ps_FP (by omega)
  have ht : Trial p := by rw [ep]; exact Ps_trial (by omega)
  have cOf : ∀ w : World, Calls Try.prog 17 #[.int .u8 x0] w fun e w' => e = .returned (.agg #[.int .u64 (p : Nat)]) ∧ Below w.heap.size w w' := fun w => by rw [ep]; exact law9_Of x0 w
  have cP : ∀ w : World, Calls Try.prog 18 #[.int .u8 x0] w fun e w' => e = .returned (.int .u64 (p : Nat)) ∧ w = w' := fun w => by rw [ep]; exact ref8_P x0 w
  have hp2 := hp.1
  have hp3 := hp.2
  have HP := Lib.hid hp; have HT := Lib.hid ht; have COF := Lib.hid cOf; have CP := Lib.hid cP
  clear hp ht cOf cP ep
  obtain ⟨aA, cA, rfl⟩ := mA.agg
  obtain ⟨wb, ew, KA, B0, hsz⟩ := boxes1 w 42 [.int .i64 R, .int .i64 C, .slice aA xs.length cA]
  clear hsz
  replace mA := mA.next B0
  have HF := Lib.hid hf; have HS := Lib.hid hs; clear hf hs
  go_enter Try.func5, Try.ntmps5
  go_upto_region 1 with (fail)
  rw [← ew]
  clear ew
  go_wp2_with fail
  refine (law22_awake _).mono ?_; rintro e w1 ⟨rfl, b1⟩
  replace mA := mA.next b1
  replace KA := KA.next b1
  replace B0 := B0.trans (b1.mono B0.size)
  clear b1
  have qKA0 := KA.cell 0
  have qKA1 := KA.cell 1
  have qKA2 := KA.cell 2
  go_wp2_with fail
  refine (rf21_Few _ R C 4 xs _ mA true (decide_eq_true HF.out).symm).mono ?_; rintro e w2 ⟨rfl, b2⟩
  clear qKA0 qKA1 qKA2
  replace mA := mA.next b2
  replace KA := KA.next b2
  replace B0 := B0.trans (b2.mono B0.size)
  clear b2
  go_wp2_with fail
  refine (COF.out _).mono ?_; rintro e w3 ⟨rfl, b3⟩
  replace mA := mA.next b3
  replace KA := KA.next b3
  replace B0 := B0.trans (b3.mono B0.size)
  clear b3
  go_wp2_with fail
  refine (CP.out _).mono ?_; rintro e wx ⟨rfl, rfl⟩
  obtain ⟨w4, e4, KF, b4, hs4⟩ := boxes1 w3 29 [.int .u64 p]
  clear hs4
  replace mA := mA.next b4
  replace KA := KA.next b4
  replace B0 := B0.trans (b4.mono B0.size)
  clear b4
  go_upto_region 4 with (fail)
  rw [← e4]
  clear e4
  have qKF0 := KF.cell 0
  have qKA0 := KA.cell 0
  have qKA1 := KA.cell 1
  have qKA2 := KA.cell 2
  go_wp2_with fail
  refine (hs_Hessenberg_no p _ R C xs _ mA HS.out).mono ?_; rintro e w5 ⟨rfl, b5⟩
  clear qKF0 qKA0 qKA1 qKA2
  replace mA := mA.next b5
  replace KA := KA.next b5
  replace KF := KF.next b5
  replace B0 := B0.trans (b5.mono B0.size)
  clear b5
  obtain ⟨w6, e6, KH, KP, b6, hs6⟩ := boxes2 w5 42 42 [.int .i64 0, .int .i64 0, .slice none 0 0] [.int .i64 0, .int .i64 0, .slice none 0 0]
  clear hs6
  replace mA := mA.next b6
  replace KA := KA.next b6
  replace KF := KF.next b6
  replace B0 := B0.trans (b6.mono B0.size)
  clear b6
  go_upto_region 5 with (fail)
  rw [← e6]
  clear e6
  have qKA0 := KA.cell 0
  have qKA1 := KA.cell 1
  have qKA2 := KA.cell 2
  go_wp2_with fail
  refine (law22_square _ R C xs _ mA false (decide_eq_false HS.out).symm).mono ?_; rintro e w7 ⟨rfl, b7⟩
  clear qKA0 qKA1 qKA2
  replace mA := mA.next b7
  replace KA := KA.next b7
  replace KF := KF.next b7
  replace KH := KH.next b7
  replace KP := KP.next b7
  replace B0 := B0.trans (b7.mono B0.size)
  clear b7
  have qKH0 := KH.cell 0
  have qKH1 := KH.cell 1
  have qKH2 := KH.cell 2
  go_wp2_with fail
  refine (rf21_None none 0 _).mono ?_; rintro e w8 ⟨rfl, b8⟩
  clear qKH0 qKH1 qKH2
  replace mA := mA.next b8
  replace KA := KA.next b8
  replace KF := KF.next b8
  replace KH := KH.next b8
  replace KP := KP.next b8
  replace B0 := B0.trans (b8.mono B0.size)
  clear b8
  have qKP0 := KP.cell 0
  have qKP1 := KP.cell 1
  have qKP2 := KP.cell 2
  go_wp2_with fail
  refine (rf21_None none 0 _).mono ?_; rintro e w9 ⟨rfl, b9⟩
  clear qKP0 qKP1 qKP2
  replace mA := mA.next b9
  replace KA := KA.next b9
  replace KF := KF.next b9
  replace KH := KH.next b9
  replace KP := KP.next b9
  replace B0 := B0.trans (b9.mono B0.size)
  clear b9
  go_wp2
  go_ret
  exact ⟨rfl, B0⟩

set_option maxRecDepth 20000 in
set_option maxHeartbeats 4000000 in
theorem good (x0 : Nat) (v : Value) (n : Nat) (xs : List Nat) (w : World) (mA : Fm w v n n xs) (hn : n ≤ 4) (hx : xs.length = n * n) (hf : (n : Int) ≤ 4 ∧ (n : Int) ≤ 4 ∧ xs.length ≤ 100) :
    Calls Try.prog 5 #[.int .u8 x0, v] w (LawOk w) := by
  obtain ⟨p, ep⟩ : ∃ p, p = Ps (x0 % 12) := ⟨_, rfl⟩
  have hp : FP p := by rw [ep]; exact Ps_FP (by omega)
  have ht : Trial p := by rw [ep]; exact Ps_trial (by omega)
  have cOf : ∀ w : World, Calls Try.prog 17 #[.int .u8 x0] w fun e w' => e = .returned (.agg #[.int .u64 (p : Nat)]) ∧ Below w.heap.size w w' := fun w => by rw [ep]; exact law9_Of x0 w
  have cP : ∀ w : World, Calls Try.prog 18 #[.int .u8 x0] w fun e w' => e = .returned (.int .u64 (p : Nat)) ∧ w = w' := fun w => by rw [ep]; exact ref8_P x0 w
  have hp2 := hp.1
  have hp3 := hp.2
  have HP := Lib.hid hp; have HT := Lib.hid ht; have COF := Lib.hid cOf; have CP := Lib.hid cP
  clear hp ht cOf cP ep
  obtain ⟨aA, cA, rfl⟩ := mA.agg
  obtain ⟨wb, ew, KA, B0, hsz⟩ := boxes1 w 42 [.int .i64 n, .int .i64 n, .slice aA xs.length cA]
  clear hsz
  replace mA := mA.next B0
  have HF := Lib.hid hf; have HX := Lib.hid hx; clear hf hx
  have HFd := Lib.hid (Fd.of (show n ≤ 64 by omega) (show n ≤ 64 by omega) HX.out)
  have hnn : ((n : Int) != (n : Int)) = false := by simp
  go_enter Try.func5, Try.ntmps5
  go_upto_region 1 with (fail)
  rw [← ew]
  clear ew
  go_wp2_with fail
  refine (law22_awake _).mono ?_; rintro e w1 ⟨rfl, b1⟩
  replace mA := mA.next b1
  replace KA := KA.next b1
  replace B0 := B0.trans (b1.mono B0.size)
  clear b1
  have qKA0 := KA.cell 0
  have qKA1 := KA.cell 1
  have qKA2 := KA.cell 2
  go_wp2_with fail
  refine (rf21_Few _ n n 4 xs _ mA true (decide_eq_true HF.out).symm).mono ?_; rintro e w2 ⟨rfl, b2⟩
  clear qKA0 qKA1 qKA2
  replace mA := mA.next b2
  replace KA := KA.next b2
  replace B0 := B0.trans (b2.mono B0.size)
  clear b2
  go_wp2_with fail
  refine (COF.out _).mono ?_; rintro e w3 ⟨rfl, b3⟩
  replace mA := mA.next b3
  replace KA := KA.next b3
  replace B0 := B0.trans (b3.mono B0.size)
  clear b3
  go_wp2_with fail
  refine (CP.out _).mono ?_; rintro e wx ⟨rfl, rfl⟩
  obtain ⟨w4, e4, KF, b4, hs4⟩ := boxes1 w3 29 [.int .u64 p]
  clear hs4
  replace mA := mA.next b4
  replace KA := KA.next b4
  replace B0 := B0.trans (b4.mono B0.size)
  clear b4
  go_upto_region 4 with (fail)
  rw [← e4]
  clear e4
  have qKF0 := KF.cell 0
  have qKA0 := KA.cell 0
  have qKA1 := KA.cell 1
  have qKA2 := KA.cell 2
  go_wp2_with fail
  refine (hs_Hessenberg p _ n xs _ HP.out HT.out mA (by omega) HX.out).mono ?_; rintro e w5 ⟨aH, kH, aP, kP, H, P, rfl, oH, oP, ⟨⟨X, hI⟩, hQ, hHes⟩, b5⟩
  clear qKF0 qKA0 qKA1 qKA2
  replace mA := mA.next b5
  replace KA := KA.next b5
  replace KF := KF.next b5
  replace B0 := B0.trans (b5.mono B0.size)
  clear b5
  have mH : Fm w5 (.agg #[.int .i64 n, .int .i64 n, .slice aH (tbv H).length kH]) n n (tbv H) := ⟨_, rfl, oH.sl⟩
  have mP : Fm w5 (.agg #[.int .i64 n, .int .i64 n, .slice aP (tbv P).length kP]) n n (tbv P) := ⟨_, rfl, oP.sl⟩
  clear oH oP
  have lH := Lib.hid (tbv_length H); have lP := Lib.hid (tbv_length P)
  have wH := Lib.hid (tbv_wf HP.out.pos H); have wP := Lib.hid (tbv_wf HP.out.pos P)
  obtain ⟨d, ed⟩ : ∃ d, d = (dn n (mx p n n (tbv P)).e : Zp p).val := ⟨_, rfl⟩
  have hd0 : d ≠ 0 := by
    rw [ed, mx_tbv]
    intro h
    have h1 := hI.det
    rw [show P.det = 0 from zp0 h, CR.zero_mul] at h1
    have h2 := congrArg Zp.val h1
    rw [Zp.zero_val, ← Zp.of_one, Zp.val_of, Nat.mod_eq_of_lt (by omega)] at h2
    omega
  have hd1 : ((d : Int) == 0) = false := by simpa using hd0
  have HD := Lib.hid ed
  have hes := Lib.hid (show ∀ i c, c + 1 < i → i < n → (tbv H).getD (i * n + c) 0 % p = 0 from fun i c h1 h2 => by
    rw [tbv_get H h2 (by omega), hHes i c h1 h2, Zp.zero_val, Nat.zero_mod])
  have hq := Lib.hid (show mx p n n (tbv P) * mx p n n xs = mx p n n (tbv H) * mx p n n (tbv P) by rw [mx_tbv, mx_tbv]; exact hQ)
  clear ed hd0 hHes hQ hI
  obtain ⟨w6, e6, KH, KP, b6, hs6⟩ := boxes2 w5 42 42 [.int .i64 n, .int .i64 n, .slice aH (tbv H).length kH] [.int .i64 n, .int .i64 n, .slice aP (tbv P).length kP]
  clear hs6
  replace mA := mA.next b6
  replace KA := KA.next b6
  replace KF := KF.next b6
  replace mH := mH.next b6
  replace mP := mP.next b6
  replace B0 := B0.trans (b6.mono B0.size)
  clear b6
  go_upto_region 5 with (fail)
  rw [← e6]
  clear e6
  have qKA0 := KA.cell 0
  have qKA1 := KA.cell 1
  have qKA2 := KA.cell 2
  go_wp2_with fail
  refine (law22_square _ n n xs _ mA true (decide_eq_true ⟨HFd.out, rfl⟩).symm).mono ?_; rintro e w7 ⟨rfl, b7⟩
  clear qKA0 qKA1 qKA2
  replace mA := mA.next b7
  replace KA := KA.next b7
  replace KF := KF.next b7
  replace mH := mH.next b7
  replace mP := mP.next b7
  replace KH := KH.next b7
  replace KP := KP.next b7
  replace B0 := B0.trans (b7.mono B0.size)
  clear b7
  have qKH0 := KH.cell 0
  have qKH1 := KH.cell 1
  have qKH2 := KH.cell 2
  go_wp2_with fail
  refine (rf21_Normal _ n n p (tbv H) _ mH (Fd.of (by omega) (by omega) lH.out) wH.out (by have := at2 hn; rw [lH.out]; omega)).mono ?_; rintro e w8 ⟨rfl, b8⟩
  clear qKH0 qKH1 qKH2
  replace mA := mA.next b8
  replace KA := KA.next b8
  replace KF := KF.next b8
  replace mH := mH.next b8
  replace mP := mP.next b8
  replace KH := KH.next b8
  replace KP := KP.next b8
  replace B0 := B0.trans (b8.mono B0.size)
  clear b8
  have qKP0 := KP.cell 0
  have qKP1 := KP.cell 1
  have qKP2 := KP.cell 2
  go_wp2_with fail
  refine (rf21_Normal _ n n p (tbv P) _ mP (Fd.of (by omega) (by omega) lP.out) wP.out (by have := at2 hn; rw [lP.out]; omega)).mono ?_; rintro e w9 ⟨rfl, b9⟩
  clear qKP0 qKP1 qKP2
  replace mA := mA.next b9
  replace KA := KA.next b9
  replace KF := KF.next b9
  replace mH := mH.next b9
  replace mP := mP.next b9
  replace KH := KH.next b9
  replace KP := KP.next b9
  replace B0 := B0.trans (b9.mono B0.size)
  clear b9
  have qKH0 := KH.cell 0
  have qKH1 := KH.cell 1
  have qKH2 := KH.cell 2
  have qKA0 := KA.cell 0
  have qKP0 := KP.cell 0
  go_wp2_with fail
  refine (rf22_Hessenberg _ n p (tbv H) _ (by omega) mH (by omega) lH.out hes.out).mono ?_; rintro e w10 ⟨rfl, b10⟩
  clear qKH0 qKH1 qKH2 qKA0 qKP0
  replace mA := mA.next b10
  replace KA := KA.next b10
  replace KF := KF.next b10
  replace mH := mH.next b10
  replace mP := mP.next b10
  replace KH := KH.next b10
  replace KP := KP.next b10
  replace B0 := B0.trans (b10.mono B0.size)
  clear b10
  have qKP0 := KP.cell 0
  have qKP1 := KP.cell 1
  have qKP2 := KP.cell 2
  go_wp2_with fail
  refine ((show Calls Try.prog 32 _ _ (RetW _ (.int .u64 (d : Nat))) by rw [HD.out]; exact rf21_Det p HP.out n (by omega) _ (tbv P) _ mP lP.out)).mono ?_; rintro e w11 ⟨rfl, b11⟩
  clear qKP0 qKP1 qKP2
  replace mA := mA.next b11
  replace KA := KA.next b11
  replace KF := KF.next b11
  replace mH := mH.next b11
  replace mP := mP.next b11
  replace KH := KH.next b11
  replace KP := KP.next b11
  replace B0 := B0.trans (b11.mono B0.size)
  clear b11
  go_upto_region 9 with (fail)
  have bd := Drawn.below (w' := w11.drew) ⟨1, rfl⟩ w11.heap.size
  replace mA := mA.next bd
  replace KA := KA.next bd
  replace KF := KF.next bd
  replace mH := mH.next bd
  replace mP := mP.next bd
  replace KH := KH.next bd
  replace KP := KP.next bd
  replace B0 := B0.trans (bd.mono B0.size)
  clear bd
  refine startL (S := (fun w' => Below (w11.drew).heap.size (w11.drew) w')) (by kernel_rfl) (Below.refl _ _) (fun hHeld => ?_)
  refine takeL 0 (v := ?_) rfl (by kernel_rfl) (by kernel_rfl) (by kernel_rfl) (fun _ _ _ h => h) ⟨by rfl, ?_⟩ (by assumption) ?_
  rotate_left
  · intro w hS; have fa := KA.at hS; have f1 := fa 0; have f2 := fa 1; have f3 := fa 2; clear fa; have fb := KP.at hS; have f4 := fb 0; have f5 := fb 1; have f6 := fb 2; clear fb; have fc := KH.at hS; have f7 := fc 0; have f8 := fc 1; have f9 := fc 2; clear fc; go_simp <;> with_reducible rfl
  simp only [Act.put, List.setIfInBounds_toArray, List.set_cons_zero, List.set_cons_succ]
  refine takeL 1 (v := ?_) rfl (by kernel_rfl) (by kernel_rfl) (by kernel_rfl) (fun _ _ _ h => h) ⟨by rfl, ?_⟩ (by assumption) ?_
  rotate_left
  · intro w hS; have fa := KA.at hS; have f1 := fa 0; have f2 := fa 1; have f3 := fa 2; clear fa; have fb := KP.at hS; have f4 := fb 0; have f5 := fb 1; have f6 := fb 2; clear fb; have fc := KH.at hS; have f7 := fc 0; have f8 := fc 1; have f9 := fc 2; clear fc; go_simp <;> with_reducible rfl
  simp only [Act.put, List.setIfInBounds_toArray, List.set_cons_zero, List.set_cons_succ]
  refine takeL 2 (v := ?_) rfl (by kernel_rfl) (by kernel_rfl) (by kernel_rfl) (fun _ _ _ h => h) ⟨by rfl, ?_⟩ (by assumption) ?_
  rotate_left
  · intro w hS; go_simp <;> with_reducible rfl
  simp only [Act.put, List.setIfInBounds_toArray, List.set_cons_zero, List.set_cons_succ]
  refine takeL 4 (v := ?_) rfl (by kernel_rfl) (by kernel_rfl) (by kernel_rfl) (fun _ _ _ h => h) ⟨by rfl, ?_⟩ (by assumption) ?_
  rotate_left
  · intro w hS; have fa := KA.at hS; have f1 := fa 0; have f2 := fa 1; have f3 := fa 2; clear fa; have fb := KP.at hS; have f4 := fb 0; have f5 := fb 1; have f6 := fb 2; clear fb; have fc := KH.at hS; have f7 := fc 0; have f8 := fc 1; have f9 := fc 2; clear fc; go_simp <;> with_reducible rfl
  simp only [Act.put, List.setIfInBounds_toArray, List.set_cons_zero, List.set_cons_succ]
  refine takeL 5 (v := ?_) rfl (by kernel_rfl) (by kernel_rfl) (by kernel_rfl) (fun _ _ _ h => h) ⟨by rfl, ?_⟩ (by assumption) ?_
  rotate_left
  · intro w hS; have fa := KA.at hS; have f1 := fa 0; have f2 := fa 1; have f3 := fa 2; clear fa; have fb := KP.at hS; have f4 := fb 0; have f5 := fb 1; have f6 := fb 2; clear fb; have fc := KH.at hS; have f7 := fc 0; have f8 := fc 1; have f9 := fc 2; clear fc; go_simp <;> with_reducible rfl
  simp only [Act.put, List.setIfInBounds_toArray, List.set_cons_zero, List.set_cons_succ]
  refine takeL 6 (v := ?_) rfl (by kernel_rfl) (by kernel_rfl) (by kernel_rfl) (fun _ _ _ h => h) ⟨by rfl, ?_⟩ (by assumption) ?_
  rotate_left
  · intro w hS; go_simp <;> with_reducible rfl
  simp only [Act.put, List.setIfInBounds_toArray, List.set_cons_zero, List.set_cons_succ]
  refine takeL 8 (v := ?_) rfl (by kernel_rfl) (by kernel_rfl) (by kernel_rfl) (fun _ _ _ h => h) ⟨by rfl, ?_⟩ (by assumption) ?_
  rotate_left
  · intro w hS; go_simp <;> with_reducible rfl
  simp only [Act.put, List.setIfInBounds_toArray, List.set_cons_zero, List.set_cons_succ]
  refine oneL 3 rfl (by kernel_rfl) (by rfl) (fun K hK => ?_)
  go_simp
  go_at_call 34
  (with_reducible refine (rf21_Mul p _ _ n n n (tbv P) xs _ HP.out (mP.next hHeld) (mA.next hHeld) (by omega) (by omega) (by omega) lP.out HX.out).mono ?_); rintro e y1 ⟨a5, k5, rfl, o5, c5⟩; obtain ⟨Q1, eQ1⟩ : ∃ Q, Q = mx p n n (tbv P) * mx p n n xs := ⟨_, rfl⟩; rw [← eQ1] at o5 ⊢
  refine hK.out _ _ (hHeld.trans (c5.mono hHeld.size)) (fun hHeld => ?_)
  clear hK K
  try simp only [Act.put, List.setIfInBounds_toArray, List.set_cons_zero, List.set_cons_succ]
  refine oneL 7 rfl (by kernel_rfl) (by rfl) (fun K hK => ?_)
  go_simp
  go_at_call 34
  (with_reducible refine (rf21_Mul p _ _ n n n (tbv H) (tbv P) _ HP.out (mH.next hHeld) (mP.next hHeld) (by omega) (by omega) (by omega) lH.out lP.out).mono ?_); rintro e y2 ⟨a6, k6, rfl, o6, c6⟩; rw [← hq.out, ← eQ1] at o6 ⊢; clear eQ1; replace o5 := o5.next c6; have l5 := Lib.hid (tbv_length Q1); have m5 : Fm y2 (.agg #[.int .i64 n, .int .i64 n, .slice a5 (tbv Q1).length k5]) n n (tbv Q1) := ⟨_, rfl, o5.sl⟩; have m6 : Fm y2 (.agg #[.int .i64 n, .int .i64 n, .slice a6 (tbv Q1).length k6]) n n (tbv Q1) := ⟨_, rfl, o6.sl⟩
  refine hK.out _ _ (hHeld.trans (c6.mono hHeld.size)) (fun hHeld => ?_)
  clear hK K
  try simp only [Act.put, List.setIfInBounds_toArray, List.set_cons_zero, List.set_cons_succ]
  refine oneL 9 rfl (by kernel_rfl) (by rfl) (fun K hK => ?_)
  go_simp
  go_at_call 33
  (with_reducible refine (rf21_Same _ _ n n p (tbv Q1) (tbv Q1) _ (by omega) m5 m6 rfl (fun _ _ => rfl) (by have := at2 hn; rw [l5.out]; omega)).mono ?_); rintro e y3 ⟨rfl, c7⟩
  refine hK.out _ _ (hHeld.trans (c7.mono hHeld.size)) (fun hHeld => ?_)
  clear hK K
  try simp only [Act.put, List.setIfInBounds_toArray, List.set_cons_zero, List.set_cons_succ]
  refine takeL 10 (v := ?_) rfl (by kernel_rfl) (by kernel_rfl) (by kernel_rfl) (fun _ _ _ h => h) ⟨by rfl, ?_⟩ (by assumption) ?_
  rotate_left
  · intro w hS; go_simp <;> with_reducible rfl
  simp only [Act.put, List.setIfInBounds_toArray, List.set_cons_zero, List.set_cons_succ]
  refine doneL (by kernel_rfl) ?_ _
  replace B0 := B0.trans (hHeld.mono B0.size)
  clear mA KA mH mP KH KP o5 o6 hHeld
  go_wp2
  go_ret
  exact ⟨rfl, B0⟩

set_option maxHeartbeats 1000000 in
theorem walk (x0 : Nat) (v : Value) (R C : Int) (xs : List Nat) (w : World) (mA : Fm w v R C xs) : Calls Try.prog 5 #[.int .u8 x0, v] w (LawOk w) := by
  by_cases hf : R ≤ 4 ∧ C ≤ 4 ∧ xs.length ≤ 100
  · by_cases hs : Fd R C xs.length ∧ R = C
    · obtain ⟨h1, rfl⟩ := hs
      obtain ⟨r, c, e1, e2, h3, h4, h5⟩ := h1.nat
      subst e1
      have e3 : c = r := by omega
      subst e3
      exact good x0 v c xs w mA (by omega) h5 hf
    · exact bad x0 v R C xs w mA hf hs
  · exact not_few x0 v R C xs w mA hf

set_option maxRecDepth 100000 in
theorem lifted (os : Os) (started : os.Started) (H : Type) (enc : TypeId × Value → H) :
    ReturnsInHanded {} Try.checked os 5 .any (Rows.hessFormsSpec.pre6 enc Try.prog Try.f5 Rows.hessFormsRow.domain false) (Rows.hessFormsSpec.post enc Try.prog Try.f5 false true false false) := by
  refine returnsInHanded_of_change (C := Try.checked) own started (by kernel_rfl) Try.func5
    (ChangeSpec.witness6 (enc := enc) (C := Try.checked) false ⟨#[], #[.int .u8 0, .agg #[.int .i64 0, .int .i64 0, .slice none 0 0]], []⟩ 8 (by kernel_rfl) (by kernel_rfl) (by kernel_rfl) (by kernel_rfl)) ?_
  intro W base args ds gs before hval0 hW hcnd _
  have hval : ∀ (j : Nat) t v, Try.f5.params[j]? = some t → args[j]? = some v → Value.okWide Try.prog W .any base t v := hval0
  have hW' := hW
  obtain ⟨p, q, hA0, hV, rfl, hfz, hnd⟩ := hW
  have hA : DataW.TrodAll enc Try.prog W 0 (fun _ => true) true Try.f5.params.toList args.toList ds p := hA0
  rw [Try.params5] at hA hval
  obtain ⟨v0, vs0, d0, ds0, p0, q0, hargs, rfl, rfl, h0, r0⟩ := trodAll_cons hA
  obtain ⟨v1, vs1, d1, ds1, p1, q1, rfl, rfl, rfl, h1, r1⟩ := trodAll_cons r0
  obtain ⟨rfl, rfl, rfl⟩ := trodAll_nil r1
  obtain rfl : args = #[v0, v1] := by cases args; simp_all
  obtain ⟨rfl, rfl⟩ := trodVars_none hV
  have k0 := h0
  have lt0 : ∀ x ∈ p0, x.block < W.heap.size := by obtain ⟨m, hm⟩ := k0; exact DataW.trod_lt m _ _ _ hm
  obtain ⟨i0, rfl, rfl, rfl, wi0⟩ := open_int Try.underlying5 (hval 0 5 v0 rfl rfl) h0
  obtain ⟨x0, rfl⟩ := Int.eq_ofNat_of_zero_le (wf_u8_bounds wi0).1
  have k1 := h1
  have lt1 : ∀ x ∈ p1, x.block < W.heap.size := by obtain ⟨m, hm⟩ := k1; exact DataW.trod_lt m _ _ _ hm
  obtain ⟨R1, C1, xs1, m1, rb1, cb1⟩ := open_fm (hval 1 42 v1 rfl rfl) h1
  clear hA0 hval0
  refine (walk x0 v1 R1 C1 xs1 W  m1).mono fun e W' ⟨he, bel⟩ => ?_
  subst he
  exact ⟨_, rfl, _, _, _, [], _, [], hW', trodAll_mk1 (shut_bool Try.underlying4 _), (trodAll_cons_mk (Below.trod laidOut (by kernel_rfl) (of_decide_eq_true (by kernel_rfl)) k0 bel lt0) (trodAll_cons_mk (Below.trod laidOut (by kernel_rfl) (of_decide_eq_true (by kernel_rfl)) k1 bel lt1) trodAll_mk0)), rfl, bel.frame _, fun h => by cases h⟩

theorem over : Rows.hessFormsRow.holds Try.pinned (OpenSpec.ofChange Rows.hessFormsSpec) :=
  OpenClaim.holds_of_wide 5 Try.f5 rfl rfl rfl rfl rfl rfl rfl ⟨rfl, rfl, rfl, rfl, rfl⟩ rfl rfl rfl rfl rfl (by kernel_rfl) Try.func5 (by kernel_rfl)
    (of_decide_eq_true (by kernel_rfl)) (by unfold Func.isWrapper; first | (rw [if_pos (by decide +kernel)]; kernel_rfl) | (rw [if_neg (by decide +kernel)]; exact ⟨rfl, rfl⟩))
    (fun os started H enc _ => lifted os started H enc)

theorem proved : Rows.HessFormsSaid := over
#print axioms proved
end Go.Proofs.Ythghdjpjbngllaa.hessForms
