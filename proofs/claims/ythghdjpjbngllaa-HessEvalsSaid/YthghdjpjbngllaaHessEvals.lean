/- HessEvals: for every number, matrix and polynomial the law returns true: the value at a matrix is the one that the chapter says, or none; that of a product is the product. No condition. -/
import Derived.Test.YthghdjpjbngllaaRows
import Derived.Test.YthghdjpjbngllaaHeval
import Derived.Test.YthghdjpjbngllaaRfg
namespace Go.Proofs.Ythghdjpjbngllaa.hessEvals
open Go.ChangeShapes Go.WideShapes Go.ChangeAt Go.RowKit
open Go.ChangeMaps (open_string shut_string)

theorem own : ownKnob Try.prog.godebug = none := by kernel_rfl
theorem laidOut : laidOutB Try.prog = true := by kernel_rfl

theorem at2 {n : Nat} (hn : n ≤ 3) : n * n ≤ 9 := Nat.mul_le_mul hn hn

set_option maxRecDepth 20000 in
set_option maxHeartbeats 4000000 in
theorem not_few (x0 : Nat) (v u : Value) (R C : Int) (xs gs : List Nat) (w : World) (mA : Fm w v R C xs) (sq : Sl .u64 w u gs) (hf : ¬ (R ≤ 3 ∧ C ≤ 3 ∧ xs.length ≤ 100)) :
    Calls Try.prog 8 #[.int .u8 x0, v, u] w (LawOk w) := by
  obtain ⟨aA, cA, rfl⟩ := mA.agg
  obtain ⟨aq, bq, oq, cq, rfl, hcq, kq⟩ := sq
  have sq : Sl .u64 w (.slice aq gs.length cq) gs := ⟨aq, bq, oq, cq, rfl, hcq, kq⟩
  clear kq hcq
  obtain ⟨wb, ew, KA, B0, hsz⟩ := boxes1 w 42 [.int .i64 R, .int .i64 C, .slice aA xs.length cA]
  clear hsz
  replace mA := mA.next B0
  replace sq := sq.next B0
  have HF := Lib.hid hf; clear hf
  go_enter Try.func8, Try.ntmps8
  go_upto_region 1 with (fail)
  rw [← ew]
  clear ew
  go_wp2_with fail
  refine (law22_awake _).mono ?_; rintro e w1 ⟨rfl, b1⟩
  replace mA := mA.next b1
  replace KA := KA.next b1
  replace sq := sq.next b1
  replace B0 := B0.trans (b1.mono B0.size)
  clear b1
  have qKA0 := KA.cell 0
  have qKA1 := KA.cell 1
  have qKA2 := KA.cell 2
  go_wp2_with fail
  refine (rf21_Few _ R C 3 xs _ mA false (decide_eq_false HF.out).symm).mono ?_; rintro e w2 ⟨rfl, b2⟩
  clear qKA0 qKA1 qKA2
  replace mA := mA.next b2
  replace KA := KA.next b2
  replace sq := sq.next b2
  replace B0 := B0.trans (b2.mono B0.size)
  clear b2
  clear mA sq
  go_wp2_with fail
  refine (law22_awake _).mono ?_; rintro e w3 ⟨rfl, b3⟩
  replace KA := KA.next b3
  replace B0 := B0.trans (b3.mono B0.size)
  clear b3
  go_wp2
  go_ret
  exact ⟨rfl, B0⟩

set_option maxRecDepth 20000 in
set_option maxHeartbeats 4000000 in
theorem long (x0 : Nat) (v u : Value) (R C : Int) (xs gs : List Nat) (w : World) (mA : Fm w v R C xs) (sq : Sl .u64 w u gs) (hf : R ≤ 3 ∧ C ≤ 3 ∧ xs.length ≤ 100) (hg : ¬ gs.length ≤ 5) :
    Calls Try.prog 8 #[.int .u8 x0, v, u] w (LawOk w) := by
  obtain ⟨aA, cA, rfl⟩ := mA.agg
  obtain ⟨aq, bq, oq, cq, rfl, hcq, kq⟩ := sq
  have sq : Sl .u64 w (.slice aq gs.length cq) gs := ⟨aq, bq, oq, cq, rfl, hcq, kq⟩
  clear kq hcq
  obtain ⟨wb, ew, KA, B0, hsz⟩ := boxes1 w 42 [.int .i64 R, .int .i64 C, .slice aA xs.length cA]
  clear hsz
  replace mA := mA.next B0
  replace sq := sq.next B0
  have HF := Lib.hid hf; clear hf
  have hg5 : (5 : Int) < (gs.length : Int) := by omega
  clear hg
  go_enter Try.func8, Try.ntmps8
  go_upto_region 1 with (fail)
  rw [← ew]
  clear ew
  go_wp2_with fail
  refine (law22_awake _).mono ?_; rintro e w1 ⟨rfl, b1⟩
  replace mA := mA.next b1
  replace KA := KA.next b1
  replace sq := sq.next b1
  replace B0 := B0.trans (b1.mono B0.size)
  clear b1
  have qKA0 := KA.cell 0
  have qKA1 := KA.cell 1
  have qKA2 := KA.cell 2
  go_wp2_with fail
  refine (rf21_Few _ R C 3 xs _ mA true (decide_eq_true HF.out).symm).mono ?_; rintro e w2 ⟨rfl, b2⟩
  clear qKA0 qKA1 qKA2
  replace mA := mA.next b2
  replace KA := KA.next b2
  replace sq := sq.next b2
  replace B0 := B0.trans (b2.mono B0.size)
  clear b2
  clear mA sq
  go_wp2_with fail
  refine (law22_awake _).mono ?_; rintro e w3 ⟨rfl, b3⟩
  replace KA := KA.next b3
  replace B0 := B0.trans (b3.mono B0.size)
  clear b3
  go_wp2
  go_ret
  exact ⟨rfl, B0⟩

set_option maxRecDepth 20000 in
set_option maxHeartbeats 4000000 in
theorem bad (x0 : Nat) (v u : Value) (R C : Int) (xs gs : List Nat) (w : World) (mA : Fm w v R C xs) (sq : Sl .u64 w u gs) (hg : gs.length ≤ 5) (hf : R ≤ 3 ∧ C ≤ 3 ∧ xs.length ≤ 100) (hs : ¬ (Fd R C xs.length ∧ R = C)) :
    Calls Try.prog 8 #[.int .u8 x0, v, u] w (LawOk w) := by
  obtain ⟨p, ep⟩ : ∃ p, p = Ps (x0 % 12) := ⟨_, rfl⟩
  have hp : FP p := by rw [ep]; exact Ps_FP (by omega)
  have ht : Trial p := by rw [ep]; exact Ps_trial (by omega)
  have cOf : ∀ w : World, Calls Try.prog 17 #[.int .u8 x0] w fun e w' => e = .returned (.agg #[.int .u64 (p : Nat)]) ∧ Below w.heap.size w w' := fun w => by rw [ep]; exact law9_Of x0 w
  have cP : ∀ w : World, Calls Try.prog 18 #[.int .u8 x0] w fun e w' => e = .returned (.int .u64 (p : Nat)) ∧ w = w' := fun w => by rw [ep]; exact ref8_P x0 w
  have hp2 := hp.1
  have hp3 := hp.2
  have HP := Lib.hid hp; have HT := Lib.hid ht; have COF := Lib.hid cOf; have CP := Lib.hid cP
  clear hp ht cOf cP ep
  obtain ⟨aA, cA, rfl⟩ := mA.agg
  obtain ⟨aq, bq, oq, cq, rfl, hcq, kq⟩ := sq
  have sq : Sl .u64 w (.slice aq gs.length cq) gs := ⟨aq, bq, oq, cq, rfl, hcq, kq⟩
  clear kq hcq
  obtain ⟨wb, ew, KA, B0, hsz⟩ := boxes1 w 42 [.int .i64 R, .int .i64 C, .slice aA xs.length cA]
  clear hsz
  replace mA := mA.next B0
  replace sq := sq.next B0
  have HF := Lib.hid hf; have HS := Lib.hid hs; clear hf hs
  have hg5 : ¬ (5 : Int) < (gs.length : Int) := by omega
  have HG := Lib.hid hg; clear hg
  go_enter Try.func8, Try.ntmps8
  go_upto_region 1 with (fail)
  rw [← ew]
  clear ew
  go_wp2_with fail
  refine (law22_awake _).mono ?_; rintro e w1 ⟨rfl, b1⟩
  replace mA := mA.next b1
  replace KA := KA.next b1
  replace sq := sq.next b1
  replace B0 := B0.trans (b1.mono B0.size)
  clear b1
  have qKA0 := KA.cell 0
  have qKA1 := KA.cell 1
  have qKA2 := KA.cell 2
  go_wp2_with fail
  refine (rf21_Few _ R C 3 xs _ mA true (decide_eq_true HF.out).symm).mono ?_; rintro e w2 ⟨rfl, b2⟩
  clear qKA0 qKA1 qKA2
  replace mA := mA.next b2
  replace KA := KA.next b2
  replace sq := sq.next b2
  replace B0 := B0.trans (b2.mono B0.size)
  clear b2
  go_wp2_with fail
  refine (COF.out _).mono ?_; rintro e w3 ⟨rfl, b3⟩
  replace mA := mA.next b3
  replace KA := KA.next b3
  replace sq := sq.next b3
  replace B0 := B0.trans (b3.mono B0.size)
  clear b3
  go_wp2_with fail
  refine (CP.out _).mono ?_; rintro e wx ⟨rfl, rfl⟩
  obtain ⟨w4, e4, KF, b4, hs4⟩ := boxes1 w3 29 [.int .u64 p]
  clear hs4
  replace mA := mA.next b4
  replace KA := KA.next b4
  replace sq := sq.next b4
  replace B0 := B0.trans (b4.mono B0.size)
  clear b4
  go_upto_region 4 with (fail)
  rw [← e4]
  clear e4
  have qKF0 := KF.cell 0
  have qKA0 := KA.cell 0
  have qKA1 := KA.cell 1
  have qKA2 := KA.cell 2
  go_wp2_with fail
  refine (hs_Eval_no p _ _ R C xs _ mA HS.out).mono ?_; rintro e w5 ⟨rfl, b5⟩
  clear qKF0 qKA0 qKA1 qKA2
  replace mA := mA.next b5
  replace KA := KA.next b5
  replace sq := sq.next b5
  replace KF := KF.next b5
  replace B0 := B0.trans (b5.mono B0.size)
  clear b5
  obtain ⟨w6, e6, KE, b6, hs6⟩ := boxes1 w5 42 [.int .i64 0, .int .i64 0, .slice none 0 0]
  clear hs6
  replace mA := mA.next b6
  replace KA := KA.next b6
  replace sq := sq.next b6
  replace KF := KF.next b6
  replace B0 := B0.trans (b6.mono B0.size)
  clear b6
  go_upto_region 5 with (fail)
  rw [← e6]
  clear e6
  have qKA0 := KA.cell 0
  have qKA1 := KA.cell 1
  have qKA2 := KA.cell 2
  go_wp2_with fail
  refine (law22_square _ R C xs _ mA false (decide_eq_false HS.out).symm).mono ?_; rintro e w7 ⟨rfl, b7⟩
  clear qKA0 qKA1 qKA2
  replace mA := mA.next b7
  replace KA := KA.next b7
  replace sq := sq.next b7
  replace KF := KF.next b7
  replace KE := KE.next b7
  replace B0 := B0.trans (b7.mono B0.size)
  clear b7
  have qKE0 := KE.cell 0
  have qKE1 := KE.cell 1
  have qKE2 := KE.cell 2
  go_wp2_with fail
  refine (rf21_None none 0 _).mono ?_; rintro e w8 ⟨rfl, b8⟩
  clear qKE0 qKE1 qKE2
  replace mA := mA.next b8
  replace KA := KA.next b8
  replace sq := sq.next b8
  replace KF := KF.next b8
  replace KE := KE.next b8
  replace B0 := B0.trans (b8.mono B0.size)
  clear b8
  go_wp2
  go_ret
  exact ⟨rfl, B0⟩

set_option maxRecDepth 20000 in
set_option maxHeartbeats 4000000 in
theorem good (x0 : Nat) (v u : Value) (n : Nat) (xs gs : List Nat) (w : World) (mA : Fm w v n n xs) (sq : Sl .u64 w u gs) (hg : gs.length ≤ 5) (hn : n ≤ 3) (hx : xs.length = n * n) (hf : (n : Int) ≤ 3 ∧ (n : Int) ≤ 3 ∧ xs.length ≤ 100) :
    Calls Try.prog 8 #[.int .u8 x0, v, u] w (LawOk w) := by
  obtain ⟨p, ep⟩ : ∃ p, p = Ps (x0 % 12) := ⟨_, rfl⟩
  have hp : FP p := by rw [ep]; exact Ps_FP (by omega)
  have ht : Trial p := by rw [ep]; exact Ps_trial (by omega)
  have cOf : ∀ w : World, Calls Try.prog 17 #[.int .u8 x0] w fun e w' => e = .returned (.agg #[.int .u64 (p : Nat)]) ∧ Below w.heap.size w w' := fun w => by rw [ep]; exact law9_Of x0 w
  have cP : ∀ w : World, Calls Try.prog 18 #[.int .u8 x0] w fun e w' => e = .returned (.int .u64 (p : Nat)) ∧ w = w' := fun w => by rw [ep]; exact ref8_P x0 w
  have hp2 := hp.1
  have hp3 := hp.2
  have HP := Lib.hid hp; have HT := Lib.hid ht; have COF := Lib.hid cOf; have CP := Lib.hid cP
  clear hp ht cOf cP ep
  obtain ⟨aA, cA, rfl⟩ := mA.agg
  obtain ⟨aq, bq, oq, cq, rfl, hcq, kq⟩ := sq
  have sq : Sl .u64 w (.slice aq gs.length cq) gs := ⟨aq, bq, oq, cq, rfl, hcq, kq⟩
  clear kq hcq
  obtain ⟨wb, ew, KA, B0, hsz⟩ := boxes1 w 42 [.int .i64 n, .int .i64 n, .slice aA xs.length cA]
  clear hsz
  replace mA := mA.next B0
  replace sq := sq.next B0
  have HF := Lib.hid hf; have HX := Lib.hid hx; clear hf hx
  have HFd := Lib.hid (Fd.of (show n ≤ 64 by omega) (show n ≤ 64 by omega) HX.out)
  have hnn : ((n : Int) != (n : Int)) = false := by simp
  obtain ⟨A, eA⟩ : ∃ A, A = mx p n n xs := ⟨_, rfl⟩
  obtain ⟨M, eM⟩ : ∃ M, M = pev (pl p gs) A := ⟨_, rfl⟩
  have EA := Lib.hid eA; have EM := Lib.hid eM; clear eA eM
  have hg5 : ¬ (5 : Int) < (gs.length : Int) := by omega
  have HG := Lib.hid hg; clear hg
  go_enter Try.func8, Try.ntmps8
  go_upto_region 1 with (fail)
  rw [← ew]
  clear ew
  go_wp2_with fail
  refine (law22_awake _).mono ?_; rintro e w1 ⟨rfl, b1⟩
  replace mA := mA.next b1
  replace KA := KA.next b1
  replace sq := sq.next b1
  replace B0 := B0.trans (b1.mono B0.size)
  clear b1
  have qKA0 := KA.cell 0
  have qKA1 := KA.cell 1
  have qKA2 := KA.cell 2
  go_wp2_with fail
  refine (rf21_Few _ n n 3 xs _ mA true (decide_eq_true HF.out).symm).mono ?_; rintro e w2 ⟨rfl, b2⟩
  clear qKA0 qKA1 qKA2
  replace mA := mA.next b2
  replace KA := KA.next b2
  replace sq := sq.next b2
  replace B0 := B0.trans (b2.mono B0.size)
  clear b2
  go_wp2_with fail
  refine (COF.out _).mono ?_; rintro e w3 ⟨rfl, b3⟩
  replace mA := mA.next b3
  replace KA := KA.next b3
  replace sq := sq.next b3
  replace B0 := B0.trans (b3.mono B0.size)
  clear b3
  go_wp2_with fail
  refine (CP.out _).mono ?_; rintro e wx ⟨rfl, rfl⟩
  obtain ⟨w4, e4, KF, b4, hs4⟩ := boxes1 w3 29 [.int .u64 p]
  clear hs4
  replace mA := mA.next b4
  replace KA := KA.next b4
  replace sq := sq.next b4
  replace B0 := B0.trans (b4.mono B0.size)
  clear b4
  go_upto_region 4 with (fail)
  rw [← e4]
  clear e4
  have qKF0 := KF.cell 0
  have qKA0 := KA.cell 0
  have qKA1 := KA.cell 1
  have qKA2 := KA.cell 2
  go_wp2_with fail
  refine (hs_Eval p _ _ n gs xs _ HP.out sq mA (by omega) HX.out (by have := HG.out; omega)).mono ?_; rintro e w5 ⟨aE, kE, rfl, oE, b5⟩; rw [← EA.out, ← EM.out] at oE ⊢
  clear qKF0 qKA0 qKA1 qKA2
  replace mA := mA.next b5
  replace KA := KA.next b5
  replace sq := sq.next b5
  replace KF := KF.next b5
  replace B0 := B0.trans (b5.mono B0.size)
  clear b5
  have mE : Fm w5 (.agg #[.int .i64 n, .int .i64 n, .slice aE (tbv M).length kE]) n n (tbv M) := ⟨_, rfl, oE.sl⟩
  clear oE
  have lM := Lib.hid (tbv_length M)
  have wM := Lib.hid (tbv_wf HP.out.pos M)
  obtain ⟨w6, e6, KE, b6, hs6⟩ := boxes1 w5 42 [.int .i64 n, .int .i64 n, .slice aE (tbv M).length kE]
  clear hs6
  replace mA := mA.next b6
  replace KA := KA.next b6
  replace sq := sq.next b6
  replace KF := KF.next b6
  replace mE := mE.next b6
  replace B0 := B0.trans (b6.mono B0.size)
  clear b6
  go_upto_region 5 with (fail)
  rw [← e6]
  clear e6
  have qKA0 := KA.cell 0
  have qKA1 := KA.cell 1
  have qKA2 := KA.cell 2
  go_wp2_with fail
  refine (law22_square _ n n xs _ mA true (decide_eq_true ⟨HFd.out, rfl⟩).symm).mono ?_; rintro e w7 ⟨rfl, b7⟩
  clear qKA0 qKA1 qKA2
  replace mA := mA.next b7
  replace KA := KA.next b7
  replace sq := sq.next b7
  replace KF := KF.next b7
  replace mE := mE.next b7
  replace KE := KE.next b7
  replace B0 := B0.trans (b7.mono B0.size)
  clear b7
  go_upto_region 7 with (fail)
  go_cut [11, 12] (fun v11 v12 wx => ∃ g1 aE kE, v11 = .pointer (some ⟨g1, 0, none⟩) ∧ v12 = .int .i64 0 ∧ Blk 42 wx g1 [.int .i64 n, .int .i64 n, .slice aE (tbv (M * M)).length kE] ∧ Fm wx (.agg #[.int .i64 n, .int .i64 n, .slice aE (tbv (M * M)).length kE]) n n (tbv (M * M)) ∧ Below w7.heap.size w7 wx)
  case first =>
    have bd := Drawn.below (w' := w7.drew) ⟨1, rfl⟩ w7.heap.size
    replace mA := mA.next bd
    replace KA := KA.next bd
    replace sq := sq.next bd
    replace KF := KF.next bd
    replace mE := mE.next bd
    replace KE := KE.next bd
    replace B0 := B0.trans (bd.mono B0.size)
    refine startL (S := (fun w' => Below (w7.drew).heap.size (w7.drew) w')) (by kernel_rfl) (Below.refl _ _) (fun hHeld => ?_)
    refine takeL 0 (v := ?_) rfl (by kernel_rfl) (by kernel_rfl) (by kernel_rfl) (fun _ _ _ h => h) ⟨by rfl, ?_⟩ (by assumption) ?_
    rotate_left
    · intro w hS; have fa := KA.at hS; have f1 := fa 0; have f2 := fa 1; have f3 := fa 2; clear fa; have fb := KF.at hS; have f4 := fb 0; clear fb; go_simp <;> with_reducible rfl
    simp only [Act.put, List.setIfInBounds_toArray, List.set_cons_zero, List.set_cons_succ]
    refine takeL 1 (v := ?_) rfl (by kernel_rfl) (by kernel_rfl) (by kernel_rfl) (fun _ _ _ h => h) ⟨by rfl, ?_⟩ (by assumption) ?_
    rotate_left
    · intro w hS; have fa := KA.at hS; have f1 := fa 0; have f2 := fa 1; have f3 := fa 2; clear fa; have fb := KF.at hS; have f4 := fb 0; clear fb; go_simp <;> with_reducible rfl
    simp only [Act.put, List.setIfInBounds_toArray, List.set_cons_zero, List.set_cons_succ]
    refine takeL 2 (v := ?_) rfl (by kernel_rfl) (by kernel_rfl) (by kernel_rfl) (fun _ _ _ h => h) ⟨by rfl, ?_⟩ (by assumption) ?_
    rotate_left
    · intro w hS; go_simp <;> with_reducible rfl
    simp only [Act.put, List.setIfInBounds_toArray, List.set_cons_zero, List.set_cons_succ]
    refine takeL 3 (v := ?_) rfl (by kernel_rfl) (by kernel_rfl) (by kernel_rfl) (fun _ _ _ h => h) ⟨by rfl, ?_⟩ (by assumption) ?_
    rotate_left
    · intro w hS; go_simp <;> with_reducible rfl
    simp only [Act.put, List.setIfInBounds_toArray, List.set_cons_zero, List.set_cons_succ]
    refine takeL 5 (v := ?_) rfl (by kernel_rfl) (by kernel_rfl) (by kernel_rfl) (fun _ _ _ h => h) ⟨by rfl, ?_⟩ (by assumption) ?_
    rotate_left
    · intro w hS; have fa := KA.at hS; have f1 := fa 0; have f2 := fa 1; have f3 := fa 2; clear fa; have fb := KF.at hS; have f4 := fb 0; clear fb; go_simp <;> with_reducible rfl
    simp only [Act.put, List.setIfInBounds_toArray, List.set_cons_zero, List.set_cons_succ]
    refine twoL 4 10 rfl rfl (by kernel_rfl) (by rfl) (by rfl) (fun K hK => ?_) (fun K hK => ?_)
    · go_simp
      go_at_call 53
      (with_reducible refine (fp_Mul p _ _ gs gs _ HP.out (sq.next hHeld) (sq.next hHeld) (by have := HG.out; omega) (by have := HG.out; omega)).mono ?_); rintro e y1 ⟨r4, z4, rfl, o4, n4, v4, l4, c4⟩; have V4 := Lib.hid v4; clear v4 n4
      refine hK.out _ _ (hHeld.trans (c4.mono hHeld.size)) (fun hHeld => ?_)
      clear hK K
      try simp only [Act.put, List.setIfInBounds_toArray, List.set_cons_zero, List.set_cons_succ]
      refine twoL 6 10 rfl rfl (by kernel_rfl) (by rfl) (by rfl) (fun K hK => ?_) (fun K hK => ?_)
      · go_simp
        go_at_call 52
        (with_reducible refine (hs_Eval p _ _ n z4 xs _ HP.out o4.sl (mA.next hHeld) (by omega) HX.out (by have := HG.out; omega)).mono ?_); rintro e y2 ⟨a6, k6, rfl, o6, c6⟩; rw [← EA.out, V4.out, pev_mul, ← EM.out] at o6 ⊢
        refine hK.out _ _ (hHeld.trans (c6.mono hHeld.size)) (fun hHeld => ?_)
        clear hK K
        try simp only [Act.put, List.setIfInBounds_toArray, List.set_cons_zero, List.set_cons_succ]
        refine takeL 7 (v := ?_) rfl (by kernel_rfl) (by kernel_rfl) (by kernel_rfl) (fun _ _ _ h => h) ⟨by rfl, ?_⟩ (by assumption) ?_
        rotate_left
        · intro w hS; go_simp <;> with_reducible rfl
        simp only [Act.put, List.setIfInBounds_toArray, List.set_cons_zero, List.set_cons_succ]
        refine takeL 8 (v := ?_) rfl (by kernel_rfl) (by kernel_rfl) (by kernel_rfl) (fun _ _ _ h => h) ⟨by rfl, ?_⟩ (by assumption) ?_
        rotate_left
        · intro w hS; go_simp <;> with_reducible rfl
        simp only [Act.put, List.setIfInBounds_toArray, List.set_cons_zero, List.set_cons_succ]
        refine takeL 9 (v := ?_) rfl (by kernel_rfl) (by kernel_rfl) (by kernel_rfl) (fun _ _ _ h => h) ⟨by rfl, ?_⟩ (by assumption) ?_
        rotate_left
        · intro w hS; go_simp <;> with_reducible rfl
        simp only [Act.put, List.setIfInBounds_toArray, List.set_cons_zero, List.set_cons_succ]
        refine oneL 10 rfl (by kernel_rfl) (by rfl) (fun K hK => ?_)
        go_simp
        obtain ⟨ya, eya, KZ, bya, -⟩ := boxes1 y2 42 [.int .i64 0, .int .i64 0, .slice none 0 0]
        have hHd := hHeld
        refine hK.out _ _ (hHeld.alloc hHeld.size _) (fun hHeld => ?_)
        clear hK K
        try simp only [Act.put, List.setIfInBounds_toArray, List.set_cons_zero, List.set_cons_succ]
        rw [← eya] at hHeld ⊢
        obtain ⟨g1, eg1⟩ : ∃ g, g = y2.heap.size := ⟨_, rfl⟩
        have hg1 : w7.drew.heap.size ≤ g1 := by rw [eg1]; exact hHd.size
        rw [← eg1] at KZ
        try rw [← eg1]
        clear eya eg1
        replace o6 := o6.next bya
        refine oneL 11 rfl (by kernel_rfl) (by rfl) (fun K hK => ?_)
        have KY := KZ
        have y0 := KZ.cell 0; have y1_ := KZ.cell 1; have y2_ := KZ.cell 2; have z0 := KZ.free 0; have z1 := KZ.free 1; have z2 := KZ.free 2
        go_simp
        refine hK.out _ _ (((hHeld.setCell (p := ⟨g1, 0, none⟩) hg1 (.int .i64 n)).setCell (p := ⟨g1, 1, none⟩) hg1 (.int .i64 n)).setCell (p := ⟨g1, 2, none⟩) hg1 (.slice a6 (tbv (M * M)).length k6)) (fun hHeld => ?_)
        clear hK K
        try simp only [Act.put, List.setIfInBounds_toArray, List.set_cons_zero, List.set_cons_succ]
        refine takeL 12 (v := ?_) rfl (by kernel_rfl) (by kernel_rfl) (by kernel_rfl) (fun _ _ _ h => h) ⟨by rfl, ?_⟩ (by assumption) ?_
        rotate_left
        · intro w hS; go_simp <;> with_reducible rfl
        simp only [Act.put, List.setIfInBounds_toArray, List.set_cons_zero, List.set_cons_succ]
        refine doneL (by kernel_rfl) ?_ _
        have K15 := ((KY.set 0 (.int .i64 n)).set 1 (.int .i64 n)).set 2 (.slice a6 (tbv (M * M)).length k6)
        have o15 := ((o6.off KY 0 (.int .i64 n)).off (KY.set 0 _) 1 (.int .i64 n)).off ((KY.set 0 _).set 1 _) 2 (.slice a6 (tbv (M * M)).length k6)
        have m15 : Fm _ (.agg #[.int .i64 n, .int .i64 n, .slice a6 (tbv (M * M)).length k6]) n n (tbv (M * M)) := ⟨_, rfl, o15.sl⟩
        have bx := bd.trans (hHeld.mono bd.size)
        clear KZ KY y0 y1_ y2_ z0 z1 z2 o15 hHeld o6 mA KA sq mE KE KF B0
        go_wp2_with fail
        go_meet
        exact ⟨_, _, _, rfl, rfl, K15, m15, bx⟩
      · go_simp
        obtain ⟨ya, eya, KZ, bya, -⟩ := boxes1 y1 42 [.int .i64 0, .int .i64 0, .slice none 0 0]
        have hHd := hHeld
        refine hK.out _ _ (hHeld.alloc hHeld.size _) (fun hHeld => ?_)
        clear hK K
        try simp only [Act.put, List.setIfInBounds_toArray, List.set_cons_zero, List.set_cons_succ]
        rw [← eya] at hHeld ⊢
        obtain ⟨g1, eg1⟩ : ∃ g, g = y1.heap.size := ⟨_, rfl⟩
        have hg1 : w7.drew.heap.size ≤ g1 := by rw [eg1]; exact hHd.size
        rw [← eg1] at KZ
        try rw [← eg1]
        clear eya eg1
        replace o4 := o4.next bya
        refine oneL 6 rfl (by kernel_rfl) (by rfl) (fun K hK => ?_)
        go_simp
        go_at_call 52
        (with_reducible refine (hs_Eval p _ _ n z4 xs _ HP.out o4.sl (mA.next hHeld) (by omega) HX.out (by have := HG.out; omega)).mono ?_); rintro e y2 ⟨a6, k6, rfl, o6, c6⟩; rw [← EA.out, V4.out, pev_mul, ← EM.out] at o6 ⊢; replace KZ := KZ.next c6
        refine hK.out _ _ (hHeld.trans (c6.mono hHeld.size)) (fun hHeld => ?_)
        clear hK K
        try simp only [Act.put, List.setIfInBounds_toArray, List.set_cons_zero, List.set_cons_succ]
        refine takeL 7 (v := ?_) rfl (by kernel_rfl) (by kernel_rfl) (by kernel_rfl) (fun _ _ _ h => h) ⟨by rfl, ?_⟩ (by assumption) ?_
        rotate_left
        · intro w hS; go_simp <;> with_reducible rfl
        simp only [Act.put, List.setIfInBounds_toArray, List.set_cons_zero, List.set_cons_succ]
        refine takeL 8 (v := ?_) rfl (by kernel_rfl) (by kernel_rfl) (by kernel_rfl) (fun _ _ _ h => h) ⟨by rfl, ?_⟩ (by assumption) ?_
        rotate_left
        · intro w hS; go_simp <;> with_reducible rfl
        simp only [Act.put, List.setIfInBounds_toArray, List.set_cons_zero, List.set_cons_succ]
        refine takeL 9 (v := ?_) rfl (by kernel_rfl) (by kernel_rfl) (by kernel_rfl) (fun _ _ _ h => h) ⟨by rfl, ?_⟩ (by assumption) ?_
        rotate_left
        · intro w hS; go_simp <;> with_reducible rfl
        simp only [Act.put, List.setIfInBounds_toArray, List.set_cons_zero, List.set_cons_succ]
        refine oneL 11 rfl (by kernel_rfl) (by rfl) (fun K hK => ?_)
        have KY := KZ
        have y0 := KZ.cell 0; have y1_ := KZ.cell 1; have y2_ := KZ.cell 2; have z0 := KZ.free 0; have z1 := KZ.free 1; have z2 := KZ.free 2
        go_simp
        refine hK.out _ _ (((hHeld.setCell (p := ⟨g1, 0, none⟩) hg1 (.int .i64 n)).setCell (p := ⟨g1, 1, none⟩) hg1 (.int .i64 n)).setCell (p := ⟨g1, 2, none⟩) hg1 (.slice a6 (tbv (M * M)).length k6)) (fun hHeld => ?_)
        clear hK K
        try simp only [Act.put, List.setIfInBounds_toArray, List.set_cons_zero, List.set_cons_succ]
        refine takeL 12 (v := ?_) rfl (by kernel_rfl) (by kernel_rfl) (by kernel_rfl) (fun _ _ _ h => h) ⟨by rfl, ?_⟩ (by assumption) ?_
        rotate_left
        · intro w hS; go_simp <;> with_reducible rfl
        simp only [Act.put, List.setIfInBounds_toArray, List.set_cons_zero, List.set_cons_succ]
        refine doneL (by kernel_rfl) ?_ _
        have K15 := ((KY.set 0 (.int .i64 n)).set 1 (.int .i64 n)).set 2 (.slice a6 (tbv (M * M)).length k6)
        have o15 := ((o6.off KY 0 (.int .i64 n)).off (KY.set 0 _) 1 (.int .i64 n)).off ((KY.set 0 _).set 1 _) 2 (.slice a6 (tbv (M * M)).length k6)
        have m15 : Fm _ (.agg #[.int .i64 n, .int .i64 n, .slice a6 (tbv (M * M)).length k6]) n n (tbv (M * M)) := ⟨_, rfl, o15.sl⟩
        have bx := bd.trans (hHeld.mono bd.size)
        clear KZ KY y0 y1_ y2_ z0 z1 z2 o15 hHeld o6 mA KA sq mE KE KF B0
        go_wp2_with fail
        go_meet
        exact ⟨_, _, _, rfl, rfl, K15, m15, bx⟩
    · go_simp
      obtain ⟨ya0, eya, KZ, bya, -⟩ := boxes1 w7 42 [.int .i64 0, .int .i64 0, .slice none 0 0]
      have hHd := hHeld
      refine hK.out _ _ (hHeld.alloc hHeld.size _) (fun hHeld => ?_)
      clear hK K
      try simp only [Act.put, List.setIfInBounds_toArray, List.set_cons_zero, List.set_cons_succ]
      rw [← eya] at hHeld ⊢
      obtain ⟨ya, eyb⟩ : ∃ y, y = ya0.drew := ⟨_, rfl⟩
      rw [← eyb] at hHeld ⊢
      replace KZ : Blk 42 ya w7.heap.size [.int .i64 0, .int .i64 0, .slice none 0 0] := by rw [eyb]; exact KZ.drew
      clear eyb bya
      obtain ⟨g1, eg1⟩ : ∃ g, g = w7.heap.size := ⟨_, rfl⟩
      have hg1 : w7.drew.heap.size ≤ g1 := by rw [eg1]; exact hHd.size
      rw [← eg1] at KZ
      try rw [← eg1]
      clear eya eg1
      refine oneL 4 rfl (by kernel_rfl) (by rfl) (fun K hK => ?_)
      go_simp
      go_at_call 53
      (with_reducible refine (fp_Mul p _ _ gs gs _ HP.out (sq.next hHeld) (sq.next hHeld) (by have := HG.out; omega) (by have := HG.out; omega)).mono ?_); rintro e y1 ⟨r4, z4, rfl, o4, n4, v4, l4, c4⟩; have V4 := Lib.hid v4; clear v4 n4; replace KZ := KZ.next c4
      refine hK.out _ _ (hHeld.trans (c4.mono hHeld.size)) (fun hHeld => ?_)
      clear hK K
      try simp only [Act.put, List.setIfInBounds_toArray, List.set_cons_zero, List.set_cons_succ]
      refine oneL 6 rfl (by kernel_rfl) (by rfl) (fun K hK => ?_)
      go_simp
      go_at_call 52
      (with_reducible refine (hs_Eval p _ _ n z4 xs _ HP.out o4.sl (mA.next hHeld) (by omega) HX.out (by have := HG.out; omega)).mono ?_); rintro e y2 ⟨a6, k6, rfl, o6, c6⟩; rw [← EA.out, V4.out, pev_mul, ← EM.out] at o6 ⊢; replace KZ := KZ.next c6
      refine hK.out _ _ (hHeld.trans (c6.mono hHeld.size)) (fun hHeld => ?_)
      clear hK K
      try simp only [Act.put, List.setIfInBounds_toArray, List.set_cons_zero, List.set_cons_succ]
      refine takeL 7 (v := ?_) rfl (by kernel_rfl) (by kernel_rfl) (by kernel_rfl) (fun _ _ _ h => h) ⟨by rfl, ?_⟩ (by assumption) ?_
      rotate_left
      · intro w hS; go_simp <;> with_reducible rfl
      simp only [Act.put, List.setIfInBounds_toArray, List.set_cons_zero, List.set_cons_succ]
      refine takeL 8 (v := ?_) rfl (by kernel_rfl) (by kernel_rfl) (by kernel_rfl) (fun _ _ _ h => h) ⟨by rfl, ?_⟩ (by assumption) ?_
      rotate_left
      · intro w hS; go_simp <;> with_reducible rfl
      simp only [Act.put, List.setIfInBounds_toArray, List.set_cons_zero, List.set_cons_succ]
      refine takeL 9 (v := ?_) rfl (by kernel_rfl) (by kernel_rfl) (by kernel_rfl) (fun _ _ _ h => h) ⟨by rfl, ?_⟩ (by assumption) ?_
      rotate_left
      · intro w hS; go_simp <;> with_reducible rfl
      simp only [Act.put, List.setIfInBounds_toArray, List.set_cons_zero, List.set_cons_succ]
      refine oneL 11 rfl (by kernel_rfl) (by rfl) (fun K hK => ?_)
      have KY := KZ
      have y0 := KZ.cell 0; have y1_ := KZ.cell 1; have y2_ := KZ.cell 2; have z0 := KZ.free 0; have z1 := KZ.free 1; have z2 := KZ.free 2
      go_simp
      refine hK.out _ _ (((hHeld.setCell (p := ⟨g1, 0, none⟩) hg1 (.int .i64 n)).setCell (p := ⟨g1, 1, none⟩) hg1 (.int .i64 n)).setCell (p := ⟨g1, 2, none⟩) hg1 (.slice a6 (tbv (M * M)).length k6)) (fun hHeld => ?_)
      clear hK K
      try simp only [Act.put, List.setIfInBounds_toArray, List.set_cons_zero, List.set_cons_succ]
      refine takeL 12 (v := ?_) rfl (by kernel_rfl) (by kernel_rfl) (by kernel_rfl) (fun _ _ _ h => h) ⟨by rfl, ?_⟩ (by assumption) ?_
      rotate_left
      · intro w hS; go_simp <;> with_reducible rfl
      simp only [Act.put, List.setIfInBounds_toArray, List.set_cons_zero, List.set_cons_succ]
      refine doneL (by kernel_rfl) ?_ _
      have K15 := ((KY.set 0 (.int .i64 n)).set 1 (.int .i64 n)).set 2 (.slice a6 (tbv (M * M)).length k6)
      have o15 := ((o6.off KY 0 (.int .i64 n)).off (KY.set 0 _) 1 (.int .i64 n)).off ((KY.set 0 _).set 1 _) 2 (.slice a6 (tbv (M * M)).length k6)
      have m15 : Fm _ (.agg #[.int .i64 n, .int .i64 n, .slice a6 (tbv (M * M)).length k6]) n n (tbv (M * M)) := ⟨_, rfl, o15.sl⟩
      have bx := bd.trans (hHeld.mono bd.size)
      clear KZ KY y0 y1_ y2_ z0 z1 z2 o15 hHeld o6 mA KA sq mE KE KF B0
      go_wp2_with fail
      go_meet
      exact ⟨_, _, _, rfl, rfl, K15, m15, bx⟩
  case rest =>
    obtain ⟨g1, a6, k6, rfl, rfl, K1, m1, bx⟩ := hcut
    replace mA := mA.next bx
    replace KA := KA.next bx
    replace sq := sq.next bx
    replace KF := KF.next bx
    replace mE := mE.next bx
    replace KE := KE.next bx
    replace B0 := B0.trans (bx.mono B0.size)
    clear bx
    go_upto_region 8 with (fail)
    have bd := Drawn.below (w' := wc.drew) ⟨1, rfl⟩ wc.heap.size
    replace mA := mA.next bd
    replace KA := KA.next bd
    replace sq := sq.next bd
    replace KF := KF.next bd
    replace mE := mE.next bd
    replace KE := KE.next bd
    replace K1 := K1.next bd
    replace m1 := m1.next bd
    replace B0 := B0.trans (bd.mono B0.size)
    clear bd
    have lMM := Lib.hid (tbv_length (M * M))
    refine startL (S := (fun w' => Below (wc.drew).heap.size (wc.drew) w')) (by kernel_rfl) (Below.refl _ _) (fun hHeld => ?_)
    refine takeL 0 (v := ?_) rfl (by kernel_rfl) (by kernel_rfl) (by kernel_rfl) (fun _ _ _ h => h) ⟨by rfl, ?_⟩ (by assumption) ?_
    rotate_left
    · intro w hS; go_simp <;> with_reducible rfl
    simp only [Act.put, List.setIfInBounds_toArray, List.set_cons_zero, List.set_cons_succ]
    refine takeL 1 (v := ?_) rfl (by kernel_rfl) (by kernel_rfl) (by kernel_rfl) (fun _ _ _ h => h) ⟨by rfl, ?_⟩ (by assumption) ?_
    rotate_left
    · intro w hS; go_simp <;> with_reducible rfl
    simp only [Act.put, List.setIfInBounds_toArray, List.set_cons_zero, List.set_cons_succ]
    refine takeL 2 (v := ?_) rfl (by kernel_rfl) (by kernel_rfl) (by kernel_rfl) (fun _ _ _ h => h) ⟨by rfl, ?_⟩ (by assumption) ?_
    rotate_left
    · intro w hS; go_simp <;> with_reducible rfl
    simp only [Act.put, List.setIfInBounds_toArray, List.set_cons_zero, List.set_cons_succ]
    refine takeL 3 (v := ?_) rfl (by kernel_rfl) (by kernel_rfl) (by kernel_rfl) (fun _ _ _ h => h) ⟨by rfl, ?_⟩ (by assumption) ?_
    rotate_left
    · intro w hS; go_simp <;> with_reducible rfl
    simp only [Act.put, List.setIfInBounds_toArray, List.set_cons_zero, List.set_cons_succ]
    refine takeL 4 (v := ?_) rfl (by kernel_rfl) (by kernel_rfl) (by kernel_rfl) (fun _ _ _ h => h) ⟨by rfl, ?_⟩ (by assumption) ?_
    rotate_left
    · intro w hS; go_simp <;> with_reducible rfl
    simp only [Act.put, List.setIfInBounds_toArray, List.set_cons_zero, List.set_cons_succ]
    refine takeL 5 (v := ?_) rfl (by kernel_rfl) (by kernel_rfl) (by kernel_rfl) (fun _ _ _ h => h) ⟨by rfl, ?_⟩ (by assumption) ?_
    rotate_left
    · intro w hS; go_simp <;> with_reducible rfl
    simp only [Act.put, List.setIfInBounds_toArray, List.set_cons_zero, List.set_cons_succ]
    refine takeL 6 (v := ?_) rfl (by kernel_rfl) (by kernel_rfl) (by kernel_rfl) (fun _ _ _ h => h) ⟨by rfl, ?_⟩ (by assumption) ?_
    rotate_left
    · intro w hS; go_simp <;> with_reducible rfl
    simp only [Act.put, List.setIfInBounds_toArray, List.set_cons_zero, List.set_cons_succ]
    refine takeL 7 (v := ?_) rfl (by kernel_rfl) (by kernel_rfl) (by kernel_rfl) (fun _ _ _ h => h) ⟨by rfl, ?_⟩ (by assumption) ?_
    rotate_left
    · intro w hS; have fa := KA.at hS; have f1 := fa 0; have f2 := fa 1; have f3 := fa 2; clear fa; have fb := KE.at hS; have f4 := fb 0; have f5 := fb 1; have f6 := fb 2; clear fb; have fc := K1.at hS; have f7 := fc 0; have f8 := fc 1; have f9 := fc 2; clear fc; go_simp <;> with_reducible rfl
    simp only [Act.put, List.setIfInBounds_toArray, List.set_cons_zero, List.set_cons_succ]
    refine takeL 8 (v := ?_) rfl (by kernel_rfl) (by kernel_rfl) (by kernel_rfl) (fun _ _ _ h => h) ⟨by rfl, ?_⟩ (by assumption) ?_
    rotate_left
    · intro w hS; go_simp <;> with_reducible rfl
    simp only [Act.put, List.setIfInBounds_toArray, List.set_cons_zero, List.set_cons_succ]
    refine takeL 9 (v := ?_) rfl (by kernel_rfl) (by kernel_rfl) (by kernel_rfl) (fun _ _ _ h => h) ⟨by rfl, ?_⟩ (by assumption) ?_
    rotate_left
    · intro w hS; have fa := KA.at hS; have f1 := fa 0; have f2 := fa 1; have f3 := fa 2; clear fa; have fb := KE.at hS; have f4 := fb 0; have f5 := fb 1; have f6 := fb 2; clear fb; have fc := K1.at hS; have f7 := fc 0; have f8 := fc 1; have f9 := fc 2; clear fc; go_simp <;> with_reducible rfl
    simp only [Act.put, List.setIfInBounds_toArray, List.set_cons_zero, List.set_cons_succ]
    refine takeL 10 (v := ?_) rfl (by kernel_rfl) (by kernel_rfl) (by kernel_rfl) (fun _ _ _ h => h) ⟨by rfl, ?_⟩ (by assumption) ?_
    rotate_left
    · intro w hS; go_simp <;> with_reducible rfl
    simp only [Act.put, List.setIfInBounds_toArray, List.set_cons_zero, List.set_cons_succ]
    refine takeL 12 (v := ?_) rfl (by kernel_rfl) (by kernel_rfl) (by kernel_rfl) (fun _ _ _ h => h) ⟨by rfl, ?_⟩ (by assumption) ?_
    rotate_left
    · intro w hS; go_simp <;> with_reducible rfl
    simp only [Act.put, List.setIfInBounds_toArray, List.set_cons_zero, List.set_cons_succ]
    refine oneL 11 rfl (by kernel_rfl) (by rfl) (fun K hK => ?_)
    go_simp
    go_at_call 54
    (with_reducible refine (rf22_Value p _ _ n gs xs _ HP.out (sq.next hHeld) (mA.next hHeld) (by omega) HX.out (by have := HG.out; omega)).mono ?_); rintro e y1 ⟨a5, k5, rfl, o5, c5⟩; rw [← EA.out, ← EM.out] at o5 ⊢; have m5 : Fm y1 (.agg #[.int .i64 n, .int .i64 n, .slice a5 (tbv M).length k5]) n n (tbv M) := ⟨_, rfl, o5.sl⟩
    refine hK.out _ _ (hHeld.trans (c5.mono hHeld.size)) (fun hHeld => ?_)
    clear hK K
    try simp only [Act.put, List.setIfInBounds_toArray, List.set_cons_zero, List.set_cons_succ]
    refine oneL 13 rfl (by kernel_rfl) (by rfl) (fun K hK => ?_)
    go_simp
    go_at_call 39
    (with_reducible refine (rf21_Is _ _ n n p (tbv M) (tbv M) _ (by omega) (mE.next hHeld) m5 (Fd.of (by omega) (by omega) lM.out) wM.out rfl (fun _ _ => rfl) (by have := at2 hn; rw [lM.out]; omega)).mono ?_); rintro e y2 ⟨rfl, c6⟩
    refine hK.out _ _ (hHeld.trans (c6.mono hHeld.size)) (fun hHeld => ?_)
    clear hK K
    try simp only [Act.put, List.setIfInBounds_toArray, List.set_cons_zero, List.set_cons_succ]
    refine takeL 14 (v := ?_) rfl (by kernel_rfl) (by kernel_rfl) (by kernel_rfl) (fun _ _ _ h => h) ⟨by rfl, ?_⟩ (by assumption) ?_
    rotate_left
    · intro w hS; go_simp <;> with_reducible rfl
    simp only [Act.put, List.setIfInBounds_toArray, List.set_cons_zero, List.set_cons_succ]
    refine takeL 15 (v := ?_) rfl (by kernel_rfl) (by kernel_rfl) (by kernel_rfl) (fun _ _ _ h => h) ⟨by rfl, ?_⟩ (by assumption) ?_
    rotate_left
    · intro w hS; go_simp <;> with_reducible rfl
    simp only [Act.put, List.setIfInBounds_toArray, List.set_cons_zero, List.set_cons_succ]
    refine takeL 16 (v := ?_) rfl (by kernel_rfl) (by kernel_rfl) (by kernel_rfl) (fun _ _ _ h => h) ⟨by rfl, ?_⟩ (by assumption) ?_
    rotate_left
    · intro w hS; have fa := KA.at hS; have f1 := fa 0; have f2 := fa 1; have f3 := fa 2; clear fa; have fb := KE.at hS; have f4 := fb 0; have f5 := fb 1; have f6 := fb 2; clear fb; have fc := K1.at hS; have f7 := fc 0; have f8 := fc 1; have f9 := fc 2; clear fc; go_simp <;> with_reducible rfl
    simp only [Act.put, List.setIfInBounds_toArray, List.set_cons_zero, List.set_cons_succ]
    refine takeL 17 (v := ?_) rfl (by kernel_rfl) (by kernel_rfl) (by kernel_rfl) (fun _ _ _ h => h) ⟨by rfl, ?_⟩ (by assumption) ?_
    rotate_left
    · intro w hS; have fa := KA.at hS; have f1 := fa 0; have f2 := fa 1; have f3 := fa 2; clear fa; have fb := KE.at hS; have f4 := fb 0; have f5 := fb 1; have f6 := fb 2; clear fb; have fc := K1.at hS; have f7 := fc 0; have f8 := fc 1; have f9 := fc 2; clear fc; go_simp <;> with_reducible rfl
    simp only [Act.put, List.setIfInBounds_toArray, List.set_cons_zero, List.set_cons_succ]
    refine takeL 18 (v := ?_) rfl (by kernel_rfl) (by kernel_rfl) (by kernel_rfl) (fun _ _ _ h => h) ⟨by rfl, ?_⟩ (by assumption) ?_
    rotate_left
    · intro w hS; have fa := KA.at hS; have f1 := fa 0; have f2 := fa 1; have f3 := fa 2; clear fa; have fb := KE.at hS; have f4 := fb 0; have f5 := fb 1; have f6 := fb 2; clear fb; have fc := K1.at hS; have f7 := fc 0; have f8 := fc 1; have f9 := fc 2; clear fc; go_simp <;> with_reducible rfl
    simp only [Act.put, List.setIfInBounds_toArray, List.set_cons_zero, List.set_cons_succ]
    refine takeL 19 (v := ?_) rfl (by kernel_rfl) (by kernel_rfl) (by kernel_rfl) (fun _ _ _ h => h) ⟨by rfl, ?_⟩ (by assumption) ?_
    rotate_left
    · intro w hS; go_simp <;> with_reducible rfl
    simp only [Act.put, List.setIfInBounds_toArray, List.set_cons_zero, List.set_cons_succ]
    refine takeL 21 (v := ?_) rfl (by kernel_rfl) (by kernel_rfl) (by kernel_rfl) (fun _ _ _ h => h) ⟨by rfl, ?_⟩ (by assumption) ?_
    rotate_left
    · intro w hS; go_simp <;> with_reducible rfl
    simp only [Act.put, List.setIfInBounds_toArray, List.set_cons_zero, List.set_cons_succ]
    refine oneL 20 rfl (by kernel_rfl) (by rfl) (fun K hK => ?_)
    go_simp
    go_at_call 34
    (with_reducible refine (rf21_Mul p _ _ n n n (tbv M) (tbv M) _ HP.out (mE.next hHeld) (mE.next hHeld) (by omega) (by omega) (by omega) lM.out lM.out).mono ?_); rintro e y3 ⟨a7, k7, rfl, o7, c7⟩; rw [mx_tbv] at o7 ⊢; have m7 : Fm y3 (.agg #[.int .i64 n, .int .i64 n, .slice a7 (tbv (M * M)).length k7]) n n (tbv (M * M)) := ⟨_, rfl, o7.sl⟩
    refine hK.out _ _ (hHeld.trans (c7.mono hHeld.size)) (fun hHeld => ?_)
    clear hK K
    try simp only [Act.put, List.setIfInBounds_toArray, List.set_cons_zero, List.set_cons_succ]
    refine oneL 22 rfl (by kernel_rfl) (by rfl) (fun K hK => ?_)
    go_simp
    go_at_call 33
    (with_reducible refine (rf21_Same _ _ n n p (tbv (M * M)) (tbv (M * M)) _ (by omega) (m1.next hHeld) m7 rfl (fun _ _ => rfl) (by have := at2 hn; rw [lMM.out]; omega)).mono ?_); rintro e y4 ⟨rfl, c8⟩
    refine hK.out _ _ (hHeld.trans (c8.mono hHeld.size)) (fun hHeld => ?_)
    clear hK K
    try simp only [Act.put, List.setIfInBounds_toArray, List.set_cons_zero, List.set_cons_succ]
    refine takeL 23 (v := ?_) rfl (by kernel_rfl) (by kernel_rfl) (by kernel_rfl) (fun _ _ _ h => h) ⟨by rfl, ?_⟩ (by assumption) ?_
    rotate_left
    · intro w hS; go_simp <;> with_reducible rfl
    simp only [Act.put, List.setIfInBounds_toArray, List.set_cons_zero, List.set_cons_succ]
    refine takeL 24 (v := ?_) rfl (by kernel_rfl) (by kernel_rfl) (by kernel_rfl) (fun _ _ _ h => h) ⟨by rfl, ?_⟩ (by assumption) ?_
    rotate_left
    · intro w hS; go_simp <;> with_reducible rfl
    simp only [Act.put, List.setIfInBounds_toArray, List.set_cons_zero, List.set_cons_succ]
    refine doneL (by kernel_rfl) ?_ _
    replace B0 := B0.trans (hHeld.mono B0.size)
    clear mA KA sq mE KE KF K1 m1 hHeld
    go_wp2
    go_ret
    exact ⟨rfl, B0⟩

set_option maxHeartbeats 1000000 in
theorem walk (x0 : Nat) (v : Value) (R C : Int) (xs : List Nat) (u : Value) (gs : List Nat) (w : World) (mA : Fm w v R C xs) (sq : Sl .u64 w u gs) : Calls Try.prog 8 #[.int .u8 x0, v, u] w (LawOk w) := by
  by_cases hf : R ≤ 3 ∧ C ≤ 3 ∧ xs.length ≤ 100
  · by_cases hg : gs.length ≤ 5
    · by_cases hs : Fd R C xs.length ∧ R = C
      · obtain ⟨h1, rfl⟩ := hs
        obtain ⟨r, c, e1, e2, h3, h4, h5⟩ := h1.nat
        subst e1
        have e3 : c = r := by omega
        subst e3
        exact good x0 v u c xs gs w mA sq hg (by omega) h5 hf
      · exact bad x0 v u R C xs gs w mA sq hg hf hs
    · exact long x0 v u R C xs gs w mA sq hf hg
  · exact not_few x0 v u R C xs gs w mA sq hf

set_option maxRecDepth 100000 in
theorem lifted (os : Os) (started : os.Started) (H : Type) (enc : TypeId × Value → H) :
    ReturnsInHanded {} Try.checked os 8 .any (Rows.hessEvalsSpec.pre6 enc Try.prog Try.f8 Rows.hessEvalsRow.domain false) (Rows.hessEvalsSpec.post enc Try.prog Try.f8 false true false false) := by
  refine returnsInHanded_of_change (C := Try.checked) own started (by kernel_rfl) Try.func8
    (ChangeSpec.witness6 (enc := enc) (C := Try.checked) false ⟨#[], #[.int .u8 0, .agg #[.int .i64 0, .int .i64 0, .slice none 0 0], .slice none 0 0], []⟩ 8 (by kernel_rfl) (by kernel_rfl) (by kernel_rfl) (by kernel_rfl)) ?_
  intro W base args ds gs before hval0 hW hcnd _
  have hval : ∀ (j : Nat) t v, Try.f8.params[j]? = some t → args[j]? = some v → Value.okWide Try.prog W .any base t v := hval0
  have hW' := hW
  obtain ⟨p, q, hA0, hV, rfl, hfz, hnd⟩ := hW
  have hA : DataW.TrodAll enc Try.prog W 0 (fun _ => true) true Try.f8.params.toList args.toList ds p := hA0
  rw [Try.params8] at hA hval
  obtain ⟨v0, vs0, d0, ds0, p0, q0, hargs, rfl, rfl, h0, r0⟩ := trodAll_cons hA
  obtain ⟨v1, vs1, d1, ds1, p1, q1, rfl, rfl, rfl, h1, r1⟩ := trodAll_cons r0
  obtain ⟨v2, vs2, d2, ds2, p2, q2, rfl, rfl, rfl, h2, r2⟩ := trodAll_cons r1
  obtain ⟨rfl, rfl, rfl⟩ := trodAll_nil r2
  obtain rfl : args = #[v0, v1, v2] := by cases args; simp_all
  obtain ⟨rfl, rfl⟩ := trodVars_none hV
  have k0 := h0
  have lt0 : ∀ x ∈ p0, x.block < W.heap.size := by obtain ⟨m, hm⟩ := k0; exact DataW.trod_lt m _ _ _ hm
  obtain ⟨i0, rfl, rfl, rfl, wi0⟩ := open_int Try.underlying5 (hval 0 5 v0 rfl rfl) h0
  obtain ⟨x0, rfl⟩ := Int.eq_ofNat_of_zero_le (wf_u8_bounds wi0).1
  have k1 := h1
  have lt1 : ∀ x ∈ p1, x.block < W.heap.size := by obtain ⟨m, hm⟩ := k1; exact DataW.trod_lt m _ _ _ hm
  obtain ⟨R1, C1, xs1, m1, rb1, cb1⟩ := open_fm (hval 1 42 v1 rfl rfl) h1
  have k2 := h2
  have lt2 : ∀ x ∈ p2, x.block < W.heap.size := by obtain ⟨m, hm⟩ := k2; exact DataW.trod_lt m _ _ _ hm
  obtain ⟨x2, s2, f2⟩ := open_words Try.underlying33 Try.underlying27 (by kernel_rfl) (hval 2 33 v2 rfl rfl) h2
  clear hA0 hval0
  refine (walk x0 v1 R1 C1 xs1 v2 x2 W  m1 s2).mono fun e W' ⟨he, bel⟩ => ?_
  subst he
  exact ⟨_, rfl, _, _, _, [], _, [], hW', trodAll_mk1 (shut_bool Try.underlying4 _), (trodAll_cons_mk (Below.trod laidOut (by kernel_rfl) (of_decide_eq_true (by kernel_rfl)) k0 bel lt0) (trodAll_cons_mk (Below.trod laidOut (by kernel_rfl) (of_decide_eq_true (by kernel_rfl)) k1 bel lt1) (trodAll_cons_mk (Below.trod laidOut (by kernel_rfl) (of_decide_eq_true (by kernel_rfl)) k2 bel lt2) trodAll_mk0))), rfl, bel.frame _, fun h => by cases h⟩

theorem over : Rows.hessEvalsRow.holds Try.pinned (OpenSpec.ofChange Rows.hessEvalsSpec) :=
  OpenClaim.holds_of_wide 8 Try.f8 rfl rfl rfl rfl rfl rfl rfl ⟨rfl, rfl, rfl, rfl, rfl⟩ rfl rfl rfl rfl rfl (by kernel_rfl) Try.func8 (by kernel_rfl)
    (of_decide_eq_true (by kernel_rfl)) (by unfold Func.isWrapper; first | (rw [if_pos (by decide +kernel)]; kernel_rfl) | (rw [if_neg (by decide +kernel)]; exact ⟨rfl, rfl⟩))
    (fun os started H enc _ => lifted os started H enc)

theorem proved : Rows.HessEvalsSaid := over
#print axioms proved
end Go.Proofs.Ythghdjpjbngllaa.hessEvals
