/- XmatReckons: for every number and two matrices of polynomials the law returns true: the sum, the product, the transpose, the normal form and the degree are those that the chapter says, or there are none. No condition. -/
import Derived.Test.YthghdjpjbngllaaRows
import Derived.Test.YthghdjpjbngllaaZfXplain
namespace Go.Proofs.Ythghdjpjbngllaa.xmatReckons
open Go.ChangeShapes Go.WideShapes Go.ChangeAt Go.RowKit
open Go.ChangeMaps (open_string shut_string)

theorem own : ownKnob Try.prog.godebug = none := by kernel_rfl
theorem laidOut : laidOutB Try.prog = true := by kernel_rfl

set_option maxRecDepth 20000 in
set_option maxHeartbeats 4000000 in
theorem not_few1 (x0 : Nat) (v : Value) (R1 C1 : Int) (xs : List (List Nat)) (u : Value) (R2 C2 : Int) (ys : List (List Nat)) (w : World) (mA : Xm w v R1 C1 xs) (mB : Xm w u R2 C2 ys) (hf : ¬ Fwx 3 4 R1 C1 xs) :
    Calls Try.prog 7 #[.int .u8 x0, v, u] w (LawOk w) := by
  obtain ⟨aA, cA, rfl⟩ := mA.agg
  obtain ⟨aB, cB, rfl⟩ := mB.agg
  obtain ⟨wb, ew, KA, KB, B0, hsz⟩ := boxes2 w 24 24 [.int .i64 R1, .int .i64 C1, .slice aA xs.length cA] [.int .i64 R2, .int .i64 C2, .slice aB ys.length cB]
  clear hsz
  replace mA := mA.next B0
  replace mB := mB.next B0
  have HF := Lib.hid hf; clear hf
  go_enter Try.func7, Try.ntmps7
  go_upto_region 1 with (fail)
  rw [← ew]
  clear ew
  go_wp2_with fail
  refine (law23_awake _).mono ?_; rintro e w1 ⟨rfl, b1⟩
  replace mA := mA.next b1
  replace mB := mB.next b1
  replace KA := KA.next b1
  replace KB := KB.next b1
  replace B0 := B0.trans (b1.mono B0.size)
  clear b1
  have qKA0 := KA.cell 0
  have qKA1 := KA.cell 1
  have qKA2 := KA.cell 2
  go_wp2_with fail
  refine (rf23_Few _ R1 C1 3 4 xs _ mA false ⟨fun h => absurd h (by decide), fun h => absurd h HF.out⟩).mono ?_; rintro e w2 ⟨rfl, b2⟩
  clear qKA0 qKA1 qKA2
  replace mA := mA.next b2
  replace mB := mB.next b2
  replace KA := KA.next b2
  replace KB := KB.next b2
  replace B0 := B0.trans (b2.mono B0.size)
  clear b2
  clear mA mB
  go_wp2_with fail
  refine (law23_awake _).mono ?_; rintro e w3 ⟨rfl, b3⟩
  replace KA := KA.next b3
  replace B0 := B0.trans (b3.mono B0.size)
  clear b3
  go_wp2
  go_ret
  exact ⟨rfl, B0⟩

set_option maxRecDepth 20000 in
set_option maxHeartbeats 4000000 in
theorem not_few2 (x0 : Nat) (v : Value) (R1 C1 : Int) (xs : List (List Nat)) (u : Value) (R2 C2 : Int) (ys : List (List Nat)) (w : World) (mA : Xm w v R1 C1 xs) (mB : Xm w u R2 C2 ys) (hf : Fwx 3 4 R1 C1 xs) (hg : ¬ Fwx 3 4 R2 C2 ys) :
    Calls Try.prog 7 #[.int .u8 x0, v, u] w (LawOk w) := by
  obtain ⟨aA, cA, rfl⟩ := mA.agg
  obtain ⟨aB, cB, rfl⟩ := mB.agg
  obtain ⟨wb, ew, KA, KB, B0, hsz⟩ := boxes2 w 24 24 [.int .i64 R1, .int .i64 C1, .slice aA xs.length cA] [.int .i64 R2, .int .i64 C2, .slice aB ys.length cB]
  clear hsz
  replace mA := mA.next B0
  replace mB := mB.next B0
  have HF := Lib.hid hf; have HG := Lib.hid hg; clear hf hg
  go_enter Try.func7, Try.ntmps7
  go_upto_region 1 with (fail)
  rw [← ew]
  clear ew
  go_wp2_with fail
  refine (law23_awake _).mono ?_; rintro e w1 ⟨rfl, b1⟩
  replace mA := mA.next b1
  replace mB := mB.next b1
  replace KA := KA.next b1
  replace KB := KB.next b1
  replace B0 := B0.trans (b1.mono B0.size)
  clear b1
  have qKA0 := KA.cell 0
  have qKA1 := KA.cell 1
  have qKA2 := KA.cell 2
  go_wp2_with fail
  refine (rf23_Few _ R1 C1 3 4 xs _ mA true ⟨fun _ => HF.out, fun _ => rfl⟩).mono ?_; rintro e w2 ⟨rfl, b2⟩
  clear qKA0 qKA1 qKA2
  replace mA := mA.next b2
  replace mB := mB.next b2
  replace KA := KA.next b2
  replace KB := KB.next b2
  replace B0 := B0.trans (b2.mono B0.size)
  clear b2
  have qKB0 := KB.cell 0
  have qKB1 := KB.cell 1
  have qKB2 := KB.cell 2
  go_wp2_with fail
  refine (rf23_Few _ R2 C2 3 4 ys _ mB false ⟨fun h => absurd h (by decide), fun h => absurd h HG.out⟩).mono ?_; rintro e w3 ⟨rfl, b3⟩
  clear qKB0 qKB1 qKB2
  replace mA := mA.next b3
  replace mB := mB.next b3
  replace KA := KA.next b3
  replace KB := KB.next b3
  replace B0 := B0.trans (b3.mono B0.size)
  clear b3
  clear mA mB
  go_wp2_with fail
  refine (law23_awake _).mono ?_; rintro e w4 ⟨rfl, b4⟩
  replace KA := KA.next b4
  replace B0 := B0.trans (b4.mono B0.size)
  clear b4
  go_wp2
  go_ret
  exact ⟨rfl, B0⟩

set_option maxRecDepth 20000 in
set_option maxHeartbeats 4000000 in
theorem bad (x0 : Nat) (v : Value) (R1 C1 : Int) (xs : List (List Nat)) (u : Value) (R2 C2 : Int) (ys : List (List Nat)) (w : World) (mA : Xm w v R1 C1 xs) (mB : Xm w u R2 C2 ys) (hfA : Fwx 3 4 R1 C1 xs) (hfB : Fwx 3 4 R2 C2 ys) (hnA : ¬ Fd R1 C1 xs.length) :
    Calls Try.prog 7 #[.int .u8 x0, v, u] w (LawOk w) := by
  obtain ⟨p, ep⟩ : ∃ p, p = Ps (x0 % 12) := ⟨_, rfl⟩
  have hp : FP p := by rw [ep]; exact Ps_FP (by omega)
  have ht : Trial p := by rw [ep]; exact Ps_trial (by omega)
  have cOf : ∀ w : World, Calls Try.prog 17 #[.int .u8 x0] w fun e w' => e = .returned (.agg #[.int .u64 (p : Nat)]) ∧ Below w.heap.size w w' := fun w => by rw [ep]; exact law9_Of x0 w
  have cP : ∀ w : World, Calls Try.prog 18 #[.int .u8 x0] w fun e w' => e = .returned (.int .u64 (p : Nat)) ∧ w = w' := fun w => by rw [ep]; exact ref8_P x0 w
  have hp2 := hp.1
  have hp3 := hp.2
  have HP := Lib.hid hp; have HT := Lib.hid ht; have COF := Lib.hid cOf; have CP := Lib.hid cP
  clear hp ht cOf cP ep
  obtain ⟨aA, cA, rfl⟩ := mA.agg
  obtain ⟨aB, cB, rfl⟩ := mB.agg
  obtain ⟨wb, ew, KA, KB, B0, hsz⟩ := boxes2 w 24 24 [.int .i64 R1, .int .i64 C1, .slice aA xs.length cA] [.int .i64 R2, .int .i64 C2, .slice aB ys.length cB]
  clear hsz
  replace mA := mA.next B0
  replace mB := mB.next B0
  have HF := Lib.hid hfA; have HG := Lib.hid hfB; have HNA := Lib.hid hnA; clear hfA hfB hnA
  go_enter Try.func7, Try.ntmps7
  go_upto_region 1 with (fail)
  rw [← ew]
  clear ew
  go_wp2_with fail
  refine (law23_awake _).mono ?_; rintro e w1 ⟨rfl, b1⟩
  replace mA := mA.next b1
  replace mB := mB.next b1
  replace KA := KA.next b1
  replace KB := KB.next b1
  replace B0 := B0.trans (b1.mono B0.size)
  clear b1
  have qKA0 := KA.cell 0
  have qKA1 := KA.cell 1
  have qKA2 := KA.cell 2
  go_wp2_with fail
  refine (rf23_Few _ R1 C1 3 4 xs _ mA true ⟨fun _ => HF.out, fun _ => rfl⟩).mono ?_; rintro e w2 ⟨rfl, b2⟩
  clear qKA0 qKA1 qKA2
  replace mA := mA.next b2
  replace mB := mB.next b2
  replace KA := KA.next b2
  replace KB := KB.next b2
  replace B0 := B0.trans (b2.mono B0.size)
  clear b2
  have qKB0 := KB.cell 0
  have qKB1 := KB.cell 1
  have qKB2 := KB.cell 2
  go_wp2_with fail
  refine (rf23_Few _ R2 C2 3 4 ys _ mB true ⟨fun _ => HG.out, fun _ => rfl⟩).mono ?_; rintro e w3 ⟨rfl, b3⟩
  clear qKB0 qKB1 qKB2
  replace mA := mA.next b3
  replace mB := mB.next b3
  replace KA := KA.next b3
  replace KB := KB.next b3
  replace B0 := B0.trans (b3.mono B0.size)
  clear b3
  go_wp2_with fail
  refine (COF.out _).mono ?_; rintro e w4 ⟨rfl, b4⟩
  replace mA := mA.next b4
  replace mB := mB.next b4
  replace KA := KA.next b4
  replace KB := KB.next b4
  replace B0 := B0.trans (b4.mono B0.size)
  clear b4
  go_wp2_with fail
  refine (CP.out _).mono ?_; rintro e wx ⟨rfl, rfl⟩
  obtain ⟨w5, e5, KF, b5, hs5⟩ := boxes1 w4 29 [.int .u64 p]
  clear hs5
  replace mA := mA.next b5
  replace mB := mB.next b5
  replace KA := KA.next b5
  replace KB := KB.next b5
  replace B0 := B0.trans (b5.mono B0.size)
  clear b5
  go_upto_region 4 with (fail)
  rw [← e5]
  clear e5
  have qKF0 := KF.cell 0
  have qKA0 := KA.cell 0
  have qKA1 := KA.cell 1
  have qKA2 := KA.cell 2
  have qKB0 := KB.cell 0
  have qKB1 := KB.cell 1
  have qKB2 := KB.cell 2
  go_wp2_with fail
  refine (xm_Add_bad p _ _ R1 C1 R2 C2 xs ys _ mA mB (fun h => HNA.out h.1)).mono ?_; rintro e w6 ⟨rfl, b6⟩
  clear qKF0 qKA0 qKA1 qKA2 qKB0 qKB1 qKB2
  replace mA := mA.next b6
  replace mB := mB.next b6
  replace KA := KA.next b6
  replace KB := KB.next b6
  replace KF := KF.next b6
  replace B0 := B0.trans (b6.mono B0.size)
  clear b6
  obtain ⟨w7, e7, KS, b7, hs7⟩ := boxes1 w6 24 [.int .i64 0, .int .i64 0, .slice none 0 0]
  clear hs7
  replace mA := mA.next b7
  replace mB := mB.next b7
  replace KA := KA.next b7
  replace KB := KB.next b7
  replace KF := KF.next b7
  replace B0 := B0.trans (b7.mono B0.size)
  clear b7
  go_upto_region 5 with (fail)
  rw [← e7]
  clear e7
  have qKF0 := KF.cell 0
  have qKA0 := KA.cell 0
  have qKA1 := KA.cell 1
  have qKA2 := KA.cell 2
  have qKB0 := KB.cell 0
  have qKB1 := KB.cell 1
  have qKB2 := KB.cell 2
  go_wp2_with fail
  refine (xm_Mul_bad p _ _ R1 C1 R2 C2 xs ys _ mA mB (fun h => HNA.out h.1)).mono ?_; rintro e w8 ⟨rfl, b8⟩
  clear qKF0 qKA0 qKA1 qKA2 qKB0 qKB1 qKB2
  replace mA := mA.next b8
  replace mB := mB.next b8
  replace KA := KA.next b8
  replace KB := KB.next b8
  replace KF := KF.next b8
  replace KS := KS.next b8
  replace B0 := B0.trans (b8.mono B0.size)
  clear b8
  obtain ⟨w9, e9, KM, b9, hs9⟩ := boxes1 w8 24 [.int .i64 0, .int .i64 0, .slice none 0 0]
  clear hs9
  replace mA := mA.next b9
  replace mB := mB.next b9
  replace KA := KA.next b9
  replace KB := KB.next b9
  replace KF := KF.next b9
  replace KS := KS.next b9
  replace B0 := B0.trans (b9.mono B0.size)
  clear b9
  go_upto_region 6 with (fail)
  rw [← e9]
  clear e9
  have qKF0 := KF.cell 0
  have qKA0 := KA.cell 0
  have qKA1 := KA.cell 1
  have qKA2 := KA.cell 2
  go_wp2_with fail
  refine (xm_Transpose_bad p _ R1 C1 xs _ mA HNA.out).mono ?_; rintro e w10 ⟨rfl, b10⟩
  clear qKF0 qKA0 qKA1 qKA2
  replace mA := mA.next b10
  replace mB := mB.next b10
  replace KA := KA.next b10
  replace KB := KB.next b10
  replace KF := KF.next b10
  replace KS := KS.next b10
  replace KM := KM.next b10
  replace B0 := B0.trans (b10.mono B0.size)
  clear b10
  obtain ⟨w11, e11, KT, b11, hs11⟩ := boxes1 w10 24 [.int .i64 0, .int .i64 0, .slice none 0 0]
  clear hs11
  replace mA := mA.next b11
  replace mB := mB.next b11
  replace KA := KA.next b11
  replace KB := KB.next b11
  replace KF := KF.next b11
  replace KS := KS.next b11
  replace KM := KM.next b11
  replace B0 := B0.trans (b11.mono B0.size)
  clear b11
  go_upto_region 7 with (fail)
  rw [← e11]
  clear e11
  have qKF0 := KF.cell 0
  have qKA0 := KA.cell 0
  have qKA1 := KA.cell 1
  have qKA2 := KA.cell 2
  go_wp2_with fail
  refine (xm_Norm_bad p _ R1 C1 xs _ mA HNA.out).mono ?_; rintro e w12 ⟨rfl, b12⟩
  clear qKF0 qKA0 qKA1 qKA2
  replace mA := mA.next b12
  replace mB := mB.next b12
  replace KA := KA.next b12
  replace KB := KB.next b12
  replace KF := KF.next b12
  replace KS := KS.next b12
  replace KM := KM.next b12
  replace KT := KT.next b12
  replace B0 := B0.trans (b12.mono B0.size)
  clear b12
  obtain ⟨w13, e13, KX, b13, hs13⟩ := boxes1 w12 24 [.int .i64 0, .int .i64 0, .slice none 0 0]
  clear hs13
  replace mA := mA.next b13
  replace mB := mB.next b13
  replace KA := KA.next b13
  replace KB := KB.next b13
  replace KF := KF.next b13
  replace KS := KS.next b13
  replace KM := KM.next b13
  replace KT := KT.next b13
  replace B0 := B0.trans (b13.mono B0.size)
  clear b13
  go_upto_region 8 with (fail)
  rw [← e13]
  clear e13
  have qKA0 := KA.cell 0
  have qKA1 := KA.cell 1
  have qKA2 := KA.cell 2
  go_wp2_with fail
  refine (rf23_Formed _ R1 C1 xs _ mA false (decide_eq_false HNA.out).symm).mono ?_; rintro e w14 ⟨rfl, b14⟩
  clear qKA0 qKA1 qKA2
  replace mA := mA.next b14
  replace mB := mB.next b14
  replace KA := KA.next b14
  replace KB := KB.next b14
  replace KF := KF.next b14
  replace KS := KS.next b14
  replace KM := KM.next b14
  replace KT := KT.next b14
  replace KX := KX.next b14
  replace B0 := B0.trans (b14.mono B0.size)
  clear b14
  have qKS0 := KS.cell 0
  have qKS1 := KS.cell 1
  have qKS2 := KS.cell 2
  go_wp2_with fail
  refine (rf23_None none 0 _).mono ?_; rintro e w15 ⟨rfl, b15⟩
  clear qKS0 qKS1 qKS2
  replace mA := mA.next b15
  replace mB := mB.next b15
  replace KA := KA.next b15
  replace KB := KB.next b15
  replace KF := KF.next b15
  replace KS := KS.next b15
  replace KM := KM.next b15
  replace KT := KT.next b15
  replace KX := KX.next b15
  replace B0 := B0.trans (b15.mono B0.size)
  clear b15
  have qKM0 := KM.cell 0
  have qKM1 := KM.cell 1
  have qKM2 := KM.cell 2
  go_wp2_with fail
  refine (rf23_None none 0 _).mono ?_; rintro e w16 ⟨rfl, b16⟩
  clear qKM0 qKM1 qKM2
  replace mA := mA.next b16
  replace mB := mB.next b16
  replace KA := KA.next b16
  replace KB := KB.next b16
  replace KF := KF.next b16
  replace KS := KS.next b16
  replace KM := KM.next b16
  replace KT := KT.next b16
  replace KX := KX.next b16
  replace B0 := B0.trans (b16.mono B0.size)
  clear b16
  have qKT0 := KT.cell 0
  have qKT1 := KT.cell 1
  have qKT2 := KT.cell 2
  go_wp2_with fail
  refine (rf23_None none 0 _).mono ?_; rintro e w17 ⟨rfl, b17⟩
  clear qKT0 qKT1 qKT2
  replace mA := mA.next b17
  replace mB := mB.next b17
  replace KA := KA.next b17
  replace KB := KB.next b17
  replace KF := KF.next b17
  replace KS := KS.next b17
  replace KM := KM.next b17
  replace KT := KT.next b17
  replace KX := KX.next b17
  replace B0 := B0.trans (b17.mono B0.size)
  clear b17
  have qKX0 := KX.cell 0
  have qKX1 := KX.cell 1
  have qKX2 := KX.cell 2
  go_wp2_with fail
  refine (rf23_None none 0 _).mono ?_; rintro e w18 ⟨rfl, b18⟩
  clear qKX0 qKX1 qKX2
  replace mA := mA.next b18
  replace mB := mB.next b18
  replace KA := KA.next b18
  replace KB := KB.next b18
  replace KF := KF.next b18
  replace KS := KS.next b18
  replace KM := KM.next b18
  replace KT := KT.next b18
  replace KX := KX.next b18
  replace B0 := B0.trans (b18.mono B0.size)
  clear b18
  have qKF0 := KF.cell 0
  have qKA0 := KA.cell 0
  have qKA1 := KA.cell 1
  have qKA2 := KA.cell 2
  go_wp2_with fail
  refine (xm_Degree_bad p _ R1 C1 xs _ mA HNA.out).mono ?_; rintro e w19 ⟨rfl, b19⟩
  clear qKF0 qKA0 qKA1 qKA2
  replace mA := mA.next b19
  replace mB := mB.next b19
  replace KA := KA.next b19
  replace KB := KB.next b19
  replace KF := KF.next b19
  replace KS := KS.next b19
  replace KM := KM.next b19
  replace KT := KT.next b19
  replace KX := KX.next b19
  replace B0 := B0.trans (b19.mono B0.size)
  clear b19
  go_wp2
  go_ret
  exact ⟨rfl, B0⟩

set_option maxRecDepth 20000 in
set_option maxHeartbeats 8000000 in
theorem gTT (x0 : Nat) (r : Nat) (v : Value) (xs : List (List Nat)) (u : Value) (ys : List (List Nat)) (w : World) (mA : Xm w v r r xs) (mB : Xm w u r r ys) (hfA : Fwx 3 4 r r xs) (hfB : Fwx 3 4 r r ys) (hr : r ≤ 3) (hc : r ≤ 3) (hxA : xs.length = r * r) (hxB : ys.length = r * r) :
    Calls Try.prog 7 #[.int .u8 x0, v, u] w (LawOk w) := by
  obtain ⟨p, ep⟩ : ∃ p, p = Ps (x0 % 12) := ⟨_, rfl⟩
  have hp : FP p := by rw [ep]; exact Ps_FP (by omega)
  have ht : Trial p := by rw [ep]; exact Ps_trial (by omega)
  have cOf : ∀ w : World, Calls Try.prog 17 #[.int .u8 x0] w fun e w' => e = .returned (.agg #[.int .u64 (p : Nat)]) ∧ Below w.heap.size w w' := fun w => by rw [ep]; exact law9_Of x0 w
  have cP : ∀ w : World, Calls Try.prog 18 #[.int .u8 x0] w fun e w' => e = .returned (.int .u64 (p : Nat)) ∧ w = w' := fun w => by rw [ep]; exact ref8_P x0 w
  have hp2 := hp.1
  have hp3 := hp.2
  have HP := Lib.hid hp; have HT := Lib.hid ht; have COF := Lib.hid cOf; have CP := Lib.hid cP
  clear hp ht cOf cP ep
  obtain ⟨aA, cA, rfl⟩ := mA.agg
  obtain ⟨aB, cB, rfl⟩ := mB.agg
  obtain ⟨wb, ew, KA, KB, B0, hsz⟩ := boxes2 w 24 24 [.int .i64 r, .int .i64 r, .slice aA xs.length cA] [.int .i64 r, .int .i64 r, .slice aB ys.length cB]
  clear hsz
  replace mA := mA.next B0
  replace mB := mB.next B0
  have hlA : ∀ j, j < xs.length → (xs.getD j []).length ≤ 4 := fun j hj => by have := hfA.2.2.2 j hj; omega
  have hlB : ∀ j, j < ys.length → (ys.getD j []).length ≤ 4 := fun j hj => by have := hfB.2.2.2 j hj; omega
  have hrc : r * r ≤ 3 * 3 := Nat.mul_le_mul hr hc
  have hcr : r * r ≤ 3 * 3 := Nat.mul_le_mul hc hr
  have hxl : xs.length ≤ 9 := by omega
  have hyl : ys.length ≤ 100 := hfB.2.2.1
  have HF := Lib.hid hfA; have HG := Lib.hid hfB
  have HLA := Lib.hid hlA; have HLB := Lib.hid hlB; have HXA := Lib.hid hxA
  have HFdA := Lib.hid (Fd.of (show r ≤ 64 by omega) (show r ≤ 64 by omega) hxA)
  have DLA := Lib.hid (show ∀ j, j < r * r → (xs.getD j []).length ≤ 4 from fun j hj => hlA j (by omega))
  have ELA := Lib.hid (show ∀ j, j < xs.length → (xs.getD j []).length ≤ 1000000 from fun j hj => by have := hlA j hj; omega)
  have ELB := Lib.hid (show ∀ j, j < ys.length → (ys.getD j []).length ≤ 1000000 from fun j hj => by have := hlB j hj; omega)
  clear hlA hlB hxA hfA hfB
  have HXB := Lib.hid hxB
  have HFdB := Lib.hid (Fd.of (show r ≤ 64 by omega) (show r ≤ 64 by omega) hxB)
  have HXM := Lib.hid hxB
  have DLB := Lib.hid (show ∀ j, j < r * r → (ys.getD j []).length ≤ 4 from fun j hj => HLB.out j (by omega))
  have hrr : ((r : Int) == (r : Int)) = true := by simp
  clear hxB
  go_enter Try.func7, Try.ntmps7
  go_upto_region 1 with (fail)
  rw [← ew]
  clear ew
  go_wp2_with fail
  refine (law23_awake _).mono ?_; rintro e w1 ⟨rfl, b1⟩
  replace mA := mA.next b1
  replace mB := mB.next b1
  replace KA := KA.next b1
  replace KB := KB.next b1
  replace B0 := B0.trans (b1.mono B0.size)
  clear b1
  have qKA0 := KA.cell 0
  have qKA1 := KA.cell 1
  have qKA2 := KA.cell 2
  go_wp2_with fail
  refine (rf23_Few _ r r 3 4 xs _ mA true ⟨fun _ => HF.out, fun _ => rfl⟩).mono ?_; rintro e w2 ⟨rfl, b2⟩
  clear qKA0 qKA1 qKA2
  replace mA := mA.next b2
  replace mB := mB.next b2
  replace KA := KA.next b2
  replace KB := KB.next b2
  replace B0 := B0.trans (b2.mono B0.size)
  clear b2
  have qKB0 := KB.cell 0
  have qKB1 := KB.cell 1
  have qKB2 := KB.cell 2
  go_wp2_with fail
  refine (rf23_Few _ r r 3 4 ys _ mB true ⟨fun _ => HG.out, fun _ => rfl⟩).mono ?_; rintro e w3 ⟨rfl, b3⟩
  clear qKB0 qKB1 qKB2
  replace mA := mA.next b3
  replace mB := mB.next b3
  replace KA := KA.next b3
  replace KB := KB.next b3
  replace B0 := B0.trans (b3.mono B0.size)
  clear b3
  go_wp2_with fail
  refine (COF.out _).mono ?_; rintro e w4 ⟨rfl, b4⟩
  replace mA := mA.next b4
  replace mB := mB.next b4
  replace KA := KA.next b4
  replace KB := KB.next b4
  replace B0 := B0.trans (b4.mono B0.size)
  clear b4
  go_wp2_with fail
  refine (CP.out _).mono ?_; rintro e wx ⟨rfl, rfl⟩
  obtain ⟨w5, e5, KF, b5, hs5⟩ := boxes1 w4 29 [.int .u64 p]
  clear hs5
  replace mA := mA.next b5
  replace mB := mB.next b5
  replace KA := KA.next b5
  replace KB := KB.next b5
  replace B0 := B0.trans (b5.mono B0.size)
  clear b5
  go_upto_region 4 with (fail)
  rw [← e5]
  clear e5
  have qKF0 := KF.cell 0
  have qKA0 := KA.cell 0
  have qKA1 := KA.cell 1
  have qKA2 := KA.cell 2
  have qKB0 := KB.cell 0
  have qKB1 := KB.cell 1
  have qKB2 := KB.cell 2
  go_wp2_with fail
  refine (xm_Add p 4 _ _ r r xs ys _ HP.out mA mB (by omega) (by omega) HXA.out HXB.out (by omega) DLA.out DLB.out (fun j => pl p (xs.getD j []) + pl p (ys.getD j [])) (fun _ _ _ _ => rfl)).mono ?_; rintro e w6 ⟨a6, k6, us6, rfl, o6, b6⟩
  clear qKF0 qKA0 qKA1 qKA2 qKB0 qKB1 qKB2
  replace mA := mA.next b6
  replace mB := mB.next b6
  replace KA := KA.next b6
  replace KB := KB.next b6
  replace KF := KF.next b6
  replace B0 := B0.trans (b6.mono B0.size)
  clear b6
  obtain ⟨zsS, zlS, nsS, hzS⟩ := o6.ns HP.out
  have mS : Xm w6 (.agg #[.int .i64 r, .int .i64 r, .slice a6 (r * r) k6]) r r zsS := ⟨_, rfl, nsS⟩
  have ZLS := Lib.hid zlS; have ZS := Lib.hid hzS
  clear zlS nsS hzS o6
  obtain ⟨w7, e7, KS, b7, hs7⟩ := boxes1 w6 24 [.int .i64 r, .int .i64 r, .slice a6 (r * r) k6]
  clear hs7
  replace mA := mA.next b7
  replace mB := mB.next b7
  replace KA := KA.next b7
  replace KB := KB.next b7
  replace KF := KF.next b7
  replace mS := mS.next b7
  replace B0 := B0.trans (b7.mono B0.size)
  clear b7
  go_upto_region 5 with (fail)
  rw [← e7]
  clear e7
  have qKF0 := KF.cell 0
  have qKA0 := KA.cell 0
  have qKA1 := KA.cell 1
  have qKA2 := KA.cell 2
  have qKB0 := KB.cell 0
  have qKB1 := KB.cell 1
  have qKB2 := KB.cell 2
  go_wp2_with fail
  refine (xm_Mul p 8 4 _ _ r r r xs ys _ HP.out mA mB (by omega) (by omega) (by omega) HXA.out HXM.out (by omega) (by omega) HLA.out HLB.out (dotT p xs ys r r) (fun i k _ hk => dotT_at hk)).mono ?_; rintro e w8 ⟨a8, k8, us8, rfl, o8, b8⟩
  clear qKF0 qKA0 qKA1 qKA2 qKB0 qKB1 qKB2
  replace mA := mA.next b8
  replace mB := mB.next b8
  replace KA := KA.next b8
  replace KB := KB.next b8
  replace KF := KF.next b8
  replace mS := mS.next b8
  replace KS := KS.next b8
  replace B0 := B0.trans (b8.mono B0.size)
  clear b8
  obtain ⟨zsM, zlM, nsM, hzM⟩ := o8.ns HP.out
  have mM : Xm w8 (.agg #[.int .i64 r, .int .i64 r, .slice a8 (r * r) k8]) r r zsM := ⟨_, rfl, nsM⟩
  have ZLM := Lib.hid zlM; have ZM := Lib.hid hzM
  clear zlM nsM hzM o8
  obtain ⟨w9, e9, KM, b9, hs9⟩ := boxes1 w8 24 [.int .i64 r, .int .i64 r, .slice a8 (r * r) k8]
  clear hs9
  replace mA := mA.next b9
  replace mB := mB.next b9
  replace KA := KA.next b9
  replace KB := KB.next b9
  replace KF := KF.next b9
  replace mS := mS.next b9
  replace KS := KS.next b9
  replace mM := mM.next b9
  replace B0 := B0.trans (b9.mono B0.size)
  clear b9
  go_upto_region 6 with (fail)
  rw [← e9]
  clear e9
  have qKF0 := KF.cell 0
  have qKA0 := KA.cell 0
  have qKA1 := KA.cell 1
  have qKA2 := KA.cell 2
  go_wp2_with fail
  refine (xm_Transpose p 4 _ r r xs _ HP.out mA (by omega) (by omega) HXA.out (by omega) DLA.out (fun j => pl p (xs.getD (tix r r j) [])) (fun i k _ hk => by rw [tix_at hk])).mono ?_; rintro e w10 ⟨a10, k10, us10, rfl, o10, b10⟩
  clear qKF0 qKA0 qKA1 qKA2
  replace mA := mA.next b10
  replace mB := mB.next b10
  replace KA := KA.next b10
  replace KB := KB.next b10
  replace KF := KF.next b10
  replace mS := mS.next b10
  replace KS := KS.next b10
  replace mM := mM.next b10
  replace KM := KM.next b10
  replace B0 := B0.trans (b10.mono B0.size)
  clear b10
  obtain ⟨zsT, zlT, nsT, hzT⟩ := o10.ns HP.out
  have mT : Xm w10 (.agg #[.int .i64 r, .int .i64 r, .slice a10 (r * r) k10]) r r zsT := ⟨_, rfl, nsT⟩
  have ZLT := Lib.hid zlT; have ZT := Lib.hid hzT
  clear zlT nsT hzT o10
  obtain ⟨w11, e11, KT, b11, hs11⟩ := boxes1 w10 24 [.int .i64 r, .int .i64 r, .slice a10 (r * r) k10]
  clear hs11
  replace mA := mA.next b11
  replace mB := mB.next b11
  replace KA := KA.next b11
  replace KB := KB.next b11
  replace KF := KF.next b11
  replace mS := mS.next b11
  replace KS := KS.next b11
  replace mM := mM.next b11
  replace KM := KM.next b11
  replace mT := mT.next b11
  replace B0 := B0.trans (b11.mono B0.size)
  clear b11
  go_upto_region 7 with (fail)
  rw [← e11]
  clear e11
  have qKF0 := KF.cell 0
  have qKA0 := KA.cell 0
  have qKA1 := KA.cell 1
  have qKA2 := KA.cell 2
  go_wp2_with fail
  refine (xm_Norm p 4 _ r r xs _ HP.out mA (by omega) (by omega) HXA.out (by omega) DLA.out (fun j => pl p (xs.getD j [])) (fun _ _ _ _ => rfl)).mono ?_; rintro e w12 ⟨a12, k12, us12, rfl, o12, b12⟩
  clear qKF0 qKA0 qKA1 qKA2
  replace mA := mA.next b12
  replace mB := mB.next b12
  replace KA := KA.next b12
  replace KB := KB.next b12
  replace KF := KF.next b12
  replace mS := mS.next b12
  replace KS := KS.next b12
  replace mM := mM.next b12
  replace KM := KM.next b12
  replace mT := mT.next b12
  replace KT := KT.next b12
  replace B0 := B0.trans (b12.mono B0.size)
  clear b12
  obtain ⟨zsX, zlX, nsX, hzX⟩ := o12.ns HP.out
  have mX : Xm w12 (.agg #[.int .i64 r, .int .i64 r, .slice a12 (r * r) k12]) r r zsX := ⟨_, rfl, nsX⟩
  have ZLX := Lib.hid zlX; have ZX := Lib.hid hzX
  clear zlX nsX hzX o12
  obtain ⟨w13, e13, KX, b13, hs13⟩ := boxes1 w12 24 [.int .i64 r, .int .i64 r, .slice a12 (r * r) k12]
  clear hs13
  replace mA := mA.next b13
  replace mB := mB.next b13
  replace KA := KA.next b13
  replace KB := KB.next b13
  replace KF := KF.next b13
  replace mS := mS.next b13
  replace KS := KS.next b13
  replace mM := mM.next b13
  replace KM := KM.next b13
  replace mT := mT.next b13
  replace KT := KT.next b13
  replace mX := mX.next b13
  replace B0 := B0.trans (b13.mono B0.size)
  clear b13
  go_upto_region 8 with (fail)
  rw [← e13]
  clear e13
  have qKA0 := KA.cell 0
  have qKA1 := KA.cell 1
  have qKA2 := KA.cell 2
  go_wp2_with fail
  refine (rf23_Formed _ r r xs _ mA true (decide_eq_true HFdA.out).symm).mono ?_; rintro e w14 ⟨rfl, b14⟩
  clear qKA0 qKA1 qKA2
  replace mA := mA.next b14
  replace mB := mB.next b14
  replace KA := KA.next b14
  replace KB := KB.next b14
  replace KF := KF.next b14
  replace mS := mS.next b14
  replace KS := KS.next b14
  replace mM := mM.next b14
  replace KM := KM.next b14
  replace mT := mT.next b14
  replace KT := KT.next b14
  replace mX := mX.next b14
  replace KX := KX.next b14
  replace B0 := B0.trans (b14.mono B0.size)
  clear b14
  go_upto_region 10 with (fail)
  have bd := Drawn.below (w' := w14.drew) ⟨1, rfl⟩ w14.heap.size
  replace mA := mA.next bd
  replace mB := mB.next bd
  replace KA := KA.next bd
  replace KB := KB.next bd
  replace KF := KF.next bd
  replace mS := mS.next bd
  replace KS := KS.next bd
  replace mM := mM.next bd
  replace KM := KM.next bd
  replace mT := mT.next bd
  replace KT := KT.next bd
  replace mX := mX.next bd
  replace KX := KX.next bd
  replace B0 := B0.trans (bd.mono B0.size)
  clear bd
  have hsT := Lib.hid (show ∀ j, j < zsT.length → Nrm p (zsT.getD j []) ∧ (zsT.getD j []).length ≤ 1000000 from fun j hj => by
    have := ZT.out j (by rw [ZLT.out] at hj; exact hj); exact ⟨this.1, by omega⟩)
  have hsX := Lib.hid (show ∀ j, j < zsX.length → Nrm p (zsX.getD j []) ∧ (zsX.getD j []).length ≤ 1000000 from fun j hj => by
    have := ZX.out j (by rw [ZLX.out] at hj; exact hj); exact ⟨this.1, by omega⟩)
  have heX := Lib.hid (show ∀ j, j < zsX.length → nl p (zsX.getD j []) = nl p (xs.getD j []) from fun j hj => nl_same HP.out (by rw [(ZX.out j (by rw [ZLX.out] at hj; exact hj)).2.1]))
  obtain ⟨qT, eqT⟩ : ∃ qT, qT = (List.range (r * r)).map fun j => xs.getD (tix r r j) [] := ⟨_, rfl⟩
  have lqT := Lib.hid (show qT.length = r * r by rw [eqT]; simp)
  have gqT := Lib.hid (show ∀ j, j < r * r → qT.getD j [] = xs.getD (tix r r j) [] from fun j hj => by rw [eqT]; simp [List.getD, hj])
  have hqT := Lib.hid (show ∀ j, j < zsT.length → (qT.getD j []).length ≤ 1000000 from fun j hj => by
    rw [ZLT.out] at hj
    rw [gqT.out j hj]; have := DLA.out _ (tix_lt hj); omega)
  have heT := Lib.hid (show ∀ j, j < zsT.length → nl p (zsT.getD j []) = nl p (qT.getD j []) from fun j hj => by
    rw [ZLT.out] at hj
    rw [gqT.out j hj]; exact nl_same HP.out (ZT.out j hj).2.1)
  have EQT := Lib.hid eqT; clear eqT
  refine startL (S := (fun w' => Below (w14.drew).heap.size (w14.drew) w')) (by kernel_rfl) (Below.refl _ _) (fun hHeld => ?_)
  refine takeL 0 (v := ?_) rfl (by kernel_rfl) (by kernel_rfl) (by kernel_rfl) (fun _ _ _ h => h) ⟨by rfl, ?_⟩ (by assumption) ?_
  rotate_left
  · intro w hS; go_simp <;> with_reducible rfl
  simp only [Act.put, List.setIfInBounds_toArray, List.set_cons_zero, List.set_cons_succ]
  refine takeL 1 (v := ?_) rfl (by kernel_rfl) (by kernel_rfl) (by kernel_rfl) (fun _ _ _ h => h) ⟨by rfl, ?_⟩ (by assumption) ?_
  rotate_left
  · intro w hS; go_simp <;> with_reducible rfl
  simp only [Act.put, List.setIfInBounds_toArray, List.set_cons_zero, List.set_cons_succ]
  refine takeL 2 (v := ?_) rfl (by kernel_rfl) (by kernel_rfl) (by kernel_rfl) (fun _ _ _ h => h) ⟨by rfl, ?_⟩ (by assumption) ?_
  rotate_left
  · intro w hS; go_simp <;> with_reducible rfl
  simp only [Act.put, List.setIfInBounds_toArray, List.set_cons_zero, List.set_cons_succ]
  refine takeL 3 (v := ?_) rfl (by kernel_rfl) (by kernel_rfl) (by kernel_rfl) (fun _ _ _ h => h) ⟨by rfl, ?_⟩ (by assumption) ?_
  rotate_left
  · intro w hS; go_simp <;> with_reducible rfl
  simp only [Act.put, List.setIfInBounds_toArray, List.set_cons_zero, List.set_cons_succ]
  refine takeL 4 (v := ?_) rfl (by kernel_rfl) (by kernel_rfl) (by kernel_rfl) (fun _ _ _ h => h) ⟨by rfl, ?_⟩ (by assumption) ?_
  rotate_left
  · intro w hS; go_simp <;> with_reducible rfl
  simp only [Act.put, List.setIfInBounds_toArray, List.set_cons_zero, List.set_cons_succ]
  refine takeL 5 (v := ?_) rfl (by kernel_rfl) (by kernel_rfl) (by kernel_rfl) (fun _ _ _ h => h) ⟨by rfl, ?_⟩ (by assumption) ?_
  rotate_left
  · intro w hS; go_simp <;> with_reducible rfl
  simp only [Act.put, List.setIfInBounds_toArray, List.set_cons_zero, List.set_cons_succ]
  refine takeL 6 (v := ?_) rfl (by kernel_rfl) (by kernel_rfl) (by kernel_rfl) (fun _ _ _ h => h) ⟨by rfl, ?_⟩ (by assumption) ?_
  rotate_left
  · intro w hS; go_simp <;> with_reducible rfl
  simp only [Act.put, List.setIfInBounds_toArray, List.set_cons_zero, List.set_cons_succ]
  refine takeL 7 (v := ?_) rfl (by kernel_rfl) (by kernel_rfl) (by kernel_rfl) (fun _ _ _ h => h) ⟨by rfl, ?_⟩ (by assumption) ?_
  rotate_left
  · intro w hS; have fa := KA.at hS; have f1 := fa 0; have f2 := fa 1; have f3 := fa 2; clear fa; have fb := KT.at hS; have f4 := fb 0; have f5 := fb 1; have f6 := fb 2; clear fb; have fc := KX.at hS; have f7 := fc 0; have f8 := fc 1; have f9 := fc 2; clear fc; go_simp <;> with_reducible rfl
  simp only [Act.put, List.setIfInBounds_toArray, List.set_cons_zero, List.set_cons_succ]
  refine takeL 8 (v := ?_) rfl (by kernel_rfl) (by kernel_rfl) (by kernel_rfl) (fun _ _ _ h => h) ⟨by rfl, ?_⟩ (by assumption) ?_
  rotate_left
  · intro w hS; have fa := KA.at hS; have f1 := fa 0; have f2 := fa 1; have f3 := fa 2; clear fa; have fb := KT.at hS; have f4 := fb 0; have f5 := fb 1; have f6 := fb 2; clear fb; have fc := KX.at hS; have f7 := fc 0; have f8 := fc 1; have f9 := fc 2; clear fc; go_simp <;> with_reducible rfl
  simp only [Act.put, List.setIfInBounds_toArray, List.set_cons_zero, List.set_cons_succ]
  refine takeL 10 (v := ?_) rfl (by kernel_rfl) (by kernel_rfl) (by kernel_rfl) (fun _ _ _ h => h) ⟨by rfl, ?_⟩ (by assumption) ?_
  rotate_left
  · intro w hS; go_simp <;> with_reducible rfl
  simp only [Act.put, List.setIfInBounds_toArray, List.set_cons_zero, List.set_cons_succ]
  refine oneL 9 rfl (by kernel_rfl) (by rfl) (fun K hK => ?_)
  go_simp
  go_at_call 47
  (with_reducible refine (rf23_Turned _ r r xs _ (mA.next hHeld) (by omega) (by omega) HXA.out).mono ?_); rintro e y1 ⟨aU, kU, rfl, nU, c1⟩; rw [← EQT.out] at nU; have mU : Xm y1 (.agg #[.int .i64 r, .int .i64 r, .slice aU (r * r) kU]) r r qT := ⟨_, rfl, nU⟩; clear nU
  refine hK.out _ _ (hHeld.trans (c1.mono hHeld.size)) (fun hHeld => ?_)
  clear hK K
  try simp only [Act.put, List.setIfInBounds_toArray, List.set_cons_zero, List.set_cons_succ]
  refine oneL 11 rfl (by kernel_rfl) (by rfl) (fun K hK => ?_)
  go_simp
  go_at_call 46
  (with_reducible refine (rf23_Is _ _ r r p zsT qT _ HP.out (mT.next hHeld) mU (Fd.of (by omega) (by omega) ZLT.out) (by rw [lqT.out, ZLT.out]) (by rw [ZLT.out]; omega) hsT.out hqT.out heT.out).mono ?_); rintro e y2 ⟨rfl, c2⟩
  refine hK.out _ _ (hHeld.trans (c2.mono hHeld.size)) (fun hHeld => ?_)
  clear hK K
  try simp only [Act.put, List.setIfInBounds_toArray, List.set_cons_zero, List.set_cons_succ]
  refine takeL 12 (v := ?_) rfl (by kernel_rfl) (by kernel_rfl) (by kernel_rfl) (fun _ _ _ h => h) ⟨by rfl, ?_⟩ (by assumption) ?_
  rotate_left
  · intro w hS; go_simp <;> with_reducible rfl
  simp only [Act.put, List.setIfInBounds_toArray, List.set_cons_zero, List.set_cons_succ]
  refine takeL 13 (v := ?_) rfl (by kernel_rfl) (by kernel_rfl) (by kernel_rfl) (fun _ _ _ h => h) ⟨by rfl, ?_⟩ (by assumption) ?_
  rotate_left
  · intro w hS; go_simp <;> with_reducible rfl
  simp only [Act.put, List.setIfInBounds_toArray, List.set_cons_zero, List.set_cons_succ]
  refine takeL 14 (v := ?_) rfl (by kernel_rfl) (by kernel_rfl) (by kernel_rfl) (fun _ _ _ h => h) ⟨by rfl, ?_⟩ (by assumption) ?_
  rotate_left
  · intro w hS; go_simp <;> with_reducible rfl
  simp only [Act.put, List.setIfInBounds_toArray, List.set_cons_zero, List.set_cons_succ]
  refine takeL 15 (v := ?_) rfl (by kernel_rfl) (by kernel_rfl) (by kernel_rfl) (fun _ _ _ h => h) ⟨by rfl, ?_⟩ (by assumption) ?_
  rotate_left
  · intro w hS; have fa := KA.at hS; have f1 := fa 0; have f2 := fa 1; have f3 := fa 2; clear fa; have fb := KT.at hS; have f4 := fb 0; have f5 := fb 1; have f6 := fb 2; clear fb; have fc := KX.at hS; have f7 := fc 0; have f8 := fc 1; have f9 := fc 2; clear fc; go_simp <;> with_reducible rfl
  simp only [Act.put, List.setIfInBounds_toArray, List.set_cons_zero, List.set_cons_succ]
  refine takeL 16 (v := ?_) rfl (by kernel_rfl) (by kernel_rfl) (by kernel_rfl) (fun _ _ _ h => h) ⟨by rfl, ?_⟩ (by assumption) ?_
  rotate_left
  · intro w hS; have fa := KA.at hS; have f1 := fa 0; have f2 := fa 1; have f3 := fa 2; clear fa; have fb := KT.at hS; have f4 := fb 0; have f5 := fb 1; have f6 := fb 2; clear fb; have fc := KX.at hS; have f7 := fc 0; have f8 := fc 1; have f9 := fc 2; clear fc; go_simp <;> with_reducible rfl
  simp only [Act.put, List.setIfInBounds_toArray, List.set_cons_zero, List.set_cons_succ]
  refine takeL 17 (v := ?_) rfl (by kernel_rfl) (by kernel_rfl) (by kernel_rfl) (fun _ _ _ h => h) ⟨by rfl, ?_⟩ (by assumption) ?_
  rotate_left
  · intro w hS; go_simp <;> with_reducible rfl
  simp only [Act.put, List.setIfInBounds_toArray, List.set_cons_zero, List.set_cons_succ]
  refine oneL 18 rfl (by kernel_rfl) (by rfl) (fun K hK => ?_)
  go_simp
  go_at_call 46
  (with_reducible refine (rf23_Is _ _ r r p zsX xs _ HP.out (mX.next hHeld) (mA.next hHeld) (Fd.of (by omega) (by omega) ZLX.out) (by rw [HXA.out, ZLX.out]) (by rw [ZLX.out]; omega) hsX.out (by rw [ZLX.out, ← HXA.out]; exact ELA.out) heX.out).mono ?_); rintro e y3 ⟨rfl, c3⟩
  refine hK.out _ _ (hHeld.trans (c3.mono hHeld.size)) (fun hHeld => ?_)
  clear hK K
  try simp only [Act.put, List.setIfInBounds_toArray, List.set_cons_zero, List.set_cons_succ]
  refine takeL 19 (v := ?_) rfl (by kernel_rfl) (by kernel_rfl) (by kernel_rfl) (fun _ _ _ h => h) ⟨by rfl, ?_⟩ (by assumption) ?_
  rotate_left
  · intro w hS; go_simp <;> with_reducible rfl
  simp only [Act.put, List.setIfInBounds_toArray, List.set_cons_zero, List.set_cons_succ]
  refine takeL 20 (v := ?_) rfl (by kernel_rfl) (by kernel_rfl) (by kernel_rfl) (fun _ _ _ h => h) ⟨by rfl, ?_⟩ (by assumption) ?_
  rotate_left
  · intro w hS; go_simp <;> with_reducible rfl
  simp only [Act.put, List.setIfInBounds_toArray, List.set_cons_zero, List.set_cons_succ]
  refine doneL (by kernel_rfl) ?_ _
  replace mA := mA.next hHeld
  replace mB := mB.next hHeld
  replace KA := KA.next hHeld
  replace KB := KB.next hHeld
  replace KF := KF.next hHeld
  replace mS := mS.next hHeld
  replace KS := KS.next hHeld
  replace mM := mM.next hHeld
  replace KM := KM.next hHeld
  replace mT := mT.next hHeld
  replace KT := KT.next hHeld
  replace mX := mX.next hHeld
  replace KX := KX.next hHeld
  replace B0 := B0.trans (hHeld.mono B0.size)
  clear hHeld mU c1 c2 c3 hqT heT lqT gqT EQT heX
  have qKB0 := KB.cell 0
  have qKB1 := KB.cell 1
  have qKB2 := KB.cell 2
  have qKA0 := KA.cell 0
  have qKA1 := KA.cell 1
  go_wp2_with fail
  refine (rf23_Formed _ r r ys _ mB true (decide_eq_true HFdB.out).symm).mono ?_; rintro e w15 ⟨rfl, b15⟩
  clear qKB0 qKB1 qKB2 qKA0 qKA1
  replace mA := mA.next b15
  replace mB := mB.next b15
  replace KA := KA.next b15
  replace KB := KB.next b15
  replace KF := KF.next b15
  replace mS := mS.next b15
  replace KS := KS.next b15
  replace mM := mM.next b15
  replace KM := KM.next b15
  replace mT := mT.next b15
  replace KT := KT.next b15
  replace mX := mX.next b15
  replace KX := KX.next b15
  replace B0 := B0.trans (b15.mono B0.size)
  clear b15
  have qKB0 := KB.cell 0
  have qKB1 := KB.cell 1
  have qKA0 := KA.cell 0
  have qKA1 := KA.cell 1
  go_upto_region 13 with (fail)
  have qKB2 := KB.cell 2
  go_wp2_with fail
  refine (rf23_Formed _ r r ys _ mB true (decide_eq_true HFdB.out).symm).mono ?_; rintro e w16 ⟨rfl, b16⟩
  clear qKB0 qKB1 qKA0 qKA1 qKB2
  replace mA := mA.next b16
  replace mB := mB.next b16
  replace KA := KA.next b16
  replace KB := KB.next b16
  replace KF := KF.next b16
  replace mS := mS.next b16
  replace KS := KS.next b16
  replace mM := mM.next b16
  replace KM := KM.next b16
  replace mT := mT.next b16
  replace KT := KT.next b16
  replace mX := mX.next b16
  replace KX := KX.next b16
  replace B0 := B0.trans (b16.mono B0.size)
  clear b16
  have qKB0 := KB.cell 0
  have qKB1 := KB.cell 1
  have qKA0 := KA.cell 0
  have qKA1 := KA.cell 1
  go_upto_region 14 with (fail)
  have qKF0 := KF.cell 0
  have qKA2 := KA.cell 2
  have qKB2 := KB.cell 2
  obtain ⟨β, hβ⟩ : ∃ β : Bool, β = true ↔ ∀ j, j < xs.length → nl p (xs.getD j []) = nl p (ys.getD j []) := by
    by_cases h : ∀ j, j < xs.length → nl p (xs.getD j []) = nl p (ys.getD j [])
    · exact ⟨true, fun _ => h, fun _ => rfl⟩
    · exact ⟨false, fun h => absurd h (by decide), fun k => absurd k h⟩
  have HBB := Lib.hid hβ; clear hβ
  have hbb : (β != β) = false := by cases β <;> rfl
  have hlyx := Lib.hid (show ys.length = xs.length by rw [HXA.out, HXB.out])
  have ELY := Lib.hid (show ∀ j, j < xs.length → (ys.getD j []).length ≤ 1000000 from fun j hj => ELB.out j (by rw [hlyx.out]; exact hj))
  go_wp2_with fail
  refine (xm_Same p _ _ r r r r xs ys _ HP.out mA mB ⟨HFdA.out, HFdB.out, rfl, rfl⟩ hlyx.out (by omega) ELA.out ELY.out β HBB.out).mono ?_; rintro e w17 ⟨rfl, b17⟩
  clear qKB0 qKB1 qKA0 qKA1 qKF0 qKA2 qKB2
  replace mA := mA.next b17
  replace mB := mB.next b17
  replace KA := KA.next b17
  replace KB := KB.next b17
  replace KF := KF.next b17
  replace mS := mS.next b17
  replace KS := KS.next b17
  replace mM := mM.next b17
  replace KM := KM.next b17
  replace mT := mT.next b17
  replace KT := KT.next b17
  replace mX := mX.next b17
  replace KX := KX.next b17
  replace B0 := B0.trans (b17.mono B0.size)
  clear b17
  have qKA0 := KA.cell 0
  have qKA1 := KA.cell 1
  have qKA2 := KA.cell 2
  have qKB0 := KB.cell 0
  have qKB1 := KB.cell 1
  have qKB2 := KB.cell 2
  go_wp2_with fail
  refine (rf23_Same _ _ r r p xs ys _ HP.out mA mB hlyx.out β HBB.out (by omega) ELA.out ELY.out).mono ?_; rintro e w18 ⟨rfl, b18⟩
  clear qKA0 qKA1 qKA2 qKB0 qKB1 qKB2
  replace mA := mA.next b18
  replace mB := mB.next b18
  replace KA := KA.next b18
  replace KB := KB.next b18
  replace KF := KF.next b18
  replace mS := mS.next b18
  replace KS := KS.next b18
  replace mM := mM.next b18
  replace KM := KM.next b18
  replace mT := mT.next b18
  replace KT := KT.next b18
  replace mX := mX.next b18
  replace KX := KX.next b18
  replace B0 := B0.trans (b18.mono B0.size)
  clear b18
  go_upto_region 17 with (fail)
  have qKX2 := KX.cell 2
  obtain ⟨ao, bo, off, ca, U, eX, -, hao, hat⟩ := mX.open
  simp only [Value.agg.injEq, Array.mk.injEq, List.cons.injEq, true_and, and_true, Value.slice.injEq] at eX
  obtain ⟨rfl, hzl, rfl⟩ := eX
  have HAO := Lib.hid hao; have HAT := Lib.hid hat
  clear hao hat
  have hNX : zsX.length ≤ 9 := by rw [ZLX.out]; omega
  rw [ZLX.out] at HAT HAO hNX hzl
  clear hzl
  obtain ⟨N, eN⟩ : ∃ N, N = r * r := ⟨_, rfl⟩
  clear qKX2
  go_wp2
  go_loopw [20, 19] (fun jv dv wr => ∃ (j : Nat) (e : Int), j ≤ r * r ∧ jv = .int .i64 j ∧ dv = .int .i64 e ∧ Hid (e = xdg p xs j) ∧ Below w18.heap.size w18 wr) (fun jv _ _ => r * r - (intOf jv).toNat)
  case atStart => exact ⟨0, -1, by omega, rfl, rfl, Lib.hid rfl, Below.refl _ _⟩
  case round =>
    obtain ⟨j, e, hj, rfl, rfl, HE, BT⟩ := hrel
    replace KX := KX.next BT
    have c2 := KX.cell 2
    by_cases hjn : j < r * r
    · obtain ⟨rfl, hbl⟩ := HAO.out (by omega)
      obtain ⟨q0, s0, -⟩ := HAT.out j hjn
      obtain ⟨n, en⟩ : ∃ n : Nat, n = (zsX.getD j []).length := ⟨_, rfl⟩
      obtain ⟨ua, -, -, uc, eu, -, -⟩ := s0
      rw [eu, ← en] at q0
      have q1 := (BT.cell (p := ⟨bo, off + j, none⟩) hbl).trans q0
      have hz := ZX.out j hjn
      have hn4 : n ≤ 4 := by omega
      obtain ⟨e', ee⟩ : ∃ e', e' = max e ((n : Int) - 1) := ⟨_, rfl⟩
      have HN := Lib.hid (show e' = xdg p xs (j + 1) by
        rw [ee, HE.out, en, ← nl_of HP.out.pos hz.1, nl_same HP.out hz.2.1]; rfl)
      have hw : IntKind.i64.wrap ((n : Int) - 1) = (n : Int) - 1 := IntWalk.i64_in _ ⟨by omega, by omega⟩
      clear q0 hz en eu
      by_cases hc1 : e < (n : Int) - 1
      · have hn3 : e' = (n : Int) - 1 := by omega
        rw [hn3] at HN
        clear hn3 ee
        go_wp2
        all_goals go_roundw
        all_goals first | (case rel => exact ⟨j + 1, _, by omega, by go_num, rfl, HN, BT⟩) | (case measure => simp [intOf] <;> omega) | skip
      · have hn3 : e' = e := by omega
        rw [hn3] at HN
        clear hn3 ee
        go_wp2
        all_goals go_roundw
        all_goals first | (case rel => exact ⟨j + 1, _, by omega, by go_num, rfl, HN, BT⟩) | (case measure => simp [intOf] <;> omega) | skip
    · obtain rfl : j = r * r := by omega
      replace mA := mA.next BT
      replace mB := mB.next BT
      replace KA := KA.next BT
      replace KB := KB.next BT
      replace KF := KF.next BT
      replace mS := mS.next BT
      replace KS := KS.next BT
      replace mM := mM.next BT
      replace KM := KM.next BT
      replace mT := mT.next BT
      replace KT := KT.next BT
      replace mX := mX.next BT
      replace B0 := B0.trans (BT.mono B0.size)
      have HDG := Lib.hid (show e = xdg p xs xs.length by rw [HXA.out]; exact HE.out)
      clear BT HE hj hjn
      go_upto_region 21 with (fail)
      clear c2
      have bd := Drawn.below (w' := wr.drew) ⟨1, rfl⟩ wr.heap.size
      replace mA := mA.next bd
      replace mB := mB.next bd
      replace KA := KA.next bd
      replace KB := KB.next bd
      replace KF := KF.next bd
      replace mS := mS.next bd
      replace KS := KS.next bd
      replace mM := mM.next bd
      replace KM := KM.next bd
      replace mT := mT.next bd
      replace KT := KT.next bd
      replace mX := mX.next bd
      replace KX := KX.next bd
      replace B0 := B0.trans (bd.mono B0.size)
      clear bd
      refine startL (S := (fun w' => Below (wr.drew).heap.size (wr.drew) w')) (by kernel_rfl) (Below.refl _ _) (fun hHeld => ?_)
      refine takeL 0 (v := ?_) rfl (by kernel_rfl) (by kernel_rfl) (by kernel_rfl) (fun _ _ _ h => h) ⟨by rfl, ?_⟩ (by assumption) ?_
      rotate_left
      · intro w hS; go_simp <;> with_reducible rfl
      simp only [Act.put, List.setIfInBounds_toArray, List.set_cons_zero, List.set_cons_succ]
      refine takeL 1 (v := ?_) rfl (by kernel_rfl) (by kernel_rfl) (by kernel_rfl) (fun _ _ _ h => h) ⟨by rfl, ?_⟩ (by assumption) ?_
      rotate_left
      · intro w hS; go_simp <;> with_reducible rfl
      simp only [Act.put, List.setIfInBounds_toArray, List.set_cons_zero, List.set_cons_succ]
      refine takeL 2 (v := ?_) rfl (by kernel_rfl) (by kernel_rfl) (by kernel_rfl) (fun _ _ _ h => h) ⟨by rfl, ?_⟩ (by assumption) ?_
      rotate_left
      · intro w hS; go_simp <;> with_reducible rfl
      simp only [Act.put, List.setIfInBounds_toArray, List.set_cons_zero, List.set_cons_succ]
      refine takeL 3 (v := ?_) rfl (by kernel_rfl) (by kernel_rfl) (by kernel_rfl) (fun _ _ _ h => h) ⟨by rfl, ?_⟩ (by assumption) ?_
      rotate_left
      · intro w hS; have fa := KA.at hS; have f1 := fa 0; have f2 := fa 1; have f3 := fa 2; clear fa; have fb := KB.at hS; have f4 := fb 0; have f5 := fb 1; have f6 := fb 2; clear fb; have fd := KF.at hS; have f10 := fd 0; clear fd; have fc := KS.at hS; have f7 := fc 0; have f8 := fc 1; have f9 := fc 2; clear fc; have fe := KM.at hS; have f11 := fe 0; have f12 := fe 1; have f13 := fe 2; clear fe; go_simp <;> with_reducible rfl
      simp only [Act.put, List.setIfInBounds_toArray, List.set_cons_zero, List.set_cons_succ]
      refine takeL 4 (v := ?_) rfl (by kernel_rfl) (by kernel_rfl) (by kernel_rfl) (fun _ _ _ h => h) ⟨by rfl, ?_⟩ (by assumption) ?_
      rotate_left
      · intro w hS; have fa := KA.at hS; have f1 := fa 0; have f2 := fa 1; have f3 := fa 2; clear fa; have fb := KB.at hS; have f4 := fb 0; have f5 := fb 1; have f6 := fb 2; clear fb; have fd := KF.at hS; have f10 := fd 0; clear fd; have fc := KS.at hS; have f7 := fc 0; have f8 := fc 1; have f9 := fc 2; clear fc; have fe := KM.at hS; have f11 := fe 0; have f12 := fe 1; have f13 := fe 2; clear fe; go_simp <;> with_reducible rfl
      simp only [Act.put, List.setIfInBounds_toArray, List.set_cons_zero, List.set_cons_succ]
      refine takeL 5 (v := ?_) rfl (by kernel_rfl) (by kernel_rfl) (by kernel_rfl) (fun _ _ _ h => h) ⟨by rfl, ?_⟩ (by assumption) ?_
      rotate_left
      · intro w hS; have fa := KA.at hS; have f1 := fa 0; have f2 := fa 1; have f3 := fa 2; clear fa; have fb := KB.at hS; have f4 := fb 0; have f5 := fb 1; have f6 := fb 2; clear fb; have fd := KF.at hS; have f10 := fd 0; clear fd; have fc := KS.at hS; have f7 := fc 0; have f8 := fc 1; have f9 := fc 2; clear fc; have fe := KM.at hS; have f11 := fe 0; have f12 := fe 1; have f13 := fe 2; clear fe; go_simp <;> with_reducible rfl
      simp only [Act.put, List.setIfInBounds_toArray, List.set_cons_zero, List.set_cons_succ]
      refine takeL 6 (v := ?_) rfl (by kernel_rfl) (by kernel_rfl) (by kernel_rfl) (fun _ _ _ h => h) ⟨by rfl, ?_⟩ (by assumption) ?_
      rotate_left
      · intro w hS; go_simp <;> with_reducible rfl
      simp only [Act.put, List.setIfInBounds_toArray, List.set_cons_zero, List.set_cons_succ]
      refine takeL 8 (v := ?_) rfl (by kernel_rfl) (by kernel_rfl) (by kernel_rfl) (fun _ _ _ h => h) ⟨by rfl, ?_⟩ (by assumption) ?_
      rotate_left
      · intro w hS; go_simp <;> with_reducible rfl
      simp only [Act.put, List.setIfInBounds_toArray, List.set_cons_zero, List.set_cons_succ]
      refine oneL 7 rfl (by kernel_rfl) (by rfl) (fun K hK => ?_)
      go_simp
      go_at_call 50
      (with_reducible refine (rf23_Add p 4 _ _ r r xs ys _ HP.out (mA.next hHeld) (mB.next hHeld) (by omega) (by omega) HXA.out HXB.out (by omega) DLA.out DLB.out).mono ?_); rintro e4 y4 ⟨aV, kV, uV, rfl, oV, c4⟩; obtain ⟨zsV, zlV, nsV, hzV⟩ := oV.ns HP.out; have mV : Xm y4 (.agg #[.int .i64 r, .int .i64 r, .slice aV (r * r) kV]) r r zsV := ⟨_, rfl, nsV⟩; have ZLV := Lib.hid zlV; have ZV := Lib.hid hzV; clear nsV oV zlV hzV
      refine hK.out _ _ (hHeld.trans (c4.mono hHeld.size)) (fun hHeld => ?_)
      clear hK K
      try simp only [Act.put, List.setIfInBounds_toArray, List.set_cons_zero, List.set_cons_succ]
      refine oneL 9 rfl (by kernel_rfl) (by rfl) (fun K hK => ?_)
      go_simp
      go_at_call 46
      (with_reducible refine (rf23_Is _ _ r r p zsS zsV _ HP.out (mS.next hHeld) mV (Fd.of (by omega) (by omega) ZLS.out) (by rw [ZLV.out, ZLS.out]) (by rw [ZLS.out]; omega) (fun j hj => by have := ZS.out j (by rw [ZLS.out] at hj; exact hj); exact ⟨this.1, by omega⟩) (fun j hj => by have := ZV.out j (by rw [ZLS.out] at hj; exact hj); omega) (fun j hj => by rw [ZLS.out] at hj; exact nl_same HP.out (by rw [(ZS.out j hj).2.1, (ZV.out j hj).2.1]))).mono ?_); rintro e5 y5 ⟨rfl, c5⟩
      refine hK.out _ _ (hHeld.trans (c5.mono hHeld.size)) (fun hHeld => ?_)
      clear hK K
      try simp only [Act.put, List.setIfInBounds_toArray, List.set_cons_zero, List.set_cons_succ]
      refine takeL 10 (v := ?_) rfl (by kernel_rfl) (by kernel_rfl) (by kernel_rfl) (fun _ _ _ h => h) ⟨by rfl, ?_⟩ (by assumption) ?_
      rotate_left
      · intro w hS; go_simp <;> with_reducible rfl
      simp only [Act.put, List.setIfInBounds_toArray, List.set_cons_zero, List.set_cons_succ]
      refine takeL 11 (v := ?_) rfl (by kernel_rfl) (by kernel_rfl) (by kernel_rfl) (fun _ _ _ h => h) ⟨by rfl, ?_⟩ (by assumption) ?_
      rotate_left
      · intro w hS; go_simp <;> with_reducible rfl
      simp only [Act.put, List.setIfInBounds_toArray, List.set_cons_zero, List.set_cons_succ]
      refine takeL 12 (v := ?_) rfl (by kernel_rfl) (by kernel_rfl) (by kernel_rfl) (fun _ _ _ h => h) ⟨by rfl, ?_⟩ (by assumption) ?_
      rotate_left
      · intro w hS; go_simp <;> with_reducible rfl
      simp only [Act.put, List.setIfInBounds_toArray, List.set_cons_zero, List.set_cons_succ]
      refine takeL 13 (v := ?_) rfl (by kernel_rfl) (by kernel_rfl) (by kernel_rfl) (fun _ _ _ h => h) ⟨by rfl, ?_⟩ (by assumption) ?_
      rotate_left
      · intro w hS; go_simp <;> with_reducible rfl
      simp only [Act.put, List.setIfInBounds_toArray, List.set_cons_zero, List.set_cons_succ]
      refine takeL 14 (v := ?_) rfl (by kernel_rfl) (by kernel_rfl) (by kernel_rfl) (fun _ _ _ h => h) ⟨by rfl, ?_⟩ (by assumption) ?_
      rotate_left
      · intro w hS; go_simp <;> with_reducible rfl
      simp only [Act.put, List.setIfInBounds_toArray, List.set_cons_zero, List.set_cons_succ]
      refine takeL 15 (v := ?_) rfl (by kernel_rfl) (by kernel_rfl) (by kernel_rfl) (fun _ _ _ h => h) ⟨by rfl, ?_⟩ (by assumption) ?_
      rotate_left
      · intro w hS; have fa := KA.at hS; have f1 := fa 0; have f2 := fa 1; have f3 := fa 2; clear fa; have fb := KB.at hS; have f4 := fb 0; have f5 := fb 1; have f6 := fb 2; clear fb; have fd := KF.at hS; have f10 := fd 0; clear fd; have fc := KS.at hS; have f7 := fc 0; have f8 := fc 1; have f9 := fc 2; clear fc; have fe := KM.at hS; have f11 := fe 0; have f12 := fe 1; have f13 := fe 2; clear fe; go_simp <;> with_reducible rfl
      simp only [Act.put, List.setIfInBounds_toArray, List.set_cons_zero, List.set_cons_succ]
      refine takeL 16 (v := ?_) rfl (by kernel_rfl) (by kernel_rfl) (by kernel_rfl) (fun _ _ _ h => h) ⟨by rfl, ?_⟩ (by assumption) ?_
      rotate_left
      · intro w hS; have fa := KA.at hS; have f1 := fa 0; have f2 := fa 1; have f3 := fa 2; clear fa; have fb := KB.at hS; have f4 := fb 0; have f5 := fb 1; have f6 := fb 2; clear fb; have fd := KF.at hS; have f10 := fd 0; clear fd; have fc := KS.at hS; have f7 := fc 0; have f8 := fc 1; have f9 := fc 2; clear fc; have fe := KM.at hS; have f11 := fe 0; have f12 := fe 1; have f13 := fe 2; clear fe; go_simp <;> with_reducible rfl
      simp only [Act.put, List.setIfInBounds_toArray, List.set_cons_zero, List.set_cons_succ]
      refine takeL 17 (v := ?_) rfl (by kernel_rfl) (by kernel_rfl) (by kernel_rfl) (fun _ _ _ h => h) ⟨by rfl, ?_⟩ (by assumption) ?_
      rotate_left
      · intro w hS; have fa := KA.at hS; have f1 := fa 0; have f2 := fa 1; have f3 := fa 2; clear fa; have fb := KB.at hS; have f4 := fb 0; have f5 := fb 1; have f6 := fb 2; clear fb; have fd := KF.at hS; have f10 := fd 0; clear fd; have fc := KS.at hS; have f7 := fc 0; have f8 := fc 1; have f9 := fc 2; clear fc; have fe := KM.at hS; have f11 := fe 0; have f12 := fe 1; have f13 := fe 2; clear fe; go_simp <;> with_reducible rfl
      simp only [Act.put, List.setIfInBounds_toArray, List.set_cons_zero, List.set_cons_succ]
      refine takeL 18 (v := ?_) rfl (by kernel_rfl) (by kernel_rfl) (by kernel_rfl) (fun _ _ _ h => h) ⟨by rfl, ?_⟩ (by assumption) ?_
      rotate_left
      · intro w hS; go_simp <;> with_reducible rfl
      simp only [Act.put, List.setIfInBounds_toArray, List.set_cons_zero, List.set_cons_succ]
      refine takeL 20 (v := ?_) rfl (by kernel_rfl) (by kernel_rfl) (by kernel_rfl) (fun _ _ _ h => h) ⟨by rfl, ?_⟩ (by assumption) ?_
      rotate_left
      · intro w hS; go_simp <;> with_reducible rfl
      simp only [Act.put, List.setIfInBounds_toArray, List.set_cons_zero, List.set_cons_succ]
      refine oneL 19 rfl (by kernel_rfl) (by rfl) (fun K hK => ?_)
      go_simp
      go_at_call 51
      (with_reducible refine (rf23_Mul p 8 4 _ _ r r r xs ys _ HP.out (mA.next hHeld) (mB.next hHeld) (by omega) (by omega) (by omega) HXA.out HXM.out (by omega) (by omega) HLA.out HLB.out (dotT p xs ys r r) (fun i k _ hk => dotT_at hk)).mono ?_); rintro e6 y6 ⟨aW, kW, uW, rfl, oW, c6⟩; obtain ⟨zsW, zlW, nsW, hzW⟩ := oW.ns HP.out; have mW : Xm y6 (.agg #[.int .i64 r, .int .i64 r, .slice aW (r * r) kW]) r r zsW := ⟨_, rfl, nsW⟩; have ZLW := Lib.hid zlW; have ZW := Lib.hid hzW; clear nsW oW zlW hzW
      refine hK.out _ _ (hHeld.trans (c6.mono hHeld.size)) (fun hHeld => ?_)
      clear hK K
      try simp only [Act.put, List.setIfInBounds_toArray, List.set_cons_zero, List.set_cons_succ]
      refine oneL 21 rfl (by kernel_rfl) (by rfl) (fun K hK => ?_)
      go_simp
      go_at_call 46
      (with_reducible refine (rf23_Is _ _ r r p zsM zsW _ HP.out (mM.next hHeld) mW (Fd.of (by omega) (by omega) ZLM.out) (by rw [ZLW.out, ZLM.out]) (by rw [ZLM.out]; omega) (fun j hj => by have := ZM.out j (by rw [ZLM.out] at hj; exact hj); exact ⟨this.1, by omega⟩) (fun j hj => by have := ZW.out j (by rw [ZLM.out] at hj; exact hj); omega) (fun j hj => by rw [ZLM.out] at hj; exact nl_same HP.out (by rw [(ZM.out j hj).2.1, (ZW.out j hj).2.1]))).mono ?_); rintro e7 y7 ⟨rfl, c7⟩
      refine hK.out _ _ (hHeld.trans (c7.mono hHeld.size)) (fun hHeld => ?_)
      clear hK K
      try simp only [Act.put, List.setIfInBounds_toArray, List.set_cons_zero, List.set_cons_succ]
      refine takeL 22 (v := ?_) rfl (by kernel_rfl) (by kernel_rfl) (by kernel_rfl) (fun _ _ _ h => h) ⟨by rfl, ?_⟩ (by assumption) ?_
      rotate_left
      · intro w hS; go_simp <;> with_reducible rfl
      simp only [Act.put, List.setIfInBounds_toArray, List.set_cons_zero, List.set_cons_succ]
      refine takeL 23 (v := ?_) rfl (by kernel_rfl) (by kernel_rfl) (by kernel_rfl) (fun _ _ _ h => h) ⟨by rfl, ?_⟩ (by assumption) ?_
      rotate_left
      · intro w hS; go_simp <;> with_reducible rfl
      simp only [Act.put, List.setIfInBounds_toArray, List.set_cons_zero, List.set_cons_succ]
      refine takeL 24 (v := ?_) rfl (by kernel_rfl) (by kernel_rfl) (by kernel_rfl) (fun _ _ _ h => h) ⟨by rfl, ?_⟩ (by assumption) ?_
      rotate_left
      · intro w hS; go_simp <;> with_reducible rfl
      simp only [Act.put, List.setIfInBounds_toArray, List.set_cons_zero, List.set_cons_succ]
      refine takeL 25 (v := ?_) rfl (by kernel_rfl) (by kernel_rfl) (by kernel_rfl) (fun _ _ _ h => h) ⟨by rfl, ?_⟩ (by assumption) ?_
      rotate_left
      · intro w hS; have fa := KA.at hS; have f1 := fa 0; have f2 := fa 1; have f3 := fa 2; clear fa; have fb := KB.at hS; have f4 := fb 0; have f5 := fb 1; have f6 := fb 2; clear fb; have fd := KF.at hS; have f10 := fd 0; clear fd; have fc := KS.at hS; have f7 := fc 0; have f8 := fc 1; have f9 := fc 2; clear fc; have fe := KM.at hS; have f11 := fe 0; have f12 := fe 1; have f13 := fe 2; clear fe; go_simp <;> with_reducible rfl
      simp only [Act.put, List.setIfInBounds_toArray, List.set_cons_zero, List.set_cons_succ]
      refine takeL 26 (v := ?_) rfl (by kernel_rfl) (by kernel_rfl) (by kernel_rfl) (fun _ _ _ h => h) ⟨by rfl, ?_⟩ (by assumption) ?_
      rotate_left
      · intro w hS; have fa := KA.at hS; have f1 := fa 0; have f2 := fa 1; have f3 := fa 2; clear fa; have fb := KB.at hS; have f4 := fb 0; have f5 := fb 1; have f6 := fb 2; clear fb; have fd := KF.at hS; have f10 := fd 0; clear fd; have fc := KS.at hS; have f7 := fc 0; have f8 := fc 1; have f9 := fc 2; clear fc; have fe := KM.at hS; have f11 := fe 0; have f12 := fe 1; have f13 := fe 2; clear fe; go_simp <;> with_reducible rfl
      simp only [Act.put, List.setIfInBounds_toArray, List.set_cons_zero, List.set_cons_succ]
      refine takeL 28 (v := ?_) rfl (by kernel_rfl) (by kernel_rfl) (by kernel_rfl) (fun _ _ _ h => h) ⟨by rfl, ?_⟩ (by assumption) ?_
      rotate_left
      · intro w hS; go_simp <;> with_reducible rfl
      simp only [Act.put, List.setIfInBounds_toArray, List.set_cons_zero, List.set_cons_succ]
      refine oneL 27 rfl (by kernel_rfl) (by rfl) (fun K hK => ?_)
      go_simp
      go_at_call 45
      (with_reducible refine (xm_Degree p _ r r xs _ HP.out (mA.next hHeld) HFdA.out ELA.out (by omega) e HDG.out).mono ?_); rintro e9 y9 ⟨rfl, c9⟩
      refine hK.out _ _ (hHeld.trans (c9.mono hHeld.size)) (fun hHeld => ?_)
      clear hK K
      try simp only [Act.put, List.setIfInBounds_toArray, List.set_cons_zero, List.set_cons_succ]
      refine takeL 29 (v := ?_) rfl (by kernel_rfl) (by kernel_rfl) (by kernel_rfl) (fun _ _ _ h => h) ⟨by rfl, ?_⟩ (by assumption) ?_
      rotate_left
      · intro w hS; go_simp <;> with_reducible rfl
      simp only [Act.put, List.setIfInBounds_toArray, List.set_cons_zero, List.set_cons_succ]
      refine takeL 30 (v := ?_) rfl (by kernel_rfl) (by kernel_rfl) (by kernel_rfl) (fun _ _ _ h => h) ⟨by rfl, ?_⟩ (by assumption) ?_
      rotate_left
      · intro w hS; go_simp <;> with_reducible rfl
      simp only [Act.put, List.setIfInBounds_toArray, List.set_cons_zero, List.set_cons_succ]
      refine takeL 31 (v := ?_) rfl (by kernel_rfl) (by kernel_rfl) (by kernel_rfl) (fun _ _ _ h => h) ⟨by rfl, ?_⟩ (by assumption) ?_
      rotate_left
      · intro w hS; go_simp <;> with_reducible rfl
      simp only [Act.put, List.setIfInBounds_toArray, List.set_cons_zero, List.set_cons_succ]
      refine doneL (by kernel_rfl) ?_ _
      replace B0 := B0.trans (hHeld.mono B0.size)
      clear hHeld mV mW
      clear mA mB KA KB KF mS KS mM KM mT KT mX KX
      go_wp2
      go_ret
      exact ⟨rfl, B0⟩

set_option maxRecDepth 20000 in
set_option maxHeartbeats 8000000 in
theorem gTF (x0 : Nat) (r c : Nat) (v : Value) (xs : List (List Nat)) (u : Value) (ys : List (List Nat)) (w : World) (mA : Xm w v r c xs) (mB : Xm w u r c ys) (hfA : Fwx 3 4 r c xs) (hfB : Fwx 3 4 r c ys) (hr : r ≤ 3) (hc : c ≤ 3) (hxA : xs.length = r * c) (hxB : ys.length = r * c) (hne : c ≠ r) :
    Calls Try.prog 7 #[.int .u8 x0, v, u] w (LawOk w) := by
  obtain ⟨p, ep⟩ : ∃ p, p = Ps (x0 % 12) := ⟨_, rfl⟩
  have hp : FP p := by rw [ep]; exact Ps_FP (by omega)
  have ht : Trial p := by rw [ep]; exact Ps_trial (by omega)
  have cOf : ∀ w : World, Calls Try.prog 17 #[.int .u8 x0] w fun e w' => e = .returned (.agg #[.int .u64 (p : Nat)]) ∧ Below w.heap.size w w' := fun w => by rw [ep]; exact law9_Of x0 w
  have cP : ∀ w : World, Calls Try.prog 18 #[.int .u8 x0] w fun e w' => e = .returned (.int .u64 (p : Nat)) ∧ w = w' := fun w => by rw [ep]; exact ref8_P x0 w
  have hp2 := hp.1
  have hp3 := hp.2
  have HP := Lib.hid hp; have HT := Lib.hid ht; have COF := Lib.hid cOf; have CP := Lib.hid cP
  clear hp ht cOf cP ep
  obtain ⟨aA, cA, rfl⟩ := mA.agg
  obtain ⟨aB, cB, rfl⟩ := mB.agg
  obtain ⟨wb, ew, KA, KB, B0, hsz⟩ := boxes2 w 24 24 [.int .i64 r, .int .i64 c, .slice aA xs.length cA] [.int .i64 r, .int .i64 c, .slice aB ys.length cB]
  clear hsz
  replace mA := mA.next B0
  replace mB := mB.next B0
  have hlA : ∀ j, j < xs.length → (xs.getD j []).length ≤ 4 := fun j hj => by have := hfA.2.2.2 j hj; omega
  have hlB : ∀ j, j < ys.length → (ys.getD j []).length ≤ 4 := fun j hj => by have := hfB.2.2.2 j hj; omega
  have hrc : r * c ≤ 3 * 3 := Nat.mul_le_mul hr hc
  have hcr : c * r ≤ 3 * 3 := Nat.mul_le_mul hc hr
  have hxl : xs.length ≤ 9 := by omega
  have hyl : ys.length ≤ 100 := hfB.2.2.1
  have HF := Lib.hid hfA; have HG := Lib.hid hfB
  have HLA := Lib.hid hlA; have HLB := Lib.hid hlB; have HXA := Lib.hid hxA
  have HFdA := Lib.hid (Fd.of (show r ≤ 64 by omega) (show c ≤ 64 by omega) hxA)
  have DLA := Lib.hid (show ∀ j, j < r * c → (xs.getD j []).length ≤ 4 from fun j hj => hlA j (by omega))
  have ELA := Lib.hid (show ∀ j, j < xs.length → (xs.getD j []).length ≤ 1000000 from fun j hj => by have := hlA j hj; omega)
  have ELB := Lib.hid (show ∀ j, j < ys.length → (ys.getD j []).length ≤ 1000000 from fun j hj => by have := hlB j hj; omega)
  clear hlA hlB hxA hfA hfB
  have HXB := Lib.hid hxB
  have HFdB := Lib.hid (Fd.of (show r ≤ 64 by omega) (show c ≤ 64 by omega) hxB)
  have DLB := Lib.hid (show ∀ j, j < r * c → (ys.getD j []).length ≤ 4 from fun j hj => HLB.out j (by omega))
  have NMA := Lib.hid (show ¬ (Fd r c xs.length ∧ Fd r c ys.length ∧ (c : Int) = r) from fun h => hne (by have := h.2.2; omega))
  have e1 : ((r : Int) == (r : Int)) = true := by simp
  have e2 : ((c : Int) == (c : Int)) = true := by simp
  have e3 : ((c : Int) == (r : Int)) = false := by simp; omega
  clear hxB hne
  go_enter Try.func7, Try.ntmps7
  go_upto_region 1 with (fail)
  rw [← ew]
  clear ew
  go_wp2_with fail
  refine (law23_awake _).mono ?_; rintro e w1 ⟨rfl, b1⟩
  replace mA := mA.next b1
  replace mB := mB.next b1
  replace KA := KA.next b1
  replace KB := KB.next b1
  replace B0 := B0.trans (b1.mono B0.size)
  clear b1
  have qKA0 := KA.cell 0
  have qKA1 := KA.cell 1
  have qKA2 := KA.cell 2
  go_wp2_with fail
  refine (rf23_Few _ r c 3 4 xs _ mA true ⟨fun _ => HF.out, fun _ => rfl⟩).mono ?_; rintro e w2 ⟨rfl, b2⟩
  clear qKA0 qKA1 qKA2
  replace mA := mA.next b2
  replace mB := mB.next b2
  replace KA := KA.next b2
  replace KB := KB.next b2
  replace B0 := B0.trans (b2.mono B0.size)
  clear b2
  have qKB0 := KB.cell 0
  have qKB1 := KB.cell 1
  have qKB2 := KB.cell 2
  go_wp2_with fail
  refine (rf23_Few _ r c 3 4 ys _ mB true ⟨fun _ => HG.out, fun _ => rfl⟩).mono ?_; rintro e w3 ⟨rfl, b3⟩
  clear qKB0 qKB1 qKB2
  replace mA := mA.next b3
  replace mB := mB.next b3
  replace KA := KA.next b3
  replace KB := KB.next b3
  replace B0 := B0.trans (b3.mono B0.size)
  clear b3
  go_wp2_with fail
  refine (COF.out _).mono ?_; rintro e w4 ⟨rfl, b4⟩
  replace mA := mA.next b4
  replace mB := mB.next b4
  replace KA := KA.next b4
  replace KB := KB.next b4
  replace B0 := B0.trans (b4.mono B0.size)
  clear b4
  go_wp2_with fail
  refine (CP.out _).mono ?_; rintro e wx ⟨rfl, rfl⟩
  obtain ⟨w5, e5, KF, b5, hs5⟩ := boxes1 w4 29 [.int .u64 p]
  clear hs5
  replace mA := mA.next b5
  replace mB := mB.next b5
  replace KA := KA.next b5
  replace KB := KB.next b5
  replace B0 := B0.trans (b5.mono B0.size)
  clear b5
  go_upto_region 4 with (fail)
  rw [← e5]
  clear e5
  have qKF0 := KF.cell 0
  have qKA0 := KA.cell 0
  have qKA1 := KA.cell 1
  have qKA2 := KA.cell 2
  have qKB0 := KB.cell 0
  have qKB1 := KB.cell 1
  have qKB2 := KB.cell 2
  go_wp2_with fail
  refine (xm_Add p 4 _ _ r c xs ys _ HP.out mA mB (by omega) (by omega) HXA.out HXB.out (by omega) DLA.out DLB.out (fun j => pl p (xs.getD j []) + pl p (ys.getD j [])) (fun _ _ _ _ => rfl)).mono ?_; rintro e w6 ⟨a6, k6, us6, rfl, o6, b6⟩
  clear qKF0 qKA0 qKA1 qKA2 qKB0 qKB1 qKB2
  replace mA := mA.next b6
  replace mB := mB.next b6
  replace KA := KA.next b6
  replace KB := KB.next b6
  replace KF := KF.next b6
  replace B0 := B0.trans (b6.mono B0.size)
  clear b6
  obtain ⟨zsS, zlS, nsS, hzS⟩ := o6.ns HP.out
  have mS : Xm w6 (.agg #[.int .i64 r, .int .i64 c, .slice a6 (r * c) k6]) r c zsS := ⟨_, rfl, nsS⟩
  have ZLS := Lib.hid zlS; have ZS := Lib.hid hzS
  clear zlS nsS hzS o6
  obtain ⟨w7, e7, KS, b7, hs7⟩ := boxes1 w6 24 [.int .i64 r, .int .i64 c, .slice a6 (r * c) k6]
  clear hs7
  replace mA := mA.next b7
  replace mB := mB.next b7
  replace KA := KA.next b7
  replace KB := KB.next b7
  replace KF := KF.next b7
  replace mS := mS.next b7
  replace B0 := B0.trans (b7.mono B0.size)
  clear b7
  go_upto_region 5 with (fail)
  rw [← e7]
  clear e7
  have qKF0 := KF.cell 0
  have qKA0 := KA.cell 0
  have qKA1 := KA.cell 1
  have qKA2 := KA.cell 2
  have qKB0 := KB.cell 0
  have qKB1 := KB.cell 1
  have qKB2 := KB.cell 2
  go_wp2_with fail
  refine (xm_Mul_bad p _ _ r c r c xs ys _ mA mB NMA.out).mono ?_; rintro e w8 ⟨rfl, b8⟩
  clear qKF0 qKA0 qKA1 qKA2 qKB0 qKB1 qKB2
  replace mA := mA.next b8
  replace mB := mB.next b8
  replace KA := KA.next b8
  replace KB := KB.next b8
  replace KF := KF.next b8
  replace mS := mS.next b8
  replace KS := KS.next b8
  replace B0 := B0.trans (b8.mono B0.size)
  clear b8
  obtain ⟨w9, e9, KM, b9, hs9⟩ := boxes1 w8 24 [.int .i64 0, .int .i64 0, .slice none 0 0]
  clear hs9
  replace mA := mA.next b9
  replace mB := mB.next b9
  replace KA := KA.next b9
  replace KB := KB.next b9
  replace KF := KF.next b9
  replace mS := mS.next b9
  replace KS := KS.next b9
  replace B0 := B0.trans (b9.mono B0.size)
  clear b9
  go_upto_region 6 with (fail)
  rw [← e9]
  clear e9
  have qKF0 := KF.cell 0
  have qKA0 := KA.cell 0
  have qKA1 := KA.cell 1
  have qKA2 := KA.cell 2
  go_wp2_with fail
  refine (xm_Transpose p 4 _ r c xs _ HP.out mA (by omega) (by omega) HXA.out (by omega) DLA.out (fun j => pl p (xs.getD (tix r c j) [])) (fun i k _ hk => by rw [tix_at hk])).mono ?_; rintro e w10 ⟨a10, k10, us10, rfl, o10, b10⟩
  clear qKF0 qKA0 qKA1 qKA2
  replace mA := mA.next b10
  replace mB := mB.next b10
  replace KA := KA.next b10
  replace KB := KB.next b10
  replace KF := KF.next b10
  replace mS := mS.next b10
  replace KS := KS.next b10
  replace KM := KM.next b10
  replace B0 := B0.trans (b10.mono B0.size)
  clear b10
  obtain ⟨zsT, zlT, nsT, hzT⟩ := o10.ns HP.out
  have mT : Xm w10 (.agg #[.int .i64 c, .int .i64 r, .slice a10 (c * r) k10]) c r zsT := ⟨_, rfl, nsT⟩
  have ZLT := Lib.hid zlT; have ZT := Lib.hid hzT
  clear zlT nsT hzT o10
  obtain ⟨w11, e11, KT, b11, hs11⟩ := boxes1 w10 24 [.int .i64 c, .int .i64 r, .slice a10 (c * r) k10]
  clear hs11
  replace mA := mA.next b11
  replace mB := mB.next b11
  replace KA := KA.next b11
  replace KB := KB.next b11
  replace KF := KF.next b11
  replace mS := mS.next b11
  replace KS := KS.next b11
  replace KM := KM.next b11
  replace mT := mT.next b11
  replace B0 := B0.trans (b11.mono B0.size)
  clear b11
  go_upto_region 7 with (fail)
  rw [← e11]
  clear e11
  have qKF0 := KF.cell 0
  have qKA0 := KA.cell 0
  have qKA1 := KA.cell 1
  have qKA2 := KA.cell 2
  go_wp2_with fail
  refine (xm_Norm p 4 _ r c xs _ HP.out mA (by omega) (by omega) HXA.out (by omega) DLA.out (fun j => pl p (xs.getD j [])) (fun _ _ _ _ => rfl)).mono ?_; rintro e w12 ⟨a12, k12, us12, rfl, o12, b12⟩
  clear qKF0 qKA0 qKA1 qKA2
  replace mA := mA.next b12
  replace mB := mB.next b12
  replace KA := KA.next b12
  replace KB := KB.next b12
  replace KF := KF.next b12
  replace mS := mS.next b12
  replace KS := KS.next b12
  replace KM := KM.next b12
  replace mT := mT.next b12
  replace KT := KT.next b12
  replace B0 := B0.trans (b12.mono B0.size)
  clear b12
  obtain ⟨zsX, zlX, nsX, hzX⟩ := o12.ns HP.out
  have mX : Xm w12 (.agg #[.int .i64 r, .int .i64 c, .slice a12 (r * c) k12]) r c zsX := ⟨_, rfl, nsX⟩
  have ZLX := Lib.hid zlX; have ZX := Lib.hid hzX
  clear zlX nsX hzX o12
  obtain ⟨w13, e13, KX, b13, hs13⟩ := boxes1 w12 24 [.int .i64 r, .int .i64 c, .slice a12 (r * c) k12]
  clear hs13
  replace mA := mA.next b13
  replace mB := mB.next b13
  replace KA := KA.next b13
  replace KB := KB.next b13
  replace KF := KF.next b13
  replace mS := mS.next b13
  replace KS := KS.next b13
  replace KM := KM.next b13
  replace mT := mT.next b13
  replace KT := KT.next b13
  replace mX := mX.next b13
  replace B0 := B0.trans (b13.mono B0.size)
  clear b13
  go_upto_region 8 with (fail)
  rw [← e13]
  clear e13
  have qKA0 := KA.cell 0
  have qKA1 := KA.cell 1
  have qKA2 := KA.cell 2
  go_wp2_with fail
  refine (rf23_Formed _ r c xs _ mA true (decide_eq_true HFdA.out).symm).mono ?_; rintro e w14 ⟨rfl, b14⟩
  clear qKA0 qKA1 qKA2
  replace mA := mA.next b14
  replace mB := mB.next b14
  replace KA := KA.next b14
  replace KB := KB.next b14
  replace KF := KF.next b14
  replace mS := mS.next b14
  replace KS := KS.next b14
  replace KM := KM.next b14
  replace mT := mT.next b14
  replace KT := KT.next b14
  replace mX := mX.next b14
  replace KX := KX.next b14
  replace B0 := B0.trans (b14.mono B0.size)
  clear b14
  go_upto_region 10 with (fail)
  have bd := Drawn.below (w' := w14.drew) ⟨1, rfl⟩ w14.heap.size
  replace mA := mA.next bd
  replace mB := mB.next bd
  replace KA := KA.next bd
  replace KB := KB.next bd
  replace KF := KF.next bd
  replace mS := mS.next bd
  replace KS := KS.next bd
  replace KM := KM.next bd
  replace mT := mT.next bd
  replace KT := KT.next bd
  replace mX := mX.next bd
  replace KX := KX.next bd
  replace B0 := B0.trans (bd.mono B0.size)
  clear bd
  have hsT := Lib.hid (show ∀ j, j < zsT.length → Nrm p (zsT.getD j []) ∧ (zsT.getD j []).length ≤ 1000000 from fun j hj => by
    have := ZT.out j (by rw [ZLT.out] at hj; exact hj); exact ⟨this.1, by omega⟩)
  have hsX := Lib.hid (show ∀ j, j < zsX.length → Nrm p (zsX.getD j []) ∧ (zsX.getD j []).length ≤ 1000000 from fun j hj => by
    have := ZX.out j (by rw [ZLX.out] at hj; exact hj); exact ⟨this.1, by omega⟩)
  have heX := Lib.hid (show ∀ j, j < zsX.length → nl p (zsX.getD j []) = nl p (xs.getD j []) from fun j hj => nl_same HP.out (by rw [(ZX.out j (by rw [ZLX.out] at hj; exact hj)).2.1]))
  obtain ⟨qT, eqT⟩ : ∃ qT, qT = (List.range (c * r)).map fun j => xs.getD (tix r c j) [] := ⟨_, rfl⟩
  have lqT := Lib.hid (show qT.length = c * r by rw [eqT]; simp)
  have gqT := Lib.hid (show ∀ j, j < c * r → qT.getD j [] = xs.getD (tix r c j) [] from fun j hj => by rw [eqT]; simp [List.getD, hj])
  have hqT := Lib.hid (show ∀ j, j < zsT.length → (qT.getD j []).length ≤ 1000000 from fun j hj => by
    rw [ZLT.out] at hj
    rw [gqT.out j hj]; have := DLA.out _ (tix_lt hj); omega)
  have heT := Lib.hid (show ∀ j, j < zsT.length → nl p (zsT.getD j []) = nl p (qT.getD j []) from fun j hj => by
    rw [ZLT.out] at hj
    rw [gqT.out j hj]; exact nl_same HP.out (ZT.out j hj).2.1)
  have EQT := Lib.hid eqT; clear eqT
  refine startL (S := (fun w' => Below (w14.drew).heap.size (w14.drew) w')) (by kernel_rfl) (Below.refl _ _) (fun hHeld => ?_)
  refine takeL 0 (v := ?_) rfl (by kernel_rfl) (by kernel_rfl) (by kernel_rfl) (fun _ _ _ h => h) ⟨by rfl, ?_⟩ (by assumption) ?_
  rotate_left
  · intro w hS; go_simp <;> with_reducible rfl
  simp only [Act.put, List.setIfInBounds_toArray, List.set_cons_zero, List.set_cons_succ]
  refine takeL 1 (v := ?_) rfl (by kernel_rfl) (by kernel_rfl) (by kernel_rfl) (fun _ _ _ h => h) ⟨by rfl, ?_⟩ (by assumption) ?_
  rotate_left
  · intro w hS; go_simp <;> with_reducible rfl
  simp only [Act.put, List.setIfInBounds_toArray, List.set_cons_zero, List.set_cons_succ]
  refine takeL 2 (v := ?_) rfl (by kernel_rfl) (by kernel_rfl) (by kernel_rfl) (fun _ _ _ h => h) ⟨by rfl, ?_⟩ (by assumption) ?_
  rotate_left
  · intro w hS; go_simp <;> with_reducible rfl
  simp only [Act.put, List.setIfInBounds_toArray, List.set_cons_zero, List.set_cons_succ]
  refine takeL 3 (v := ?_) rfl (by kernel_rfl) (by kernel_rfl) (by kernel_rfl) (fun _ _ _ h => h) ⟨by rfl, ?_⟩ (by assumption) ?_
  rotate_left
  · intro w hS; go_simp <;> with_reducible rfl
  simp only [Act.put, List.setIfInBounds_toArray, List.set_cons_zero, List.set_cons_succ]
  refine takeL 4 (v := ?_) rfl (by kernel_rfl) (by kernel_rfl) (by kernel_rfl) (fun _ _ _ h => h) ⟨by rfl, ?_⟩ (by assumption) ?_
  rotate_left
  · intro w hS; go_simp <;> with_reducible rfl
  simp only [Act.put, List.setIfInBounds_toArray, List.set_cons_zero, List.set_cons_succ]
  refine takeL 5 (v := ?_) rfl (by kernel_rfl) (by kernel_rfl) (by kernel_rfl) (fun _ _ _ h => h) ⟨by rfl, ?_⟩ (by assumption) ?_
  rotate_left
  · intro w hS; go_simp <;> with_reducible rfl
  simp only [Act.put, List.setIfInBounds_toArray, List.set_cons_zero, List.set_cons_succ]
  refine takeL 6 (v := ?_) rfl (by kernel_rfl) (by kernel_rfl) (by kernel_rfl) (fun _ _ _ h => h) ⟨by rfl, ?_⟩ (by assumption) ?_
  rotate_left
  · intro w hS; go_simp <;> with_reducible rfl
  simp only [Act.put, List.setIfInBounds_toArray, List.set_cons_zero, List.set_cons_succ]
  refine takeL 7 (v := ?_) rfl (by kernel_rfl) (by kernel_rfl) (by kernel_rfl) (fun _ _ _ h => h) ⟨by rfl, ?_⟩ (by assumption) ?_
  rotate_left
  · intro w hS; have fa := KA.at hS; have f1 := fa 0; have f2 := fa 1; have f3 := fa 2; clear fa; have fb := KT.at hS; have f4 := fb 0; have f5 := fb 1; have f6 := fb 2; clear fb; have fc := KX.at hS; have f7 := fc 0; have f8 := fc 1; have f9 := fc 2; clear fc; go_simp <;> with_reducible rfl
  simp only [Act.put, List.setIfInBounds_toArray, List.set_cons_zero, List.set_cons_succ]
  refine takeL 8 (v := ?_) rfl (by kernel_rfl) (by kernel_rfl) (by kernel_rfl) (fun _ _ _ h => h) ⟨by rfl, ?_⟩ (by assumption) ?_
  rotate_left
  · intro w hS; have fa := KA.at hS; have f1 := fa 0; have f2 := fa 1; have f3 := fa 2; clear fa; have fb := KT.at hS; have f4 := fb 0; have f5 := fb 1; have f6 := fb 2; clear fb; have fc := KX.at hS; have f7 := fc 0; have f8 := fc 1; have f9 := fc 2; clear fc; go_simp <;> with_reducible rfl
  simp only [Act.put, List.setIfInBounds_toArray, List.set_cons_zero, List.set_cons_succ]
  refine takeL 10 (v := ?_) rfl (by kernel_rfl) (by kernel_rfl) (by kernel_rfl) (fun _ _ _ h => h) ⟨by rfl, ?_⟩ (by assumption) ?_
  rotate_left
  · intro w hS; go_simp <;> with_reducible rfl
  simp only [Act.put, List.setIfInBounds_toArray, List.set_cons_zero, List.set_cons_succ]
  refine oneL 9 rfl (by kernel_rfl) (by rfl) (fun K hK => ?_)
  go_simp
  go_at_call 47
  (with_reducible refine (rf23_Turned _ r c xs _ (mA.next hHeld) (by omega) (by omega) HXA.out).mono ?_); rintro e y1 ⟨aU, kU, rfl, nU, c1⟩; rw [← EQT.out] at nU; have mU : Xm y1 (.agg #[.int .i64 c, .int .i64 r, .slice aU (c * r) kU]) c r qT := ⟨_, rfl, nU⟩; clear nU
  refine hK.out _ _ (hHeld.trans (c1.mono hHeld.size)) (fun hHeld => ?_)
  clear hK K
  try simp only [Act.put, List.setIfInBounds_toArray, List.set_cons_zero, List.set_cons_succ]
  refine oneL 11 rfl (by kernel_rfl) (by rfl) (fun K hK => ?_)
  go_simp
  go_at_call 46
  (with_reducible refine (rf23_Is _ _ c r p zsT qT _ HP.out (mT.next hHeld) mU (Fd.of (by omega) (by omega) ZLT.out) (by rw [lqT.out, ZLT.out]) (by rw [ZLT.out]; omega) hsT.out hqT.out heT.out).mono ?_); rintro e y2 ⟨rfl, c2⟩
  refine hK.out _ _ (hHeld.trans (c2.mono hHeld.size)) (fun hHeld => ?_)
  clear hK K
  try simp only [Act.put, List.setIfInBounds_toArray, List.set_cons_zero, List.set_cons_succ]
  refine takeL 12 (v := ?_) rfl (by kernel_rfl) (by kernel_rfl) (by kernel_rfl) (fun _ _ _ h => h) ⟨by rfl, ?_⟩ (by assumption) ?_
  rotate_left
  · intro w hS; go_simp <;> with_reducible rfl
  simp only [Act.put, List.setIfInBounds_toArray, List.set_cons_zero, List.set_cons_succ]
  refine takeL 13 (v := ?_) rfl (by kernel_rfl) (by kernel_rfl) (by kernel_rfl) (fun _ _ _ h => h) ⟨by rfl, ?_⟩ (by assumption) ?_
  rotate_left
  · intro w hS; go_simp <;> with_reducible rfl
  simp only [Act.put, List.setIfInBounds_toArray, List.set_cons_zero, List.set_cons_succ]
  refine takeL 14 (v := ?_) rfl (by kernel_rfl) (by kernel_rfl) (by kernel_rfl) (fun _ _ _ h => h) ⟨by rfl, ?_⟩ (by assumption) ?_
  rotate_left
  · intro w hS; go_simp <;> with_reducible rfl
  simp only [Act.put, List.setIfInBounds_toArray, List.set_cons_zero, List.set_cons_succ]
  refine takeL 15 (v := ?_) rfl (by kernel_rfl) (by kernel_rfl) (by kernel_rfl) (fun _ _ _ h => h) ⟨by rfl, ?_⟩ (by assumption) ?_
  rotate_left
  · intro w hS; have fa := KA.at hS; have f1 := fa 0; have f2 := fa 1; have f3 := fa 2; clear fa; have fb := KT.at hS; have f4 := fb 0; have f5 := fb 1; have f6 := fb 2; clear fb; have fc := KX.at hS; have f7 := fc 0; have f8 := fc 1; have f9 := fc 2; clear fc; go_simp <;> with_reducible rfl
  simp only [Act.put, List.setIfInBounds_toArray, List.set_cons_zero, List.set_cons_succ]
  refine takeL 16 (v := ?_) rfl (by kernel_rfl) (by kernel_rfl) (by kernel_rfl) (fun _ _ _ h => h) ⟨by rfl, ?_⟩ (by assumption) ?_
  rotate_left
  · intro w hS; have fa := KA.at hS; have f1 := fa 0; have f2 := fa 1; have f3 := fa 2; clear fa; have fb := KT.at hS; have f4 := fb 0; have f5 := fb 1; have f6 := fb 2; clear fb; have fc := KX.at hS; have f7 := fc 0; have f8 := fc 1; have f9 := fc 2; clear fc; go_simp <;> with_reducible rfl
  simp only [Act.put, List.setIfInBounds_toArray, List.set_cons_zero, List.set_cons_succ]
  refine takeL 17 (v := ?_) rfl (by kernel_rfl) (by kernel_rfl) (by kernel_rfl) (fun _ _ _ h => h) ⟨by rfl, ?_⟩ (by assumption) ?_
  rotate_left
  · intro w hS; go_simp <;> with_reducible rfl
  simp only [Act.put, List.setIfInBounds_toArray, List.set_cons_zero, List.set_cons_succ]
  refine oneL 18 rfl (by kernel_rfl) (by rfl) (fun K hK => ?_)
  go_simp
  go_at_call 46
  (with_reducible refine (rf23_Is _ _ r c p zsX xs _ HP.out (mX.next hHeld) (mA.next hHeld) (Fd.of (by omega) (by omega) ZLX.out) (by rw [HXA.out, ZLX.out]) (by rw [ZLX.out]; omega) hsX.out (by rw [ZLX.out, ← HXA.out]; exact ELA.out) heX.out).mono ?_); rintro e y3 ⟨rfl, c3⟩
  refine hK.out _ _ (hHeld.trans (c3.mono hHeld.size)) (fun hHeld => ?_)
  clear hK K
  try simp only [Act.put, List.setIfInBounds_toArray, List.set_cons_zero, List.set_cons_succ]
  refine takeL 19 (v := ?_) rfl (by kernel_rfl) (by kernel_rfl) (by kernel_rfl) (fun _ _ _ h => h) ⟨by rfl, ?_⟩ (by assumption) ?_
  rotate_left
  · intro w hS; go_simp <;> with_reducible rfl
  simp only [Act.put, List.setIfInBounds_toArray, List.set_cons_zero, List.set_cons_succ]
  refine takeL 20 (v := ?_) rfl (by kernel_rfl) (by kernel_rfl) (by kernel_rfl) (fun _ _ _ h => h) ⟨by rfl, ?_⟩ (by assumption) ?_
  rotate_left
  · intro w hS; go_simp <;> with_reducible rfl
  simp only [Act.put, List.setIfInBounds_toArray, List.set_cons_zero, List.set_cons_succ]
  refine doneL (by kernel_rfl) ?_ _
  replace mA := mA.next hHeld
  replace mB := mB.next hHeld
  replace KA := KA.next hHeld
  replace KB := KB.next hHeld
  replace KF := KF.next hHeld
  replace mS := mS.next hHeld
  replace KS := KS.next hHeld
  replace KM := KM.next hHeld
  replace mT := mT.next hHeld
  replace KT := KT.next hHeld
  replace mX := mX.next hHeld
  replace KX := KX.next hHeld
  replace B0 := B0.trans (hHeld.mono B0.size)
  clear hHeld mU c1 c2 c3 hqT heT lqT gqT EQT heX
  have qKB0 := KB.cell 0
  have qKB1 := KB.cell 1
  have qKB2 := KB.cell 2
  have qKA0 := KA.cell 0
  have qKA1 := KA.cell 1
  go_wp2_with fail
  refine (rf23_Formed _ r c ys _ mB true (decide_eq_true HFdB.out).symm).mono ?_; rintro e w15 ⟨rfl, b15⟩
  clear qKB0 qKB1 qKB2 qKA0 qKA1
  replace mA := mA.next b15
  replace mB := mB.next b15
  replace KA := KA.next b15
  replace KB := KB.next b15
  replace KF := KF.next b15
  replace mS := mS.next b15
  replace KS := KS.next b15
  replace KM := KM.next b15
  replace mT := mT.next b15
  replace KT := KT.next b15
  replace mX := mX.next b15
  replace KX := KX.next b15
  replace B0 := B0.trans (b15.mono B0.size)
  clear b15
  have qKB0 := KB.cell 0
  have qKB1 := KB.cell 1
  have qKA0 := KA.cell 0
  have qKA1 := KA.cell 1
  go_upto_region 13 with (fail)
  have qKB2 := KB.cell 2
  go_wp2_with fail
  refine (rf23_Formed _ r c ys _ mB true (decide_eq_true HFdB.out).symm).mono ?_; rintro e w16 ⟨rfl, b16⟩
  clear qKB0 qKB1 qKA0 qKA1 qKB2
  replace mA := mA.next b16
  replace mB := mB.next b16
  replace KA := KA.next b16
  replace KB := KB.next b16
  replace KF := KF.next b16
  replace mS := mS.next b16
  replace KS := KS.next b16
  replace KM := KM.next b16
  replace mT := mT.next b16
  replace KT := KT.next b16
  replace mX := mX.next b16
  replace KX := KX.next b16
  replace B0 := B0.trans (b16.mono B0.size)
  clear b16
  have qKB0 := KB.cell 0
  have qKB1 := KB.cell 1
  have qKA0 := KA.cell 0
  have qKA1 := KA.cell 1
  go_upto_region 14 with (fail)
  have qKF0 := KF.cell 0
  have qKA2 := KA.cell 2
  have qKB2 := KB.cell 2
  obtain ⟨β, hβ⟩ : ∃ β : Bool, β = true ↔ ∀ j, j < xs.length → nl p (xs.getD j []) = nl p (ys.getD j []) := by
    by_cases h : ∀ j, j < xs.length → nl p (xs.getD j []) = nl p (ys.getD j [])
    · exact ⟨true, fun _ => h, fun _ => rfl⟩
    · exact ⟨false, fun h => absurd h (by decide), fun k => absurd k h⟩
  have HBB := Lib.hid hβ; clear hβ
  have hbb : (β != β) = false := by cases β <;> rfl
  have hlyx := Lib.hid (show ys.length = xs.length by rw [HXA.out, HXB.out])
  have ELY := Lib.hid (show ∀ j, j < xs.length → (ys.getD j []).length ≤ 1000000 from fun j hj => ELB.out j (by rw [hlyx.out]; exact hj))
  go_wp2_with fail
  refine (xm_Same p _ _ r c r c xs ys _ HP.out mA mB ⟨HFdA.out, HFdB.out, rfl, rfl⟩ hlyx.out (by omega) ELA.out ELY.out β HBB.out).mono ?_; rintro e w17 ⟨rfl, b17⟩
  clear qKB0 qKB1 qKA0 qKA1 qKF0 qKA2 qKB2
  replace mA := mA.next b17
  replace mB := mB.next b17
  replace KA := KA.next b17
  replace KB := KB.next b17
  replace KF := KF.next b17
  replace mS := mS.next b17
  replace KS := KS.next b17
  replace KM := KM.next b17
  replace mT := mT.next b17
  replace KT := KT.next b17
  replace mX := mX.next b17
  replace KX := KX.next b17
  replace B0 := B0.trans (b17.mono B0.size)
  clear b17
  have qKA0 := KA.cell 0
  have qKA1 := KA.cell 1
  have qKA2 := KA.cell 2
  have qKB0 := KB.cell 0
  have qKB1 := KB.cell 1
  have qKB2 := KB.cell 2
  go_wp2_with fail
  refine (rf23_Same _ _ r c p xs ys _ HP.out mA mB hlyx.out β HBB.out (by omega) ELA.out ELY.out).mono ?_; rintro e w18 ⟨rfl, b18⟩
  clear qKA0 qKA1 qKA2 qKB0 qKB1 qKB2
  replace mA := mA.next b18
  replace mB := mB.next b18
  replace KA := KA.next b18
  replace KB := KB.next b18
  replace KF := KF.next b18
  replace mS := mS.next b18
  replace KS := KS.next b18
  replace KM := KM.next b18
  replace mT := mT.next b18
  replace KT := KT.next b18
  replace mX := mX.next b18
  replace KX := KX.next b18
  replace B0 := B0.trans (b18.mono B0.size)
  clear b18
  go_upto_region 17 with (fail)
  have qKX2 := KX.cell 2
  obtain ⟨ao, bo, off, ca, U, eX, -, hao, hat⟩ := mX.open
  simp only [Value.agg.injEq, Array.mk.injEq, List.cons.injEq, true_and, and_true, Value.slice.injEq] at eX
  obtain ⟨rfl, hzl, rfl⟩ := eX
  have HAO := Lib.hid hao; have HAT := Lib.hid hat
  clear hao hat
  have hNX : zsX.length ≤ 9 := by rw [ZLX.out]; omega
  rw [ZLX.out] at HAT HAO hNX hzl
  clear hzl
  obtain ⟨N, eN⟩ : ∃ N, N = r * c := ⟨_, rfl⟩
  clear qKX2
  go_wp2
  go_loopw [20, 19] (fun jv dv wr => ∃ (j : Nat) (e : Int), j ≤ r * c ∧ jv = .int .i64 j ∧ dv = .int .i64 e ∧ Hid (e = xdg p xs j) ∧ Below w18.heap.size w18 wr) (fun jv _ _ => r * c - (intOf jv).toNat)
  case atStart => exact ⟨0, -1, by omega, rfl, rfl, Lib.hid rfl, Below.refl _ _⟩
  case round =>
    obtain ⟨j, e, hj, rfl, rfl, HE, BT⟩ := hrel
    replace KX := KX.next BT
    have c2 := KX.cell 2
    by_cases hjn : j < r * c
    · obtain ⟨rfl, hbl⟩ := HAO.out (by omega)
      obtain ⟨q0, s0, -⟩ := HAT.out j hjn
      obtain ⟨n, en⟩ : ∃ n : Nat, n = (zsX.getD j []).length := ⟨_, rfl⟩
      obtain ⟨ua, -, -, uc, eu, -, -⟩ := s0
      rw [eu, ← en] at q0
      have q1 := (BT.cell (p := ⟨bo, off + j, none⟩) hbl).trans q0
      have hz := ZX.out j hjn
      have hn4 : n ≤ 4 := by omega
      obtain ⟨e', ee⟩ : ∃ e', e' = max e ((n : Int) - 1) := ⟨_, rfl⟩
      have HN := Lib.hid (show e' = xdg p xs (j + 1) by
        rw [ee, HE.out, en, ← nl_of HP.out.pos hz.1, nl_same HP.out hz.2.1]; rfl)
      have hw : IntKind.i64.wrap ((n : Int) - 1) = (n : Int) - 1 := IntWalk.i64_in _ ⟨by omega, by omega⟩
      clear q0 hz en eu
      by_cases hc1 : e < (n : Int) - 1
      · have hn3 : e' = (n : Int) - 1 := by omega
        rw [hn3] at HN
        clear hn3 ee
        go_wp2
        all_goals go_roundw
        all_goals first | (case rel => exact ⟨j + 1, _, by omega, by go_num, rfl, HN, BT⟩) | (case measure => simp [intOf] <;> omega) | skip
      · have hn3 : e' = e := by omega
        rw [hn3] at HN
        clear hn3 ee
        go_wp2
        all_goals go_roundw
        all_goals first | (case rel => exact ⟨j + 1, _, by omega, by go_num, rfl, HN, BT⟩) | (case measure => simp [intOf] <;> omega) | skip
    · obtain rfl : j = r * c := by omega
      replace mA := mA.next BT
      replace mB := mB.next BT
      replace KA := KA.next BT
      replace KB := KB.next BT
      replace KF := KF.next BT
      replace mS := mS.next BT
      replace KS := KS.next BT
      replace KM := KM.next BT
      replace mT := mT.next BT
      replace KT := KT.next BT
      replace mX := mX.next BT
      replace B0 := B0.trans (BT.mono B0.size)
      have HDG := Lib.hid (show e = xdg p xs xs.length by rw [HXA.out]; exact HE.out)
      clear BT HE hj hjn
      go_upto_region 21 with (fail)
      clear c2
      have bd := Drawn.below (w' := wr.drew) ⟨1, rfl⟩ wr.heap.size
      replace mA := mA.next bd
      replace mB := mB.next bd
      replace KA := KA.next bd
      replace KB := KB.next bd
      replace KF := KF.next bd
      replace mS := mS.next bd
      replace KS := KS.next bd
      replace KM := KM.next bd
      replace mT := mT.next bd
      replace KT := KT.next bd
      replace mX := mX.next bd
      replace KX := KX.next bd
      replace B0 := B0.trans (bd.mono B0.size)
      clear bd
      refine startL (S := (fun w' => Below (wr.drew).heap.size (wr.drew) w')) (by kernel_rfl) (Below.refl _ _) (fun hHeld => ?_)
      refine takeL 0 (v := ?_) rfl (by kernel_rfl) (by kernel_rfl) (by kernel_rfl) (fun _ _ _ h => h) ⟨by rfl, ?_⟩ (by assumption) ?_
      rotate_left
      · intro w hS; go_simp <;> with_reducible rfl
      simp only [Act.put, List.setIfInBounds_toArray, List.set_cons_zero, List.set_cons_succ]
      refine takeL 1 (v := ?_) rfl (by kernel_rfl) (by kernel_rfl) (by kernel_rfl) (fun _ _ _ h => h) ⟨by rfl, ?_⟩ (by assumption) ?_
      rotate_left
      · intro w hS; go_simp <;> with_reducible rfl
      simp only [Act.put, List.setIfInBounds_toArray, List.set_cons_zero, List.set_cons_succ]
      refine takeL 2 (v := ?_) rfl (by kernel_rfl) (by kernel_rfl) (by kernel_rfl) (fun _ _ _ h => h) ⟨by rfl, ?_⟩ (by assumption) ?_
      rotate_left
      · intro w hS; go_simp <;> with_reducible rfl
      simp only [Act.put, List.setIfInBounds_toArray, List.set_cons_zero, List.set_cons_succ]
      refine takeL 3 (v := ?_) rfl (by kernel_rfl) (by kernel_rfl) (by kernel_rfl) (fun _ _ _ h => h) ⟨by rfl, ?_⟩ (by assumption) ?_
      rotate_left
      · intro w hS; have fa := KA.at hS; have f1 := fa 0; have f2 := fa 1; have f3 := fa 2; clear fa; have fb := KB.at hS; have f4 := fb 0; have f5 := fb 1; have f6 := fb 2; clear fb; have fd := KF.at hS; have f10 := fd 0; clear fd; have fc := KS.at hS; have f7 := fc 0; have f8 := fc 1; have f9 := fc 2; clear fc; go_simp <;> with_reducible rfl
      simp only [Act.put, List.setIfInBounds_toArray, List.set_cons_zero, List.set_cons_succ]
      refine takeL 4 (v := ?_) rfl (by kernel_rfl) (by kernel_rfl) (by kernel_rfl) (fun _ _ _ h => h) ⟨by rfl, ?_⟩ (by assumption) ?_
      rotate_left
      · intro w hS; have fa := KA.at hS; have f1 := fa 0; have f2 := fa 1; have f3 := fa 2; clear fa; have fb := KB.at hS; have f4 := fb 0; have f5 := fb 1; have f6 := fb 2; clear fb; have fd := KF.at hS; have f10 := fd 0; clear fd; have fc := KS.at hS; have f7 := fc 0; have f8 := fc 1; have f9 := fc 2; clear fc; go_simp <;> with_reducible rfl
      simp only [Act.put, List.setIfInBounds_toArray, List.set_cons_zero, List.set_cons_succ]
      refine takeL 5 (v := ?_) rfl (by kernel_rfl) (by kernel_rfl) (by kernel_rfl) (fun _ _ _ h => h) ⟨by rfl, ?_⟩ (by assumption) ?_
      rotate_left
      · intro w hS; have fa := KA.at hS; have f1 := fa 0; have f2 := fa 1; have f3 := fa 2; clear fa; have fb := KB.at hS; have f4 := fb 0; have f5 := fb 1; have f6 := fb 2; clear fb; have fd := KF.at hS; have f10 := fd 0; clear fd; have fc := KS.at hS; have f7 := fc 0; have f8 := fc 1; have f9 := fc 2; clear fc; go_simp <;> with_reducible rfl
      simp only [Act.put, List.setIfInBounds_toArray, List.set_cons_zero, List.set_cons_succ]
      refine takeL 6 (v := ?_) rfl (by kernel_rfl) (by kernel_rfl) (by kernel_rfl) (fun _ _ _ h => h) ⟨by rfl, ?_⟩ (by assumption) ?_
      rotate_left
      · intro w hS; go_simp <;> with_reducible rfl
      simp only [Act.put, List.setIfInBounds_toArray, List.set_cons_zero, List.set_cons_succ]
      refine takeL 8 (v := ?_) rfl (by kernel_rfl) (by kernel_rfl) (by kernel_rfl) (fun _ _ _ h => h) ⟨by rfl, ?_⟩ (by assumption) ?_
      rotate_left
      · intro w hS; go_simp <;> with_reducible rfl
      simp only [Act.put, List.setIfInBounds_toArray, List.set_cons_zero, List.set_cons_succ]
      refine oneL 7 rfl (by kernel_rfl) (by rfl) (fun K hK => ?_)
      go_simp
      go_at_call 50
      (with_reducible refine (rf23_Add p 4 _ _ r c xs ys _ HP.out (mA.next hHeld) (mB.next hHeld) (by omega) (by omega) HXA.out HXB.out (by omega) DLA.out DLB.out).mono ?_); rintro e4 y4 ⟨aV, kV, uV, rfl, oV, c4⟩; obtain ⟨zsV, zlV, nsV, hzV⟩ := oV.ns HP.out; have mV : Xm y4 (.agg #[.int .i64 r, .int .i64 c, .slice aV (r * c) kV]) r c zsV := ⟨_, rfl, nsV⟩; have ZLV := Lib.hid zlV; have ZV := Lib.hid hzV; clear nsV oV zlV hzV
      refine hK.out _ _ (hHeld.trans (c4.mono hHeld.size)) (fun hHeld => ?_)
      clear hK K
      try simp only [Act.put, List.setIfInBounds_toArray, List.set_cons_zero, List.set_cons_succ]
      refine oneL 9 rfl (by kernel_rfl) (by rfl) (fun K hK => ?_)
      go_simp
      go_at_call 46
      (with_reducible refine (rf23_Is _ _ r c p zsS zsV _ HP.out (mS.next hHeld) mV (Fd.of (by omega) (by omega) ZLS.out) (by rw [ZLV.out, ZLS.out]) (by rw [ZLS.out]; omega) (fun j hj => by have := ZS.out j (by rw [ZLS.out] at hj; exact hj); exact ⟨this.1, by omega⟩) (fun j hj => by have := ZV.out j (by rw [ZLS.out] at hj; exact hj); omega) (fun j hj => by rw [ZLS.out] at hj; exact nl_same HP.out (by rw [(ZS.out j hj).2.1, (ZV.out j hj).2.1]))).mono ?_); rintro e5 y5 ⟨rfl, c5⟩
      refine hK.out _ _ (hHeld.trans (c5.mono hHeld.size)) (fun hHeld => ?_)
      clear hK K
      try simp only [Act.put, List.setIfInBounds_toArray, List.set_cons_zero, List.set_cons_succ]
      refine takeL 10 (v := ?_) rfl (by kernel_rfl) (by kernel_rfl) (by kernel_rfl) (fun _ _ _ h => h) ⟨by rfl, ?_⟩ (by assumption) ?_
      rotate_left
      · intro w hS; go_simp <;> with_reducible rfl
      simp only [Act.put, List.setIfInBounds_toArray, List.set_cons_zero, List.set_cons_succ]
      refine takeL 11 (v := ?_) rfl (by kernel_rfl) (by kernel_rfl) (by kernel_rfl) (fun _ _ _ h => h) ⟨by rfl, ?_⟩ (by assumption) ?_
      rotate_left
      · intro w hS; go_simp <;> with_reducible rfl
      simp only [Act.put, List.setIfInBounds_toArray, List.set_cons_zero, List.set_cons_succ]
      refine takeL 12 (v := ?_) rfl (by kernel_rfl) (by kernel_rfl) (by kernel_rfl) (fun _ _ _ h => h) ⟨by rfl, ?_⟩ (by assumption) ?_
      rotate_left
      · intro w hS; go_simp <;> with_reducible rfl
      simp only [Act.put, List.setIfInBounds_toArray, List.set_cons_zero, List.set_cons_succ]
      refine takeL 13 (v := ?_) rfl (by kernel_rfl) (by kernel_rfl) (by kernel_rfl) (fun _ _ _ h => h) ⟨by rfl, ?_⟩ (by assumption) ?_
      rotate_left
      · intro w hS; go_simp <;> with_reducible rfl
      simp only [Act.put, List.setIfInBounds_toArray, List.set_cons_zero, List.set_cons_succ]
      refine takeL 14 (v := ?_) rfl (by kernel_rfl) (by kernel_rfl) (by kernel_rfl) (fun _ _ _ h => h) ⟨by rfl, ?_⟩ (by assumption) ?_
      rotate_left
      · intro w hS; go_simp <;> with_reducible rfl
      simp only [Act.put, List.setIfInBounds_toArray, List.set_cons_zero, List.set_cons_succ]
      refine skipL 15 rfl (by kernel_rfl) (by kernel_rfl) (by kernel_rfl) (fun _ _ _ h => h) (by rfl) (by assumption) ?_
      simp only [Act.put, List.setIfInBounds_toArray, List.set_cons_zero, List.set_cons_succ]
      refine skipL 16 rfl (by kernel_rfl) (by kernel_rfl) (by kernel_rfl) (fun _ _ _ h => h) (by rfl) (by assumption) ?_
      simp only [Act.put, List.setIfInBounds_toArray, List.set_cons_zero, List.set_cons_succ]
      refine skipL 17 rfl (by kernel_rfl) (by kernel_rfl) (by kernel_rfl) (fun _ _ _ h => h) (by rfl) (by assumption) ?_
      simp only [Act.put, List.setIfInBounds_toArray, List.set_cons_zero, List.set_cons_succ]
      refine skipL 18 rfl (by kernel_rfl) (by kernel_rfl) (by kernel_rfl) (fun _ _ _ h => h) (by rfl) (by assumption) ?_
      simp only [Act.put, List.setIfInBounds_toArray, List.set_cons_zero, List.set_cons_succ]
      refine skipL 19 rfl (by kernel_rfl) (by kernel_rfl) (by kernel_rfl) (fun _ _ _ h => h) (by rfl) (by assumption) ?_
      simp only [Act.put, List.setIfInBounds_toArray, List.set_cons_zero, List.set_cons_succ]
      refine skipL 20 rfl (by kernel_rfl) (by kernel_rfl) (by kernel_rfl) (fun _ _ _ h => h) (by rfl) (by assumption) ?_
      simp only [Act.put, List.setIfInBounds_toArray, List.set_cons_zero, List.set_cons_succ]
      refine skipL 21 rfl (by kernel_rfl) (by kernel_rfl) (by kernel_rfl) (fun _ _ _ h => h) (by rfl) (by assumption) ?_
      simp only [Act.put, List.setIfInBounds_toArray, List.set_cons_zero, List.set_cons_succ]
      refine takeL 22 (v := ?_) rfl (by kernel_rfl) (by kernel_rfl) (by kernel_rfl) (fun _ _ _ h => h) ⟨by rfl, ?_⟩ (by assumption) ?_
      rotate_left
      · intro w hS; go_simp <;> with_reducible rfl
      simp only [Act.put, List.setIfInBounds_toArray, List.set_cons_zero, List.set_cons_succ]
      refine takeL 23 (v := ?_) rfl (by kernel_rfl) (by kernel_rfl) (by kernel_rfl) (fun _ _ _ h => h) ⟨by rfl, ?_⟩ (by assumption) ?_
      rotate_left
      · intro w hS; go_simp <;> with_reducible rfl
      simp only [Act.put, List.setIfInBounds_toArray, List.set_cons_zero, List.set_cons_succ]
      refine takeL 24 (v := ?_) rfl (by kernel_rfl) (by kernel_rfl) (by kernel_rfl) (fun _ _ _ h => h) ⟨by rfl, ?_⟩ (by assumption) ?_
      rotate_left
      · intro w hS; go_simp <;> with_reducible rfl
      simp only [Act.put, List.setIfInBounds_toArray, List.set_cons_zero, List.set_cons_succ]
      refine takeL 25 (v := ?_) rfl (by kernel_rfl) (by kernel_rfl) (by kernel_rfl) (fun _ _ _ h => h) ⟨by rfl, ?_⟩ (by assumption) ?_
      rotate_left
      · intro w hS; have fa := KA.at hS; have f1 := fa 0; have f2 := fa 1; have f3 := fa 2; clear fa; have fb := KB.at hS; have f4 := fb 0; have f5 := fb 1; have f6 := fb 2; clear fb; have fd := KF.at hS; have f10 := fd 0; clear fd; have fc := KS.at hS; have f7 := fc 0; have f8 := fc 1; have f9 := fc 2; clear fc; go_simp <;> with_reducible rfl
      simp only [Act.put, List.setIfInBounds_toArray, List.set_cons_zero, List.set_cons_succ]
      refine takeL 26 (v := ?_) rfl (by kernel_rfl) (by kernel_rfl) (by kernel_rfl) (fun _ _ _ h => h) ⟨by rfl, ?_⟩ (by assumption) ?_
      rotate_left
      · intro w hS; have fa := KA.at hS; have f1 := fa 0; have f2 := fa 1; have f3 := fa 2; clear fa; have fb := KB.at hS; have f4 := fb 0; have f5 := fb 1; have f6 := fb 2; clear fb; have fd := KF.at hS; have f10 := fd 0; clear fd; have fc := KS.at hS; have f7 := fc 0; have f8 := fc 1; have f9 := fc 2; clear fc; go_simp <;> with_reducible rfl
      simp only [Act.put, List.setIfInBounds_toArray, List.set_cons_zero, List.set_cons_succ]
      refine takeL 28 (v := ?_) rfl (by kernel_rfl) (by kernel_rfl) (by kernel_rfl) (fun _ _ _ h => h) ⟨by rfl, ?_⟩ (by assumption) ?_
      rotate_left
      · intro w hS; go_simp <;> with_reducible rfl
      simp only [Act.put, List.setIfInBounds_toArray, List.set_cons_zero, List.set_cons_succ]
      refine oneL 27 rfl (by kernel_rfl) (by rfl) (fun K hK => ?_)
      go_simp
      go_at_call 45
      (with_reducible refine (xm_Degree p _ r c xs _ HP.out (mA.next hHeld) HFdA.out ELA.out (by omega) e HDG.out).mono ?_); rintro e9 y9 ⟨rfl, c9⟩
      refine hK.out _ _ (hHeld.trans (c9.mono hHeld.size)) (fun hHeld => ?_)
      clear hK K
      try simp only [Act.put, List.setIfInBounds_toArray, List.set_cons_zero, List.set_cons_succ]
      refine takeL 29 (v := ?_) rfl (by kernel_rfl) (by kernel_rfl) (by kernel_rfl) (fun _ _ _ h => h) ⟨by rfl, ?_⟩ (by assumption) ?_
      rotate_left
      · intro w hS; go_simp <;> with_reducible rfl
      simp only [Act.put, List.setIfInBounds_toArray, List.set_cons_zero, List.set_cons_succ]
      refine takeL 30 (v := ?_) rfl (by kernel_rfl) (by kernel_rfl) (by kernel_rfl) (fun _ _ _ h => h) ⟨by rfl, ?_⟩ (by assumption) ?_
      rotate_left
      · intro w hS; go_simp <;> with_reducible rfl
      simp only [Act.put, List.setIfInBounds_toArray, List.set_cons_zero, List.set_cons_succ]
      refine takeL 31 (v := ?_) rfl (by kernel_rfl) (by kernel_rfl) (by kernel_rfl) (fun _ _ _ h => h) ⟨by rfl, ?_⟩ (by assumption) ?_
      rotate_left
      · intro w hS; go_simp <;> with_reducible rfl
      simp only [Act.put, List.setIfInBounds_toArray, List.set_cons_zero, List.set_cons_succ]
      refine doneL (by kernel_rfl) ?_ _
      replace B0 := B0.trans (hHeld.mono B0.size)
      clear hHeld mV
      clear mA mB KA KB KF mS KS KM mT KT mX KX
      go_wp2
      go_ret
      exact ⟨rfl, B0⟩

set_option maxRecDepth 20000 in
set_option maxHeartbeats 8000000 in
theorem gFT1 (x0 : Nat) (r m c : Nat) (v : Value) (xs : List (List Nat)) (u : Value) (ys : List (List Nat)) (w : World) (mA : Xm w v r m xs) (mB : Xm w u m c ys) (hfA : Fwx 3 4 r m xs) (hfB : Fwx 3 4 m c ys) (hr : r ≤ 3) (hc : m ≤ 3) (hxA : xs.length = r * m) (hxB : ys.length = m * c) (hc2 : c ≤ 3) (hne : r ≠ m) :
    Calls Try.prog 7 #[.int .u8 x0, v, u] w (LawOk w) := by
  obtain ⟨p, ep⟩ : ∃ p, p = Ps (x0 % 12) := ⟨_, rfl⟩
  have hp : FP p := by rw [ep]; exact Ps_FP (by omega)
  have ht : Trial p := by rw [ep]; exact Ps_trial (by omega)
  have cOf : ∀ w : World, Calls Try.prog 17 #[.int .u8 x0] w fun e w' => e = .returned (.agg #[.int .u64 (p : Nat)]) ∧ Below w.heap.size w w' := fun w => by rw [ep]; exact law9_Of x0 w
  have cP : ∀ w : World, Calls Try.prog 18 #[.int .u8 x0] w fun e w' => e = .returned (.int .u64 (p : Nat)) ∧ w = w' := fun w => by rw [ep]; exact ref8_P x0 w
  have hp2 := hp.1
  have hp3 := hp.2
  have HP := Lib.hid hp; have HT := Lib.hid ht; have COF := Lib.hid cOf; have CP := Lib.hid cP
  clear hp ht cOf cP ep
  obtain ⟨aA, cA, rfl⟩ := mA.agg
  obtain ⟨aB, cB, rfl⟩ := mB.agg
  obtain ⟨wb, ew, KA, KB, B0, hsz⟩ := boxes2 w 24 24 [.int .i64 r, .int .i64 m, .slice aA xs.length cA] [.int .i64 m, .int .i64 c, .slice aB ys.length cB]
  clear hsz
  replace mA := mA.next B0
  replace mB := mB.next B0
  have hlA : ∀ j, j < xs.length → (xs.getD j []).length ≤ 4 := fun j hj => by have := hfA.2.2.2 j hj; omega
  have hlB : ∀ j, j < ys.length → (ys.getD j []).length ≤ 4 := fun j hj => by have := hfB.2.2.2 j hj; omega
  have hrc : r * m ≤ 3 * 3 := Nat.mul_le_mul hr hc
  have hcr : m * r ≤ 3 * 3 := Nat.mul_le_mul hc hr
  have hxl : xs.length ≤ 9 := by omega
  have hyl : ys.length ≤ 100 := hfB.2.2.1
  have HF := Lib.hid hfA; have HG := Lib.hid hfB
  have HLA := Lib.hid hlA; have HLB := Lib.hid hlB; have HXA := Lib.hid hxA
  have HFdA := Lib.hid (Fd.of (show r ≤ 64 by omega) (show m ≤ 64 by omega) hxA)
  have DLA := Lib.hid (show ∀ j, j < r * m → (xs.getD j []).length ≤ 4 from fun j hj => hlA j (by omega))
  have ELA := Lib.hid (show ∀ j, j < xs.length → (xs.getD j []).length ≤ 1000000 from fun j hj => by have := hlA j hj; omega)
  have ELB := Lib.hid (show ∀ j, j < ys.length → (ys.getD j []).length ≤ 1000000 from fun j hj => by have := hlB j hj; omega)
  clear hlA hlB hxA hfA hfB
  have HXB := Lib.hid hxB
  have HFdB := Lib.hid (Fd.of (show m ≤ 64 by omega) (show c ≤ 64 by omega) hxB)
  have HXM := Lib.hid hxB
  have hrm : r * c ≤ 3 * 3 := Nat.mul_le_mul hr hc2
  have NAL := Lib.hid (show ¬ Al r m m c xs.length ys.length from fun h => hne (by have := h.2.2.1; omega))
  have e1 : ((r : Int) == (m : Int)) = false := by simp; omega
  have e3 : ((m : Int) == (m : Int)) = true := by simp
  clear hxB hne
  go_enter Try.func7, Try.ntmps7
  go_upto_region 1 with (fail)
  rw [← ew]
  clear ew
  go_wp2_with fail
  refine (law23_awake _).mono ?_; rintro e w1 ⟨rfl, b1⟩
  replace mA := mA.next b1
  replace mB := mB.next b1
  replace KA := KA.next b1
  replace KB := KB.next b1
  replace B0 := B0.trans (b1.mono B0.size)
  clear b1
  have qKA0 := KA.cell 0
  have qKA1 := KA.cell 1
  have qKA2 := KA.cell 2
  go_wp2_with fail
  refine (rf23_Few _ r m 3 4 xs _ mA true ⟨fun _ => HF.out, fun _ => rfl⟩).mono ?_; rintro e w2 ⟨rfl, b2⟩
  clear qKA0 qKA1 qKA2
  replace mA := mA.next b2
  replace mB := mB.next b2
  replace KA := KA.next b2
  replace KB := KB.next b2
  replace B0 := B0.trans (b2.mono B0.size)
  clear b2
  have qKB0 := KB.cell 0
  have qKB1 := KB.cell 1
  have qKB2 := KB.cell 2
  go_wp2_with fail
  refine (rf23_Few _ m c 3 4 ys _ mB true ⟨fun _ => HG.out, fun _ => rfl⟩).mono ?_; rintro e w3 ⟨rfl, b3⟩
  clear qKB0 qKB1 qKB2
  replace mA := mA.next b3
  replace mB := mB.next b3
  replace KA := KA.next b3
  replace KB := KB.next b3
  replace B0 := B0.trans (b3.mono B0.size)
  clear b3
  go_wp2_with fail
  refine (COF.out _).mono ?_; rintro e w4 ⟨rfl, b4⟩
  replace mA := mA.next b4
  replace mB := mB.next b4
  replace KA := KA.next b4
  replace KB := KB.next b4
  replace B0 := B0.trans (b4.mono B0.size)
  clear b4
  go_wp2_with fail
  refine (CP.out _).mono ?_; rintro e wx ⟨rfl, rfl⟩
  obtain ⟨w5, e5, KF, b5, hs5⟩ := boxes1 w4 29 [.int .u64 p]
  clear hs5
  replace mA := mA.next b5
  replace mB := mB.next b5
  replace KA := KA.next b5
  replace KB := KB.next b5
  replace B0 := B0.trans (b5.mono B0.size)
  clear b5
  go_upto_region 4 with (fail)
  rw [← e5]
  clear e5
  have qKF0 := KF.cell 0
  have qKA0 := KA.cell 0
  have qKA1 := KA.cell 1
  have qKA2 := KA.cell 2
  have qKB0 := KB.cell 0
  have qKB1 := KB.cell 1
  have qKB2 := KB.cell 2
  go_wp2_with fail
  refine (xm_Add_bad p _ _ r m m c xs ys _ mA mB NAL.out).mono ?_; rintro e w6 ⟨rfl, b6⟩
  clear qKF0 qKA0 qKA1 qKA2 qKB0 qKB1 qKB2
  replace mA := mA.next b6
  replace mB := mB.next b6
  replace KA := KA.next b6
  replace KB := KB.next b6
  replace KF := KF.next b6
  replace B0 := B0.trans (b6.mono B0.size)
  clear b6
  obtain ⟨w7, e7, KS, b7, hs7⟩ := boxes1 w6 24 [.int .i64 0, .int .i64 0, .slice none 0 0]
  clear hs7
  replace mA := mA.next b7
  replace mB := mB.next b7
  replace KA := KA.next b7
  replace KB := KB.next b7
  replace KF := KF.next b7
  replace B0 := B0.trans (b7.mono B0.size)
  clear b7
  go_upto_region 5 with (fail)
  rw [← e7]
  clear e7
  have qKF0 := KF.cell 0
  have qKA0 := KA.cell 0
  have qKA1 := KA.cell 1
  have qKA2 := KA.cell 2
  have qKB0 := KB.cell 0
  have qKB1 := KB.cell 1
  have qKB2 := KB.cell 2
  go_wp2_with fail
  refine (xm_Mul p 8 4 _ _ r m c xs ys _ HP.out mA mB (by omega) (by omega) (by omega) HXA.out HXM.out (by omega) (by omega) HLA.out HLB.out (dotT p xs ys m c) (fun i k _ hk => dotT_at hk)).mono ?_; rintro e w8 ⟨a8, k8, us8, rfl, o8, b8⟩
  clear qKF0 qKA0 qKA1 qKA2 qKB0 qKB1 qKB2
  replace mA := mA.next b8
  replace mB := mB.next b8
  replace KA := KA.next b8
  replace KB := KB.next b8
  replace KF := KF.next b8
  replace KS := KS.next b8
  replace B0 := B0.trans (b8.mono B0.size)
  clear b8
  obtain ⟨zsM, zlM, nsM, hzM⟩ := o8.ns HP.out
  have mM : Xm w8 (.agg #[.int .i64 r, .int .i64 c, .slice a8 (r * c) k8]) r c zsM := ⟨_, rfl, nsM⟩
  have ZLM := Lib.hid zlM; have ZM := Lib.hid hzM
  clear zlM nsM hzM o8
  obtain ⟨w9, e9, KM, b9, hs9⟩ := boxes1 w8 24 [.int .i64 r, .int .i64 c, .slice a8 (r * c) k8]
  clear hs9
  replace mA := mA.next b9
  replace mB := mB.next b9
  replace KA := KA.next b9
  replace KB := KB.next b9
  replace KF := KF.next b9
  replace KS := KS.next b9
  replace mM := mM.next b9
  replace B0 := B0.trans (b9.mono B0.size)
  clear b9
  go_upto_region 6 with (fail)
  rw [← e9]
  clear e9
  have qKF0 := KF.cell 0
  have qKA0 := KA.cell 0
  have qKA1 := KA.cell 1
  have qKA2 := KA.cell 2
  go_wp2_with fail
  refine (xm_Transpose p 4 _ r m xs _ HP.out mA (by omega) (by omega) HXA.out (by omega) DLA.out (fun j => pl p (xs.getD (tix r m j) [])) (fun i k _ hk => by rw [tix_at hk])).mono ?_; rintro e w10 ⟨a10, k10, us10, rfl, o10, b10⟩
  clear qKF0 qKA0 qKA1 qKA2
  replace mA := mA.next b10
  replace mB := mB.next b10
  replace KA := KA.next b10
  replace KB := KB.next b10
  replace KF := KF.next b10
  replace KS := KS.next b10
  replace mM := mM.next b10
  replace KM := KM.next b10
  replace B0 := B0.trans (b10.mono B0.size)
  clear b10
  obtain ⟨zsT, zlT, nsT, hzT⟩ := o10.ns HP.out
  have mT : Xm w10 (.agg #[.int .i64 m, .int .i64 r, .slice a10 (m * r) k10]) m r zsT := ⟨_, rfl, nsT⟩
  have ZLT := Lib.hid zlT; have ZT := Lib.hid hzT
  clear zlT nsT hzT o10
  obtain ⟨w11, e11, KT, b11, hs11⟩ := boxes1 w10 24 [.int .i64 m, .int .i64 r, .slice a10 (m * r) k10]
  clear hs11
  replace mA := mA.next b11
  replace mB := mB.next b11
  replace KA := KA.next b11
  replace KB := KB.next b11
  replace KF := KF.next b11
  replace KS := KS.next b11
  replace mM := mM.next b11
  replace KM := KM.next b11
  replace mT := mT.next b11
  replace B0 := B0.trans (b11.mono B0.size)
  clear b11
  go_upto_region 7 with (fail)
  rw [← e11]
  clear e11
  have qKF0 := KF.cell 0
  have qKA0 := KA.cell 0
  have qKA1 := KA.cell 1
  have qKA2 := KA.cell 2
  go_wp2_with fail
  refine (xm_Norm p 4 _ r m xs _ HP.out mA (by omega) (by omega) HXA.out (by omega) DLA.out (fun j => pl p (xs.getD j [])) (fun _ _ _ _ => rfl)).mono ?_; rintro e w12 ⟨a12, k12, us12, rfl, o12, b12⟩
  clear qKF0 qKA0 qKA1 qKA2
  replace mA := mA.next b12
  replace mB := mB.next b12
  replace KA := KA.next b12
  replace KB := KB.next b12
  replace KF := KF.next b12
  replace KS := KS.next b12
  replace mM := mM.next b12
  replace KM := KM.next b12
  replace mT := mT.next b12
  replace KT := KT.next b12
  replace B0 := B0.trans (b12.mono B0.size)
  clear b12
  obtain ⟨zsX, zlX, nsX, hzX⟩ := o12.ns HP.out
  have mX : Xm w12 (.agg #[.int .i64 r, .int .i64 m, .slice a12 (r * m) k12]) r m zsX := ⟨_, rfl, nsX⟩
  have ZLX := Lib.hid zlX; have ZX := Lib.hid hzX
  clear zlX nsX hzX o12
  obtain ⟨w13, e13, KX, b13, hs13⟩ := boxes1 w12 24 [.int .i64 r, .int .i64 m, .slice a12 (r * m) k12]
  clear hs13
  replace mA := mA.next b13
  replace mB := mB.next b13
  replace KA := KA.next b13
  replace KB := KB.next b13
  replace KF := KF.next b13
  replace KS := KS.next b13
  replace mM := mM.next b13
  replace KM := KM.next b13
  replace mT := mT.next b13
  replace KT := KT.next b13
  replace mX := mX.next b13
  replace B0 := B0.trans (b13.mono B0.size)
  clear b13
  go_upto_region 8 with (fail)
  rw [← e13]
  clear e13
  have qKA0 := KA.cell 0
  have qKA1 := KA.cell 1
  have qKA2 := KA.cell 2
  go_wp2_with fail
  refine (rf23_Formed _ r m xs _ mA true (decide_eq_true HFdA.out).symm).mono ?_; rintro e w14 ⟨rfl, b14⟩
  clear qKA0 qKA1 qKA2
  replace mA := mA.next b14
  replace mB := mB.next b14
  replace KA := KA.next b14
  replace KB := KB.next b14
  replace KF := KF.next b14
  replace KS := KS.next b14
  replace mM := mM.next b14
  replace KM := KM.next b14
  replace mT := mT.next b14
  replace KT := KT.next b14
  replace mX := mX.next b14
  replace KX := KX.next b14
  replace B0 := B0.trans (b14.mono B0.size)
  clear b14
  go_upto_region 10 with (fail)
  have bd := Drawn.below (w' := w14.drew) ⟨1, rfl⟩ w14.heap.size
  replace mA := mA.next bd
  replace mB := mB.next bd
  replace KA := KA.next bd
  replace KB := KB.next bd
  replace KF := KF.next bd
  replace KS := KS.next bd
  replace mM := mM.next bd
  replace KM := KM.next bd
  replace mT := mT.next bd
  replace KT := KT.next bd
  replace mX := mX.next bd
  replace KX := KX.next bd
  replace B0 := B0.trans (bd.mono B0.size)
  clear bd
  have hsT := Lib.hid (show ∀ j, j < zsT.length → Nrm p (zsT.getD j []) ∧ (zsT.getD j []).length ≤ 1000000 from fun j hj => by
    have := ZT.out j (by rw [ZLT.out] at hj; exact hj); exact ⟨this.1, by omega⟩)
  have hsX := Lib.hid (show ∀ j, j < zsX.length → Nrm p (zsX.getD j []) ∧ (zsX.getD j []).length ≤ 1000000 from fun j hj => by
    have := ZX.out j (by rw [ZLX.out] at hj; exact hj); exact ⟨this.1, by omega⟩)
  have heX := Lib.hid (show ∀ j, j < zsX.length → nl p (zsX.getD j []) = nl p (xs.getD j []) from fun j hj => nl_same HP.out (by rw [(ZX.out j (by rw [ZLX.out] at hj; exact hj)).2.1]))
  obtain ⟨qT, eqT⟩ : ∃ qT, qT = (List.range (m * r)).map fun j => xs.getD (tix r m j) [] := ⟨_, rfl⟩
  have lqT := Lib.hid (show qT.length = m * r by rw [eqT]; simp)
  have gqT := Lib.hid (show ∀ j, j < m * r → qT.getD j [] = xs.getD (tix r m j) [] from fun j hj => by rw [eqT]; simp [List.getD, hj])
  have hqT := Lib.hid (show ∀ j, j < zsT.length → (qT.getD j []).length ≤ 1000000 from fun j hj => by
    rw [ZLT.out] at hj
    rw [gqT.out j hj]; have := DLA.out _ (tix_lt hj); omega)
  have heT := Lib.hid (show ∀ j, j < zsT.length → nl p (zsT.getD j []) = nl p (qT.getD j []) from fun j hj => by
    rw [ZLT.out] at hj
    rw [gqT.out j hj]; exact nl_same HP.out (ZT.out j hj).2.1)
  have EQT := Lib.hid eqT; clear eqT
  refine startL (S := (fun w' => Below (w14.drew).heap.size (w14.drew) w')) (by kernel_rfl) (Below.refl _ _) (fun hHeld => ?_)
  refine takeL 0 (v := ?_) rfl (by kernel_rfl) (by kernel_rfl) (by kernel_rfl) (fun _ _ _ h => h) ⟨by rfl, ?_⟩ (by assumption) ?_
  rotate_left
  · intro w hS; go_simp <;> with_reducible rfl
  simp only [Act.put, List.setIfInBounds_toArray, List.set_cons_zero, List.set_cons_succ]
  refine takeL 1 (v := ?_) rfl (by kernel_rfl) (by kernel_rfl) (by kernel_rfl) (fun _ _ _ h => h) ⟨by rfl, ?_⟩ (by assumption) ?_
  rotate_left
  · intro w hS; go_simp <;> with_reducible rfl
  simp only [Act.put, List.setIfInBounds_toArray, List.set_cons_zero, List.set_cons_succ]
  refine takeL 2 (v := ?_) rfl (by kernel_rfl) (by kernel_rfl) (by kernel_rfl) (fun _ _ _ h => h) ⟨by rfl, ?_⟩ (by assumption) ?_
  rotate_left
  · intro w hS; go_simp <;> with_reducible rfl
  simp only [Act.put, List.setIfInBounds_toArray, List.set_cons_zero, List.set_cons_succ]
  refine takeL 3 (v := ?_) rfl (by kernel_rfl) (by kernel_rfl) (by kernel_rfl) (fun _ _ _ h => h) ⟨by rfl, ?_⟩ (by assumption) ?_
  rotate_left
  · intro w hS; go_simp <;> with_reducible rfl
  simp only [Act.put, List.setIfInBounds_toArray, List.set_cons_zero, List.set_cons_succ]
  refine takeL 4 (v := ?_) rfl (by kernel_rfl) (by kernel_rfl) (by kernel_rfl) (fun _ _ _ h => h) ⟨by rfl, ?_⟩ (by assumption) ?_
  rotate_left
  · intro w hS; go_simp <;> with_reducible rfl
  simp only [Act.put, List.setIfInBounds_toArray, List.set_cons_zero, List.set_cons_succ]
  refine takeL 5 (v := ?_) rfl (by kernel_rfl) (by kernel_rfl) (by kernel_rfl) (fun _ _ _ h => h) ⟨by rfl, ?_⟩ (by assumption) ?_
  rotate_left
  · intro w hS; go_simp <;> with_reducible rfl
  simp only [Act.put, List.setIfInBounds_toArray, List.set_cons_zero, List.set_cons_succ]
  refine takeL 6 (v := ?_) rfl (by kernel_rfl) (by kernel_rfl) (by kernel_rfl) (fun _ _ _ h => h) ⟨by rfl, ?_⟩ (by assumption) ?_
  rotate_left
  · intro w hS; go_simp <;> with_reducible rfl
  simp only [Act.put, List.setIfInBounds_toArray, List.set_cons_zero, List.set_cons_succ]
  refine takeL 7 (v := ?_) rfl (by kernel_rfl) (by kernel_rfl) (by kernel_rfl) (fun _ _ _ h => h) ⟨by rfl, ?_⟩ (by assumption) ?_
  rotate_left
  · intro w hS; have fa := KA.at hS; have f1 := fa 0; have f2 := fa 1; have f3 := fa 2; clear fa; have fb := KT.at hS; have f4 := fb 0; have f5 := fb 1; have f6 := fb 2; clear fb; have fc := KX.at hS; have f7 := fc 0; have f8 := fc 1; have f9 := fc 2; clear fc; go_simp <;> with_reducible rfl
  simp only [Act.put, List.setIfInBounds_toArray, List.set_cons_zero, List.set_cons_succ]
  refine takeL 8 (v := ?_) rfl (by kernel_rfl) (by kernel_rfl) (by kernel_rfl) (fun _ _ _ h => h) ⟨by rfl, ?_⟩ (by assumption) ?_
  rotate_left
  · intro w hS; have fa := KA.at hS; have f1 := fa 0; have f2 := fa 1; have f3 := fa 2; clear fa; have fb := KT.at hS; have f4 := fb 0; have f5 := fb 1; have f6 := fb 2; clear fb; have fc := KX.at hS; have f7 := fc 0; have f8 := fc 1; have f9 := fc 2; clear fc; go_simp <;> with_reducible rfl
  simp only [Act.put, List.setIfInBounds_toArray, List.set_cons_zero, List.set_cons_succ]
  refine takeL 10 (v := ?_) rfl (by kernel_rfl) (by kernel_rfl) (by kernel_rfl) (fun _ _ _ h => h) ⟨by rfl, ?_⟩ (by assumption) ?_
  rotate_left
  · intro w hS; go_simp <;> with_reducible rfl
  simp only [Act.put, List.setIfInBounds_toArray, List.set_cons_zero, List.set_cons_succ]
  refine oneL 9 rfl (by kernel_rfl) (by rfl) (fun K hK => ?_)
  go_simp
  go_at_call 47
  (with_reducible refine (rf23_Turned _ r m xs _ (mA.next hHeld) (by omega) (by omega) HXA.out).mono ?_); rintro e y1 ⟨aU, kU, rfl, nU, c1⟩; rw [← EQT.out] at nU; have mU : Xm y1 (.agg #[.int .i64 m, .int .i64 r, .slice aU (m * r) kU]) m r qT := ⟨_, rfl, nU⟩; clear nU
  refine hK.out _ _ (hHeld.trans (c1.mono hHeld.size)) (fun hHeld => ?_)
  clear hK K
  try simp only [Act.put, List.setIfInBounds_toArray, List.set_cons_zero, List.set_cons_succ]
  refine oneL 11 rfl (by kernel_rfl) (by rfl) (fun K hK => ?_)
  go_simp
  go_at_call 46
  (with_reducible refine (rf23_Is _ _ m r p zsT qT _ HP.out (mT.next hHeld) mU (Fd.of (by omega) (by omega) ZLT.out) (by rw [lqT.out, ZLT.out]) (by rw [ZLT.out]; omega) hsT.out hqT.out heT.out).mono ?_); rintro e y2 ⟨rfl, c2⟩
  refine hK.out _ _ (hHeld.trans (c2.mono hHeld.size)) (fun hHeld => ?_)
  clear hK K
  try simp only [Act.put, List.setIfInBounds_toArray, List.set_cons_zero, List.set_cons_succ]
  refine takeL 12 (v := ?_) rfl (by kernel_rfl) (by kernel_rfl) (by kernel_rfl) (fun _ _ _ h => h) ⟨by rfl, ?_⟩ (by assumption) ?_
  rotate_left
  · intro w hS; go_simp <;> with_reducible rfl
  simp only [Act.put, List.setIfInBounds_toArray, List.set_cons_zero, List.set_cons_succ]
  refine takeL 13 (v := ?_) rfl (by kernel_rfl) (by kernel_rfl) (by kernel_rfl) (fun _ _ _ h => h) ⟨by rfl, ?_⟩ (by assumption) ?_
  rotate_left
  · intro w hS; go_simp <;> with_reducible rfl
  simp only [Act.put, List.setIfInBounds_toArray, List.set_cons_zero, List.set_cons_succ]
  refine takeL 14 (v := ?_) rfl (by kernel_rfl) (by kernel_rfl) (by kernel_rfl) (fun _ _ _ h => h) ⟨by rfl, ?_⟩ (by assumption) ?_
  rotate_left
  · intro w hS; go_simp <;> with_reducible rfl
  simp only [Act.put, List.setIfInBounds_toArray, List.set_cons_zero, List.set_cons_succ]
  refine takeL 15 (v := ?_) rfl (by kernel_rfl) (by kernel_rfl) (by kernel_rfl) (fun _ _ _ h => h) ⟨by rfl, ?_⟩ (by assumption) ?_
  rotate_left
  · intro w hS; have fa := KA.at hS; have f1 := fa 0; have f2 := fa 1; have f3 := fa 2; clear fa; have fb := KT.at hS; have f4 := fb 0; have f5 := fb 1; have f6 := fb 2; clear fb; have fc := KX.at hS; have f7 := fc 0; have f8 := fc 1; have f9 := fc 2; clear fc; go_simp <;> with_reducible rfl
  simp only [Act.put, List.setIfInBounds_toArray, List.set_cons_zero, List.set_cons_succ]
  refine takeL 16 (v := ?_) rfl (by kernel_rfl) (by kernel_rfl) (by kernel_rfl) (fun _ _ _ h => h) ⟨by rfl, ?_⟩ (by assumption) ?_
  rotate_left
  · intro w hS; have fa := KA.at hS; have f1 := fa 0; have f2 := fa 1; have f3 := fa 2; clear fa; have fb := KT.at hS; have f4 := fb 0; have f5 := fb 1; have f6 := fb 2; clear fb; have fc := KX.at hS; have f7 := fc 0; have f8 := fc 1; have f9 := fc 2; clear fc; go_simp <;> with_reducible rfl
  simp only [Act.put, List.setIfInBounds_toArray, List.set_cons_zero, List.set_cons_succ]
  refine takeL 17 (v := ?_) rfl (by kernel_rfl) (by kernel_rfl) (by kernel_rfl) (fun _ _ _ h => h) ⟨by rfl, ?_⟩ (by assumption) ?_
  rotate_left
  · intro w hS; go_simp <;> with_reducible rfl
  simp only [Act.put, List.setIfInBounds_toArray, List.set_cons_zero, List.set_cons_succ]
  refine oneL 18 rfl (by kernel_rfl) (by rfl) (fun K hK => ?_)
  go_simp
  go_at_call 46
  (with_reducible refine (rf23_Is _ _ r m p zsX xs _ HP.out (mX.next hHeld) (mA.next hHeld) (Fd.of (by omega) (by omega) ZLX.out) (by rw [HXA.out, ZLX.out]) (by rw [ZLX.out]; omega) hsX.out (by rw [ZLX.out, ← HXA.out]; exact ELA.out) heX.out).mono ?_); rintro e y3 ⟨rfl, c3⟩
  refine hK.out _ _ (hHeld.trans (c3.mono hHeld.size)) (fun hHeld => ?_)
  clear hK K
  try simp only [Act.put, List.setIfInBounds_toArray, List.set_cons_zero, List.set_cons_succ]
  refine takeL 19 (v := ?_) rfl (by kernel_rfl) (by kernel_rfl) (by kernel_rfl) (fun _ _ _ h => h) ⟨by rfl, ?_⟩ (by assumption) ?_
  rotate_left
  · intro w hS; go_simp <;> with_reducible rfl
  simp only [Act.put, List.setIfInBounds_toArray, List.set_cons_zero, List.set_cons_succ]
  refine takeL 20 (v := ?_) rfl (by kernel_rfl) (by kernel_rfl) (by kernel_rfl) (fun _ _ _ h => h) ⟨by rfl, ?_⟩ (by assumption) ?_
  rotate_left
  · intro w hS; go_simp <;> with_reducible rfl
  simp only [Act.put, List.setIfInBounds_toArray, List.set_cons_zero, List.set_cons_succ]
  refine doneL (by kernel_rfl) ?_ _
  replace mA := mA.next hHeld
  replace mB := mB.next hHeld
  replace KA := KA.next hHeld
  replace KB := KB.next hHeld
  replace KF := KF.next hHeld
  replace KS := KS.next hHeld
  replace mM := mM.next hHeld
  replace KM := KM.next hHeld
  replace mT := mT.next hHeld
  replace KT := KT.next hHeld
  replace mX := mX.next hHeld
  replace KX := KX.next hHeld
  replace B0 := B0.trans (hHeld.mono B0.size)
  clear hHeld mU c1 c2 c3 hqT heT lqT gqT EQT heX
  have qKB0 := KB.cell 0
  have qKB1 := KB.cell 1
  have qKB2 := KB.cell 2
  have qKA0 := KA.cell 0
  have qKA1 := KA.cell 1
  go_wp2_with fail
  refine (rf23_Formed _ m c ys _ mB true (decide_eq_true HFdB.out).symm).mono ?_; rintro e w15 ⟨rfl, b15⟩
  clear qKB0 qKB1 qKB2 qKA0 qKA1
  replace mA := mA.next b15
  replace mB := mB.next b15
  replace KA := KA.next b15
  replace KB := KB.next b15
  replace KF := KF.next b15
  replace KS := KS.next b15
  replace mM := mM.next b15
  replace KM := KM.next b15
  replace mT := mT.next b15
  replace KT := KT.next b15
  replace mX := mX.next b15
  replace KX := KX.next b15
  replace B0 := B0.trans (b15.mono B0.size)
  clear b15
  have qKB0 := KB.cell 0
  have qKB1 := KB.cell 1
  have qKA0 := KA.cell 0
  have qKA1 := KA.cell 1
  go_upto_region 13 with (fail)
  have qKB2 := KB.cell 2
  go_wp2_with fail
  refine (rf23_Formed _ m c ys _ mB true (decide_eq_true HFdB.out).symm).mono ?_; rintro e w16 ⟨rfl, b16⟩
  clear qKB0 qKB1 qKA0 qKA1 qKB2
  replace mA := mA.next b16
  replace mB := mB.next b16
  replace KA := KA.next b16
  replace KB := KB.next b16
  replace KF := KF.next b16
  replace KS := KS.next b16
  replace mM := mM.next b16
  replace KM := KM.next b16
  replace mT := mT.next b16
  replace KT := KT.next b16
  replace mX := mX.next b16
  replace KX := KX.next b16
  replace B0 := B0.trans (b16.mono B0.size)
  clear b16
  have qKB0 := KB.cell 0
  have qKB1 := KB.cell 1
  have qKA0 := KA.cell 0
  have qKA1 := KA.cell 1
  go_upto_region 14 with (fail)
  have qKF0 := KF.cell 0
  have qKA2 := KA.cell 2
  have qKB2 := KB.cell 2
  go_wp2_with fail
  refine (xm_Same_no p _ _ r m m c xs ys _ mA mB NAL.out).mono ?_; rintro e w17 ⟨rfl, b17⟩
  clear qKB0 qKB1 qKA0 qKA1 qKF0 qKA2 qKB2
  replace mA := mA.next b17
  replace mB := mB.next b17
  replace KA := KA.next b17
  replace KB := KB.next b17
  replace KF := KF.next b17
  replace KS := KS.next b17
  replace mM := mM.next b17
  replace KM := KM.next b17
  replace mT := mT.next b17
  replace KT := KT.next b17
  replace mX := mX.next b17
  replace KX := KX.next b17
  replace B0 := B0.trans (b17.mono B0.size)
  clear b17
  go_upto_region 17 with (fail)
  have qKX2 := KX.cell 2
  obtain ⟨ao, bo, off, ca, U, eX, -, hao, hat⟩ := mX.open
  simp only [Value.agg.injEq, Array.mk.injEq, List.cons.injEq, true_and, and_true, Value.slice.injEq] at eX
  obtain ⟨rfl, hzl, rfl⟩ := eX
  have HAO := Lib.hid hao; have HAT := Lib.hid hat
  clear hao hat
  have hNX : zsX.length ≤ 9 := by rw [ZLX.out]; omega
  rw [ZLX.out] at HAT HAO hNX hzl
  clear hzl
  obtain ⟨N, eN⟩ : ∃ N, N = r * m := ⟨_, rfl⟩
  clear qKX2
  go_wp2
  go_loopw [20, 19] (fun jv dv wr => ∃ (j : Nat) (e : Int), j ≤ r * m ∧ jv = .int .i64 j ∧ dv = .int .i64 e ∧ Hid (e = xdg p xs j) ∧ Below w17.heap.size w17 wr) (fun jv _ _ => r * m - (intOf jv).toNat)
  case atStart => exact ⟨0, -1, by omega, rfl, rfl, Lib.hid rfl, Below.refl _ _⟩
  case round =>
    obtain ⟨j, e, hj, rfl, rfl, HE, BT⟩ := hrel
    replace KX := KX.next BT
    have c2 := KX.cell 2
    by_cases hjn : j < r * m
    · obtain ⟨rfl, hbl⟩ := HAO.out (by omega)
      obtain ⟨q0, s0, -⟩ := HAT.out j hjn
      obtain ⟨n, en⟩ : ∃ n : Nat, n = (zsX.getD j []).length := ⟨_, rfl⟩
      obtain ⟨ua, -, -, uc, eu, -, -⟩ := s0
      rw [eu, ← en] at q0
      have q1 := (BT.cell (p := ⟨bo, off + j, none⟩) hbl).trans q0
      have hz := ZX.out j hjn
      have hn4 : n ≤ 4 := by omega
      obtain ⟨e', ee⟩ : ∃ e', e' = max e ((n : Int) - 1) := ⟨_, rfl⟩
      have HN := Lib.hid (show e' = xdg p xs (j + 1) by
        rw [ee, HE.out, en, ← nl_of HP.out.pos hz.1, nl_same HP.out hz.2.1]; rfl)
      have hw : IntKind.i64.wrap ((n : Int) - 1) = (n : Int) - 1 := IntWalk.i64_in _ ⟨by omega, by omega⟩
      clear q0 hz en eu
      by_cases hc1 : e < (n : Int) - 1
      · have hn3 : e' = (n : Int) - 1 := by omega
        rw [hn3] at HN
        clear hn3 ee
        go_wp2
        all_goals go_roundw
        all_goals first | (case rel => exact ⟨j + 1, _, by omega, by go_num, rfl, HN, BT⟩) | (case measure => simp [intOf] <;> omega) | skip
      · have hn3 : e' = e := by omega
        rw [hn3] at HN
        clear hn3 ee
        go_wp2
        all_goals go_roundw
        all_goals first | (case rel => exact ⟨j + 1, _, by omega, by go_num, rfl, HN, BT⟩) | (case measure => simp [intOf] <;> omega) | skip
    · obtain rfl : j = r * m := by omega
      replace mA := mA.next BT
      replace mB := mB.next BT
      replace KA := KA.next BT
      replace KB := KB.next BT
      replace KF := KF.next BT
      replace KS := KS.next BT
      replace mM := mM.next BT
      replace KM := KM.next BT
      replace mT := mT.next BT
      replace KT := KT.next BT
      replace mX := mX.next BT
      replace B0 := B0.trans (BT.mono B0.size)
      have HDG := Lib.hid (show e = xdg p xs xs.length by rw [HXA.out]; exact HE.out)
      clear BT HE hj hjn
      go_upto_region 21 with (fail)
      clear c2
      have bd := Drawn.below (w' := wr.drew) ⟨1, rfl⟩ wr.heap.size
      replace mA := mA.next bd
      replace mB := mB.next bd
      replace KA := KA.next bd
      replace KB := KB.next bd
      replace KF := KF.next bd
      replace KS := KS.next bd
      replace mM := mM.next bd
      replace KM := KM.next bd
      replace mT := mT.next bd
      replace KT := KT.next bd
      replace mX := mX.next bd
      replace KX := KX.next bd
      replace B0 := B0.trans (bd.mono B0.size)
      clear bd
      refine startL (S := (fun w' => Below (wr.drew).heap.size (wr.drew) w')) (by kernel_rfl) (Below.refl _ _) (fun hHeld => ?_)
      refine takeL 0 (v := ?_) rfl (by kernel_rfl) (by kernel_rfl) (by kernel_rfl) (fun _ _ _ h => h) ⟨by rfl, ?_⟩ (by assumption) ?_
      rotate_left
      · intro w hS; go_simp <;> with_reducible rfl
      simp only [Act.put, List.setIfInBounds_toArray, List.set_cons_zero, List.set_cons_succ]
      refine takeL 1 (v := ?_) rfl (by kernel_rfl) (by kernel_rfl) (by kernel_rfl) (fun _ _ _ h => h) ⟨by rfl, ?_⟩ (by assumption) ?_
      rotate_left
      · intro w hS; go_simp <;> with_reducible rfl
      simp only [Act.put, List.setIfInBounds_toArray, List.set_cons_zero, List.set_cons_succ]
      refine takeL 2 (v := ?_) rfl (by kernel_rfl) (by kernel_rfl) (by kernel_rfl) (fun _ _ _ h => h) ⟨by rfl, ?_⟩ (by assumption) ?_
      rotate_left
      · intro w hS; go_simp <;> with_reducible rfl
      simp only [Act.put, List.setIfInBounds_toArray, List.set_cons_zero, List.set_cons_succ]
      refine skipL 3 rfl (by kernel_rfl) (by kernel_rfl) (by kernel_rfl) (fun _ _ _ h => h) (by rfl) (by assumption) ?_
      simp only [Act.put, List.setIfInBounds_toArray, List.set_cons_zero, List.set_cons_succ]
      refine skipL 4 rfl (by kernel_rfl) (by kernel_rfl) (by kernel_rfl) (fun _ _ _ h => h) (by rfl) (by assumption) ?_
      simp only [Act.put, List.setIfInBounds_toArray, List.set_cons_zero, List.set_cons_succ]
      refine skipL 5 rfl (by kernel_rfl) (by kernel_rfl) (by kernel_rfl) (fun _ _ _ h => h) (by rfl) (by assumption) ?_
      simp only [Act.put, List.setIfInBounds_toArray, List.set_cons_zero, List.set_cons_succ]
      refine skipL 6 rfl (by kernel_rfl) (by kernel_rfl) (by kernel_rfl) (fun _ _ _ h => h) (by rfl) (by assumption) ?_
      simp only [Act.put, List.setIfInBounds_toArray, List.set_cons_zero, List.set_cons_succ]
      refine skipL 7 rfl (by kernel_rfl) (by kernel_rfl) (by kernel_rfl) (fun _ _ _ h => h) (by rfl) (by assumption) ?_
      simp only [Act.put, List.setIfInBounds_toArray, List.set_cons_zero, List.set_cons_succ]
      refine skipL 8 rfl (by kernel_rfl) (by kernel_rfl) (by kernel_rfl) (fun _ _ _ h => h) (by rfl) (by assumption) ?_
      simp only [Act.put, List.setIfInBounds_toArray, List.set_cons_zero, List.set_cons_succ]
      refine skipL 9 rfl (by kernel_rfl) (by kernel_rfl) (by kernel_rfl) (fun _ _ _ h => h) (by rfl) (by assumption) ?_
      simp only [Act.put, List.setIfInBounds_toArray, List.set_cons_zero, List.set_cons_succ]
      refine takeL 10 (v := ?_) rfl (by kernel_rfl) (by kernel_rfl) (by kernel_rfl) (fun _ _ _ h => h) ⟨by rfl, ?_⟩ (by assumption) ?_
      rotate_left
      · intro w hS; go_simp <;> with_reducible rfl
      simp only [Act.put, List.setIfInBounds_toArray, List.set_cons_zero, List.set_cons_succ]
      refine takeL 11 (v := ?_) rfl (by kernel_rfl) (by kernel_rfl) (by kernel_rfl) (fun _ _ _ h => h) ⟨by rfl, ?_⟩ (by assumption) ?_
      rotate_left
      · intro w hS; go_simp <;> with_reducible rfl
      simp only [Act.put, List.setIfInBounds_toArray, List.set_cons_zero, List.set_cons_succ]
      refine takeL 12 (v := ?_) rfl (by kernel_rfl) (by kernel_rfl) (by kernel_rfl) (fun _ _ _ h => h) ⟨by rfl, ?_⟩ (by assumption) ?_
      rotate_left
      · intro w hS; go_simp <;> with_reducible rfl
      simp only [Act.put, List.setIfInBounds_toArray, List.set_cons_zero, List.set_cons_succ]
      refine takeL 13 (v := ?_) rfl (by kernel_rfl) (by kernel_rfl) (by kernel_rfl) (fun _ _ _ h => h) ⟨by rfl, ?_⟩ (by assumption) ?_
      rotate_left
      · intro w hS; go_simp <;> with_reducible rfl
      simp only [Act.put, List.setIfInBounds_toArray, List.set_cons_zero, List.set_cons_succ]
      refine takeL 14 (v := ?_) rfl (by kernel_rfl) (by kernel_rfl) (by kernel_rfl) (fun _ _ _ h => h) ⟨by rfl, ?_⟩ (by assumption) ?_
      rotate_left
      · intro w hS; go_simp <;> with_reducible rfl
      simp only [Act.put, List.setIfInBounds_toArray, List.set_cons_zero, List.set_cons_succ]
      refine takeL 15 (v := ?_) rfl (by kernel_rfl) (by kernel_rfl) (by kernel_rfl) (fun _ _ _ h => h) ⟨by rfl, ?_⟩ (by assumption) ?_
      rotate_left
      · intro w hS; have fa := KA.at hS; have f1 := fa 0; have f2 := fa 1; have f3 := fa 2; clear fa; have fb := KB.at hS; have f4 := fb 0; have f5 := fb 1; have f6 := fb 2; clear fb; have fd := KF.at hS; have f10 := fd 0; clear fd; have fe := KM.at hS; have f11 := fe 0; have f12 := fe 1; have f13 := fe 2; clear fe; go_simp <;> with_reducible rfl
      simp only [Act.put, List.setIfInBounds_toArray, List.set_cons_zero, List.set_cons_succ]
      refine takeL 16 (v := ?_) rfl (by kernel_rfl) (by kernel_rfl) (by kernel_rfl) (fun _ _ _ h => h) ⟨by rfl, ?_⟩ (by assumption) ?_
      rotate_left
      · intro w hS; have fa := KA.at hS; have f1 := fa 0; have f2 := fa 1; have f3 := fa 2; clear fa; have fb := KB.at hS; have f4 := fb 0; have f5 := fb 1; have f6 := fb 2; clear fb; have fd := KF.at hS; have f10 := fd 0; clear fd; have fe := KM.at hS; have f11 := fe 0; have f12 := fe 1; have f13 := fe 2; clear fe; go_simp <;> with_reducible rfl
      simp only [Act.put, List.setIfInBounds_toArray, List.set_cons_zero, List.set_cons_succ]
      refine takeL 17 (v := ?_) rfl (by kernel_rfl) (by kernel_rfl) (by kernel_rfl) (fun _ _ _ h => h) ⟨by rfl, ?_⟩ (by assumption) ?_
      rotate_left
      · intro w hS; have fa := KA.at hS; have f1 := fa 0; have f2 := fa 1; have f3 := fa 2; clear fa; have fb := KB.at hS; have f4 := fb 0; have f5 := fb 1; have f6 := fb 2; clear fb; have fd := KF.at hS; have f10 := fd 0; clear fd; have fe := KM.at hS; have f11 := fe 0; have f12 := fe 1; have f13 := fe 2; clear fe; go_simp <;> with_reducible rfl
      simp only [Act.put, List.setIfInBounds_toArray, List.set_cons_zero, List.set_cons_succ]
      refine takeL 18 (v := ?_) rfl (by kernel_rfl) (by kernel_rfl) (by kernel_rfl) (fun _ _ _ h => h) ⟨by rfl, ?_⟩ (by assumption) ?_
      rotate_left
      · intro w hS; go_simp <;> with_reducible rfl
      simp only [Act.put, List.setIfInBounds_toArray, List.set_cons_zero, List.set_cons_succ]
      refine takeL 20 (v := ?_) rfl (by kernel_rfl) (by kernel_rfl) (by kernel_rfl) (fun _ _ _ h => h) ⟨by rfl, ?_⟩ (by assumption) ?_
      rotate_left
      · intro w hS; go_simp <;> with_reducible rfl
      simp only [Act.put, List.setIfInBounds_toArray, List.set_cons_zero, List.set_cons_succ]
      refine oneL 19 rfl (by kernel_rfl) (by rfl) (fun K hK => ?_)
      go_simp
      go_at_call 51
      (with_reducible refine (rf23_Mul p 8 4 _ _ r m c xs ys _ HP.out (mA.next hHeld) (mB.next hHeld) (by omega) (by omega) (by omega) HXA.out HXM.out (by omega) (by omega) HLA.out HLB.out (dotT p xs ys m c) (fun i k _ hk => dotT_at hk)).mono ?_); rintro e6 y6 ⟨aW, kW, uW, rfl, oW, c6⟩; obtain ⟨zsW, zlW, nsW, hzW⟩ := oW.ns HP.out; have mW : Xm y6 (.agg #[.int .i64 r, .int .i64 c, .slice aW (r * c) kW]) r c zsW := ⟨_, rfl, nsW⟩; have ZLW := Lib.hid zlW; have ZW := Lib.hid hzW; clear nsW oW zlW hzW
      refine hK.out _ _ (hHeld.trans (c6.mono hHeld.size)) (fun hHeld => ?_)
      clear hK K
      try simp only [Act.put, List.setIfInBounds_toArray, List.set_cons_zero, List.set_cons_succ]
      refine oneL 21 rfl (by kernel_rfl) (by rfl) (fun K hK => ?_)
      go_simp
      go_at_call 46
      (with_reducible refine (rf23_Is _ _ r c p zsM zsW _ HP.out (mM.next hHeld) mW (Fd.of (by omega) (by omega) ZLM.out) (by rw [ZLW.out, ZLM.out]) (by rw [ZLM.out]; omega) (fun j hj => by have := ZM.out j (by rw [ZLM.out] at hj; exact hj); exact ⟨this.1, by omega⟩) (fun j hj => by have := ZW.out j (by rw [ZLM.out] at hj; exact hj); omega) (fun j hj => by rw [ZLM.out] at hj; exact nl_same HP.out (by rw [(ZM.out j hj).2.1, (ZW.out j hj).2.1]))).mono ?_); rintro e7 y7 ⟨rfl, c7⟩
      refine hK.out _ _ (hHeld.trans (c7.mono hHeld.size)) (fun hHeld => ?_)
      clear hK K
      try simp only [Act.put, List.setIfInBounds_toArray, List.set_cons_zero, List.set_cons_succ]
      refine takeL 22 (v := ?_) rfl (by kernel_rfl) (by kernel_rfl) (by kernel_rfl) (fun _ _ _ h => h) ⟨by rfl, ?_⟩ (by assumption) ?_
      rotate_left
      · intro w hS; go_simp <;> with_reducible rfl
      simp only [Act.put, List.setIfInBounds_toArray, List.set_cons_zero, List.set_cons_succ]
      refine takeL 23 (v := ?_) rfl (by kernel_rfl) (by kernel_rfl) (by kernel_rfl) (fun _ _ _ h => h) ⟨by rfl, ?_⟩ (by assumption) ?_
      rotate_left
      · intro w hS; go_simp <;> with_reducible rfl
      simp only [Act.put, List.setIfInBounds_toArray, List.set_cons_zero, List.set_cons_succ]
      refine takeL 24 (v := ?_) rfl (by kernel_rfl) (by kernel_rfl) (by kernel_rfl) (fun _ _ _ h => h) ⟨by rfl, ?_⟩ (by assumption) ?_
      rotate_left
      · intro w hS; go_simp <;> with_reducible rfl
      simp only [Act.put, List.setIfInBounds_toArray, List.set_cons_zero, List.set_cons_succ]
      refine takeL 25 (v := ?_) rfl (by kernel_rfl) (by kernel_rfl) (by kernel_rfl) (fun _ _ _ h => h) ⟨by rfl, ?_⟩ (by assumption) ?_
      rotate_left
      · intro w hS; have fa := KA.at hS; have f1 := fa 0; have f2 := fa 1; have f3 := fa 2; clear fa; have fb := KB.at hS; have f4 := fb 0; have f5 := fb 1; have f6 := fb 2; clear fb; have fd := KF.at hS; have f10 := fd 0; clear fd; have fe := KM.at hS; have f11 := fe 0; have f12 := fe 1; have f13 := fe 2; clear fe; go_simp <;> with_reducible rfl
      simp only [Act.put, List.setIfInBounds_toArray, List.set_cons_zero, List.set_cons_succ]
      refine takeL 26 (v := ?_) rfl (by kernel_rfl) (by kernel_rfl) (by kernel_rfl) (fun _ _ _ h => h) ⟨by rfl, ?_⟩ (by assumption) ?_
      rotate_left
      · intro w hS; have fa := KA.at hS; have f1 := fa 0; have f2 := fa 1; have f3 := fa 2; clear fa; have fb := KB.at hS; have f4 := fb 0; have f5 := fb 1; have f6 := fb 2; clear fb; have fd := KF.at hS; have f10 := fd 0; clear fd; have fe := KM.at hS; have f11 := fe 0; have f12 := fe 1; have f13 := fe 2; clear fe; go_simp <;> with_reducible rfl
      simp only [Act.put, List.setIfInBounds_toArray, List.set_cons_zero, List.set_cons_succ]
      refine takeL 28 (v := ?_) rfl (by kernel_rfl) (by kernel_rfl) (by kernel_rfl) (fun _ _ _ h => h) ⟨by rfl, ?_⟩ (by assumption) ?_
      rotate_left
      · intro w hS; go_simp <;> with_reducible rfl
      simp only [Act.put, List.setIfInBounds_toArray, List.set_cons_zero, List.set_cons_succ]
      refine oneL 27 rfl (by kernel_rfl) (by rfl) (fun K hK => ?_)
      go_simp
      go_at_call 45
      (with_reducible refine (xm_Degree p _ r m xs _ HP.out (mA.next hHeld) HFdA.out ELA.out (by omega) e HDG.out).mono ?_); rintro e9 y9 ⟨rfl, c9⟩
      refine hK.out _ _ (hHeld.trans (c9.mono hHeld.size)) (fun hHeld => ?_)
      clear hK K
      try simp only [Act.put, List.setIfInBounds_toArray, List.set_cons_zero, List.set_cons_succ]
      refine takeL 29 (v := ?_) rfl (by kernel_rfl) (by kernel_rfl) (by kernel_rfl) (fun _ _ _ h => h) ⟨by rfl, ?_⟩ (by assumption) ?_
      rotate_left
      · intro w hS; go_simp <;> with_reducible rfl
      simp only [Act.put, List.setIfInBounds_toArray, List.set_cons_zero, List.set_cons_succ]
      refine takeL 30 (v := ?_) rfl (by kernel_rfl) (by kernel_rfl) (by kernel_rfl) (fun _ _ _ h => h) ⟨by rfl, ?_⟩ (by assumption) ?_
      rotate_left
      · intro w hS; go_simp <;> with_reducible rfl
      simp only [Act.put, List.setIfInBounds_toArray, List.set_cons_zero, List.set_cons_succ]
      refine takeL 31 (v := ?_) rfl (by kernel_rfl) (by kernel_rfl) (by kernel_rfl) (fun _ _ _ h => h) ⟨by rfl, ?_⟩ (by assumption) ?_
      rotate_left
      · intro w hS; go_simp <;> with_reducible rfl
      simp only [Act.put, List.setIfInBounds_toArray, List.set_cons_zero, List.set_cons_succ]
      refine doneL (by kernel_rfl) ?_ _
      replace B0 := B0.trans (hHeld.mono B0.size)
      clear hHeld mW
      clear mA mB KA KB KF KS mM KM mT KT mX KX
      go_wp2
      go_ret
      exact ⟨rfl, B0⟩

set_option maxRecDepth 20000 in
set_option maxHeartbeats 8000000 in
theorem gFT2 (x0 : Nat) (r c : Nat) (v : Value) (xs : List (List Nat)) (u : Value) (ys : List (List Nat)) (w : World) (mA : Xm w v r r xs) (mB : Xm w u r c ys) (hfA : Fwx 3 4 r r xs) (hfB : Fwx 3 4 r c ys) (hr : r ≤ 3) (hc : r ≤ 3) (hxA : xs.length = r * r) (hxB : ys.length = r * c) (hc2 : c ≤ 3) (hne : r ≠ c) :
    Calls Try.prog 7 #[.int .u8 x0, v, u] w (LawOk w) := by
  obtain ⟨p, ep⟩ : ∃ p, p = Ps (x0 % 12) := ⟨_, rfl⟩
  have hp : FP p := by rw [ep]; exact Ps_FP (by omega)
  have ht : Trial p := by rw [ep]; exact Ps_trial (by omega)
  have cOf : ∀ w : World, Calls Try.prog 17 #[.int .u8 x0] w fun e w' => e = .returned (.agg #[.int .u64 (p : Nat)]) ∧ Below w.heap.size w w' := fun w => by rw [ep]; exact law9_Of x0 w
  have cP : ∀ w : World, Calls Try.prog 18 #[.int .u8 x0] w fun e w' => e = .returned (.int .u64 (p : Nat)) ∧ w = w' := fun w => by rw [ep]; exact ref8_P x0 w
  have hp2 := hp.1
  have hp3 := hp.2
  have HP := Lib.hid hp; have HT := Lib.hid ht; have COF := Lib.hid cOf; have CP := Lib.hid cP
  clear hp ht cOf cP ep
  obtain ⟨aA, cA, rfl⟩ := mA.agg
  obtain ⟨aB, cB, rfl⟩ := mB.agg
  obtain ⟨wb, ew, KA, KB, B0, hsz⟩ := boxes2 w 24 24 [.int .i64 r, .int .i64 r, .slice aA xs.length cA] [.int .i64 r, .int .i64 c, .slice aB ys.length cB]
  clear hsz
  replace mA := mA.next B0
  replace mB := mB.next B0
  have hlA : ∀ j, j < xs.length → (xs.getD j []).length ≤ 4 := fun j hj => by have := hfA.2.2.2 j hj; omega
  have hlB : ∀ j, j < ys.length → (ys.getD j []).length ≤ 4 := fun j hj => by have := hfB.2.2.2 j hj; omega
  have hrc : r * r ≤ 3 * 3 := Nat.mul_le_mul hr hc
  have hcr : r * r ≤ 3 * 3 := Nat.mul_le_mul hc hr
  have hxl : xs.length ≤ 9 := by omega
  have hyl : ys.length ≤ 100 := hfB.2.2.1
  have HF := Lib.hid hfA; have HG := Lib.hid hfB
  have HLA := Lib.hid hlA; have HLB := Lib.hid hlB; have HXA := Lib.hid hxA
  have HFdA := Lib.hid (Fd.of (show r ≤ 64 by omega) (show r ≤ 64 by omega) hxA)
  have DLA := Lib.hid (show ∀ j, j < r * r → (xs.getD j []).length ≤ 4 from fun j hj => hlA j (by omega))
  have ELA := Lib.hid (show ∀ j, j < xs.length → (xs.getD j []).length ≤ 1000000 from fun j hj => by have := hlA j hj; omega)
  have ELB := Lib.hid (show ∀ j, j < ys.length → (ys.getD j []).length ≤ 1000000 from fun j hj => by have := hlB j hj; omega)
  clear hlA hlB hxA hfA hfB
  have HXB := Lib.hid hxB
  have HFdB := Lib.hid (Fd.of (show r ≤ 64 by omega) (show c ≤ 64 by omega) hxB)
  have HXM := Lib.hid hxB
  have hrm : r * c ≤ 3 * 3 := Nat.mul_le_mul hr hc2
  have NAL := Lib.hid (show ¬ Al r r r c xs.length ys.length from fun h => hne (by have := h.2.2.2; omega))
  have e1 : ((r : Int) == (r : Int)) = true := by simp
  have e2 : ((r : Int) == (c : Int)) = false := by simp; omega
  clear hxB hne
  go_enter Try.func7, Try.ntmps7
  go_upto_region 1 with (fail)
  rw [← ew]
  clear ew
  go_wp2_with fail
  refine (law23_awake _).mono ?_; rintro e w1 ⟨rfl, b1⟩
  replace mA := mA.next b1
  replace mB := mB.next b1
  replace KA := KA.next b1
  replace KB := KB.next b1
  replace B0 := B0.trans (b1.mono B0.size)
  clear b1
  have qKA0 := KA.cell 0
  have qKA1 := KA.cell 1
  have qKA2 := KA.cell 2
  go_wp2_with fail
  refine (rf23_Few _ r r 3 4 xs _ mA true ⟨fun _ => HF.out, fun _ => rfl⟩).mono ?_; rintro e w2 ⟨rfl, b2⟩
  clear qKA0 qKA1 qKA2
  replace mA := mA.next b2
  replace mB := mB.next b2
  replace KA := KA.next b2
  replace KB := KB.next b2
  replace B0 := B0.trans (b2.mono B0.size)
  clear b2
  have qKB0 := KB.cell 0
  have qKB1 := KB.cell 1
  have qKB2 := KB.cell 2
  go_wp2_with fail
  refine (rf23_Few _ r c 3 4 ys _ mB true ⟨fun _ => HG.out, fun _ => rfl⟩).mono ?_; rintro e w3 ⟨rfl, b3⟩
  clear qKB0 qKB1 qKB2
  replace mA := mA.next b3
  replace mB := mB.next b3
  replace KA := KA.next b3
  replace KB := KB.next b3
  replace B0 := B0.trans (b3.mono B0.size)
  clear b3
  go_wp2_with fail
  refine (COF.out _).mono ?_; rintro e w4 ⟨rfl, b4⟩
  replace mA := mA.next b4
  replace mB := mB.next b4
  replace KA := KA.next b4
  replace KB := KB.next b4
  replace B0 := B0.trans (b4.mono B0.size)
  clear b4
  go_wp2_with fail
  refine (CP.out _).mono ?_; rintro e wx ⟨rfl, rfl⟩
  obtain ⟨w5, e5, KF, b5, hs5⟩ := boxes1 w4 29 [.int .u64 p]
  clear hs5
  replace mA := mA.next b5
  replace mB := mB.next b5
  replace KA := KA.next b5
  replace KB := KB.next b5
  replace B0 := B0.trans (b5.mono B0.size)
  clear b5
  go_upto_region 4 with (fail)
  rw [← e5]
  clear e5
  have qKF0 := KF.cell 0
  have qKA0 := KA.cell 0
  have qKA1 := KA.cell 1
  have qKA2 := KA.cell 2
  have qKB0 := KB.cell 0
  have qKB1 := KB.cell 1
  have qKB2 := KB.cell 2
  go_wp2_with fail
  refine (xm_Add_bad p _ _ r r r c xs ys _ mA mB NAL.out).mono ?_; rintro e w6 ⟨rfl, b6⟩
  clear qKF0 qKA0 qKA1 qKA2 qKB0 qKB1 qKB2
  replace mA := mA.next b6
  replace mB := mB.next b6
  replace KA := KA.next b6
  replace KB := KB.next b6
  replace KF := KF.next b6
  replace B0 := B0.trans (b6.mono B0.size)
  clear b6
  obtain ⟨w7, e7, KS, b7, hs7⟩ := boxes1 w6 24 [.int .i64 0, .int .i64 0, .slice none 0 0]
  clear hs7
  replace mA := mA.next b7
  replace mB := mB.next b7
  replace KA := KA.next b7
  replace KB := KB.next b7
  replace KF := KF.next b7
  replace B0 := B0.trans (b7.mono B0.size)
  clear b7
  go_upto_region 5 with (fail)
  rw [← e7]
  clear e7
  have qKF0 := KF.cell 0
  have qKA0 := KA.cell 0
  have qKA1 := KA.cell 1
  have qKA2 := KA.cell 2
  have qKB0 := KB.cell 0
  have qKB1 := KB.cell 1
  have qKB2 := KB.cell 2
  go_wp2_with fail
  refine (xm_Mul p 8 4 _ _ r r c xs ys _ HP.out mA mB (by omega) (by omega) (by omega) HXA.out HXM.out (by omega) (by omega) HLA.out HLB.out (dotT p xs ys r c) (fun i k _ hk => dotT_at hk)).mono ?_; rintro e w8 ⟨a8, k8, us8, rfl, o8, b8⟩
  clear qKF0 qKA0 qKA1 qKA2 qKB0 qKB1 qKB2
  replace mA := mA.next b8
  replace mB := mB.next b8
  replace KA := KA.next b8
  replace KB := KB.next b8
  replace KF := KF.next b8
  replace KS := KS.next b8
  replace B0 := B0.trans (b8.mono B0.size)
  clear b8
  obtain ⟨zsM, zlM, nsM, hzM⟩ := o8.ns HP.out
  have mM : Xm w8 (.agg #[.int .i64 r, .int .i64 c, .slice a8 (r * c) k8]) r c zsM := ⟨_, rfl, nsM⟩
  have ZLM := Lib.hid zlM; have ZM := Lib.hid hzM
  clear zlM nsM hzM o8
  obtain ⟨w9, e9, KM, b9, hs9⟩ := boxes1 w8 24 [.int .i64 r, .int .i64 c, .slice a8 (r * c) k8]
  clear hs9
  replace mA := mA.next b9
  replace mB := mB.next b9
  replace KA := KA.next b9
  replace KB := KB.next b9
  replace KF := KF.next b9
  replace KS := KS.next b9
  replace mM := mM.next b9
  replace B0 := B0.trans (b9.mono B0.size)
  clear b9
  go_upto_region 6 with (fail)
  rw [← e9]
  clear e9
  have qKF0 := KF.cell 0
  have qKA0 := KA.cell 0
  have qKA1 := KA.cell 1
  have qKA2 := KA.cell 2
  go_wp2_with fail
  refine (xm_Transpose p 4 _ r r xs _ HP.out mA (by omega) (by omega) HXA.out (by omega) DLA.out (fun j => pl p (xs.getD (tix r r j) [])) (fun i k _ hk => by rw [tix_at hk])).mono ?_; rintro e w10 ⟨a10, k10, us10, rfl, o10, b10⟩
  clear qKF0 qKA0 qKA1 qKA2
  replace mA := mA.next b10
  replace mB := mB.next b10
  replace KA := KA.next b10
  replace KB := KB.next b10
  replace KF := KF.next b10
  replace KS := KS.next b10
  replace mM := mM.next b10
  replace KM := KM.next b10
  replace B0 := B0.trans (b10.mono B0.size)
  clear b10
  obtain ⟨zsT, zlT, nsT, hzT⟩ := o10.ns HP.out
  have mT : Xm w10 (.agg #[.int .i64 r, .int .i64 r, .slice a10 (r * r) k10]) r r zsT := ⟨_, rfl, nsT⟩
  have ZLT := Lib.hid zlT; have ZT := Lib.hid hzT
  clear zlT nsT hzT o10
  obtain ⟨w11, e11, KT, b11, hs11⟩ := boxes1 w10 24 [.int .i64 r, .int .i64 r, .slice a10 (r * r) k10]
  clear hs11
  replace mA := mA.next b11
  replace mB := mB.next b11
  replace KA := KA.next b11
  replace KB := KB.next b11
  replace KF := KF.next b11
  replace KS := KS.next b11
  replace mM := mM.next b11
  replace KM := KM.next b11
  replace mT := mT.next b11
  replace B0 := B0.trans (b11.mono B0.size)
  clear b11
  go_upto_region 7 with (fail)
  rw [← e11]
  clear e11
  have qKF0 := KF.cell 0
  have qKA0 := KA.cell 0
  have qKA1 := KA.cell 1
  have qKA2 := KA.cell 2
  go_wp2_with fail
  refine (xm_Norm p 4 _ r r xs _ HP.out mA (by omega) (by omega) HXA.out (by omega) DLA.out (fun j => pl p (xs.getD j [])) (fun _ _ _ _ => rfl)).mono ?_; rintro e w12 ⟨a12, k12, us12, rfl, o12, b12⟩
  clear qKF0 qKA0 qKA1 qKA2
  replace mA := mA.next b12
  replace mB := mB.next b12
  replace KA := KA.next b12
  replace KB := KB.next b12
  replace KF := KF.next b12
  replace KS := KS.next b12
  replace mM := mM.next b12
  replace KM := KM.next b12
  replace mT := mT.next b12
  replace KT := KT.next b12
  replace B0 := B0.trans (b12.mono B0.size)
  clear b12
  obtain ⟨zsX, zlX, nsX, hzX⟩ := o12.ns HP.out
  have mX : Xm w12 (.agg #[.int .i64 r, .int .i64 r, .slice a12 (r * r) k12]) r r zsX := ⟨_, rfl, nsX⟩
  have ZLX := Lib.hid zlX; have ZX := Lib.hid hzX
  clear zlX nsX hzX o12
  obtain ⟨w13, e13, KX, b13, hs13⟩ := boxes1 w12 24 [.int .i64 r, .int .i64 r, .slice a12 (r * r) k12]
  clear hs13
  replace mA := mA.next b13
  replace mB := mB.next b13
  replace KA := KA.next b13
  replace KB := KB.next b13
  replace KF := KF.next b13
  replace KS := KS.next b13
  replace mM := mM.next b13
  replace KM := KM.next b13
  replace mT := mT.next b13
  replace KT := KT.next b13
  replace mX := mX.next b13
  replace B0 := B0.trans (b13.mono B0.size)
  clear b13
  go_upto_region 8 with (fail)
  rw [← e13]
  clear e13
  have qKA0 := KA.cell 0
  have qKA1 := KA.cell 1
  have qKA2 := KA.cell 2
  go_wp2_with fail
  refine (rf23_Formed _ r r xs _ mA true (decide_eq_true HFdA.out).symm).mono ?_; rintro e w14 ⟨rfl, b14⟩
  clear qKA0 qKA1 qKA2
  replace mA := mA.next b14
  replace mB := mB.next b14
  replace KA := KA.next b14
  replace KB := KB.next b14
  replace KF := KF.next b14
  replace KS := KS.next b14
  replace mM := mM.next b14
  replace KM := KM.next b14
  replace mT := mT.next b14
  replace KT := KT.next b14
  replace mX := mX.next b14
  replace KX := KX.next b14
  replace B0 := B0.trans (b14.mono B0.size)
  clear b14
  go_upto_region 10 with (fail)
  have bd := Drawn.below (w' := w14.drew) ⟨1, rfl⟩ w14.heap.size
  replace mA := mA.next bd
  replace mB := mB.next bd
  replace KA := KA.next bd
  replace KB := KB.next bd
  replace KF := KF.next bd
  replace KS := KS.next bd
  replace mM := mM.next bd
  replace KM := KM.next bd
  replace mT := mT.next bd
  replace KT := KT.next bd
  replace mX := mX.next bd
  replace KX := KX.next bd
  replace B0 := B0.trans (bd.mono B0.size)
  clear bd
  have hsT := Lib.hid (show ∀ j, j < zsT.length → Nrm p (zsT.getD j []) ∧ (zsT.getD j []).length ≤ 1000000 from fun j hj => by
    have := ZT.out j (by rw [ZLT.out] at hj; exact hj); exact ⟨this.1, by omega⟩)
  have hsX := Lib.hid (show ∀ j, j < zsX.length → Nrm p (zsX.getD j []) ∧ (zsX.getD j []).length ≤ 1000000 from fun j hj => by
    have := ZX.out j (by rw [ZLX.out] at hj; exact hj); exact ⟨this.1, by omega⟩)
  have heX := Lib.hid (show ∀ j, j < zsX.length → nl p (zsX.getD j []) = nl p (xs.getD j []) from fun j hj => nl_same HP.out (by rw [(ZX.out j (by rw [ZLX.out] at hj; exact hj)).2.1]))
  obtain ⟨qT, eqT⟩ : ∃ qT, qT = (List.range (r * r)).map fun j => xs.getD (tix r r j) [] := ⟨_, rfl⟩
  have lqT := Lib.hid (show qT.length = r * r by rw [eqT]; simp)
  have gqT := Lib.hid (show ∀ j, j < r * r → qT.getD j [] = xs.getD (tix r r j) [] from fun j hj => by rw [eqT]; simp [List.getD, hj])
  have hqT := Lib.hid (show ∀ j, j < zsT.length → (qT.getD j []).length ≤ 1000000 from fun j hj => by
    rw [ZLT.out] at hj
    rw [gqT.out j hj]; have := DLA.out _ (tix_lt hj); omega)
  have heT := Lib.hid (show ∀ j, j < zsT.length → nl p (zsT.getD j []) = nl p (qT.getD j []) from fun j hj => by
    rw [ZLT.out] at hj
    rw [gqT.out j hj]; exact nl_same HP.out (ZT.out j hj).2.1)
  have EQT := Lib.hid eqT; clear eqT
  refine startL (S := (fun w' => Below (w14.drew).heap.size (w14.drew) w')) (by kernel_rfl) (Below.refl _ _) (fun hHeld => ?_)
  refine takeL 0 (v := ?_) rfl (by kernel_rfl) (by kernel_rfl) (by kernel_rfl) (fun _ _ _ h => h) ⟨by rfl, ?_⟩ (by assumption) ?_
  rotate_left
  · intro w hS; go_simp <;> with_reducible rfl
  simp only [Act.put, List.setIfInBounds_toArray, List.set_cons_zero, List.set_cons_succ]
  refine takeL 1 (v := ?_) rfl (by kernel_rfl) (by kernel_rfl) (by kernel_rfl) (fun _ _ _ h => h) ⟨by rfl, ?_⟩ (by assumption) ?_
  rotate_left
  · intro w hS; go_simp <;> with_reducible rfl
  simp only [Act.put, List.setIfInBounds_toArray, List.set_cons_zero, List.set_cons_succ]
  refine takeL 2 (v := ?_) rfl (by kernel_rfl) (by kernel_rfl) (by kernel_rfl) (fun _ _ _ h => h) ⟨by rfl, ?_⟩ (by assumption) ?_
  rotate_left
  · intro w hS; go_simp <;> with_reducible rfl
  simp only [Act.put, List.setIfInBounds_toArray, List.set_cons_zero, List.set_cons_succ]
  refine takeL 3 (v := ?_) rfl (by kernel_rfl) (by kernel_rfl) (by kernel_rfl) (fun _ _ _ h => h) ⟨by rfl, ?_⟩ (by assumption) ?_
  rotate_left
  · intro w hS; go_simp <;> with_reducible rfl
  simp only [Act.put, List.setIfInBounds_toArray, List.set_cons_zero, List.set_cons_succ]
  refine takeL 4 (v := ?_) rfl (by kernel_rfl) (by kernel_rfl) (by kernel_rfl) (fun _ _ _ h => h) ⟨by rfl, ?_⟩ (by assumption) ?_
  rotate_left
  · intro w hS; go_simp <;> with_reducible rfl
  simp only [Act.put, List.setIfInBounds_toArray, List.set_cons_zero, List.set_cons_succ]
  refine takeL 5 (v := ?_) rfl (by kernel_rfl) (by kernel_rfl) (by kernel_rfl) (fun _ _ _ h => h) ⟨by rfl, ?_⟩ (by assumption) ?_
  rotate_left
  · intro w hS; go_simp <;> with_reducible rfl
  simp only [Act.put, List.setIfInBounds_toArray, List.set_cons_zero, List.set_cons_succ]
  refine takeL 6 (v := ?_) rfl (by kernel_rfl) (by kernel_rfl) (by kernel_rfl) (fun _ _ _ h => h) ⟨by rfl, ?_⟩ (by assumption) ?_
  rotate_left
  · intro w hS; go_simp <;> with_reducible rfl
  simp only [Act.put, List.setIfInBounds_toArray, List.set_cons_zero, List.set_cons_succ]
  refine takeL 7 (v := ?_) rfl (by kernel_rfl) (by kernel_rfl) (by kernel_rfl) (fun _ _ _ h => h) ⟨by rfl, ?_⟩ (by assumption) ?_
  rotate_left
  · intro w hS; have fa := KA.at hS; have f1 := fa 0; have f2 := fa 1; have f3 := fa 2; clear fa; have fb := KT.at hS; have f4 := fb 0; have f5 := fb 1; have f6 := fb 2; clear fb; have fc := KX.at hS; have f7 := fc 0; have f8 := fc 1; have f9 := fc 2; clear fc; go_simp <;> with_reducible rfl
  simp only [Act.put, List.setIfInBounds_toArray, List.set_cons_zero, List.set_cons_succ]
  refine takeL 8 (v := ?_) rfl (by kernel_rfl) (by kernel_rfl) (by kernel_rfl) (fun _ _ _ h => h) ⟨by rfl, ?_⟩ (by assumption) ?_
  rotate_left
  · intro w hS; have fa := KA.at hS; have f1 := fa 0; have f2 := fa 1; have f3 := fa 2; clear fa; have fb := KT.at hS; have f4 := fb 0; have f5 := fb 1; have f6 := fb 2; clear fb; have fc := KX.at hS; have f7 := fc 0; have f8 := fc 1; have f9 := fc 2; clear fc; go_simp <;> with_reducible rfl
  simp only [Act.put, List.setIfInBounds_toArray, List.set_cons_zero, List.set_cons_succ]
  refine takeL 10 (v := ?_) rfl (by kernel_rfl) (by kernel_rfl) (by kernel_rfl) (fun _ _ _ h => h) ⟨by rfl, ?_⟩ (by assumption) ?_
  rotate_left
  · intro w hS; go_simp <;> with_reducible rfl
  simp only [Act.put, List.setIfInBounds_toArray, List.set_cons_zero, List.set_cons_succ]
  refine oneL 9 rfl (by kernel_rfl) (by rfl) (fun K hK => ?_)
  go_simp
  go_at_call 47
  (with_reducible refine (rf23_Turned _ r r xs _ (mA.next hHeld) (by omega) (by omega) HXA.out).mono ?_); rintro e y1 ⟨aU, kU, rfl, nU, c1⟩; rw [← EQT.out] at nU; have mU : Xm y1 (.agg #[.int .i64 r, .int .i64 r, .slice aU (r * r) kU]) r r qT := ⟨_, rfl, nU⟩; clear nU
  refine hK.out _ _ (hHeld.trans (c1.mono hHeld.size)) (fun hHeld => ?_)
  clear hK K
  try simp only [Act.put, List.setIfInBounds_toArray, List.set_cons_zero, List.set_cons_succ]
  refine oneL 11 rfl (by kernel_rfl) (by rfl) (fun K hK => ?_)
  go_simp
  go_at_call 46
  (with_reducible refine (rf23_Is _ _ r r p zsT qT _ HP.out (mT.next hHeld) mU (Fd.of (by omega) (by omega) ZLT.out) (by rw [lqT.out, ZLT.out]) (by rw [ZLT.out]; omega) hsT.out hqT.out heT.out).mono ?_); rintro e y2 ⟨rfl, c2⟩
  refine hK.out _ _ (hHeld.trans (c2.mono hHeld.size)) (fun hHeld => ?_)
  clear hK K
  try simp only [Act.put, List.setIfInBounds_toArray, List.set_cons_zero, List.set_cons_succ]
  refine takeL 12 (v := ?_) rfl (by kernel_rfl) (by kernel_rfl) (by kernel_rfl) (fun _ _ _ h => h) ⟨by rfl, ?_⟩ (by assumption) ?_
  rotate_left
  · intro w hS; go_simp <;> with_reducible rfl
  simp only [Act.put, List.setIfInBounds_toArray, List.set_cons_zero, List.set_cons_succ]
  refine takeL 13 (v := ?_) rfl (by kernel_rfl) (by kernel_rfl) (by kernel_rfl) (fun _ _ _ h => h) ⟨by rfl, ?_⟩ (by assumption) ?_
  rotate_left
  · intro w hS; go_simp <;> with_reducible rfl
  simp only [Act.put, List.setIfInBounds_toArray, List.set_cons_zero, List.set_cons_succ]
  refine takeL 14 (v := ?_) rfl (by kernel_rfl) (by kernel_rfl) (by kernel_rfl) (fun _ _ _ h => h) ⟨by rfl, ?_⟩ (by assumption) ?_
  rotate_left
  · intro w hS; go_simp <;> with_reducible rfl
  simp only [Act.put, List.setIfInBounds_toArray, List.set_cons_zero, List.set_cons_succ]
  refine takeL 15 (v := ?_) rfl (by kernel_rfl) (by kernel_rfl) (by kernel_rfl) (fun _ _ _ h => h) ⟨by rfl, ?_⟩ (by assumption) ?_
  rotate_left
  · intro w hS; have fa := KA.at hS; have f1 := fa 0; have f2 := fa 1; have f3 := fa 2; clear fa; have fb := KT.at hS; have f4 := fb 0; have f5 := fb 1; have f6 := fb 2; clear fb; have fc := KX.at hS; have f7 := fc 0; have f8 := fc 1; have f9 := fc 2; clear fc; go_simp <;> with_reducible rfl
  simp only [Act.put, List.setIfInBounds_toArray, List.set_cons_zero, List.set_cons_succ]
  refine takeL 16 (v := ?_) rfl (by kernel_rfl) (by kernel_rfl) (by kernel_rfl) (fun _ _ _ h => h) ⟨by rfl, ?_⟩ (by assumption) ?_
  rotate_left
  · intro w hS; have fa := KA.at hS; have f1 := fa 0; have f2 := fa 1; have f3 := fa 2; clear fa; have fb := KT.at hS; have f4 := fb 0; have f5 := fb 1; have f6 := fb 2; clear fb; have fc := KX.at hS; have f7 := fc 0; have f8 := fc 1; have f9 := fc 2; clear fc; go_simp <;> with_reducible rfl
  simp only [Act.put, List.setIfInBounds_toArray, List.set_cons_zero, List.set_cons_succ]
  refine takeL 17 (v := ?_) rfl (by kernel_rfl) (by kernel_rfl) (by kernel_rfl) (fun _ _ _ h => h) ⟨by rfl, ?_⟩ (by assumption) ?_
  rotate_left
  · intro w hS; go_simp <;> with_reducible rfl
  simp only [Act.put, List.setIfInBounds_toArray, List.set_cons_zero, List.set_cons_succ]
  refine oneL 18 rfl (by kernel_rfl) (by rfl) (fun K hK => ?_)
  go_simp
  go_at_call 46
  (with_reducible refine (rf23_Is _ _ r r p zsX xs _ HP.out (mX.next hHeld) (mA.next hHeld) (Fd.of (by omega) (by omega) ZLX.out) (by rw [HXA.out, ZLX.out]) (by rw [ZLX.out]; omega) hsX.out (by rw [ZLX.out, ← HXA.out]; exact ELA.out) heX.out).mono ?_); rintro e y3 ⟨rfl, c3⟩
  refine hK.out _ _ (hHeld.trans (c3.mono hHeld.size)) (fun hHeld => ?_)
  clear hK K
  try simp only [Act.put, List.setIfInBounds_toArray, List.set_cons_zero, List.set_cons_succ]
  refine takeL 19 (v := ?_) rfl (by kernel_rfl) (by kernel_rfl) (by kernel_rfl) (fun _ _ _ h => h) ⟨by rfl, ?_⟩ (by assumption) ?_
  rotate_left
  · intro w hS; go_simp <;> with_reducible rfl
  simp only [Act.put, List.setIfInBounds_toArray, List.set_cons_zero, List.set_cons_succ]
  refine takeL 20 (v := ?_) rfl (by kernel_rfl) (by kernel_rfl) (by kernel_rfl) (fun _ _ _ h => h) ⟨by rfl, ?_⟩ (by assumption) ?_
  rotate_left
  · intro w hS; go_simp <;> with_reducible rfl
  simp only [Act.put, List.setIfInBounds_toArray, List.set_cons_zero, List.set_cons_succ]
  refine doneL (by kernel_rfl) ?_ _
  replace mA := mA.next hHeld
  replace mB := mB.next hHeld
  replace KA := KA.next hHeld
  replace KB := KB.next hHeld
  replace KF := KF.next hHeld
  replace KS := KS.next hHeld
  replace mM := mM.next hHeld
  replace KM := KM.next hHeld
  replace mT := mT.next hHeld
  replace KT := KT.next hHeld
  replace mX := mX.next hHeld
  replace KX := KX.next hHeld
  replace B0 := B0.trans (hHeld.mono B0.size)
  clear hHeld mU c1 c2 c3 hqT heT lqT gqT EQT heX
  have qKB0 := KB.cell 0
  have qKB1 := KB.cell 1
  have qKB2 := KB.cell 2
  have qKA0 := KA.cell 0
  have qKA1 := KA.cell 1
  go_wp2_with fail
  refine (rf23_Formed _ r c ys _ mB true (decide_eq_true HFdB.out).symm).mono ?_; rintro e w15 ⟨rfl, b15⟩
  clear qKB0 qKB1 qKB2 qKA0 qKA1
  replace mA := mA.next b15
  replace mB := mB.next b15
  replace KA := KA.next b15
  replace KB := KB.next b15
  replace KF := KF.next b15
  replace KS := KS.next b15
  replace mM := mM.next b15
  replace KM := KM.next b15
  replace mT := mT.next b15
  replace KT := KT.next b15
  replace mX := mX.next b15
  replace KX := KX.next b15
  replace B0 := B0.trans (b15.mono B0.size)
  clear b15
  have qKB0 := KB.cell 0
  have qKB1 := KB.cell 1
  have qKA0 := KA.cell 0
  have qKA1 := KA.cell 1
  go_upto_region 13 with (fail)
  have qKB2 := KB.cell 2
  go_wp2_with fail
  refine (rf23_Formed _ r c ys _ mB true (decide_eq_true HFdB.out).symm).mono ?_; rintro e w16 ⟨rfl, b16⟩
  clear qKB0 qKB1 qKA0 qKA1 qKB2
  replace mA := mA.next b16
  replace mB := mB.next b16
  replace KA := KA.next b16
  replace KB := KB.next b16
  replace KF := KF.next b16
  replace KS := KS.next b16
  replace mM := mM.next b16
  replace KM := KM.next b16
  replace mT := mT.next b16
  replace KT := KT.next b16
  replace mX := mX.next b16
  replace KX := KX.next b16
  replace B0 := B0.trans (b16.mono B0.size)
  clear b16
  have qKB0 := KB.cell 0
  have qKB1 := KB.cell 1
  have qKA0 := KA.cell 0
  have qKA1 := KA.cell 1
  go_upto_region 14 with (fail)
  have qKF0 := KF.cell 0
  have qKA2 := KA.cell 2
  have qKB2 := KB.cell 2
  go_wp2_with fail
  refine (xm_Same_no p _ _ r r r c xs ys _ mA mB NAL.out).mono ?_; rintro e w17 ⟨rfl, b17⟩
  clear qKB0 qKB1 qKA0 qKA1 qKF0 qKA2 qKB2
  replace mA := mA.next b17
  replace mB := mB.next b17
  replace KA := KA.next b17
  replace KB := KB.next b17
  replace KF := KF.next b17
  replace KS := KS.next b17
  replace mM := mM.next b17
  replace KM := KM.next b17
  replace mT := mT.next b17
  replace KT := KT.next b17
  replace mX := mX.next b17
  replace KX := KX.next b17
  replace B0 := B0.trans (b17.mono B0.size)
  clear b17
  go_upto_region 17 with (fail)
  have qKX2 := KX.cell 2
  obtain ⟨ao, bo, off, ca, U, eX, -, hao, hat⟩ := mX.open
  simp only [Value.agg.injEq, Array.mk.injEq, List.cons.injEq, true_and, and_true, Value.slice.injEq] at eX
  obtain ⟨rfl, hzl, rfl⟩ := eX
  have HAO := Lib.hid hao; have HAT := Lib.hid hat
  clear hao hat
  have hNX : zsX.length ≤ 9 := by rw [ZLX.out]; omega
  rw [ZLX.out] at HAT HAO hNX hzl
  clear hzl
  obtain ⟨N, eN⟩ : ∃ N, N = r * r := ⟨_, rfl⟩
  clear qKX2
  go_wp2
  go_loopw [20, 19] (fun jv dv wr => ∃ (j : Nat) (e : Int), j ≤ r * r ∧ jv = .int .i64 j ∧ dv = .int .i64 e ∧ Hid (e = xdg p xs j) ∧ Below w17.heap.size w17 wr) (fun jv _ _ => r * r - (intOf jv).toNat)
  case atStart => exact ⟨0, -1, by omega, rfl, rfl, Lib.hid rfl, Below.refl _ _⟩
  case round =>
    obtain ⟨j, e, hj, rfl, rfl, HE, BT⟩ := hrel
    replace KX := KX.next BT
    have c2 := KX.cell 2
    by_cases hjn : j < r * r
    · obtain ⟨rfl, hbl⟩ := HAO.out (by omega)
      obtain ⟨q0, s0, -⟩ := HAT.out j hjn
      obtain ⟨n, en⟩ : ∃ n : Nat, n = (zsX.getD j []).length := ⟨_, rfl⟩
      obtain ⟨ua, -, -, uc, eu, -, -⟩ := s0
      rw [eu, ← en] at q0
      have q1 := (BT.cell (p := ⟨bo, off + j, none⟩) hbl).trans q0
      have hz := ZX.out j hjn
      have hn4 : n ≤ 4 := by omega
      obtain ⟨e', ee⟩ : ∃ e', e' = max e ((n : Int) - 1) := ⟨_, rfl⟩
      have HN := Lib.hid (show e' = xdg p xs (j + 1) by
        rw [ee, HE.out, en, ← nl_of HP.out.pos hz.1, nl_same HP.out hz.2.1]; rfl)
      have hw : IntKind.i64.wrap ((n : Int) - 1) = (n : Int) - 1 := IntWalk.i64_in _ ⟨by omega, by omega⟩
      clear q0 hz en eu
      by_cases hc1 : e < (n : Int) - 1
      · have hn3 : e' = (n : Int) - 1 := by omega
        rw [hn3] at HN
        clear hn3 ee
        go_wp2
        all_goals go_roundw
        all_goals first | (case rel => exact ⟨j + 1, _, by omega, by go_num, rfl, HN, BT⟩) | (case measure => simp [intOf] <;> omega) | skip
      · have hn3 : e' = e := by omega
        rw [hn3] at HN
        clear hn3 ee
        go_wp2
        all_goals go_roundw
        all_goals first | (case rel => exact ⟨j + 1, _, by omega, by go_num, rfl, HN, BT⟩) | (case measure => simp [intOf] <;> omega) | skip
    · obtain rfl : j = r * r := by omega
      replace mA := mA.next BT
      replace mB := mB.next BT
      replace KA := KA.next BT
      replace KB := KB.next BT
      replace KF := KF.next BT
      replace KS := KS.next BT
      replace mM := mM.next BT
      replace KM := KM.next BT
      replace mT := mT.next BT
      replace KT := KT.next BT
      replace mX := mX.next BT
      replace B0 := B0.trans (BT.mono B0.size)
      have HDG := Lib.hid (show e = xdg p xs xs.length by rw [HXA.out]; exact HE.out)
      clear BT HE hj hjn
      go_upto_region 21 with (fail)
      clear c2
      have bd := Drawn.below (w' := wr.drew) ⟨1, rfl⟩ wr.heap.size
      replace mA := mA.next bd
      replace mB := mB.next bd
      replace KA := KA.next bd
      replace KB := KB.next bd
      replace KF := KF.next bd
      replace KS := KS.next bd
      replace mM := mM.next bd
      replace KM := KM.next bd
      replace mT := mT.next bd
      replace KT := KT.next bd
      replace mX := mX.next bd
      replace KX := KX.next bd
      replace B0 := B0.trans (bd.mono B0.size)
      clear bd
      refine startL (S := (fun w' => Below (wr.drew).heap.size (wr.drew) w')) (by kernel_rfl) (Below.refl _ _) (fun hHeld => ?_)
      refine takeL 0 (v := ?_) rfl (by kernel_rfl) (by kernel_rfl) (by kernel_rfl) (fun _ _ _ h => h) ⟨by rfl, ?_⟩ (by assumption) ?_
      rotate_left
      · intro w hS; go_simp <;> with_reducible rfl
      simp only [Act.put, List.setIfInBounds_toArray, List.set_cons_zero, List.set_cons_succ]
      refine takeL 1 (v := ?_) rfl (by kernel_rfl) (by kernel_rfl) (by kernel_rfl) (fun _ _ _ h => h) ⟨by rfl, ?_⟩ (by assumption) ?_
      rotate_left
      · intro w hS; go_simp <;> with_reducible rfl
      simp only [Act.put, List.setIfInBounds_toArray, List.set_cons_zero, List.set_cons_succ]
      refine takeL 2 (v := ?_) rfl (by kernel_rfl) (by kernel_rfl) (by kernel_rfl) (fun _ _ _ h => h) ⟨by rfl, ?_⟩ (by assumption) ?_
      rotate_left
      · intro w hS; go_simp <;> with_reducible rfl
      simp only [Act.put, List.setIfInBounds_toArray, List.set_cons_zero, List.set_cons_succ]
      refine skipL 3 rfl (by kernel_rfl) (by kernel_rfl) (by kernel_rfl) (fun _ _ _ h => h) (by rfl) (by assumption) ?_
      simp only [Act.put, List.setIfInBounds_toArray, List.set_cons_zero, List.set_cons_succ]
      refine skipL 4 rfl (by kernel_rfl) (by kernel_rfl) (by kernel_rfl) (fun _ _ _ h => h) (by rfl) (by assumption) ?_
      simp only [Act.put, List.setIfInBounds_toArray, List.set_cons_zero, List.set_cons_succ]
      refine skipL 5 rfl (by kernel_rfl) (by kernel_rfl) (by kernel_rfl) (fun _ _ _ h => h) (by rfl) (by assumption) ?_
      simp only [Act.put, List.setIfInBounds_toArray, List.set_cons_zero, List.set_cons_succ]
      refine skipL 6 rfl (by kernel_rfl) (by kernel_rfl) (by kernel_rfl) (fun _ _ _ h => h) (by rfl) (by assumption) ?_
      simp only [Act.put, List.setIfInBounds_toArray, List.set_cons_zero, List.set_cons_succ]
      refine skipL 7 rfl (by kernel_rfl) (by kernel_rfl) (by kernel_rfl) (fun _ _ _ h => h) (by rfl) (by assumption) ?_
      simp only [Act.put, List.setIfInBounds_toArray, List.set_cons_zero, List.set_cons_succ]
      refine skipL 8 rfl (by kernel_rfl) (by kernel_rfl) (by kernel_rfl) (fun _ _ _ h => h) (by rfl) (by assumption) ?_
      simp only [Act.put, List.setIfInBounds_toArray, List.set_cons_zero, List.set_cons_succ]
      refine skipL 9 rfl (by kernel_rfl) (by kernel_rfl) (by kernel_rfl) (fun _ _ _ h => h) (by rfl) (by assumption) ?_
      simp only [Act.put, List.setIfInBounds_toArray, List.set_cons_zero, List.set_cons_succ]
      refine takeL 10 (v := ?_) rfl (by kernel_rfl) (by kernel_rfl) (by kernel_rfl) (fun _ _ _ h => h) ⟨by rfl, ?_⟩ (by assumption) ?_
      rotate_left
      · intro w hS; go_simp <;> with_reducible rfl
      simp only [Act.put, List.setIfInBounds_toArray, List.set_cons_zero, List.set_cons_succ]
      refine takeL 11 (v := ?_) rfl (by kernel_rfl) (by kernel_rfl) (by kernel_rfl) (fun _ _ _ h => h) ⟨by rfl, ?_⟩ (by assumption) ?_
      rotate_left
      · intro w hS; go_simp <;> with_reducible rfl
      simp only [Act.put, List.setIfInBounds_toArray, List.set_cons_zero, List.set_cons_succ]
      refine takeL 12 (v := ?_) rfl (by kernel_rfl) (by kernel_rfl) (by kernel_rfl) (fun _ _ _ h => h) ⟨by rfl, ?_⟩ (by assumption) ?_
      rotate_left
      · intro w hS; go_simp <;> with_reducible rfl
      simp only [Act.put, List.setIfInBounds_toArray, List.set_cons_zero, List.set_cons_succ]
      refine takeL 13 (v := ?_) rfl (by kernel_rfl) (by kernel_rfl) (by kernel_rfl) (fun _ _ _ h => h) ⟨by rfl, ?_⟩ (by assumption) ?_
      rotate_left
      · intro w hS; go_simp <;> with_reducible rfl
      simp only [Act.put, List.setIfInBounds_toArray, List.set_cons_zero, List.set_cons_succ]
      refine takeL 14 (v := ?_) rfl (by kernel_rfl) (by kernel_rfl) (by kernel_rfl) (fun _ _ _ h => h) ⟨by rfl, ?_⟩ (by assumption) ?_
      rotate_left
      · intro w hS; go_simp <;> with_reducible rfl
      simp only [Act.put, List.setIfInBounds_toArray, List.set_cons_zero, List.set_cons_succ]
      refine takeL 15 (v := ?_) rfl (by kernel_rfl) (by kernel_rfl) (by kernel_rfl) (fun _ _ _ h => h) ⟨by rfl, ?_⟩ (by assumption) ?_
      rotate_left
      · intro w hS; have fa := KA.at hS; have f1 := fa 0; have f2 := fa 1; have f3 := fa 2; clear fa; have fb := KB.at hS; have f4 := fb 0; have f5 := fb 1; have f6 := fb 2; clear fb; have fd := KF.at hS; have f10 := fd 0; clear fd; have fe := KM.at hS; have f11 := fe 0; have f12 := fe 1; have f13 := fe 2; clear fe; go_simp <;> with_reducible rfl
      simp only [Act.put, List.setIfInBounds_toArray, List.set_cons_zero, List.set_cons_succ]
      refine takeL 16 (v := ?_) rfl (by kernel_rfl) (by kernel_rfl) (by kernel_rfl) (fun _ _ _ h => h) ⟨by rfl, ?_⟩ (by assumption) ?_
      rotate_left
      · intro w hS; have fa := KA.at hS; have f1 := fa 0; have f2 := fa 1; have f3 := fa 2; clear fa; have fb := KB.at hS; have f4 := fb 0; have f5 := fb 1; have f6 := fb 2; clear fb; have fd := KF.at hS; have f10 := fd 0; clear fd; have fe := KM.at hS; have f11 := fe 0; have f12 := fe 1; have f13 := fe 2; clear fe; go_simp <;> with_reducible rfl
      simp only [Act.put, List.setIfInBounds_toArray, List.set_cons_zero, List.set_cons_succ]
      refine takeL 17 (v := ?_) rfl (by kernel_rfl) (by kernel_rfl) (by kernel_rfl) (fun _ _ _ h => h) ⟨by rfl, ?_⟩ (by assumption) ?_
      rotate_left
      · intro w hS; have fa := KA.at hS; have f1 := fa 0; have f2 := fa 1; have f3 := fa 2; clear fa; have fb := KB.at hS; have f4 := fb 0; have f5 := fb 1; have f6 := fb 2; clear fb; have fd := KF.at hS; have f10 := fd 0; clear fd; have fe := KM.at hS; have f11 := fe 0; have f12 := fe 1; have f13 := fe 2; clear fe; go_simp <;> with_reducible rfl
      simp only [Act.put, List.setIfInBounds_toArray, List.set_cons_zero, List.set_cons_succ]
      refine takeL 18 (v := ?_) rfl (by kernel_rfl) (by kernel_rfl) (by kernel_rfl) (fun _ _ _ h => h) ⟨by rfl, ?_⟩ (by assumption) ?_
      rotate_left
      · intro w hS; go_simp <;> with_reducible rfl
      simp only [Act.put, List.setIfInBounds_toArray, List.set_cons_zero, List.set_cons_succ]
      refine takeL 20 (v := ?_) rfl (by kernel_rfl) (by kernel_rfl) (by kernel_rfl) (fun _ _ _ h => h) ⟨by rfl, ?_⟩ (by assumption) ?_
      rotate_left
      · intro w hS; go_simp <;> with_reducible rfl
      simp only [Act.put, List.setIfInBounds_toArray, List.set_cons_zero, List.set_cons_succ]
      refine oneL 19 rfl (by kernel_rfl) (by rfl) (fun K hK => ?_)
      go_simp
      go_at_call 51
      (with_reducible refine (rf23_Mul p 8 4 _ _ r r c xs ys _ HP.out (mA.next hHeld) (mB.next hHeld) (by omega) (by omega) (by omega) HXA.out HXM.out (by omega) (by omega) HLA.out HLB.out (dotT p xs ys r c) (fun i k _ hk => dotT_at hk)).mono ?_); rintro e6 y6 ⟨aW, kW, uW, rfl, oW, c6⟩; obtain ⟨zsW, zlW, nsW, hzW⟩ := oW.ns HP.out; have mW : Xm y6 (.agg #[.int .i64 r, .int .i64 c, .slice aW (r * c) kW]) r c zsW := ⟨_, rfl, nsW⟩; have ZLW := Lib.hid zlW; have ZW := Lib.hid hzW; clear nsW oW zlW hzW
      refine hK.out _ _ (hHeld.trans (c6.mono hHeld.size)) (fun hHeld => ?_)
      clear hK K
      try simp only [Act.put, List.setIfInBounds_toArray, List.set_cons_zero, List.set_cons_succ]
      refine oneL 21 rfl (by kernel_rfl) (by rfl) (fun K hK => ?_)
      go_simp
      go_at_call 46
      (with_reducible refine (rf23_Is _ _ r c p zsM zsW _ HP.out (mM.next hHeld) mW (Fd.of (by omega) (by omega) ZLM.out) (by rw [ZLW.out, ZLM.out]) (by rw [ZLM.out]; omega) (fun j hj => by have := ZM.out j (by rw [ZLM.out] at hj; exact hj); exact ⟨this.1, by omega⟩) (fun j hj => by have := ZW.out j (by rw [ZLM.out] at hj; exact hj); omega) (fun j hj => by rw [ZLM.out] at hj; exact nl_same HP.out (by rw [(ZM.out j hj).2.1, (ZW.out j hj).2.1]))).mono ?_); rintro e7 y7 ⟨rfl, c7⟩
      refine hK.out _ _ (hHeld.trans (c7.mono hHeld.size)) (fun hHeld => ?_)
      clear hK K
      try simp only [Act.put, List.setIfInBounds_toArray, List.set_cons_zero, List.set_cons_succ]
      refine takeL 22 (v := ?_) rfl (by kernel_rfl) (by kernel_rfl) (by kernel_rfl) (fun _ _ _ h => h) ⟨by rfl, ?_⟩ (by assumption) ?_
      rotate_left
      · intro w hS; go_simp <;> with_reducible rfl
      simp only [Act.put, List.setIfInBounds_toArray, List.set_cons_zero, List.set_cons_succ]
      refine takeL 23 (v := ?_) rfl (by kernel_rfl) (by kernel_rfl) (by kernel_rfl) (fun _ _ _ h => h) ⟨by rfl, ?_⟩ (by assumption) ?_
      rotate_left
      · intro w hS; go_simp <;> with_reducible rfl
      simp only [Act.put, List.setIfInBounds_toArray, List.set_cons_zero, List.set_cons_succ]
      refine takeL 24 (v := ?_) rfl (by kernel_rfl) (by kernel_rfl) (by kernel_rfl) (fun _ _ _ h => h) ⟨by rfl, ?_⟩ (by assumption) ?_
      rotate_left
      · intro w hS; go_simp <;> with_reducible rfl
      simp only [Act.put, List.setIfInBounds_toArray, List.set_cons_zero, List.set_cons_succ]
      refine takeL 25 (v := ?_) rfl (by kernel_rfl) (by kernel_rfl) (by kernel_rfl) (fun _ _ _ h => h) ⟨by rfl, ?_⟩ (by assumption) ?_
      rotate_left
      · intro w hS; have fa := KA.at hS; have f1 := fa 0; have f2 := fa 1; have f3 := fa 2; clear fa; have fb := KB.at hS; have f4 := fb 0; have f5 := fb 1; have f6 := fb 2; clear fb; have fd := KF.at hS; have f10 := fd 0; clear fd; have fe := KM.at hS; have f11 := fe 0; have f12 := fe 1; have f13 := fe 2; clear fe; go_simp <;> with_reducible rfl
      simp only [Act.put, List.setIfInBounds_toArray, List.set_cons_zero, List.set_cons_succ]
      refine takeL 26 (v := ?_) rfl (by kernel_rfl) (by kernel_rfl) (by kernel_rfl) (fun _ _ _ h => h) ⟨by rfl, ?_⟩ (by assumption) ?_
      rotate_left
      · intro w hS; have fa := KA.at hS; have f1 := fa 0; have f2 := fa 1; have f3 := fa 2; clear fa; have fb := KB.at hS; have f4 := fb 0; have f5 := fb 1; have f6 := fb 2; clear fb; have fd := KF.at hS; have f10 := fd 0; clear fd; have fe := KM.at hS; have f11 := fe 0; have f12 := fe 1; have f13 := fe 2; clear fe; go_simp <;> with_reducible rfl
      simp only [Act.put, List.setIfInBounds_toArray, List.set_cons_zero, List.set_cons_succ]
      refine takeL 28 (v := ?_) rfl (by kernel_rfl) (by kernel_rfl) (by kernel_rfl) (fun _ _ _ h => h) ⟨by rfl, ?_⟩ (by assumption) ?_
      rotate_left
      · intro w hS; go_simp <;> with_reducible rfl
      simp only [Act.put, List.setIfInBounds_toArray, List.set_cons_zero, List.set_cons_succ]
      refine oneL 27 rfl (by kernel_rfl) (by rfl) (fun K hK => ?_)
      go_simp
      go_at_call 45
      (with_reducible refine (xm_Degree p _ r r xs _ HP.out (mA.next hHeld) HFdA.out ELA.out (by omega) e HDG.out).mono ?_); rintro e9 y9 ⟨rfl, c9⟩
      refine hK.out _ _ (hHeld.trans (c9.mono hHeld.size)) (fun hHeld => ?_)
      clear hK K
      try simp only [Act.put, List.setIfInBounds_toArray, List.set_cons_zero, List.set_cons_succ]
      refine takeL 29 (v := ?_) rfl (by kernel_rfl) (by kernel_rfl) (by kernel_rfl) (fun _ _ _ h => h) ⟨by rfl, ?_⟩ (by assumption) ?_
      rotate_left
      · intro w hS; go_simp <;> with_reducible rfl
      simp only [Act.put, List.setIfInBounds_toArray, List.set_cons_zero, List.set_cons_succ]
      refine takeL 30 (v := ?_) rfl (by kernel_rfl) (by kernel_rfl) (by kernel_rfl) (fun _ _ _ h => h) ⟨by rfl, ?_⟩ (by assumption) ?_
      rotate_left
      · intro w hS; go_simp <;> with_reducible rfl
      simp only [Act.put, List.setIfInBounds_toArray, List.set_cons_zero, List.set_cons_succ]
      refine takeL 31 (v := ?_) rfl (by kernel_rfl) (by kernel_rfl) (by kernel_rfl) (fun _ _ _ h => h) ⟨by rfl, ?_⟩ (by assumption) ?_
      rotate_left
      · intro w hS; go_simp <;> with_reducible rfl
      simp only [Act.put, List.setIfInBounds_toArray, List.set_cons_zero, List.set_cons_succ]
      refine doneL (by kernel_rfl) ?_ _
      replace B0 := B0.trans (hHeld.mono B0.size)
      clear hHeld mW
      clear mA mB KA KB KF KS mM KM mT KT mX KX
      go_wp2
      go_ret
      exact ⟨rfl, B0⟩

set_option maxRecDepth 20000 in
set_option maxHeartbeats 8000000 in
theorem gFF1 (x0 : Nat) (r m k c : Nat) (v : Value) (xs : List (List Nat)) (u : Value) (ys : List (List Nat)) (w : World) (mA : Xm w v r m xs) (mB : Xm w u k c ys) (hfA : Fwx 3 4 r m xs) (hfB : Fwx 3 4 k c ys) (hr : r ≤ 3) (hc : m ≤ 3) (hxA : xs.length = r * m) (hxB : ys.length = k * c) (hk : k ≤ 3) (hc2 : c ≤ 3) (hne : r ≠ k) (hnf : m ≠ k) :
    Calls Try.prog 7 #[.int .u8 x0, v, u] w (LawOk w) := by
  obtain ⟨p, ep⟩ : ∃ p, p = Ps (x0 % 12) := ⟨_, rfl⟩
  have hp : FP p := by rw [ep]; exact Ps_FP (by omega)
  have ht : Trial p := by rw [ep]; exact Ps_trial (by omega)
  have cOf : ∀ w : World, Calls Try.prog 17 #[.int .u8 x0] w fun e w' => e = .returned (.agg #[.int .u64 (p : Nat)]) ∧ Below w.heap.size w w' := fun w => by rw [ep]; exact law9_Of x0 w
  have cP : ∀ w : World, Calls Try.prog 18 #[.int .u8 x0] w fun e w' => e = .returned (.int .u64 (p : Nat)) ∧ w = w' := fun w => by rw [ep]; exact ref8_P x0 w
  have hp2 := hp.1
  have hp3 := hp.2
  have HP := Lib.hid hp; have HT := Lib.hid ht; have COF := Lib.hid cOf; have CP := Lib.hid cP
  clear hp ht cOf cP ep
  obtain ⟨aA, cA, rfl⟩ := mA.agg
  obtain ⟨aB, cB, rfl⟩ := mB.agg
  obtain ⟨wb, ew, KA, KB, B0, hsz⟩ := boxes2 w 24 24 [.int .i64 r, .int .i64 m, .slice aA xs.length cA] [.int .i64 k, .int .i64 c, .slice aB ys.length cB]
  clear hsz
  replace mA := mA.next B0
  replace mB := mB.next B0
  have hlA : ∀ j, j < xs.length → (xs.getD j []).length ≤ 4 := fun j hj => by have := hfA.2.2.2 j hj; omega
  have hlB : ∀ j, j < ys.length → (ys.getD j []).length ≤ 4 := fun j hj => by have := hfB.2.2.2 j hj; omega
  have hrc : r * m ≤ 3 * 3 := Nat.mul_le_mul hr hc
  have hcr : m * r ≤ 3 * 3 := Nat.mul_le_mul hc hr
  have hxl : xs.length ≤ 9 := by omega
  have hyl : ys.length ≤ 100 := hfB.2.2.1
  have HF := Lib.hid hfA; have HG := Lib.hid hfB
  have HLA := Lib.hid hlA; have HLB := Lib.hid hlB; have HXA := Lib.hid hxA
  have HFdA := Lib.hid (Fd.of (show r ≤ 64 by omega) (show m ≤ 64 by omega) hxA)
  have DLA := Lib.hid (show ∀ j, j < r * m → (xs.getD j []).length ≤ 4 from fun j hj => hlA j (by omega))
  have ELA := Lib.hid (show ∀ j, j < xs.length → (xs.getD j []).length ≤ 1000000 from fun j hj => by have := hlA j hj; omega)
  have ELB := Lib.hid (show ∀ j, j < ys.length → (ys.getD j []).length ≤ 1000000 from fun j hj => by have := hlB j hj; omega)
  clear hlA hlB hxA hfA hfB
  have HXB := Lib.hid hxB
  have HFdB := Lib.hid (Fd.of (show k ≤ 64 by omega) (show c ≤ 64 by omega) hxB)
  have NAL := Lib.hid (show ¬ Al r m k c xs.length ys.length from fun h => hne (by have := h.2.2.1; omega))
  have NMA := Lib.hid (show ¬ (Fd r m xs.length ∧ Fd k c ys.length ∧ (m : Int) = k) from fun h => hnf (by have := h.2.2; omega))
  have e1 : ((r : Int) == (k : Int)) = false := by simp; omega
  have e3 : ((m : Int) == (k : Int)) = false := by simp; omega
  clear hxB hne hnf
  go_enter Try.func7, Try.ntmps7
  go_upto_region 1 with (fail)
  rw [← ew]
  clear ew
  go_wp2_with fail
  refine (law23_awake _).mono ?_; rintro e w1 ⟨rfl, b1⟩
  replace mA := mA.next b1
  replace mB := mB.next b1
  replace KA := KA.next b1
  replace KB := KB.next b1
  replace B0 := B0.trans (b1.mono B0.size)
  clear b1
  have qKA0 := KA.cell 0
  have qKA1 := KA.cell 1
  have qKA2 := KA.cell 2
  go_wp2_with fail
  refine (rf23_Few _ r m 3 4 xs _ mA true ⟨fun _ => HF.out, fun _ => rfl⟩).mono ?_; rintro e w2 ⟨rfl, b2⟩
  clear qKA0 qKA1 qKA2
  replace mA := mA.next b2
  replace mB := mB.next b2
  replace KA := KA.next b2
  replace KB := KB.next b2
  replace B0 := B0.trans (b2.mono B0.size)
  clear b2
  have qKB0 := KB.cell 0
  have qKB1 := KB.cell 1
  have qKB2 := KB.cell 2
  go_wp2_with fail
  refine (rf23_Few _ k c 3 4 ys _ mB true ⟨fun _ => HG.out, fun _ => rfl⟩).mono ?_; rintro e w3 ⟨rfl, b3⟩
  clear qKB0 qKB1 qKB2
  replace mA := mA.next b3
  replace mB := mB.next b3
  replace KA := KA.next b3
  replace KB := KB.next b3
  replace B0 := B0.trans (b3.mono B0.size)
  clear b3
  go_wp2_with fail
  refine (COF.out _).mono ?_; rintro e w4 ⟨rfl, b4⟩
  replace mA := mA.next b4
  replace mB := mB.next b4
  replace KA := KA.next b4
  replace KB := KB.next b4
  replace B0 := B0.trans (b4.mono B0.size)
  clear b4
  go_wp2_with fail
  refine (CP.out _).mono ?_; rintro e wx ⟨rfl, rfl⟩
  obtain ⟨w5, e5, KF, b5, hs5⟩ := boxes1 w4 29 [.int .u64 p]
  clear hs5
  replace mA := mA.next b5
  replace mB := mB.next b5
  replace KA := KA.next b5
  replace KB := KB.next b5
  replace B0 := B0.trans (b5.mono B0.size)
  clear b5
  go_upto_region 4 with (fail)
  rw [← e5]
  clear e5
  have qKF0 := KF.cell 0
  have qKA0 := KA.cell 0
  have qKA1 := KA.cell 1
  have qKA2 := KA.cell 2
  have qKB0 := KB.cell 0
  have qKB1 := KB.cell 1
  have qKB2 := KB.cell 2
  go_wp2_with fail
  refine (xm_Add_bad p _ _ r m k c xs ys _ mA mB NAL.out).mono ?_; rintro e w6 ⟨rfl, b6⟩
  clear qKF0 qKA0 qKA1 qKA2 qKB0 qKB1 qKB2
  replace mA := mA.next b6
  replace mB := mB.next b6
  replace KA := KA.next b6
  replace KB := KB.next b6
  replace KF := KF.next b6
  replace B0 := B0.trans (b6.mono B0.size)
  clear b6
  obtain ⟨w7, e7, KS, b7, hs7⟩ := boxes1 w6 24 [.int .i64 0, .int .i64 0, .slice none 0 0]
  clear hs7
  replace mA := mA.next b7
  replace mB := mB.next b7
  replace KA := KA.next b7
  replace KB := KB.next b7
  replace KF := KF.next b7
  replace B0 := B0.trans (b7.mono B0.size)
  clear b7
  go_upto_region 5 with (fail)
  rw [← e7]
  clear e7
  have qKF0 := KF.cell 0
  have qKA0 := KA.cell 0
  have qKA1 := KA.cell 1
  have qKA2 := KA.cell 2
  have qKB0 := KB.cell 0
  have qKB1 := KB.cell 1
  have qKB2 := KB.cell 2
  go_wp2_with fail
  refine (xm_Mul_bad p _ _ r m k c xs ys _ mA mB NMA.out).mono ?_; rintro e w8 ⟨rfl, b8⟩
  clear qKF0 qKA0 qKA1 qKA2 qKB0 qKB1 qKB2
  replace mA := mA.next b8
  replace mB := mB.next b8
  replace KA := KA.next b8
  replace KB := KB.next b8
  replace KF := KF.next b8
  replace KS := KS.next b8
  replace B0 := B0.trans (b8.mono B0.size)
  clear b8
  obtain ⟨w9, e9, KM, b9, hs9⟩ := boxes1 w8 24 [.int .i64 0, .int .i64 0, .slice none 0 0]
  clear hs9
  replace mA := mA.next b9
  replace mB := mB.next b9
  replace KA := KA.next b9
  replace KB := KB.next b9
  replace KF := KF.next b9
  replace KS := KS.next b9
  replace B0 := B0.trans (b9.mono B0.size)
  clear b9
  go_upto_region 6 with (fail)
  rw [← e9]
  clear e9
  have qKF0 := KF.cell 0
  have qKA0 := KA.cell 0
  have qKA1 := KA.cell 1
  have qKA2 := KA.cell 2
  go_wp2_with fail
  refine (xm_Transpose p 4 _ r m xs _ HP.out mA (by omega) (by omega) HXA.out (by omega) DLA.out (fun j => pl p (xs.getD (tix r m j) [])) (fun i k _ hk => by rw [tix_at hk])).mono ?_; rintro e w10 ⟨a10, k10, us10, rfl, o10, b10⟩
  clear qKF0 qKA0 qKA1 qKA2
  replace mA := mA.next b10
  replace mB := mB.next b10
  replace KA := KA.next b10
  replace KB := KB.next b10
  replace KF := KF.next b10
  replace KS := KS.next b10
  replace KM := KM.next b10
  replace B0 := B0.trans (b10.mono B0.size)
  clear b10
  obtain ⟨zsT, zlT, nsT, hzT⟩ := o10.ns HP.out
  have mT : Xm w10 (.agg #[.int .i64 m, .int .i64 r, .slice a10 (m * r) k10]) m r zsT := ⟨_, rfl, nsT⟩
  have ZLT := Lib.hid zlT; have ZT := Lib.hid hzT
  clear zlT nsT hzT o10
  obtain ⟨w11, e11, KT, b11, hs11⟩ := boxes1 w10 24 [.int .i64 m, .int .i64 r, .slice a10 (m * r) k10]
  clear hs11
  replace mA := mA.next b11
  replace mB := mB.next b11
  replace KA := KA.next b11
  replace KB := KB.next b11
  replace KF := KF.next b11
  replace KS := KS.next b11
  replace KM := KM.next b11
  replace mT := mT.next b11
  replace B0 := B0.trans (b11.mono B0.size)
  clear b11
  go_upto_region 7 with (fail)
  rw [← e11]
  clear e11
  have qKF0 := KF.cell 0
  have qKA0 := KA.cell 0
  have qKA1 := KA.cell 1
  have qKA2 := KA.cell 2
  go_wp2_with fail
  refine (xm_Norm p 4 _ r m xs _ HP.out mA (by omega) (by omega) HXA.out (by omega) DLA.out (fun j => pl p (xs.getD j [])) (fun _ _ _ _ => rfl)).mono ?_; rintro e w12 ⟨a12, k12, us12, rfl, o12, b12⟩
  clear qKF0 qKA0 qKA1 qKA2
  replace mA := mA.next b12
  replace mB := mB.next b12
  replace KA := KA.next b12
  replace KB := KB.next b12
  replace KF := KF.next b12
  replace KS := KS.next b12
  replace KM := KM.next b12
  replace mT := mT.next b12
  replace KT := KT.next b12
  replace B0 := B0.trans (b12.mono B0.size)
  clear b12
  obtain ⟨zsX, zlX, nsX, hzX⟩ := o12.ns HP.out
  have mX : Xm w12 (.agg #[.int .i64 r, .int .i64 m, .slice a12 (r * m) k12]) r m zsX := ⟨_, rfl, nsX⟩
  have ZLX := Lib.hid zlX; have ZX := Lib.hid hzX
  clear zlX nsX hzX o12
  obtain ⟨w13, e13, KX, b13, hs13⟩ := boxes1 w12 24 [.int .i64 r, .int .i64 m, .slice a12 (r * m) k12]
  clear hs13
  replace mA := mA.next b13
  replace mB := mB.next b13
  replace KA := KA.next b13
  replace KB := KB.next b13
  replace KF := KF.next b13
  replace KS := KS.next b13
  replace KM := KM.next b13
  replace mT := mT.next b13
  replace KT := KT.next b13
  replace mX := mX.next b13
  replace B0 := B0.trans (b13.mono B0.size)
  clear b13
  go_upto_region 8 with (fail)
  rw [← e13]
  clear e13
  have qKA0 := KA.cell 0
  have qKA1 := KA.cell 1
  have qKA2 := KA.cell 2
  go_wp2_with fail
  refine (rf23_Formed _ r m xs _ mA true (decide_eq_true HFdA.out).symm).mono ?_; rintro e w14 ⟨rfl, b14⟩
  clear qKA0 qKA1 qKA2
  replace mA := mA.next b14
  replace mB := mB.next b14
  replace KA := KA.next b14
  replace KB := KB.next b14
  replace KF := KF.next b14
  replace KS := KS.next b14
  replace KM := KM.next b14
  replace mT := mT.next b14
  replace KT := KT.next b14
  replace mX := mX.next b14
  replace KX := KX.next b14
  replace B0 := B0.trans (b14.mono B0.size)
  clear b14
  go_upto_region 10 with (fail)
  have bd := Drawn.below (w' := w14.drew) ⟨1, rfl⟩ w14.heap.size
  replace mA := mA.next bd
  replace mB := mB.next bd
  replace KA := KA.next bd
  replace KB := KB.next bd
  replace KF := KF.next bd
  replace KS := KS.next bd
  replace KM := KM.next bd
  replace mT := mT.next bd
  replace KT := KT.next bd
  replace mX := mX.next bd
  replace KX := KX.next bd
  replace B0 := B0.trans (bd.mono B0.size)
  clear bd
  have hsT := Lib.hid (show ∀ j, j < zsT.length → Nrm p (zsT.getD j []) ∧ (zsT.getD j []).length ≤ 1000000 from fun j hj => by
    have := ZT.out j (by rw [ZLT.out] at hj; exact hj); exact ⟨this.1, by omega⟩)
  have hsX := Lib.hid (show ∀ j, j < zsX.length → Nrm p (zsX.getD j []) ∧ (zsX.getD j []).length ≤ 1000000 from fun j hj => by
    have := ZX.out j (by rw [ZLX.out] at hj; exact hj); exact ⟨this.1, by omega⟩)
  have heX := Lib.hid (show ∀ j, j < zsX.length → nl p (zsX.getD j []) = nl p (xs.getD j []) from fun j hj => nl_same HP.out (by rw [(ZX.out j (by rw [ZLX.out] at hj; exact hj)).2.1]))
  obtain ⟨qT, eqT⟩ : ∃ qT, qT = (List.range (m * r)).map fun j => xs.getD (tix r m j) [] := ⟨_, rfl⟩
  have lqT := Lib.hid (show qT.length = m * r by rw [eqT]; simp)
  have gqT := Lib.hid (show ∀ j, j < m * r → qT.getD j [] = xs.getD (tix r m j) [] from fun j hj => by rw [eqT]; simp [List.getD, hj])
  have hqT := Lib.hid (show ∀ j, j < zsT.length → (qT.getD j []).length ≤ 1000000 from fun j hj => by
    rw [ZLT.out] at hj
    rw [gqT.out j hj]; have := DLA.out _ (tix_lt hj); omega)
  have heT := Lib.hid (show ∀ j, j < zsT.length → nl p (zsT.getD j []) = nl p (qT.getD j []) from fun j hj => by
    rw [ZLT.out] at hj
    rw [gqT.out j hj]; exact nl_same HP.out (ZT.out j hj).2.1)
  have EQT := Lib.hid eqT; clear eqT
  refine startL (S := (fun w' => Below (w14.drew).heap.size (w14.drew) w')) (by kernel_rfl) (Below.refl _ _) (fun hHeld => ?_)
  refine takeL 0 (v := ?_) rfl (by kernel_rfl) (by kernel_rfl) (by kernel_rfl) (fun _ _ _ h => h) ⟨by rfl, ?_⟩ (by assumption) ?_
  rotate_left
  · intro w hS; go_simp <;> with_reducible rfl
  simp only [Act.put, List.setIfInBounds_toArray, List.set_cons_zero, List.set_cons_succ]
  refine takeL 1 (v := ?_) rfl (by kernel_rfl) (by kernel_rfl) (by kernel_rfl) (fun _ _ _ h => h) ⟨by rfl, ?_⟩ (by assumption) ?_
  rotate_left
  · intro w hS; go_simp <;> with_reducible rfl
  simp only [Act.put, List.setIfInBounds_toArray, List.set_cons_zero, List.set_cons_succ]
  refine takeL 2 (v := ?_) rfl (by kernel_rfl) (by kernel_rfl) (by kernel_rfl) (fun _ _ _ h => h) ⟨by rfl, ?_⟩ (by assumption) ?_
  rotate_left
  · intro w hS; go_simp <;> with_reducible rfl
  simp only [Act.put, List.setIfInBounds_toArray, List.set_cons_zero, List.set_cons_succ]
  refine takeL 3 (v := ?_) rfl (by kernel_rfl) (by kernel_rfl) (by kernel_rfl) (fun _ _ _ h => h) ⟨by rfl, ?_⟩ (by assumption) ?_
  rotate_left
  · intro w hS; go_simp <;> with_reducible rfl
  simp only [Act.put, List.setIfInBounds_toArray, List.set_cons_zero, List.set_cons_succ]
  refine takeL 4 (v := ?_) rfl (by kernel_rfl) (by kernel_rfl) (by kernel_rfl) (fun _ _ _ h => h) ⟨by rfl, ?_⟩ (by assumption) ?_
  rotate_left
  · intro w hS; go_simp <;> with_reducible rfl
  simp only [Act.put, List.setIfInBounds_toArray, List.set_cons_zero, List.set_cons_succ]
  refine takeL 5 (v := ?_) rfl (by kernel_rfl) (by kernel_rfl) (by kernel_rfl) (fun _ _ _ h => h) ⟨by rfl, ?_⟩ (by assumption) ?_
  rotate_left
  · intro w hS; go_simp <;> with_reducible rfl
  simp only [Act.put, List.setIfInBounds_toArray, List.set_cons_zero, List.set_cons_succ]
  refine takeL 6 (v := ?_) rfl (by kernel_rfl) (by kernel_rfl) (by kernel_rfl) (fun _ _ _ h => h) ⟨by rfl, ?_⟩ (by assumption) ?_
  rotate_left
  · intro w hS; go_simp <;> with_reducible rfl
  simp only [Act.put, List.setIfInBounds_toArray, List.set_cons_zero, List.set_cons_succ]
  refine takeL 7 (v := ?_) rfl (by kernel_rfl) (by kernel_rfl) (by kernel_rfl) (fun _ _ _ h => h) ⟨by rfl, ?_⟩ (by assumption) ?_
  rotate_left
  · intro w hS; have fa := KA.at hS; have f1 := fa 0; have f2 := fa 1; have f3 := fa 2; clear fa; have fb := KT.at hS; have f4 := fb 0; have f5 := fb 1; have f6 := fb 2; clear fb; have fc := KX.at hS; have f7 := fc 0; have f8 := fc 1; have f9 := fc 2; clear fc; go_simp <;> with_reducible rfl
  simp only [Act.put, List.setIfInBounds_toArray, List.set_cons_zero, List.set_cons_succ]
  refine takeL 8 (v := ?_) rfl (by kernel_rfl) (by kernel_rfl) (by kernel_rfl) (fun _ _ _ h => h) ⟨by rfl, ?_⟩ (by assumption) ?_
  rotate_left
  · intro w hS; have fa := KA.at hS; have f1 := fa 0; have f2 := fa 1; have f3 := fa 2; clear fa; have fb := KT.at hS; have f4 := fb 0; have f5 := fb 1; have f6 := fb 2; clear fb; have fc := KX.at hS; have f7 := fc 0; have f8 := fc 1; have f9 := fc 2; clear fc; go_simp <;> with_reducible rfl
  simp only [Act.put, List.setIfInBounds_toArray, List.set_cons_zero, List.set_cons_succ]
  refine takeL 10 (v := ?_) rfl (by kernel_rfl) (by kernel_rfl) (by kernel_rfl) (fun _ _ _ h => h) ⟨by rfl, ?_⟩ (by assumption) ?_
  rotate_left
  · intro w hS; go_simp <;> with_reducible rfl
  simp only [Act.put, List.setIfInBounds_toArray, List.set_cons_zero, List.set_cons_succ]
  refine oneL 9 rfl (by kernel_rfl) (by rfl) (fun K hK => ?_)
  go_simp
  go_at_call 47
  (with_reducible refine (rf23_Turned _ r m xs _ (mA.next hHeld) (by omega) (by omega) HXA.out).mono ?_); rintro e y1 ⟨aU, kU, rfl, nU, c1⟩; rw [← EQT.out] at nU; have mU : Xm y1 (.agg #[.int .i64 m, .int .i64 r, .slice aU (m * r) kU]) m r qT := ⟨_, rfl, nU⟩; clear nU
  refine hK.out _ _ (hHeld.trans (c1.mono hHeld.size)) (fun hHeld => ?_)
  clear hK K
  try simp only [Act.put, List.setIfInBounds_toArray, List.set_cons_zero, List.set_cons_succ]
  refine oneL 11 rfl (by kernel_rfl) (by rfl) (fun K hK => ?_)
  go_simp
  go_at_call 46
  (with_reducible refine (rf23_Is _ _ m r p zsT qT _ HP.out (mT.next hHeld) mU (Fd.of (by omega) (by omega) ZLT.out) (by rw [lqT.out, ZLT.out]) (by rw [ZLT.out]; omega) hsT.out hqT.out heT.out).mono ?_); rintro e y2 ⟨rfl, c2⟩
  refine hK.out _ _ (hHeld.trans (c2.mono hHeld.size)) (fun hHeld => ?_)
  clear hK K
  try simp only [Act.put, List.setIfInBounds_toArray, List.set_cons_zero, List.set_cons_succ]
  refine takeL 12 (v := ?_) rfl (by kernel_rfl) (by kernel_rfl) (by kernel_rfl) (fun _ _ _ h => h) ⟨by rfl, ?_⟩ (by assumption) ?_
  rotate_left
  · intro w hS; go_simp <;> with_reducible rfl
  simp only [Act.put, List.setIfInBounds_toArray, List.set_cons_zero, List.set_cons_succ]
  refine takeL 13 (v := ?_) rfl (by kernel_rfl) (by kernel_rfl) (by kernel_rfl) (fun _ _ _ h => h) ⟨by rfl, ?_⟩ (by assumption) ?_
  rotate_left
  · intro w hS; go_simp <;> with_reducible rfl
  simp only [Act.put, List.setIfInBounds_toArray, List.set_cons_zero, List.set_cons_succ]
  refine takeL 14 (v := ?_) rfl (by kernel_rfl) (by kernel_rfl) (by kernel_rfl) (fun _ _ _ h => h) ⟨by rfl, ?_⟩ (by assumption) ?_
  rotate_left
  · intro w hS; go_simp <;> with_reducible rfl
  simp only [Act.put, List.setIfInBounds_toArray, List.set_cons_zero, List.set_cons_succ]
  refine takeL 15 (v := ?_) rfl (by kernel_rfl) (by kernel_rfl) (by kernel_rfl) (fun _ _ _ h => h) ⟨by rfl, ?_⟩ (by assumption) ?_
  rotate_left
  · intro w hS; have fa := KA.at hS; have f1 := fa 0; have f2 := fa 1; have f3 := fa 2; clear fa; have fb := KT.at hS; have f4 := fb 0; have f5 := fb 1; have f6 := fb 2; clear fb; have fc := KX.at hS; have f7 := fc 0; have f8 := fc 1; have f9 := fc 2; clear fc; go_simp <;> with_reducible rfl
  simp only [Act.put, List.setIfInBounds_toArray, List.set_cons_zero, List.set_cons_succ]
  refine takeL 16 (v := ?_) rfl (by kernel_rfl) (by kernel_rfl) (by kernel_rfl) (fun _ _ _ h => h) ⟨by rfl, ?_⟩ (by assumption) ?_
  rotate_left
  · intro w hS; have fa := KA.at hS; have f1 := fa 0; have f2 := fa 1; have f3 := fa 2; clear fa; have fb := KT.at hS; have f4 := fb 0; have f5 := fb 1; have f6 := fb 2; clear fb; have fc := KX.at hS; have f7 := fc 0; have f8 := fc 1; have f9 := fc 2; clear fc; go_simp <;> with_reducible rfl
  simp only [Act.put, List.setIfInBounds_toArray, List.set_cons_zero, List.set_cons_succ]
  refine takeL 17 (v := ?_) rfl (by kernel_rfl) (by kernel_rfl) (by kernel_rfl) (fun _ _ _ h => h) ⟨by rfl, ?_⟩ (by assumption) ?_
  rotate_left
  · intro w hS; go_simp <;> with_reducible rfl
  simp only [Act.put, List.setIfInBounds_toArray, List.set_cons_zero, List.set_cons_succ]
  refine oneL 18 rfl (by kernel_rfl) (by rfl) (fun K hK => ?_)
  go_simp
  go_at_call 46
  (with_reducible refine (rf23_Is _ _ r m p zsX xs _ HP.out (mX.next hHeld) (mA.next hHeld) (Fd.of (by omega) (by omega) ZLX.out) (by rw [HXA.out, ZLX.out]) (by rw [ZLX.out]; omega) hsX.out (by rw [ZLX.out, ← HXA.out]; exact ELA.out) heX.out).mono ?_); rintro e y3 ⟨rfl, c3⟩
  refine hK.out _ _ (hHeld.trans (c3.mono hHeld.size)) (fun hHeld => ?_)
  clear hK K
  try simp only [Act.put, List.setIfInBounds_toArray, List.set_cons_zero, List.set_cons_succ]
  refine takeL 19 (v := ?_) rfl (by kernel_rfl) (by kernel_rfl) (by kernel_rfl) (fun _ _ _ h => h) ⟨by rfl, ?_⟩ (by assumption) ?_
  rotate_left
  · intro w hS; go_simp <;> with_reducible rfl
  simp only [Act.put, List.setIfInBounds_toArray, List.set_cons_zero, List.set_cons_succ]
  refine takeL 20 (v := ?_) rfl (by kernel_rfl) (by kernel_rfl) (by kernel_rfl) (fun _ _ _ h => h) ⟨by rfl, ?_⟩ (by assumption) ?_
  rotate_left
  · intro w hS; go_simp <;> with_reducible rfl
  simp only [Act.put, List.setIfInBounds_toArray, List.set_cons_zero, List.set_cons_succ]
  refine doneL (by kernel_rfl) ?_ _
  replace mA := mA.next hHeld
  replace mB := mB.next hHeld
  replace KA := KA.next hHeld
  replace KB := KB.next hHeld
  replace KF := KF.next hHeld
  replace KS := KS.next hHeld
  replace KM := KM.next hHeld
  replace mT := mT.next hHeld
  replace KT := KT.next hHeld
  replace mX := mX.next hHeld
  replace KX := KX.next hHeld
  replace B0 := B0.trans (hHeld.mono B0.size)
  clear hHeld mU c1 c2 c3 hqT heT lqT gqT EQT heX
  have qKB0 := KB.cell 0
  have qKB1 := KB.cell 1
  have qKB2 := KB.cell 2
  have qKA0 := KA.cell 0
  have qKA1 := KA.cell 1
  go_wp2_with fail
  refine (rf23_Formed _ k c ys _ mB true (decide_eq_true HFdB.out).symm).mono ?_; rintro e w15 ⟨rfl, b15⟩
  clear qKB0 qKB1 qKB2 qKA0 qKA1
  replace mA := mA.next b15
  replace mB := mB.next b15
  replace KA := KA.next b15
  replace KB := KB.next b15
  replace KF := KF.next b15
  replace KS := KS.next b15
  replace KM := KM.next b15
  replace mT := mT.next b15
  replace KT := KT.next b15
  replace mX := mX.next b15
  replace KX := KX.next b15
  replace B0 := B0.trans (b15.mono B0.size)
  clear b15
  have qKB0 := KB.cell 0
  have qKB1 := KB.cell 1
  have qKA0 := KA.cell 0
  have qKA1 := KA.cell 1
  go_upto_region 13 with (fail)
  have qKB2 := KB.cell 2
  go_wp2_with fail
  refine (rf23_Formed _ k c ys _ mB true (decide_eq_true HFdB.out).symm).mono ?_; rintro e w16 ⟨rfl, b16⟩
  clear qKB0 qKB1 qKA0 qKA1 qKB2
  replace mA := mA.next b16
  replace mB := mB.next b16
  replace KA := KA.next b16
  replace KB := KB.next b16
  replace KF := KF.next b16
  replace KS := KS.next b16
  replace KM := KM.next b16
  replace mT := mT.next b16
  replace KT := KT.next b16
  replace mX := mX.next b16
  replace KX := KX.next b16
  replace B0 := B0.trans (b16.mono B0.size)
  clear b16
  have qKB0 := KB.cell 0
  have qKB1 := KB.cell 1
  have qKA0 := KA.cell 0
  have qKA1 := KA.cell 1
  go_upto_region 14 with (fail)
  have qKF0 := KF.cell 0
  have qKA2 := KA.cell 2
  have qKB2 := KB.cell 2
  go_wp2_with fail
  refine (xm_Same_no p _ _ r m k c xs ys _ mA mB NAL.out).mono ?_; rintro e w17 ⟨rfl, b17⟩
  clear qKB0 qKB1 qKA0 qKA1 qKF0 qKA2 qKB2
  replace mA := mA.next b17
  replace mB := mB.next b17
  replace KA := KA.next b17
  replace KB := KB.next b17
  replace KF := KF.next b17
  replace KS := KS.next b17
  replace KM := KM.next b17
  replace mT := mT.next b17
  replace KT := KT.next b17
  replace mX := mX.next b17
  replace KX := KX.next b17
  replace B0 := B0.trans (b17.mono B0.size)
  clear b17
  go_upto_region 17 with (fail)
  have qKX2 := KX.cell 2
  obtain ⟨ao, bo, off, ca, U, eX, -, hao, hat⟩ := mX.open
  simp only [Value.agg.injEq, Array.mk.injEq, List.cons.injEq, true_and, and_true, Value.slice.injEq] at eX
  obtain ⟨rfl, hzl, rfl⟩ := eX
  have HAO := Lib.hid hao; have HAT := Lib.hid hat
  clear hao hat
  have hNX : zsX.length ≤ 9 := by rw [ZLX.out]; omega
  rw [ZLX.out] at HAT HAO hNX hzl
  clear hzl
  obtain ⟨N, eN⟩ : ∃ N, N = r * m := ⟨_, rfl⟩
  clear qKX2
  go_wp2
  go_loopw [20, 19] (fun jv dv wr => ∃ (j : Nat) (e : Int), j ≤ r * m ∧ jv = .int .i64 j ∧ dv = .int .i64 e ∧ Hid (e = xdg p xs j) ∧ Below w17.heap.size w17 wr) (fun jv _ _ => r * m - (intOf jv).toNat)
  case atStart => exact ⟨0, -1, by omega, rfl, rfl, Lib.hid rfl, Below.refl _ _⟩
  case round =>
    obtain ⟨j, e, hj, rfl, rfl, HE, BT⟩ := hrel
    replace KX := KX.next BT
    have c2 := KX.cell 2
    by_cases hjn : j < r * m
    · obtain ⟨rfl, hbl⟩ := HAO.out (by omega)
      obtain ⟨q0, s0, -⟩ := HAT.out j hjn
      obtain ⟨n, en⟩ : ∃ n : Nat, n = (zsX.getD j []).length := ⟨_, rfl⟩
      obtain ⟨ua, -, -, uc, eu, -, -⟩ := s0
      rw [eu, ← en] at q0
      have q1 := (BT.cell (p := ⟨bo, off + j, none⟩) hbl).trans q0
      have hz := ZX.out j hjn
      have hn4 : n ≤ 4 := by omega
      obtain ⟨e', ee⟩ : ∃ e', e' = max e ((n : Int) - 1) := ⟨_, rfl⟩
      have HN := Lib.hid (show e' = xdg p xs (j + 1) by
        rw [ee, HE.out, en, ← nl_of HP.out.pos hz.1, nl_same HP.out hz.2.1]; rfl)
      have hw : IntKind.i64.wrap ((n : Int) - 1) = (n : Int) - 1 := IntWalk.i64_in _ ⟨by omega, by omega⟩
      clear q0 hz en eu
      by_cases hc1 : e < (n : Int) - 1
      · have hn3 : e' = (n : Int) - 1 := by omega
        rw [hn3] at HN
        clear hn3 ee
        go_wp2
        all_goals go_roundw
        all_goals first | (case rel => exact ⟨j + 1, _, by omega, by go_num, rfl, HN, BT⟩) | (case measure => simp [intOf] <;> omega) | skip
      · have hn3 : e' = e := by omega
        rw [hn3] at HN
        clear hn3 ee
        go_wp2
        all_goals go_roundw
        all_goals first | (case rel => exact ⟨j + 1, _, by omega, by go_num, rfl, HN, BT⟩) | (case measure => simp [intOf] <;> omega) | skip
    · obtain rfl : j = r * m := by omega
      replace mA := mA.next BT
      replace mB := mB.next BT
      replace KA := KA.next BT
      replace KB := KB.next BT
      replace KF := KF.next BT
      replace KS := KS.next BT
      replace KM := KM.next BT
      replace mT := mT.next BT
      replace KT := KT.next BT
      replace mX := mX.next BT
      replace B0 := B0.trans (BT.mono B0.size)
      have HDG := Lib.hid (show e = xdg p xs xs.length by rw [HXA.out]; exact HE.out)
      clear BT HE hj hjn
      go_upto_region 21 with (fail)
      clear c2
      have bd := Drawn.below (w' := wr.drew) ⟨1, rfl⟩ wr.heap.size
      replace mA := mA.next bd
      replace mB := mB.next bd
      replace KA := KA.next bd
      replace KB := KB.next bd
      replace KF := KF.next bd
      replace KS := KS.next bd
      replace KM := KM.next bd
      replace mT := mT.next bd
      replace KT := KT.next bd
      replace mX := mX.next bd
      replace KX := KX.next bd
      replace B0 := B0.trans (bd.mono B0.size)
      clear bd
      refine startL (S := (fun w' => Below (wr.drew).heap.size (wr.drew) w')) (by kernel_rfl) (Below.refl _ _) (fun hHeld => ?_)
      refine takeL 0 (v := ?_) rfl (by kernel_rfl) (by kernel_rfl) (by kernel_rfl) (fun _ _ _ h => h) ⟨by rfl, ?_⟩ (by assumption) ?_
      rotate_left
      · intro w hS; go_simp <;> with_reducible rfl
      simp only [Act.put, List.setIfInBounds_toArray, List.set_cons_zero, List.set_cons_succ]
      refine takeL 1 (v := ?_) rfl (by kernel_rfl) (by kernel_rfl) (by kernel_rfl) (fun _ _ _ h => h) ⟨by rfl, ?_⟩ (by assumption) ?_
      rotate_left
      · intro w hS; go_simp <;> with_reducible rfl
      simp only [Act.put, List.setIfInBounds_toArray, List.set_cons_zero, List.set_cons_succ]
      refine takeL 2 (v := ?_) rfl (by kernel_rfl) (by kernel_rfl) (by kernel_rfl) (fun _ _ _ h => h) ⟨by rfl, ?_⟩ (by assumption) ?_
      rotate_left
      · intro w hS; go_simp <;> with_reducible rfl
      simp only [Act.put, List.setIfInBounds_toArray, List.set_cons_zero, List.set_cons_succ]
      refine skipL 3 rfl (by kernel_rfl) (by kernel_rfl) (by kernel_rfl) (fun _ _ _ h => h) (by rfl) (by assumption) ?_
      simp only [Act.put, List.setIfInBounds_toArray, List.set_cons_zero, List.set_cons_succ]
      refine skipL 4 rfl (by kernel_rfl) (by kernel_rfl) (by kernel_rfl) (fun _ _ _ h => h) (by rfl) (by assumption) ?_
      simp only [Act.put, List.setIfInBounds_toArray, List.set_cons_zero, List.set_cons_succ]
      refine skipL 5 rfl (by kernel_rfl) (by kernel_rfl) (by kernel_rfl) (fun _ _ _ h => h) (by rfl) (by assumption) ?_
      simp only [Act.put, List.setIfInBounds_toArray, List.set_cons_zero, List.set_cons_succ]
      refine skipL 6 rfl (by kernel_rfl) (by kernel_rfl) (by kernel_rfl) (fun _ _ _ h => h) (by rfl) (by assumption) ?_
      simp only [Act.put, List.setIfInBounds_toArray, List.set_cons_zero, List.set_cons_succ]
      refine skipL 7 rfl (by kernel_rfl) (by kernel_rfl) (by kernel_rfl) (fun _ _ _ h => h) (by rfl) (by assumption) ?_
      simp only [Act.put, List.setIfInBounds_toArray, List.set_cons_zero, List.set_cons_succ]
      refine skipL 8 rfl (by kernel_rfl) (by kernel_rfl) (by kernel_rfl) (fun _ _ _ h => h) (by rfl) (by assumption) ?_
      simp only [Act.put, List.setIfInBounds_toArray, List.set_cons_zero, List.set_cons_succ]
      refine skipL 9 rfl (by kernel_rfl) (by kernel_rfl) (by kernel_rfl) (fun _ _ _ h => h) (by rfl) (by assumption) ?_
      simp only [Act.put, List.setIfInBounds_toArray, List.set_cons_zero, List.set_cons_succ]
      refine takeL 10 (v := ?_) rfl (by kernel_rfl) (by kernel_rfl) (by kernel_rfl) (fun _ _ _ h => h) ⟨by rfl, ?_⟩ (by assumption) ?_
      rotate_left
      · intro w hS; go_simp <;> with_reducible rfl
      simp only [Act.put, List.setIfInBounds_toArray, List.set_cons_zero, List.set_cons_succ]
      refine takeL 11 (v := ?_) rfl (by kernel_rfl) (by kernel_rfl) (by kernel_rfl) (fun _ _ _ h => h) ⟨by rfl, ?_⟩ (by assumption) ?_
      rotate_left
      · intro w hS; go_simp <;> with_reducible rfl
      simp only [Act.put, List.setIfInBounds_toArray, List.set_cons_zero, List.set_cons_succ]
      refine takeL 12 (v := ?_) rfl (by kernel_rfl) (by kernel_rfl) (by kernel_rfl) (fun _ _ _ h => h) ⟨by rfl, ?_⟩ (by assumption) ?_
      rotate_left
      · intro w hS; go_simp <;> with_reducible rfl
      simp only [Act.put, List.setIfInBounds_toArray, List.set_cons_zero, List.set_cons_succ]
      refine takeL 13 (v := ?_) rfl (by kernel_rfl) (by kernel_rfl) (by kernel_rfl) (fun _ _ _ h => h) ⟨by rfl, ?_⟩ (by assumption) ?_
      rotate_left
      · intro w hS; go_simp <;> with_reducible rfl
      simp only [Act.put, List.setIfInBounds_toArray, List.set_cons_zero, List.set_cons_succ]
      refine takeL 14 (v := ?_) rfl (by kernel_rfl) (by kernel_rfl) (by kernel_rfl) (fun _ _ _ h => h) ⟨by rfl, ?_⟩ (by assumption) ?_
      rotate_left
      · intro w hS; go_simp <;> with_reducible rfl
      simp only [Act.put, List.setIfInBounds_toArray, List.set_cons_zero, List.set_cons_succ]
      refine skipL 15 rfl (by kernel_rfl) (by kernel_rfl) (by kernel_rfl) (fun _ _ _ h => h) (by rfl) (by assumption) ?_
      simp only [Act.put, List.setIfInBounds_toArray, List.set_cons_zero, List.set_cons_succ]
      refine skipL 16 rfl (by kernel_rfl) (by kernel_rfl) (by kernel_rfl) (fun _ _ _ h => h) (by rfl) (by assumption) ?_
      simp only [Act.put, List.setIfInBounds_toArray, List.set_cons_zero, List.set_cons_succ]
      refine skipL 17 rfl (by kernel_rfl) (by kernel_rfl) (by kernel_rfl) (fun _ _ _ h => h) (by rfl) (by assumption) ?_
      simp only [Act.put, List.setIfInBounds_toArray, List.set_cons_zero, List.set_cons_succ]
      refine skipL 18 rfl (by kernel_rfl) (by kernel_rfl) (by kernel_rfl) (fun _ _ _ h => h) (by rfl) (by assumption) ?_
      simp only [Act.put, List.setIfInBounds_toArray, List.set_cons_zero, List.set_cons_succ]
      refine skipL 19 rfl (by kernel_rfl) (by kernel_rfl) (by kernel_rfl) (fun _ _ _ h => h) (by rfl) (by assumption) ?_
      simp only [Act.put, List.setIfInBounds_toArray, List.set_cons_zero, List.set_cons_succ]
      refine skipL 20 rfl (by kernel_rfl) (by kernel_rfl) (by kernel_rfl) (fun _ _ _ h => h) (by rfl) (by assumption) ?_
      simp only [Act.put, List.setIfInBounds_toArray, List.set_cons_zero, List.set_cons_succ]
      refine skipL 21 rfl (by kernel_rfl) (by kernel_rfl) (by kernel_rfl) (fun _ _ _ h => h) (by rfl) (by assumption) ?_
      simp only [Act.put, List.setIfInBounds_toArray, List.set_cons_zero, List.set_cons_succ]
      refine takeL 22 (v := ?_) rfl (by kernel_rfl) (by kernel_rfl) (by kernel_rfl) (fun _ _ _ h => h) ⟨by rfl, ?_⟩ (by assumption) ?_
      rotate_left
      · intro w hS; go_simp <;> with_reducible rfl
      simp only [Act.put, List.setIfInBounds_toArray, List.set_cons_zero, List.set_cons_succ]
      refine takeL 23 (v := ?_) rfl (by kernel_rfl) (by kernel_rfl) (by kernel_rfl) (fun _ _ _ h => h) ⟨by rfl, ?_⟩ (by assumption) ?_
      rotate_left
      · intro w hS; go_simp <;> with_reducible rfl
      simp only [Act.put, List.setIfInBounds_toArray, List.set_cons_zero, List.set_cons_succ]
      refine takeL 24 (v := ?_) rfl (by kernel_rfl) (by kernel_rfl) (by kernel_rfl) (fun _ _ _ h => h) ⟨by rfl, ?_⟩ (by assumption) ?_
      rotate_left
      · intro w hS; go_simp <;> with_reducible rfl
      simp only [Act.put, List.setIfInBounds_toArray, List.set_cons_zero, List.set_cons_succ]
      refine takeL 25 (v := ?_) rfl (by kernel_rfl) (by kernel_rfl) (by kernel_rfl) (fun _ _ _ h => h) ⟨by rfl, ?_⟩ (by assumption) ?_
      rotate_left
      · intro w hS; have fa := KA.at hS; have f1 := fa 0; have f2 := fa 1; have f3 := fa 2; clear fa; have fb := KB.at hS; have f4 := fb 0; have f5 := fb 1; have f6 := fb 2; clear fb; have fd := KF.at hS; have f10 := fd 0; clear fd; go_simp <;> with_reducible rfl
      simp only [Act.put, List.setIfInBounds_toArray, List.set_cons_zero, List.set_cons_succ]
      refine takeL 26 (v := ?_) rfl (by kernel_rfl) (by kernel_rfl) (by kernel_rfl) (fun _ _ _ h => h) ⟨by rfl, ?_⟩ (by assumption) ?_
      rotate_left
      · intro w hS; have fa := KA.at hS; have f1 := fa 0; have f2 := fa 1; have f3 := fa 2; clear fa; have fb := KB.at hS; have f4 := fb 0; have f5 := fb 1; have f6 := fb 2; clear fb; have fd := KF.at hS; have f10 := fd 0; clear fd; go_simp <;> with_reducible rfl
      simp only [Act.put, List.setIfInBounds_toArray, List.set_cons_zero, List.set_cons_succ]
      refine takeL 28 (v := ?_) rfl (by kernel_rfl) (by kernel_rfl) (by kernel_rfl) (fun _ _ _ h => h) ⟨by rfl, ?_⟩ (by assumption) ?_
      rotate_left
      · intro w hS; go_simp <;> with_reducible rfl
      simp only [Act.put, List.setIfInBounds_toArray, List.set_cons_zero, List.set_cons_succ]
      refine oneL 27 rfl (by kernel_rfl) (by rfl) (fun K hK => ?_)
      go_simp
      go_at_call 45
      (with_reducible refine (xm_Degree p _ r m xs _ HP.out (mA.next hHeld) HFdA.out ELA.out (by omega) e HDG.out).mono ?_); rintro e9 y9 ⟨rfl, c9⟩
      refine hK.out _ _ (hHeld.trans (c9.mono hHeld.size)) (fun hHeld => ?_)
      clear hK K
      try simp only [Act.put, List.setIfInBounds_toArray, List.set_cons_zero, List.set_cons_succ]
      refine takeL 29 (v := ?_) rfl (by kernel_rfl) (by kernel_rfl) (by kernel_rfl) (fun _ _ _ h => h) ⟨by rfl, ?_⟩ (by assumption) ?_
      rotate_left
      · intro w hS; go_simp <;> with_reducible rfl
      simp only [Act.put, List.setIfInBounds_toArray, List.set_cons_zero, List.set_cons_succ]
      refine takeL 30 (v := ?_) rfl (by kernel_rfl) (by kernel_rfl) (by kernel_rfl) (fun _ _ _ h => h) ⟨by rfl, ?_⟩ (by assumption) ?_
      rotate_left
      · intro w hS; go_simp <;> with_reducible rfl
      simp only [Act.put, List.setIfInBounds_toArray, List.set_cons_zero, List.set_cons_succ]
      refine takeL 31 (v := ?_) rfl (by kernel_rfl) (by kernel_rfl) (by kernel_rfl) (fun _ _ _ h => h) ⟨by rfl, ?_⟩ (by assumption) ?_
      rotate_left
      · intro w hS; go_simp <;> with_reducible rfl
      simp only [Act.put, List.setIfInBounds_toArray, List.set_cons_zero, List.set_cons_succ]
      refine doneL (by kernel_rfl) ?_ _
      replace B0 := B0.trans (hHeld.mono B0.size)
      clear hHeld
      clear mA mB KA KB KF KS KM mT KT mX KX
      go_wp2
      go_ret
      exact ⟨rfl, B0⟩

set_option maxRecDepth 20000 in
set_option maxHeartbeats 8000000 in
theorem gFF2 (x0 : Nat) (r m c : Nat) (v : Value) (xs : List (List Nat)) (u : Value) (ys : List (List Nat)) (w : World) (mA : Xm w v r m xs) (mB : Xm w u r c ys) (hfA : Fwx 3 4 r m xs) (hfB : Fwx 3 4 r c ys) (hr : r ≤ 3) (hc : m ≤ 3) (hxA : xs.length = r * m) (hxB : ys.length = r * c) (hc2 : c ≤ 3) (hne : m ≠ c) (hnf : m ≠ r) :
    Calls Try.prog 7 #[.int .u8 x0, v, u] w (LawOk w) := by
  obtain ⟨p, ep⟩ : ∃ p, p = Ps (x0 % 12) := ⟨_, rfl⟩
  have hp : FP p := by rw [ep]; exact Ps_FP (by omega)
  have ht : Trial p := by rw [ep]; exact Ps_trial (by omega)
  have cOf : ∀ w : World, Calls Try.prog 17 #[.int .u8 x0] w fun e w' => e = .returned (.agg #[.int .u64 (p : Nat)]) ∧ Below w.heap.size w w' := fun w => by rw [ep]; exact law9_Of x0 w
  have cP : ∀ w : World, Calls Try.prog 18 #[.int .u8 x0] w fun e w' => e = .returned (.int .u64 (p : Nat)) ∧ w = w' := fun w => by rw [ep]; exact ref8_P x0 w
  have hp2 := hp.1
  have hp3 := hp.2
  have HP := Lib.hid hp; have HT := Lib.hid ht; have COF := Lib.hid cOf; have CP := Lib.hid cP
  clear hp ht cOf cP ep
  obtain ⟨aA, cA, rfl⟩ := mA.agg
  obtain ⟨aB, cB, rfl⟩ := mB.agg
  obtain ⟨wb, ew, KA, KB, B0, hsz⟩ := boxes2 w 24 24 [.int .i64 r, .int .i64 m, .slice aA xs.length cA] [.int .i64 r, .int .i64 c, .slice aB ys.length cB]
  clear hsz
  replace mA := mA.next B0
  replace mB := mB.next B0
  have hlA : ∀ j, j < xs.length → (xs.getD j []).length ≤ 4 := fun j hj => by have := hfA.2.2.2 j hj; omega
  have hlB : ∀ j, j < ys.length → (ys.getD j []).length ≤ 4 := fun j hj => by have := hfB.2.2.2 j hj; omega
  have hrc : r * m ≤ 3 * 3 := Nat.mul_le_mul hr hc
  have hcr : m * r ≤ 3 * 3 := Nat.mul_le_mul hc hr
  have hxl : xs.length ≤ 9 := by omega
  have hyl : ys.length ≤ 100 := hfB.2.2.1
  have HF := Lib.hid hfA; have HG := Lib.hid hfB
  have HLA := Lib.hid hlA; have HLB := Lib.hid hlB; have HXA := Lib.hid hxA
  have HFdA := Lib.hid (Fd.of (show r ≤ 64 by omega) (show m ≤ 64 by omega) hxA)
  have DLA := Lib.hid (show ∀ j, j < r * m → (xs.getD j []).length ≤ 4 from fun j hj => hlA j (by omega))
  have ELA := Lib.hid (show ∀ j, j < xs.length → (xs.getD j []).length ≤ 1000000 from fun j hj => by have := hlA j hj; omega)
  have ELB := Lib.hid (show ∀ j, j < ys.length → (ys.getD j []).length ≤ 1000000 from fun j hj => by have := hlB j hj; omega)
  clear hlA hlB hxA hfA hfB
  have HXB := Lib.hid hxB
  have HFdB := Lib.hid (Fd.of (show r ≤ 64 by omega) (show c ≤ 64 by omega) hxB)
  have NAL := Lib.hid (show ¬ Al r m r c xs.length ys.length from fun h => hne (by have := h.2.2.2; omega))
  have NMA := Lib.hid (show ¬ (Fd r m xs.length ∧ Fd r c ys.length ∧ (m : Int) = r) from fun h => hnf (by have := h.2.2; omega))
  have e1 : ((r : Int) == (r : Int)) = true := by simp
  have e2 : ((m : Int) == (c : Int)) = false := by simp; omega
  have e3 : ((m : Int) == (r : Int)) = false := by simp; omega
  clear hxB hne hnf
  go_enter Try.func7, Try.ntmps7
  go_upto_region 1 with (fail)
  rw [← ew]
  clear ew
  go_wp2_with fail
  refine (law23_awake _).mono ?_; rintro e w1 ⟨rfl, b1⟩
  replace mA := mA.next b1
  replace mB := mB.next b1
  replace KA := KA.next b1
  replace KB := KB.next b1
  replace B0 := B0.trans (b1.mono B0.size)
  clear b1
  have qKA0 := KA.cell 0
  have qKA1 := KA.cell 1
  have qKA2 := KA.cell 2
  go_wp2_with fail
  refine (rf23_Few _ r m 3 4 xs _ mA true ⟨fun _ => HF.out, fun _ => rfl⟩).mono ?_; rintro e w2 ⟨rfl, b2⟩
  clear qKA0 qKA1 qKA2
  replace mA := mA.next b2
  replace mB := mB.next b2
  replace KA := KA.next b2
  replace KB := KB.next b2
  replace B0 := B0.trans (b2.mono B0.size)
  clear b2
  have qKB0 := KB.cell 0
  have qKB1 := KB.cell 1
  have qKB2 := KB.cell 2
  go_wp2_with fail
  refine (rf23_Few _ r c 3 4 ys _ mB true ⟨fun _ => HG.out, fun _ => rfl⟩).mono ?_; rintro e w3 ⟨rfl, b3⟩
  clear qKB0 qKB1 qKB2
  replace mA := mA.next b3
  replace mB := mB.next b3
  replace KA := KA.next b3
  replace KB := KB.next b3
  replace B0 := B0.trans (b3.mono B0.size)
  clear b3
  go_wp2_with fail
  refine (COF.out _).mono ?_; rintro e w4 ⟨rfl, b4⟩
  replace mA := mA.next b4
  replace mB := mB.next b4
  replace KA := KA.next b4
  replace KB := KB.next b4
  replace B0 := B0.trans (b4.mono B0.size)
  clear b4
  go_wp2_with fail
  refine (CP.out _).mono ?_; rintro e wx ⟨rfl, rfl⟩
  obtain ⟨w5, e5, KF, b5, hs5⟩ := boxes1 w4 29 [.int .u64 p]
  clear hs5
  replace mA := mA.next b5
  replace mB := mB.next b5
  replace KA := KA.next b5
  replace KB := KB.next b5
  replace B0 := B0.trans (b5.mono B0.size)
  clear b5
  go_upto_region 4 with (fail)
  rw [← e5]
  clear e5
  have qKF0 := KF.cell 0
  have qKA0 := KA.cell 0
  have qKA1 := KA.cell 1
  have qKA2 := KA.cell 2
  have qKB0 := KB.cell 0
  have qKB1 := KB.cell 1
  have qKB2 := KB.cell 2
  go_wp2_with fail
  refine (xm_Add_bad p _ _ r m r c xs ys _ mA mB NAL.out).mono ?_; rintro e w6 ⟨rfl, b6⟩
  clear qKF0 qKA0 qKA1 qKA2 qKB0 qKB1 qKB2
  replace mA := mA.next b6
  replace mB := mB.next b6
  replace KA := KA.next b6
  replace KB := KB.next b6
  replace KF := KF.next b6
  replace B0 := B0.trans (b6.mono B0.size)
  clear b6
  obtain ⟨w7, e7, KS, b7, hs7⟩ := boxes1 w6 24 [.int .i64 0, .int .i64 0, .slice none 0 0]
  clear hs7
  replace mA := mA.next b7
  replace mB := mB.next b7
  replace KA := KA.next b7
  replace KB := KB.next b7
  replace KF := KF.next b7
  replace B0 := B0.trans (b7.mono B0.size)
  clear b7
  go_upto_region 5 with (fail)
  rw [← e7]
  clear e7
  have qKF0 := KF.cell 0
  have qKA0 := KA.cell 0
  have qKA1 := KA.cell 1
  have qKA2 := KA.cell 2
  have qKB0 := KB.cell 0
  have qKB1 := KB.cell 1
  have qKB2 := KB.cell 2
  go_wp2_with fail
  refine (xm_Mul_bad p _ _ r m r c xs ys _ mA mB NMA.out).mono ?_; rintro e w8 ⟨rfl, b8⟩
  clear qKF0 qKA0 qKA1 qKA2 qKB0 qKB1 qKB2
  replace mA := mA.next b8
  replace mB := mB.next b8
  replace KA := KA.next b8
  replace KB := KB.next b8
  replace KF := KF.next b8
  replace KS := KS.next b8
  replace B0 := B0.trans (b8.mono B0.size)
  clear b8
  obtain ⟨w9, e9, KM, b9, hs9⟩ := boxes1 w8 24 [.int .i64 0, .int .i64 0, .slice none 0 0]
  clear hs9
  replace mA := mA.next b9
  replace mB := mB.next b9
  replace KA := KA.next b9
  replace KB := KB.next b9
  replace KF := KF.next b9
  replace KS := KS.next b9
  replace B0 := B0.trans (b9.mono B0.size)
  clear b9
  go_upto_region 6 with (fail)
  rw [← e9]
  clear e9
  have qKF0 := KF.cell 0
  have qKA0 := KA.cell 0
  have qKA1 := KA.cell 1
  have qKA2 := KA.cell 2
  go_wp2_with fail
  refine (xm_Transpose p 4 _ r m xs _ HP.out mA (by omega) (by omega) HXA.out (by omega) DLA.out (fun j => pl p (xs.getD (tix r m j) [])) (fun i k _ hk => by rw [tix_at hk])).mono ?_; rintro e w10 ⟨a10, k10, us10, rfl, o10, b10⟩
  clear qKF0 qKA0 qKA1 qKA2
  replace mA := mA.next b10
  replace mB := mB.next b10
  replace KA := KA.next b10
  replace KB := KB.next b10
  replace KF := KF.next b10
  replace KS := KS.next b10
  replace KM := KM.next b10
  replace B0 := B0.trans (b10.mono B0.size)
  clear b10
  obtain ⟨zsT, zlT, nsT, hzT⟩ := o10.ns HP.out
  have mT : Xm w10 (.agg #[.int .i64 m, .int .i64 r, .slice a10 (m * r) k10]) m r zsT := ⟨_, rfl, nsT⟩
  have ZLT := Lib.hid zlT; have ZT := Lib.hid hzT
  clear zlT nsT hzT o10
  obtain ⟨w11, e11, KT, b11, hs11⟩ := boxes1 w10 24 [.int .i64 m, .int .i64 r, .slice a10 (m * r) k10]
  clear hs11
  replace mA := mA.next b11
  replace mB := mB.next b11
  replace KA := KA.next b11
  replace KB := KB.next b11
  replace KF := KF.next b11
  replace KS := KS.next b11
  replace KM := KM.next b11
  replace mT := mT.next b11
  replace B0 := B0.trans (b11.mono B0.size)
  clear b11
  go_upto_region 7 with (fail)
  rw [← e11]
  clear e11
  have qKF0 := KF.cell 0
  have qKA0 := KA.cell 0
  have qKA1 := KA.cell 1
  have qKA2 := KA.cell 2
  go_wp2_with fail
  refine (xm_Norm p 4 _ r m xs _ HP.out mA (by omega) (by omega) HXA.out (by omega) DLA.out (fun j => pl p (xs.getD j [])) (fun _ _ _ _ => rfl)).mono ?_; rintro e w12 ⟨a12, k12, us12, rfl, o12, b12⟩
  clear qKF0 qKA0 qKA1 qKA2
  replace mA := mA.next b12
  replace mB := mB.next b12
  replace KA := KA.next b12
  replace KB := KB.next b12
  replace KF := KF.next b12
  replace KS := KS.next b12
  replace KM := KM.next b12
  replace mT := mT.next b12
  replace KT := KT.next b12
  replace B0 := B0.trans (b12.mono B0.size)
  clear b12
  obtain ⟨zsX, zlX, nsX, hzX⟩ := o12.ns HP.out
  have mX : Xm w12 (.agg #[.int .i64 r, .int .i64 m, .slice a12 (r * m) k12]) r m zsX := ⟨_, rfl, nsX⟩
  have ZLX := Lib.hid zlX; have ZX := Lib.hid hzX
  clear zlX nsX hzX o12
  obtain ⟨w13, e13, KX, b13, hs13⟩ := boxes1 w12 24 [.int .i64 r, .int .i64 m, .slice a12 (r * m) k12]
  clear hs13
  replace mA := mA.next b13
  replace mB := mB.next b13
  replace KA := KA.next b13
  replace KB := KB.next b13
  replace KF := KF.next b13
  replace KS := KS.next b13
  replace KM := KM.next b13
  replace mT := mT.next b13
  replace KT := KT.next b13
  replace mX := mX.next b13
  replace B0 := B0.trans (b13.mono B0.size)
  clear b13
  go_upto_region 8 with (fail)
  rw [← e13]
  clear e13
  have qKA0 := KA.cell 0
  have qKA1 := KA.cell 1
  have qKA2 := KA.cell 2
  go_wp2_with fail
  refine (rf23_Formed _ r m xs _ mA true (decide_eq_true HFdA.out).symm).mono ?_; rintro e w14 ⟨rfl, b14⟩
  clear qKA0 qKA1 qKA2
  replace mA := mA.next b14
  replace mB := mB.next b14
  replace KA := KA.next b14
  replace KB := KB.next b14
  replace KF := KF.next b14
  replace KS := KS.next b14
  replace KM := KM.next b14
  replace mT := mT.next b14
  replace KT := KT.next b14
  replace mX := mX.next b14
  replace KX := KX.next b14
  replace B0 := B0.trans (b14.mono B0.size)
  clear b14
  go_upto_region 10 with (fail)
  have bd := Drawn.below (w' := w14.drew) ⟨1, rfl⟩ w14.heap.size
  replace mA := mA.next bd
  replace mB := mB.next bd
  replace KA := KA.next bd
  replace KB := KB.next bd
  replace KF := KF.next bd
  replace KS := KS.next bd
  replace KM := KM.next bd
  replace mT := mT.next bd
  replace KT := KT.next bd
  replace mX := mX.next bd
  replace KX := KX.next bd
  replace B0 := B0.trans (bd.mono B0.size)
  clear bd
  have hsT := Lib.hid (show ∀ j, j < zsT.length → Nrm p (zsT.getD j []) ∧ (zsT.getD j []).length ≤ 1000000 from fun j hj => by
    have := ZT.out j (by rw [ZLT.out] at hj; exact hj); exact ⟨this.1, by omega⟩)
  have hsX := Lib.hid (show ∀ j, j < zsX.length → Nrm p (zsX.getD j []) ∧ (zsX.getD j []).length ≤ 1000000 from fun j hj => by
    have := ZX.out j (by rw [ZLX.out] at hj; exact hj); exact ⟨this.1, by omega⟩)
  have heX := Lib.hid (show ∀ j, j < zsX.length → nl p (zsX.getD j []) = nl p (xs.getD j []) from fun j hj => nl_same HP.out (by rw [(ZX.out j (by rw [ZLX.out] at hj; exact hj)).2.1]))
  obtain ⟨qT, eqT⟩ : ∃ qT, qT = (List.range (m * r)).map fun j => xs.getD (tix r m j) [] := ⟨_, rfl⟩
  have lqT := Lib.hid (show qT.length = m * r by rw [eqT]; simp)
  have gqT := Lib.hid (show ∀ j, j < m * r → qT.getD j [] = xs.getD (tix r m j) [] from fun j hj => by rw [eqT]; simp [List.getD, hj])
  have hqT := Lib.hid (show ∀ j, j < zsT.length → (qT.getD j []).length ≤ 1000000 from fun j hj => by
    rw [ZLT.out] at hj
    rw [gqT.out j hj]; have := DLA.out _ (tix_lt hj); omega)
  have heT := Lib.hid (show ∀ j, j < zsT.length → nl p (zsT.getD j []) = nl p (qT.getD j []) from fun j hj => by
    rw [ZLT.out] at hj
    rw [gqT.out j hj]; exact nl_same HP.out (ZT.out j hj).2.1)
  have EQT := Lib.hid eqT; clear eqT
  refine startL (S := (fun w' => Below (w14.drew).heap.size (w14.drew) w')) (by kernel_rfl) (Below.refl _ _) (fun hHeld => ?_)
  refine takeL 0 (v := ?_) rfl (by kernel_rfl) (by kernel_rfl) (by kernel_rfl) (fun _ _ _ h => h) ⟨by rfl, ?_⟩ (by assumption) ?_
  rotate_left
  · intro w hS; go_simp <;> with_reducible rfl
  simp only [Act.put, List.setIfInBounds_toArray, List.set_cons_zero, List.set_cons_succ]
  refine takeL 1 (v := ?_) rfl (by kernel_rfl) (by kernel_rfl) (by kernel_rfl) (fun _ _ _ h => h) ⟨by rfl, ?_⟩ (by assumption) ?_
  rotate_left
  · intro w hS; go_simp <;> with_reducible rfl
  simp only [Act.put, List.setIfInBounds_toArray, List.set_cons_zero, List.set_cons_succ]
  refine takeL 2 (v := ?_) rfl (by kernel_rfl) (by kernel_rfl) (by kernel_rfl) (fun _ _ _ h => h) ⟨by rfl, ?_⟩ (by assumption) ?_
  rotate_left
  · intro w hS; go_simp <;> with_reducible rfl
  simp only [Act.put, List.setIfInBounds_toArray, List.set_cons_zero, List.set_cons_succ]
  refine takeL 3 (v := ?_) rfl (by kernel_rfl) (by kernel_rfl) (by kernel_rfl) (fun _ _ _ h => h) ⟨by rfl, ?_⟩ (by assumption) ?_
  rotate_left
  · intro w hS; go_simp <;> with_reducible rfl
  simp only [Act.put, List.setIfInBounds_toArray, List.set_cons_zero, List.set_cons_succ]
  refine takeL 4 (v := ?_) rfl (by kernel_rfl) (by kernel_rfl) (by kernel_rfl) (fun _ _ _ h => h) ⟨by rfl, ?_⟩ (by assumption) ?_
  rotate_left
  · intro w hS; go_simp <;> with_reducible rfl
  simp only [Act.put, List.setIfInBounds_toArray, List.set_cons_zero, List.set_cons_succ]
  refine takeL 5 (v := ?_) rfl (by kernel_rfl) (by kernel_rfl) (by kernel_rfl) (fun _ _ _ h => h) ⟨by rfl, ?_⟩ (by assumption) ?_
  rotate_left
  · intro w hS; go_simp <;> with_reducible rfl
  simp only [Act.put, List.setIfInBounds_toArray, List.set_cons_zero, List.set_cons_succ]
  refine takeL 6 (v := ?_) rfl (by kernel_rfl) (by kernel_rfl) (by kernel_rfl) (fun _ _ _ h => h) ⟨by rfl, ?_⟩ (by assumption) ?_
  rotate_left
  · intro w hS; go_simp <;> with_reducible rfl
  simp only [Act.put, List.setIfInBounds_toArray, List.set_cons_zero, List.set_cons_succ]
  refine takeL 7 (v := ?_) rfl (by kernel_rfl) (by kernel_rfl) (by kernel_rfl) (fun _ _ _ h => h) ⟨by rfl, ?_⟩ (by assumption) ?_
  rotate_left
  · intro w hS; have fa := KA.at hS; have f1 := fa 0; have f2 := fa 1; have f3 := fa 2; clear fa; have fb := KT.at hS; have f4 := fb 0; have f5 := fb 1; have f6 := fb 2; clear fb; have fc := KX.at hS; have f7 := fc 0; have f8 := fc 1; have f9 := fc 2; clear fc; go_simp <;> with_reducible rfl
  simp only [Act.put, List.setIfInBounds_toArray, List.set_cons_zero, List.set_cons_succ]
  refine takeL 8 (v := ?_) rfl (by kernel_rfl) (by kernel_rfl) (by kernel_rfl) (fun _ _ _ h => h) ⟨by rfl, ?_⟩ (by assumption) ?_
  rotate_left
  · intro w hS; have fa := KA.at hS; have f1 := fa 0; have f2 := fa 1; have f3 := fa 2; clear fa; have fb := KT.at hS; have f4 := fb 0; have f5 := fb 1; have f6 := fb 2; clear fb; have fc := KX.at hS; have f7 := fc 0; have f8 := fc 1; have f9 := fc 2; clear fc; go_simp <;> with_reducible rfl
  simp only [Act.put, List.setIfInBounds_toArray, List.set_cons_zero, List.set_cons_succ]
  refine takeL 10 (v := ?_) rfl (by kernel_rfl) (by kernel_rfl) (by kernel_rfl) (fun _ _ _ h => h) ⟨by rfl, ?_⟩ (by assumption) ?_
  rotate_left
  · intro w hS; go_simp <;> with_reducible rfl
  simp only [Act.put, List.setIfInBounds_toArray, List.set_cons_zero, List.set_cons_succ]
  refine oneL 9 rfl (by kernel_rfl) (by rfl) (fun K hK => ?_)
  go_simp
  go_at_call 47
  (with_reducible refine (rf23_Turned _ r m xs _ (mA.next hHeld) (by omega) (by omega) HXA.out).mono ?_); rintro e y1 ⟨aU, kU, rfl, nU, c1⟩; rw [← EQT.out] at nU; have mU : Xm y1 (.agg #[.int .i64 m, .int .i64 r, .slice aU (m * r) kU]) m r qT := ⟨_, rfl, nU⟩; clear nU
  refine hK.out _ _ (hHeld.trans (c1.mono hHeld.size)) (fun hHeld => ?_)
  clear hK K
  try simp only [Act.put, List.setIfInBounds_toArray, List.set_cons_zero, List.set_cons_succ]
  refine oneL 11 rfl (by kernel_rfl) (by rfl) (fun K hK => ?_)
  go_simp
  go_at_call 46
  (with_reducible refine (rf23_Is _ _ m r p zsT qT _ HP.out (mT.next hHeld) mU (Fd.of (by omega) (by omega) ZLT.out) (by rw [lqT.out, ZLT.out]) (by rw [ZLT.out]; omega) hsT.out hqT.out heT.out).mono ?_); rintro e y2 ⟨rfl, c2⟩
  refine hK.out _ _ (hHeld.trans (c2.mono hHeld.size)) (fun hHeld => ?_)
  clear hK K
  try simp only [Act.put, List.setIfInBounds_toArray, List.set_cons_zero, List.set_cons_succ]
  refine takeL 12 (v := ?_) rfl (by kernel_rfl) (by kernel_rfl) (by kernel_rfl) (fun _ _ _ h => h) ⟨by rfl, ?_⟩ (by assumption) ?_
  rotate_left
  · intro w hS; go_simp <;> with_reducible rfl
  simp only [Act.put, List.setIfInBounds_toArray, List.set_cons_zero, List.set_cons_succ]
  refine takeL 13 (v := ?_) rfl (by kernel_rfl) (by kernel_rfl) (by kernel_rfl) (fun _ _ _ h => h) ⟨by rfl, ?_⟩ (by assumption) ?_
  rotate_left
  · intro w hS; go_simp <;> with_reducible rfl
  simp only [Act.put, List.setIfInBounds_toArray, List.set_cons_zero, List.set_cons_succ]
  refine takeL 14 (v := ?_) rfl (by kernel_rfl) (by kernel_rfl) (by kernel_rfl) (fun _ _ _ h => h) ⟨by rfl, ?_⟩ (by assumption) ?_
  rotate_left
  · intro w hS; go_simp <;> with_reducible rfl
  simp only [Act.put, List.setIfInBounds_toArray, List.set_cons_zero, List.set_cons_succ]
  refine takeL 15 (v := ?_) rfl (by kernel_rfl) (by kernel_rfl) (by kernel_rfl) (fun _ _ _ h => h) ⟨by rfl, ?_⟩ (by assumption) ?_
  rotate_left
  · intro w hS; have fa := KA.at hS; have f1 := fa 0; have f2 := fa 1; have f3 := fa 2; clear fa; have fb := KT.at hS; have f4 := fb 0; have f5 := fb 1; have f6 := fb 2; clear fb; have fc := KX.at hS; have f7 := fc 0; have f8 := fc 1; have f9 := fc 2; clear fc; go_simp <;> with_reducible rfl
  simp only [Act.put, List.setIfInBounds_toArray, List.set_cons_zero, List.set_cons_succ]
  refine takeL 16 (v := ?_) rfl (by kernel_rfl) (by kernel_rfl) (by kernel_rfl) (fun _ _ _ h => h) ⟨by rfl, ?_⟩ (by assumption) ?_
  rotate_left
  · intro w hS; have fa := KA.at hS; have f1 := fa 0; have f2 := fa 1; have f3 := fa 2; clear fa; have fb := KT.at hS; have f4 := fb 0; have f5 := fb 1; have f6 := fb 2; clear fb; have fc := KX.at hS; have f7 := fc 0; have f8 := fc 1; have f9 := fc 2; clear fc; go_simp <;> with_reducible rfl
  simp only [Act.put, List.setIfInBounds_toArray, List.set_cons_zero, List.set_cons_succ]
  refine takeL 17 (v := ?_) rfl (by kernel_rfl) (by kernel_rfl) (by kernel_rfl) (fun _ _ _ h => h) ⟨by rfl, ?_⟩ (by assumption) ?_
  rotate_left
  · intro w hS; go_simp <;> with_reducible rfl
  simp only [Act.put, List.setIfInBounds_toArray, List.set_cons_zero, List.set_cons_succ]
  refine oneL 18 rfl (by kernel_rfl) (by rfl) (fun K hK => ?_)
  go_simp
  go_at_call 46
  (with_reducible refine (rf23_Is _ _ r m p zsX xs _ HP.out (mX.next hHeld) (mA.next hHeld) (Fd.of (by omega) (by omega) ZLX.out) (by rw [HXA.out, ZLX.out]) (by rw [ZLX.out]; omega) hsX.out (by rw [ZLX.out, ← HXA.out]; exact ELA.out) heX.out).mono ?_); rintro e y3 ⟨rfl, c3⟩
  refine hK.out _ _ (hHeld.trans (c3.mono hHeld.size)) (fun hHeld => ?_)
  clear hK K
  try simp only [Act.put, List.setIfInBounds_toArray, List.set_cons_zero, List.set_cons_succ]
  refine takeL 19 (v := ?_) rfl (by kernel_rfl) (by kernel_rfl) (by kernel_rfl) (fun _ _ _ h => h) ⟨by rfl, ?_⟩ (by assumption) ?_
  rotate_left
  · intro w hS; go_simp <;> with_reducible rfl
  simp only [Act.put, List.setIfInBounds_toArray, List.set_cons_zero, List.set_cons_succ]
  refine takeL 20 (v := ?_) rfl (by kernel_rfl) (by kernel_rfl) (by kernel_rfl) (fun _ _ _ h => h) ⟨by rfl, ?_⟩ (by assumption) ?_
  rotate_left
  · intro w hS; go_simp <;> with_reducible rfl
  simp only [Act.put, List.setIfInBounds_toArray, List.set_cons_zero, List.set_cons_succ]
  refine doneL (by kernel_rfl) ?_ _
  replace mA := mA.next hHeld
  replace mB := mB.next hHeld
  replace KA := KA.next hHeld
  replace KB := KB.next hHeld
  replace KF := KF.next hHeld
  replace KS := KS.next hHeld
  replace KM := KM.next hHeld
  replace mT := mT.next hHeld
  replace KT := KT.next hHeld
  replace mX := mX.next hHeld
  replace KX := KX.next hHeld
  replace B0 := B0.trans (hHeld.mono B0.size)
  clear hHeld mU c1 c2 c3 hqT heT lqT gqT EQT heX
  have qKB0 := KB.cell 0
  have qKB1 := KB.cell 1
  have qKB2 := KB.cell 2
  have qKA0 := KA.cell 0
  have qKA1 := KA.cell 1
  go_wp2_with fail
  refine (rf23_Formed _ r c ys _ mB true (decide_eq_true HFdB.out).symm).mono ?_; rintro e w15 ⟨rfl, b15⟩
  clear qKB0 qKB1 qKB2 qKA0 qKA1
  replace mA := mA.next b15
  replace mB := mB.next b15
  replace KA := KA.next b15
  replace KB := KB.next b15
  replace KF := KF.next b15
  replace KS := KS.next b15
  replace KM := KM.next b15
  replace mT := mT.next b15
  replace KT := KT.next b15
  replace mX := mX.next b15
  replace KX := KX.next b15
  replace B0 := B0.trans (b15.mono B0.size)
  clear b15
  have qKB0 := KB.cell 0
  have qKB1 := KB.cell 1
  have qKA0 := KA.cell 0
  have qKA1 := KA.cell 1
  go_upto_region 13 with (fail)
  have qKB2 := KB.cell 2
  go_wp2_with fail
  refine (rf23_Formed _ r c ys _ mB true (decide_eq_true HFdB.out).symm).mono ?_; rintro e w16 ⟨rfl, b16⟩
  clear qKB0 qKB1 qKA0 qKA1 qKB2
  replace mA := mA.next b16
  replace mB := mB.next b16
  replace KA := KA.next b16
  replace KB := KB.next b16
  replace KF := KF.next b16
  replace KS := KS.next b16
  replace KM := KM.next b16
  replace mT := mT.next b16
  replace KT := KT.next b16
  replace mX := mX.next b16
  replace KX := KX.next b16
  replace B0 := B0.trans (b16.mono B0.size)
  clear b16
  have qKB0 := KB.cell 0
  have qKB1 := KB.cell 1
  have qKA0 := KA.cell 0
  have qKA1 := KA.cell 1
  go_upto_region 14 with (fail)
  have qKF0 := KF.cell 0
  have qKA2 := KA.cell 2
  have qKB2 := KB.cell 2
  go_wp2_with fail
  refine (xm_Same_no p _ _ r m r c xs ys _ mA mB NAL.out).mono ?_; rintro e w17 ⟨rfl, b17⟩
  clear qKB0 qKB1 qKA0 qKA1 qKF0 qKA2 qKB2
  replace mA := mA.next b17
  replace mB := mB.next b17
  replace KA := KA.next b17
  replace KB := KB.next b17
  replace KF := KF.next b17
  replace KS := KS.next b17
  replace KM := KM.next b17
  replace mT := mT.next b17
  replace KT := KT.next b17
  replace mX := mX.next b17
  replace KX := KX.next b17
  replace B0 := B0.trans (b17.mono B0.size)
  clear b17
  go_upto_region 17 with (fail)
  have qKX2 := KX.cell 2
  obtain ⟨ao, bo, off, ca, U, eX, -, hao, hat⟩ := mX.open
  simp only [Value.agg.injEq, Array.mk.injEq, List.cons.injEq, true_and, and_true, Value.slice.injEq] at eX
  obtain ⟨rfl, hzl, rfl⟩ := eX
  have HAO := Lib.hid hao; have HAT := Lib.hid hat
  clear hao hat
  have hNX : zsX.length ≤ 9 := by rw [ZLX.out]; omega
  rw [ZLX.out] at HAT HAO hNX hzl
  clear hzl
  obtain ⟨N, eN⟩ : ∃ N, N = r * m := ⟨_, rfl⟩
  clear qKX2
  go_wp2
  go_loopw [20, 19] (fun jv dv wr => ∃ (j : Nat) (e : Int), j ≤ r * m ∧ jv = .int .i64 j ∧ dv = .int .i64 e ∧ Hid (e = xdg p xs j) ∧ Below w17.heap.size w17 wr) (fun jv _ _ => r * m - (intOf jv).toNat)
  case atStart => exact ⟨0, -1, by omega, rfl, rfl, Lib.hid rfl, Below.refl _ _⟩
  case round =>
    obtain ⟨j, e, hj, rfl, rfl, HE, BT⟩ := hrel
    replace KX := KX.next BT
    have c2 := KX.cell 2
    by_cases hjn : j < r * m
    · obtain ⟨rfl, hbl⟩ := HAO.out (by omega)
      obtain ⟨q0, s0, -⟩ := HAT.out j hjn
      obtain ⟨n, en⟩ : ∃ n : Nat, n = (zsX.getD j []).length := ⟨_, rfl⟩
      obtain ⟨ua, -, -, uc, eu, -, -⟩ := s0
      rw [eu, ← en] at q0
      have q1 := (BT.cell (p := ⟨bo, off + j, none⟩) hbl).trans q0
      have hz := ZX.out j hjn
      have hn4 : n ≤ 4 := by omega
      obtain ⟨e', ee⟩ : ∃ e', e' = max e ((n : Int) - 1) := ⟨_, rfl⟩
      have HN := Lib.hid (show e' = xdg p xs (j + 1) by
        rw [ee, HE.out, en, ← nl_of HP.out.pos hz.1, nl_same HP.out hz.2.1]; rfl)
      have hw : IntKind.i64.wrap ((n : Int) - 1) = (n : Int) - 1 := IntWalk.i64_in _ ⟨by omega, by omega⟩
      clear q0 hz en eu
      by_cases hc1 : e < (n : Int) - 1
      · have hn3 : e' = (n : Int) - 1 := by omega
        rw [hn3] at HN
        clear hn3 ee
        go_wp2
        all_goals go_roundw
        all_goals first | (case rel => exact ⟨j + 1, _, by omega, by go_num, rfl, HN, BT⟩) | (case measure => simp [intOf] <;> omega) | skip
      · have hn3 : e' = e := by omega
        rw [hn3] at HN
        clear hn3 ee
        go_wp2
        all_goals go_roundw
        all_goals first | (case rel => exact ⟨j + 1, _, by omega, by go_num, rfl, HN, BT⟩) | (case measure => simp [intOf] <;> omega) | skip
    · obtain rfl : j = r * m := by omega
      replace mA := mA.next BT
      replace mB := mB.next BT
      replace KA := KA.next BT
      replace KB := KB.next BT
      replace KF := KF.next BT
      replace KS := KS.next BT
      replace KM := KM.next BT
      replace mT := mT.next BT
      replace KT := KT.next BT
      replace mX := mX.next BT
      replace B0 := B0.trans (BT.mono B0.size)
      have HDG := Lib.hid (show e = xdg p xs xs.length by rw [HXA.out]; exact HE.out)
      clear BT HE hj hjn
      go_upto_region 21 with (fail)
      clear c2
      have bd := Drawn.below (w' := wr.drew) ⟨1, rfl⟩ wr.heap.size
      replace mA := mA.next bd
      replace mB := mB.next bd
      replace KA := KA.next bd
      replace KB := KB.next bd
      replace KF := KF.next bd
      replace KS := KS.next bd
      replace KM := KM.next bd
      replace mT := mT.next bd
      replace KT := KT.next bd
      replace mX := mX.next bd
      replace KX := KX.next bd
      replace B0 := B0.trans (bd.mono B0.size)
      clear bd
      refine startL (S := (fun w' => Below (wr.drew).heap.size (wr.drew) w')) (by kernel_rfl) (Below.refl _ _) (fun hHeld => ?_)
      refine takeL 0 (v := ?_) rfl (by kernel_rfl) (by kernel_rfl) (by kernel_rfl) (fun _ _ _ h => h) ⟨by rfl, ?_⟩ (by assumption) ?_
      rotate_left
      · intro w hS; go_simp <;> with_reducible rfl
      simp only [Act.put, List.setIfInBounds_toArray, List.set_cons_zero, List.set_cons_succ]
      refine takeL 1 (v := ?_) rfl (by kernel_rfl) (by kernel_rfl) (by kernel_rfl) (fun _ _ _ h => h) ⟨by rfl, ?_⟩ (by assumption) ?_
      rotate_left
      · intro w hS; go_simp <;> with_reducible rfl
      simp only [Act.put, List.setIfInBounds_toArray, List.set_cons_zero, List.set_cons_succ]
      refine takeL 2 (v := ?_) rfl (by kernel_rfl) (by kernel_rfl) (by kernel_rfl) (fun _ _ _ h => h) ⟨by rfl, ?_⟩ (by assumption) ?_
      rotate_left
      · intro w hS; go_simp <;> with_reducible rfl
      simp only [Act.put, List.setIfInBounds_toArray, List.set_cons_zero, List.set_cons_succ]
      refine skipL 3 rfl (by kernel_rfl) (by kernel_rfl) (by kernel_rfl) (fun _ _ _ h => h) (by rfl) (by assumption) ?_
      simp only [Act.put, List.setIfInBounds_toArray, List.set_cons_zero, List.set_cons_succ]
      refine skipL 4 rfl (by kernel_rfl) (by kernel_rfl) (by kernel_rfl) (fun _ _ _ h => h) (by rfl) (by assumption) ?_
      simp only [Act.put, List.setIfInBounds_toArray, List.set_cons_zero, List.set_cons_succ]
      refine skipL 5 rfl (by kernel_rfl) (by kernel_rfl) (by kernel_rfl) (fun _ _ _ h => h) (by rfl) (by assumption) ?_
      simp only [Act.put, List.setIfInBounds_toArray, List.set_cons_zero, List.set_cons_succ]
      refine skipL 6 rfl (by kernel_rfl) (by kernel_rfl) (by kernel_rfl) (fun _ _ _ h => h) (by rfl) (by assumption) ?_
      simp only [Act.put, List.setIfInBounds_toArray, List.set_cons_zero, List.set_cons_succ]
      refine skipL 7 rfl (by kernel_rfl) (by kernel_rfl) (by kernel_rfl) (fun _ _ _ h => h) (by rfl) (by assumption) ?_
      simp only [Act.put, List.setIfInBounds_toArray, List.set_cons_zero, List.set_cons_succ]
      refine skipL 8 rfl (by kernel_rfl) (by kernel_rfl) (by kernel_rfl) (fun _ _ _ h => h) (by rfl) (by assumption) ?_
      simp only [Act.put, List.setIfInBounds_toArray, List.set_cons_zero, List.set_cons_succ]
      refine skipL 9 rfl (by kernel_rfl) (by kernel_rfl) (by kernel_rfl) (fun _ _ _ h => h) (by rfl) (by assumption) ?_
      simp only [Act.put, List.setIfInBounds_toArray, List.set_cons_zero, List.set_cons_succ]
      refine takeL 10 (v := ?_) rfl (by kernel_rfl) (by kernel_rfl) (by kernel_rfl) (fun _ _ _ h => h) ⟨by rfl, ?_⟩ (by assumption) ?_
      rotate_left
      · intro w hS; go_simp <;> with_reducible rfl
      simp only [Act.put, List.setIfInBounds_toArray, List.set_cons_zero, List.set_cons_succ]
      refine takeL 11 (v := ?_) rfl (by kernel_rfl) (by kernel_rfl) (by kernel_rfl) (fun _ _ _ h => h) ⟨by rfl, ?_⟩ (by assumption) ?_
      rotate_left
      · intro w hS; go_simp <;> with_reducible rfl
      simp only [Act.put, List.setIfInBounds_toArray, List.set_cons_zero, List.set_cons_succ]
      refine takeL 12 (v := ?_) rfl (by kernel_rfl) (by kernel_rfl) (by kernel_rfl) (fun _ _ _ h => h) ⟨by rfl, ?_⟩ (by assumption) ?_
      rotate_left
      · intro w hS; go_simp <;> with_reducible rfl
      simp only [Act.put, List.setIfInBounds_toArray, List.set_cons_zero, List.set_cons_succ]
      refine takeL 13 (v := ?_) rfl (by kernel_rfl) (by kernel_rfl) (by kernel_rfl) (fun _ _ _ h => h) ⟨by rfl, ?_⟩ (by assumption) ?_
      rotate_left
      · intro w hS; go_simp <;> with_reducible rfl
      simp only [Act.put, List.setIfInBounds_toArray, List.set_cons_zero, List.set_cons_succ]
      refine takeL 14 (v := ?_) rfl (by kernel_rfl) (by kernel_rfl) (by kernel_rfl) (fun _ _ _ h => h) ⟨by rfl, ?_⟩ (by assumption) ?_
      rotate_left
      · intro w hS; go_simp <;> with_reducible rfl
      simp only [Act.put, List.setIfInBounds_toArray, List.set_cons_zero, List.set_cons_succ]
      refine skipL 15 rfl (by kernel_rfl) (by kernel_rfl) (by kernel_rfl) (fun _ _ _ h => h) (by rfl) (by assumption) ?_
      simp only [Act.put, List.setIfInBounds_toArray, List.set_cons_zero, List.set_cons_succ]
      refine skipL 16 rfl (by kernel_rfl) (by kernel_rfl) (by kernel_rfl) (fun _ _ _ h => h) (by rfl) (by assumption) ?_
      simp only [Act.put, List.setIfInBounds_toArray, List.set_cons_zero, List.set_cons_succ]
      refine skipL 17 rfl (by kernel_rfl) (by kernel_rfl) (by kernel_rfl) (fun _ _ _ h => h) (by rfl) (by assumption) ?_
      simp only [Act.put, List.setIfInBounds_toArray, List.set_cons_zero, List.set_cons_succ]
      refine skipL 18 rfl (by kernel_rfl) (by kernel_rfl) (by kernel_rfl) (fun _ _ _ h => h) (by rfl) (by assumption) ?_
      simp only [Act.put, List.setIfInBounds_toArray, List.set_cons_zero, List.set_cons_succ]
      refine skipL 19 rfl (by kernel_rfl) (by kernel_rfl) (by kernel_rfl) (fun _ _ _ h => h) (by rfl) (by assumption) ?_
      simp only [Act.put, List.setIfInBounds_toArray, List.set_cons_zero, List.set_cons_succ]
      refine skipL 20 rfl (by kernel_rfl) (by kernel_rfl) (by kernel_rfl) (fun _ _ _ h => h) (by rfl) (by assumption) ?_
      simp only [Act.put, List.setIfInBounds_toArray, List.set_cons_zero, List.set_cons_succ]
      refine skipL 21 rfl (by kernel_rfl) (by kernel_rfl) (by kernel_rfl) (fun _ _ _ h => h) (by rfl) (by assumption) ?_
      simp only [Act.put, List.setIfInBounds_toArray, List.set_cons_zero, List.set_cons_succ]
      refine takeL 22 (v := ?_) rfl (by kernel_rfl) (by kernel_rfl) (by kernel_rfl) (fun _ _ _ h => h) ⟨by rfl, ?_⟩ (by assumption) ?_
      rotate_left
      · intro w hS; go_simp <;> with_reducible rfl
      simp only [Act.put, List.setIfInBounds_toArray, List.set_cons_zero, List.set_cons_succ]
      refine takeL 23 (v := ?_) rfl (by kernel_rfl) (by kernel_rfl) (by kernel_rfl) (fun _ _ _ h => h) ⟨by rfl, ?_⟩ (by assumption) ?_
      rotate_left
      · intro w hS; go_simp <;> with_reducible rfl
      simp only [Act.put, List.setIfInBounds_toArray, List.set_cons_zero, List.set_cons_succ]
      refine takeL 24 (v := ?_) rfl (by kernel_rfl) (by kernel_rfl) (by kernel_rfl) (fun _ _ _ h => h) ⟨by rfl, ?_⟩ (by assumption) ?_
      rotate_left
      · intro w hS; go_simp <;> with_reducible rfl
      simp only [Act.put, List.setIfInBounds_toArray, List.set_cons_zero, List.set_cons_succ]
      refine takeL 25 (v := ?_) rfl (by kernel_rfl) (by kernel_rfl) (by kernel_rfl) (fun _ _ _ h => h) ⟨by rfl, ?_⟩ (by assumption) ?_
      rotate_left
      · intro w hS; have fa := KA.at hS; have f1 := fa 0; have f2 := fa 1; have f3 := fa 2; clear fa; have fb := KB.at hS; have f4 := fb 0; have f5 := fb 1; have f6 := fb 2; clear fb; have fd := KF.at hS; have f10 := fd 0; clear fd; go_simp <;> with_reducible rfl
      simp only [Act.put, List.setIfInBounds_toArray, List.set_cons_zero, List.set_cons_succ]
      refine takeL 26 (v := ?_) rfl (by kernel_rfl) (by kernel_rfl) (by kernel_rfl) (fun _ _ _ h => h) ⟨by rfl, ?_⟩ (by assumption) ?_
      rotate_left
      · intro w hS; have fa := KA.at hS; have f1 := fa 0; have f2 := fa 1; have f3 := fa 2; clear fa; have fb := KB.at hS; have f4 := fb 0; have f5 := fb 1; have f6 := fb 2; clear fb; have fd := KF.at hS; have f10 := fd 0; clear fd; go_simp <;> with_reducible rfl
      simp only [Act.put, List.setIfInBounds_toArray, List.set_cons_zero, List.set_cons_succ]
      refine takeL 28 (v := ?_) rfl (by kernel_rfl) (by kernel_rfl) (by kernel_rfl) (fun _ _ _ h => h) ⟨by rfl, ?_⟩ (by assumption) ?_
      rotate_left
      · intro w hS; go_simp <;> with_reducible rfl
      simp only [Act.put, List.setIfInBounds_toArray, List.set_cons_zero, List.set_cons_succ]
      refine oneL 27 rfl (by kernel_rfl) (by rfl) (fun K hK => ?_)
      go_simp
      go_at_call 45
      (with_reducible refine (xm_Degree p _ r m xs _ HP.out (mA.next hHeld) HFdA.out ELA.out (by omega) e HDG.out).mono ?_); rintro e9 y9 ⟨rfl, c9⟩
      refine hK.out _ _ (hHeld.trans (c9.mono hHeld.size)) (fun hHeld => ?_)
      clear hK K
      try simp only [Act.put, List.setIfInBounds_toArray, List.set_cons_zero, List.set_cons_succ]
      refine takeL 29 (v := ?_) rfl (by kernel_rfl) (by kernel_rfl) (by kernel_rfl) (fun _ _ _ h => h) ⟨by rfl, ?_⟩ (by assumption) ?_
      rotate_left
      · intro w hS; go_simp <;> with_reducible rfl
      simp only [Act.put, List.setIfInBounds_toArray, List.set_cons_zero, List.set_cons_succ]
      refine takeL 30 (v := ?_) rfl (by kernel_rfl) (by kernel_rfl) (by kernel_rfl) (fun _ _ _ h => h) ⟨by rfl, ?_⟩ (by assumption) ?_
      rotate_left
      · intro w hS; go_simp <;> with_reducible rfl
      simp only [Act.put, List.setIfInBounds_toArray, List.set_cons_zero, List.set_cons_succ]
      refine takeL 31 (v := ?_) rfl (by kernel_rfl) (by kernel_rfl) (by kernel_rfl) (fun _ _ _ h => h) ⟨by rfl, ?_⟩ (by assumption) ?_
      rotate_left
      · intro w hS; go_simp <;> with_reducible rfl
      simp only [Act.put, List.setIfInBounds_toArray, List.set_cons_zero, List.set_cons_succ]
      refine doneL (by kernel_rfl) ?_ _
      replace B0 := B0.trans (hHeld.mono B0.size)
      clear hHeld
      clear mA mB KA KB KF KS KM mT KT mX KX
      go_wp2
      go_ret
      exact ⟨rfl, B0⟩

set_option maxRecDepth 20000 in
set_option maxHeartbeats 8000000 in
theorem gN (x0 : Nat) (r m : Nat) (R2 C2 : Int) (v : Value) (xs : List (List Nat)) (u : Value) (ys : List (List Nat)) (w : World) (mA : Xm w v r m xs) (mB : Xm w u R2 C2 ys) (hfA : Fwx 3 4 r m xs) (hfB : Fwx 3 4 R2 C2 ys) (hr : r ≤ 3) (hc : m ≤ 3) (hxA : xs.length = r * m) (hnB : ¬ Fd R2 C2 ys.length) :
    Calls Try.prog 7 #[.int .u8 x0, v, u] w (LawOk w) := by
  obtain ⟨p, ep⟩ : ∃ p, p = Ps (x0 % 12) := ⟨_, rfl⟩
  have hp : FP p := by rw [ep]; exact Ps_FP (by omega)
  have ht : Trial p := by rw [ep]; exact Ps_trial (by omega)
  have cOf : ∀ w : World, Calls Try.prog 17 #[.int .u8 x0] w fun e w' => e = .returned (.agg #[.int .u64 (p : Nat)]) ∧ Below w.heap.size w w' := fun w => by rw [ep]; exact law9_Of x0 w
  have cP : ∀ w : World, Calls Try.prog 18 #[.int .u8 x0] w fun e w' => e = .returned (.int .u64 (p : Nat)) ∧ w = w' := fun w => by rw [ep]; exact ref8_P x0 w
  have hp2 := hp.1
  have hp3 := hp.2
  have HP := Lib.hid hp; have HT := Lib.hid ht; have COF := Lib.hid cOf; have CP := Lib.hid cP
  clear hp ht cOf cP ep
  obtain ⟨aA, cA, rfl⟩ := mA.agg
  obtain ⟨aB, cB, rfl⟩ := mB.agg
  obtain ⟨wb, ew, KA, KB, B0, hsz⟩ := boxes2 w 24 24 [.int .i64 r, .int .i64 m, .slice aA xs.length cA] [.int .i64 R2, .int .i64 C2, .slice aB ys.length cB]
  clear hsz
  replace mA := mA.next B0
  replace mB := mB.next B0
  have hlA : ∀ j, j < xs.length → (xs.getD j []).length ≤ 4 := fun j hj => by have := hfA.2.2.2 j hj; omega
  have hlB : ∀ j, j < ys.length → (ys.getD j []).length ≤ 4 := fun j hj => by have := hfB.2.2.2 j hj; omega
  have hrc : r * m ≤ 3 * 3 := Nat.mul_le_mul hr hc
  have hcr : m * r ≤ 3 * 3 := Nat.mul_le_mul hc hr
  have hxl : xs.length ≤ 9 := by omega
  have hyl : ys.length ≤ 100 := hfB.2.2.1
  have HF := Lib.hid hfA; have HG := Lib.hid hfB
  have HLA := Lib.hid hlA; have HLB := Lib.hid hlB; have HXA := Lib.hid hxA
  have HFdA := Lib.hid (Fd.of (show r ≤ 64 by omega) (show m ≤ 64 by omega) hxA)
  have DLA := Lib.hid (show ∀ j, j < r * m → (xs.getD j []).length ≤ 4 from fun j hj => hlA j (by omega))
  have ELA := Lib.hid (show ∀ j, j < xs.length → (xs.getD j []).length ≤ 1000000 from fun j hj => by have := hlA j hj; omega)
  have ELB := Lib.hid (show ∀ j, j < ys.length → (ys.getD j []).length ≤ 1000000 from fun j hj => by have := hlB j hj; omega)
  clear hlA hlB hxA hfA hfB
  have HNB := Lib.hid hnB
  have NAL := Lib.hid (show ¬ Al r m R2 C2 xs.length ys.length from fun h => hnB h.2.1)
  have NMA := Lib.hid (show ¬ (Fd r m xs.length ∧ Fd R2 C2 ys.length ∧ (m : Int) = R2) from fun h => hnB h.2.1)
  clear hnB
  go_enter Try.func7, Try.ntmps7
  go_upto_region 1 with (fail)
  rw [← ew]
  clear ew
  go_wp2_with fail
  refine (law23_awake _).mono ?_; rintro e w1 ⟨rfl, b1⟩
  replace mA := mA.next b1
  replace mB := mB.next b1
  replace KA := KA.next b1
  replace KB := KB.next b1
  replace B0 := B0.trans (b1.mono B0.size)
  clear b1
  have qKA0 := KA.cell 0
  have qKA1 := KA.cell 1
  have qKA2 := KA.cell 2
  go_wp2_with fail
  refine (rf23_Few _ r m 3 4 xs _ mA true ⟨fun _ => HF.out, fun _ => rfl⟩).mono ?_; rintro e w2 ⟨rfl, b2⟩
  clear qKA0 qKA1 qKA2
  replace mA := mA.next b2
  replace mB := mB.next b2
  replace KA := KA.next b2
  replace KB := KB.next b2
  replace B0 := B0.trans (b2.mono B0.size)
  clear b2
  have qKB0 := KB.cell 0
  have qKB1 := KB.cell 1
  have qKB2 := KB.cell 2
  go_wp2_with fail
  refine (rf23_Few _ R2 C2 3 4 ys _ mB true ⟨fun _ => HG.out, fun _ => rfl⟩).mono ?_; rintro e w3 ⟨rfl, b3⟩
  clear qKB0 qKB1 qKB2
  replace mA := mA.next b3
  replace mB := mB.next b3
  replace KA := KA.next b3
  replace KB := KB.next b3
  replace B0 := B0.trans (b3.mono B0.size)
  clear b3
  go_wp2_with fail
  refine (COF.out _).mono ?_; rintro e w4 ⟨rfl, b4⟩
  replace mA := mA.next b4
  replace mB := mB.next b4
  replace KA := KA.next b4
  replace KB := KB.next b4
  replace B0 := B0.trans (b4.mono B0.size)
  clear b4
  go_wp2_with fail
  refine (CP.out _).mono ?_; rintro e wx ⟨rfl, rfl⟩
  obtain ⟨w5, e5, KF, b5, hs5⟩ := boxes1 w4 29 [.int .u64 p]
  clear hs5
  replace mA := mA.next b5
  replace mB := mB.next b5
  replace KA := KA.next b5
  replace KB := KB.next b5
  replace B0 := B0.trans (b5.mono B0.size)
  clear b5
  go_upto_region 4 with (fail)
  rw [← e5]
  clear e5
  have qKF0 := KF.cell 0
  have qKA0 := KA.cell 0
  have qKA1 := KA.cell 1
  have qKA2 := KA.cell 2
  have qKB0 := KB.cell 0
  have qKB1 := KB.cell 1
  have qKB2 := KB.cell 2
  go_wp2_with fail
  refine (xm_Add_bad p _ _ r m R2 C2 xs ys _ mA mB NAL.out).mono ?_; rintro e w6 ⟨rfl, b6⟩
  clear qKF0 qKA0 qKA1 qKA2 qKB0 qKB1 qKB2
  replace mA := mA.next b6
  replace mB := mB.next b6
  replace KA := KA.next b6
  replace KB := KB.next b6
  replace KF := KF.next b6
  replace B0 := B0.trans (b6.mono B0.size)
  clear b6
  obtain ⟨w7, e7, KS, b7, hs7⟩ := boxes1 w6 24 [.int .i64 0, .int .i64 0, .slice none 0 0]
  clear hs7
  replace mA := mA.next b7
  replace mB := mB.next b7
  replace KA := KA.next b7
  replace KB := KB.next b7
  replace KF := KF.next b7
  replace B0 := B0.trans (b7.mono B0.size)
  clear b7
  go_upto_region 5 with (fail)
  rw [← e7]
  clear e7
  have qKF0 := KF.cell 0
  have qKA0 := KA.cell 0
  have qKA1 := KA.cell 1
  have qKA2 := KA.cell 2
  have qKB0 := KB.cell 0
  have qKB1 := KB.cell 1
  have qKB2 := KB.cell 2
  go_wp2_with fail
  refine (xm_Mul_bad p _ _ r m R2 C2 xs ys _ mA mB NMA.out).mono ?_; rintro e w8 ⟨rfl, b8⟩
  clear qKF0 qKA0 qKA1 qKA2 qKB0 qKB1 qKB2
  replace mA := mA.next b8
  replace mB := mB.next b8
  replace KA := KA.next b8
  replace KB := KB.next b8
  replace KF := KF.next b8
  replace KS := KS.next b8
  replace B0 := B0.trans (b8.mono B0.size)
  clear b8
  obtain ⟨w9, e9, KM, b9, hs9⟩ := boxes1 w8 24 [.int .i64 0, .int .i64 0, .slice none 0 0]
  clear hs9
  replace mA := mA.next b9
  replace mB := mB.next b9
  replace KA := KA.next b9
  replace KB := KB.next b9
  replace KF := KF.next b9
  replace KS := KS.next b9
  replace B0 := B0.trans (b9.mono B0.size)
  clear b9
  go_upto_region 6 with (fail)
  rw [← e9]
  clear e9
  have qKF0 := KF.cell 0
  have qKA0 := KA.cell 0
  have qKA1 := KA.cell 1
  have qKA2 := KA.cell 2
  go_wp2_with fail
  refine (xm_Transpose p 4 _ r m xs _ HP.out mA (by omega) (by omega) HXA.out (by omega) DLA.out (fun j => pl p (xs.getD (tix r m j) [])) (fun i k _ hk => by rw [tix_at hk])).mono ?_; rintro e w10 ⟨a10, k10, us10, rfl, o10, b10⟩
  clear qKF0 qKA0 qKA1 qKA2
  replace mA := mA.next b10
  replace mB := mB.next b10
  replace KA := KA.next b10
  replace KB := KB.next b10
  replace KF := KF.next b10
  replace KS := KS.next b10
  replace KM := KM.next b10
  replace B0 := B0.trans (b10.mono B0.size)
  clear b10
  obtain ⟨zsT, zlT, nsT, hzT⟩ := o10.ns HP.out
  have mT : Xm w10 (.agg #[.int .i64 m, .int .i64 r, .slice a10 (m * r) k10]) m r zsT := ⟨_, rfl, nsT⟩
  have ZLT := Lib.hid zlT; have ZT := Lib.hid hzT
  clear zlT nsT hzT o10
  obtain ⟨w11, e11, KT, b11, hs11⟩ := boxes1 w10 24 [.int .i64 m, .int .i64 r, .slice a10 (m * r) k10]
  clear hs11
  replace mA := mA.next b11
  replace mB := mB.next b11
  replace KA := KA.next b11
  replace KB := KB.next b11
  replace KF := KF.next b11
  replace KS := KS.next b11
  replace KM := KM.next b11
  replace mT := mT.next b11
  replace B0 := B0.trans (b11.mono B0.size)
  clear b11
  go_upto_region 7 with (fail)
  rw [← e11]
  clear e11
  have qKF0 := KF.cell 0
  have qKA0 := KA.cell 0
  have qKA1 := KA.cell 1
  have qKA2 := KA.cell 2
  go_wp2_with fail
  refine (xm_Norm p 4 _ r m xs _ HP.out mA (by omega) (by omega) HXA.out (by omega) DLA.out (fun j => pl p (xs.getD j [])) (fun _ _ _ _ => rfl)).mono ?_; rintro e w12 ⟨a12, k12, us12, rfl, o12, b12⟩
  clear qKF0 qKA0 qKA1 qKA2
  replace mA := mA.next b12
  replace mB := mB.next b12
  replace KA := KA.next b12
  replace KB := KB.next b12
  replace KF := KF.next b12
  replace KS := KS.next b12
  replace KM := KM.next b12
  replace mT := mT.next b12
  replace KT := KT.next b12
  replace B0 := B0.trans (b12.mono B0.size)
  clear b12
  obtain ⟨zsX, zlX, nsX, hzX⟩ := o12.ns HP.out
  have mX : Xm w12 (.agg #[.int .i64 r, .int .i64 m, .slice a12 (r * m) k12]) r m zsX := ⟨_, rfl, nsX⟩
  have ZLX := Lib.hid zlX; have ZX := Lib.hid hzX
  clear zlX nsX hzX o12
  obtain ⟨w13, e13, KX, b13, hs13⟩ := boxes1 w12 24 [.int .i64 r, .int .i64 m, .slice a12 (r * m) k12]
  clear hs13
  replace mA := mA.next b13
  replace mB := mB.next b13
  replace KA := KA.next b13
  replace KB := KB.next b13
  replace KF := KF.next b13
  replace KS := KS.next b13
  replace KM := KM.next b13
  replace mT := mT.next b13
  replace KT := KT.next b13
  replace mX := mX.next b13
  replace B0 := B0.trans (b13.mono B0.size)
  clear b13
  go_upto_region 8 with (fail)
  rw [← e13]
  clear e13
  have qKA0 := KA.cell 0
  have qKA1 := KA.cell 1
  have qKA2 := KA.cell 2
  go_wp2_with fail
  refine (rf23_Formed _ r m xs _ mA true (decide_eq_true HFdA.out).symm).mono ?_; rintro e w14 ⟨rfl, b14⟩
  clear qKA0 qKA1 qKA2
  replace mA := mA.next b14
  replace mB := mB.next b14
  replace KA := KA.next b14
  replace KB := KB.next b14
  replace KF := KF.next b14
  replace KS := KS.next b14
  replace KM := KM.next b14
  replace mT := mT.next b14
  replace KT := KT.next b14
  replace mX := mX.next b14
  replace KX := KX.next b14
  replace B0 := B0.trans (b14.mono B0.size)
  clear b14
  go_upto_region 10 with (fail)
  have bd := Drawn.below (w' := w14.drew) ⟨1, rfl⟩ w14.heap.size
  replace mA := mA.next bd
  replace mB := mB.next bd
  replace KA := KA.next bd
  replace KB := KB.next bd
  replace KF := KF.next bd
  replace KS := KS.next bd
  replace KM := KM.next bd
  replace mT := mT.next bd
  replace KT := KT.next bd
  replace mX := mX.next bd
  replace KX := KX.next bd
  replace B0 := B0.trans (bd.mono B0.size)
  clear bd
  have hsT := Lib.hid (show ∀ j, j < zsT.length → Nrm p (zsT.getD j []) ∧ (zsT.getD j []).length ≤ 1000000 from fun j hj => by
    have := ZT.out j (by rw [ZLT.out] at hj; exact hj); exact ⟨this.1, by omega⟩)
  have hsX := Lib.hid (show ∀ j, j < zsX.length → Nrm p (zsX.getD j []) ∧ (zsX.getD j []).length ≤ 1000000 from fun j hj => by
    have := ZX.out j (by rw [ZLX.out] at hj; exact hj); exact ⟨this.1, by omega⟩)
  have heX := Lib.hid (show ∀ j, j < zsX.length → nl p (zsX.getD j []) = nl p (xs.getD j []) from fun j hj => nl_same HP.out (by rw [(ZX.out j (by rw [ZLX.out] at hj; exact hj)).2.1]))
  obtain ⟨qT, eqT⟩ : ∃ qT, qT = (List.range (m * r)).map fun j => xs.getD (tix r m j) [] := ⟨_, rfl⟩
  have lqT := Lib.hid (show qT.length = m * r by rw [eqT]; simp)
  have gqT := Lib.hid (show ∀ j, j < m * r → qT.getD j [] = xs.getD (tix r m j) [] from fun j hj => by rw [eqT]; simp [List.getD, hj])
  have hqT := Lib.hid (show ∀ j, j < zsT.length → (qT.getD j []).length ≤ 1000000 from fun j hj => by
    rw [ZLT.out] at hj
    rw [gqT.out j hj]; have := DLA.out _ (tix_lt hj); omega)
  have heT := Lib.hid (show ∀ j, j < zsT.length → nl p (zsT.getD j []) = nl p (qT.getD j []) from fun j hj => by
    rw [ZLT.out] at hj
    rw [gqT.out j hj]; exact nl_same HP.out (ZT.out j hj).2.1)
  have EQT := Lib.hid eqT; clear eqT
  refine startL (S := (fun w' => Below (w14.drew).heap.size (w14.drew) w')) (by kernel_rfl) (Below.refl _ _) (fun hHeld => ?_)
  refine takeL 0 (v := ?_) rfl (by kernel_rfl) (by kernel_rfl) (by kernel_rfl) (fun _ _ _ h => h) ⟨by rfl, ?_⟩ (by assumption) ?_
  rotate_left
  · intro w hS; go_simp <;> with_reducible rfl
  simp only [Act.put, List.setIfInBounds_toArray, List.set_cons_zero, List.set_cons_succ]
  refine takeL 1 (v := ?_) rfl (by kernel_rfl) (by kernel_rfl) (by kernel_rfl) (fun _ _ _ h => h) ⟨by rfl, ?_⟩ (by assumption) ?_
  rotate_left
  · intro w hS; go_simp <;> with_reducible rfl
  simp only [Act.put, List.setIfInBounds_toArray, List.set_cons_zero, List.set_cons_succ]
  refine takeL 2 (v := ?_) rfl (by kernel_rfl) (by kernel_rfl) (by kernel_rfl) (fun _ _ _ h => h) ⟨by rfl, ?_⟩ (by assumption) ?_
  rotate_left
  · intro w hS; go_simp <;> with_reducible rfl
  simp only [Act.put, List.setIfInBounds_toArray, List.set_cons_zero, List.set_cons_succ]
  refine takeL 3 (v := ?_) rfl (by kernel_rfl) (by kernel_rfl) (by kernel_rfl) (fun _ _ _ h => h) ⟨by rfl, ?_⟩ (by assumption) ?_
  rotate_left
  · intro w hS; go_simp <;> with_reducible rfl
  simp only [Act.put, List.setIfInBounds_toArray, List.set_cons_zero, List.set_cons_succ]
  refine takeL 4 (v := ?_) rfl (by kernel_rfl) (by kernel_rfl) (by kernel_rfl) (fun _ _ _ h => h) ⟨by rfl, ?_⟩ (by assumption) ?_
  rotate_left
  · intro w hS; go_simp <;> with_reducible rfl
  simp only [Act.put, List.setIfInBounds_toArray, List.set_cons_zero, List.set_cons_succ]
  refine takeL 5 (v := ?_) rfl (by kernel_rfl) (by kernel_rfl) (by kernel_rfl) (fun _ _ _ h => h) ⟨by rfl, ?_⟩ (by assumption) ?_
  rotate_left
  · intro w hS; go_simp <;> with_reducible rfl
  simp only [Act.put, List.setIfInBounds_toArray, List.set_cons_zero, List.set_cons_succ]
  refine takeL 6 (v := ?_) rfl (by kernel_rfl) (by kernel_rfl) (by kernel_rfl) (fun _ _ _ h => h) ⟨by rfl, ?_⟩ (by assumption) ?_
  rotate_left
  · intro w hS; go_simp <;> with_reducible rfl
  simp only [Act.put, List.setIfInBounds_toArray, List.set_cons_zero, List.set_cons_succ]
  refine takeL 7 (v := ?_) rfl (by kernel_rfl) (by kernel_rfl) (by kernel_rfl) (fun _ _ _ h => h) ⟨by rfl, ?_⟩ (by assumption) ?_
  rotate_left
  · intro w hS; have fa := KA.at hS; have f1 := fa 0; have f2 := fa 1; have f3 := fa 2; clear fa; have fb := KT.at hS; have f4 := fb 0; have f5 := fb 1; have f6 := fb 2; clear fb; have fc := KX.at hS; have f7 := fc 0; have f8 := fc 1; have f9 := fc 2; clear fc; go_simp <;> with_reducible rfl
  simp only [Act.put, List.setIfInBounds_toArray, List.set_cons_zero, List.set_cons_succ]
  refine takeL 8 (v := ?_) rfl (by kernel_rfl) (by kernel_rfl) (by kernel_rfl) (fun _ _ _ h => h) ⟨by rfl, ?_⟩ (by assumption) ?_
  rotate_left
  · intro w hS; have fa := KA.at hS; have f1 := fa 0; have f2 := fa 1; have f3 := fa 2; clear fa; have fb := KT.at hS; have f4 := fb 0; have f5 := fb 1; have f6 := fb 2; clear fb; have fc := KX.at hS; have f7 := fc 0; have f8 := fc 1; have f9 := fc 2; clear fc; go_simp <;> with_reducible rfl
  simp only [Act.put, List.setIfInBounds_toArray, List.set_cons_zero, List.set_cons_succ]
  refine takeL 10 (v := ?_) rfl (by kernel_rfl) (by kernel_rfl) (by kernel_rfl) (fun _ _ _ h => h) ⟨by rfl, ?_⟩ (by assumption) ?_
  rotate_left
  · intro w hS; go_simp <;> with_reducible rfl
  simp only [Act.put, List.setIfInBounds_toArray, List.set_cons_zero, List.set_cons_succ]
  refine oneL 9 rfl (by kernel_rfl) (by rfl) (fun K hK => ?_)
  go_simp
  go_at_call 47
  (with_reducible refine (rf23_Turned _ r m xs _ (mA.next hHeld) (by omega) (by omega) HXA.out).mono ?_); rintro e y1 ⟨aU, kU, rfl, nU, c1⟩; rw [← EQT.out] at nU; have mU : Xm y1 (.agg #[.int .i64 m, .int .i64 r, .slice aU (m * r) kU]) m r qT := ⟨_, rfl, nU⟩; clear nU
  refine hK.out _ _ (hHeld.trans (c1.mono hHeld.size)) (fun hHeld => ?_)
  clear hK K
  try simp only [Act.put, List.setIfInBounds_toArray, List.set_cons_zero, List.set_cons_succ]
  refine oneL 11 rfl (by kernel_rfl) (by rfl) (fun K hK => ?_)
  go_simp
  go_at_call 46
  (with_reducible refine (rf23_Is _ _ m r p zsT qT _ HP.out (mT.next hHeld) mU (Fd.of (by omega) (by omega) ZLT.out) (by rw [lqT.out, ZLT.out]) (by rw [ZLT.out]; omega) hsT.out hqT.out heT.out).mono ?_); rintro e y2 ⟨rfl, c2⟩
  refine hK.out _ _ (hHeld.trans (c2.mono hHeld.size)) (fun hHeld => ?_)
  clear hK K
  try simp only [Act.put, List.setIfInBounds_toArray, List.set_cons_zero, List.set_cons_succ]
  refine takeL 12 (v := ?_) rfl (by kernel_rfl) (by kernel_rfl) (by kernel_rfl) (fun _ _ _ h => h) ⟨by rfl, ?_⟩ (by assumption) ?_
  rotate_left
  · intro w hS; go_simp <;> with_reducible rfl
  simp only [Act.put, List.setIfInBounds_toArray, List.set_cons_zero, List.set_cons_succ]
  refine takeL 13 (v := ?_) rfl (by kernel_rfl) (by kernel_rfl) (by kernel_rfl) (fun _ _ _ h => h) ⟨by rfl, ?_⟩ (by assumption) ?_
  rotate_left
  · intro w hS; go_simp <;> with_reducible rfl
  simp only [Act.put, List.setIfInBounds_toArray, List.set_cons_zero, List.set_cons_succ]
  refine takeL 14 (v := ?_) rfl (by kernel_rfl) (by kernel_rfl) (by kernel_rfl) (fun _ _ _ h => h) ⟨by rfl, ?_⟩ (by assumption) ?_
  rotate_left
  · intro w hS; go_simp <;> with_reducible rfl
  simp only [Act.put, List.setIfInBounds_toArray, List.set_cons_zero, List.set_cons_succ]
  refine takeL 15 (v := ?_) rfl (by kernel_rfl) (by kernel_rfl) (by kernel_rfl) (fun _ _ _ h => h) ⟨by rfl, ?_⟩ (by assumption) ?_
  rotate_left
  · intro w hS; have fa := KA.at hS; have f1 := fa 0; have f2 := fa 1; have f3 := fa 2; clear fa; have fb := KT.at hS; have f4 := fb 0; have f5 := fb 1; have f6 := fb 2; clear fb; have fc := KX.at hS; have f7 := fc 0; have f8 := fc 1; have f9 := fc 2; clear fc; go_simp <;> with_reducible rfl
  simp only [Act.put, List.setIfInBounds_toArray, List.set_cons_zero, List.set_cons_succ]
  refine takeL 16 (v := ?_) rfl (by kernel_rfl) (by kernel_rfl) (by kernel_rfl) (fun _ _ _ h => h) ⟨by rfl, ?_⟩ (by assumption) ?_
  rotate_left
  · intro w hS; have fa := KA.at hS; have f1 := fa 0; have f2 := fa 1; have f3 := fa 2; clear fa; have fb := KT.at hS; have f4 := fb 0; have f5 := fb 1; have f6 := fb 2; clear fb; have fc := KX.at hS; have f7 := fc 0; have f8 := fc 1; have f9 := fc 2; clear fc; go_simp <;> with_reducible rfl
  simp only [Act.put, List.setIfInBounds_toArray, List.set_cons_zero, List.set_cons_succ]
  refine takeL 17 (v := ?_) rfl (by kernel_rfl) (by kernel_rfl) (by kernel_rfl) (fun _ _ _ h => h) ⟨by rfl, ?_⟩ (by assumption) ?_
  rotate_left
  · intro w hS; go_simp <;> with_reducible rfl
  simp only [Act.put, List.setIfInBounds_toArray, List.set_cons_zero, List.set_cons_succ]
  refine oneL 18 rfl (by kernel_rfl) (by rfl) (fun K hK => ?_)
  go_simp
  go_at_call 46
  (with_reducible refine (rf23_Is _ _ r m p zsX xs _ HP.out (mX.next hHeld) (mA.next hHeld) (Fd.of (by omega) (by omega) ZLX.out) (by rw [HXA.out, ZLX.out]) (by rw [ZLX.out]; omega) hsX.out (by rw [ZLX.out, ← HXA.out]; exact ELA.out) heX.out).mono ?_); rintro e y3 ⟨rfl, c3⟩
  refine hK.out _ _ (hHeld.trans (c3.mono hHeld.size)) (fun hHeld => ?_)
  clear hK K
  try simp only [Act.put, List.setIfInBounds_toArray, List.set_cons_zero, List.set_cons_succ]
  refine takeL 19 (v := ?_) rfl (by kernel_rfl) (by kernel_rfl) (by kernel_rfl) (fun _ _ _ h => h) ⟨by rfl, ?_⟩ (by assumption) ?_
  rotate_left
  · intro w hS; go_simp <;> with_reducible rfl
  simp only [Act.put, List.setIfInBounds_toArray, List.set_cons_zero, List.set_cons_succ]
  refine takeL 20 (v := ?_) rfl (by kernel_rfl) (by kernel_rfl) (by kernel_rfl) (fun _ _ _ h => h) ⟨by rfl, ?_⟩ (by assumption) ?_
  rotate_left
  · intro w hS; go_simp <;> with_reducible rfl
  simp only [Act.put, List.setIfInBounds_toArray, List.set_cons_zero, List.set_cons_succ]
  refine doneL (by kernel_rfl) ?_ _
  replace mA := mA.next hHeld
  replace mB := mB.next hHeld
  replace KA := KA.next hHeld
  replace KB := KB.next hHeld
  replace KF := KF.next hHeld
  replace KS := KS.next hHeld
  replace KM := KM.next hHeld
  replace mT := mT.next hHeld
  replace KT := KT.next hHeld
  replace mX := mX.next hHeld
  replace KX := KX.next hHeld
  replace B0 := B0.trans (hHeld.mono B0.size)
  clear hHeld mU c1 c2 c3 hqT heT lqT gqT EQT heX
  have qKB0 := KB.cell 0
  have qKB1 := KB.cell 1
  have qKB2 := KB.cell 2
  have qKA0 := KA.cell 0
  have qKA1 := KA.cell 1
  go_wp2_with fail
  refine (rf23_Formed _ R2 C2 ys _ mB false (decide_eq_false HNB.out).symm).mono ?_; rintro e w15 ⟨rfl, b15⟩
  clear qKB0 qKB1 qKB2 qKA0 qKA1
  replace mA := mA.next b15
  replace mB := mB.next b15
  replace KA := KA.next b15
  replace KB := KB.next b15
  replace KF := KF.next b15
  replace KS := KS.next b15
  replace KM := KM.next b15
  replace mT := mT.next b15
  replace KT := KT.next b15
  replace mX := mX.next b15
  replace KX := KX.next b15
  replace B0 := B0.trans (b15.mono B0.size)
  clear b15
  have qKB0 := KB.cell 0
  have qKB1 := KB.cell 1
  have qKA0 := KA.cell 0
  have qKA1 := KA.cell 1
  go_upto_region 13 with (fail)
  have qKB2 := KB.cell 2
  go_wp2_with fail
  refine (rf23_Formed _ R2 C2 ys _ mB false (decide_eq_false HNB.out).symm).mono ?_; rintro e w16 ⟨rfl, b16⟩
  clear qKB0 qKB1 qKA0 qKA1 qKB2
  replace mA := mA.next b16
  replace mB := mB.next b16
  replace KA := KA.next b16
  replace KB := KB.next b16
  replace KF := KF.next b16
  replace KS := KS.next b16
  replace KM := KM.next b16
  replace mT := mT.next b16
  replace KT := KT.next b16
  replace mX := mX.next b16
  replace KX := KX.next b16
  replace B0 := B0.trans (b16.mono B0.size)
  clear b16
  have qKB0 := KB.cell 0
  have qKB1 := KB.cell 1
  have qKA0 := KA.cell 0
  have qKA1 := KA.cell 1
  go_upto_region 14 with (fail)
  have qKF0 := KF.cell 0
  have qKA2 := KA.cell 2
  have qKB2 := KB.cell 2
  go_wp2_with fail
  refine (xm_Same_no p _ _ r m R2 C2 xs ys _ mA mB NAL.out).mono ?_; rintro e w17 ⟨rfl, b17⟩
  clear qKB0 qKB1 qKA0 qKA1 qKF0 qKA2 qKB2
  replace mA := mA.next b17
  replace mB := mB.next b17
  replace KA := KA.next b17
  replace KB := KB.next b17
  replace KF := KF.next b17
  replace KS := KS.next b17
  replace KM := KM.next b17
  replace mT := mT.next b17
  replace KT := KT.next b17
  replace mX := mX.next b17
  replace KX := KX.next b17
  replace B0 := B0.trans (b17.mono B0.size)
  clear b17
  go_upto_region 17 with (fail)
  have qKX2 := KX.cell 2
  obtain ⟨ao, bo, off, ca, U, eX, -, hao, hat⟩ := mX.open
  simp only [Value.agg.injEq, Array.mk.injEq, List.cons.injEq, true_and, and_true, Value.slice.injEq] at eX
  obtain ⟨rfl, hzl, rfl⟩ := eX
  have HAO := Lib.hid hao; have HAT := Lib.hid hat
  clear hao hat
  have hNX : zsX.length ≤ 9 := by rw [ZLX.out]; omega
  rw [ZLX.out] at HAT HAO hNX hzl
  clear hzl
  obtain ⟨N, eN⟩ : ∃ N, N = r * m := ⟨_, rfl⟩
  clear qKX2
  go_wp2
  go_loopw [20, 19] (fun jv dv wr => ∃ (j : Nat) (e : Int), j ≤ r * m ∧ jv = .int .i64 j ∧ dv = .int .i64 e ∧ Hid (e = xdg p xs j) ∧ Below w17.heap.size w17 wr) (fun jv _ _ => r * m - (intOf jv).toNat)
  case atStart => exact ⟨0, -1, by omega, rfl, rfl, Lib.hid rfl, Below.refl _ _⟩
  case round =>
    obtain ⟨j, e, hj, rfl, rfl, HE, BT⟩ := hrel
    replace KX := KX.next BT
    have c2 := KX.cell 2
    by_cases hjn : j < r * m
    · obtain ⟨rfl, hbl⟩ := HAO.out (by omega)
      obtain ⟨q0, s0, -⟩ := HAT.out j hjn
      obtain ⟨n, en⟩ : ∃ n : Nat, n = (zsX.getD j []).length := ⟨_, rfl⟩
      obtain ⟨ua, -, -, uc, eu, -, -⟩ := s0
      rw [eu, ← en] at q0
      have q1 := (BT.cell (p := ⟨bo, off + j, none⟩) hbl).trans q0
      have hz := ZX.out j hjn
      have hn4 : n ≤ 4 := by omega
      obtain ⟨e', ee⟩ : ∃ e', e' = max e ((n : Int) - 1) := ⟨_, rfl⟩
      have HN := Lib.hid (show e' = xdg p xs (j + 1) by
        rw [ee, HE.out, en, ← nl_of HP.out.pos hz.1, nl_same HP.out hz.2.1]; rfl)
      have hw : IntKind.i64.wrap ((n : Int) - 1) = (n : Int) - 1 := IntWalk.i64_in _ ⟨by omega, by omega⟩
      clear q0 hz en eu
      by_cases hc1 : e < (n : Int) - 1
      · have hn3 : e' = (n : Int) - 1 := by omega
        rw [hn3] at HN
        clear hn3 ee
        go_wp2
        all_goals go_roundw
        all_goals first | (case rel => exact ⟨j + 1, _, by omega, by go_num, rfl, HN, BT⟩) | (case measure => simp [intOf] <;> omega) | skip
      · have hn3 : e' = e := by omega
        rw [hn3] at HN
        clear hn3 ee
        go_wp2
        all_goals go_roundw
        all_goals first | (case rel => exact ⟨j + 1, _, by omega, by go_num, rfl, HN, BT⟩) | (case measure => simp [intOf] <;> omega) | skip
    · obtain rfl : j = r * m := by omega
      replace mA := mA.next BT
      replace mB := mB.next BT
      replace KA := KA.next BT
      replace KB := KB.next BT
      replace KF := KF.next BT
      replace KS := KS.next BT
      replace KM := KM.next BT
      replace mT := mT.next BT
      replace KT := KT.next BT
      replace mX := mX.next BT
      replace B0 := B0.trans (BT.mono B0.size)
      have HDG := Lib.hid (show e = xdg p xs xs.length by rw [HXA.out]; exact HE.out)
      clear BT HE hj hjn
      go_upto_region 21 with (fail)
      clear c2
      have bd := Drawn.below (w' := wr.drew) ⟨1, rfl⟩ wr.heap.size
      replace mA := mA.next bd
      replace mB := mB.next bd
      replace KA := KA.next bd
      replace KB := KB.next bd
      replace KF := KF.next bd
      replace KS := KS.next bd
      replace KM := KM.next bd
      replace mT := mT.next bd
      replace KT := KT.next bd
      replace mX := mX.next bd
      replace KX := KX.next bd
      replace B0 := B0.trans (bd.mono B0.size)
      clear bd
      refine startL (S := (fun w' => Below (wr.drew).heap.size (wr.drew) w')) (by kernel_rfl) (Below.refl _ _) (fun hHeld => ?_)
      refine takeL 0 (v := ?_) rfl (by kernel_rfl) (by kernel_rfl) (by kernel_rfl) (fun _ _ _ h => h) ⟨by rfl, ?_⟩ (by assumption) ?_
      rotate_left
      · intro w hS; go_simp <;> with_reducible rfl
      simp only [Act.put, List.setIfInBounds_toArray, List.set_cons_zero, List.set_cons_succ]
      refine takeL 1 (v := ?_) rfl (by kernel_rfl) (by kernel_rfl) (by kernel_rfl) (fun _ _ _ h => h) ⟨by rfl, ?_⟩ (by assumption) ?_
      rotate_left
      · intro w hS; go_simp <;> with_reducible rfl
      simp only [Act.put, List.setIfInBounds_toArray, List.set_cons_zero, List.set_cons_succ]
      refine takeL 2 (v := ?_) rfl (by kernel_rfl) (by kernel_rfl) (by kernel_rfl) (fun _ _ _ h => h) ⟨by rfl, ?_⟩ (by assumption) ?_
      rotate_left
      · intro w hS; go_simp <;> with_reducible rfl
      simp only [Act.put, List.setIfInBounds_toArray, List.set_cons_zero, List.set_cons_succ]
      refine skipL 3 rfl (by kernel_rfl) (by kernel_rfl) (by kernel_rfl) (fun _ _ _ h => h) (by rfl) (by assumption) ?_
      simp only [Act.put, List.setIfInBounds_toArray, List.set_cons_zero, List.set_cons_succ]
      refine skipL 4 rfl (by kernel_rfl) (by kernel_rfl) (by kernel_rfl) (fun _ _ _ h => h) (by rfl) (by assumption) ?_
      simp only [Act.put, List.setIfInBounds_toArray, List.set_cons_zero, List.set_cons_succ]
      refine skipL 5 rfl (by kernel_rfl) (by kernel_rfl) (by kernel_rfl) (fun _ _ _ h => h) (by rfl) (by assumption) ?_
      simp only [Act.put, List.setIfInBounds_toArray, List.set_cons_zero, List.set_cons_succ]
      refine skipL 6 rfl (by kernel_rfl) (by kernel_rfl) (by kernel_rfl) (fun _ _ _ h => h) (by rfl) (by assumption) ?_
      simp only [Act.put, List.setIfInBounds_toArray, List.set_cons_zero, List.set_cons_succ]
      refine skipL 7 rfl (by kernel_rfl) (by kernel_rfl) (by kernel_rfl) (fun _ _ _ h => h) (by rfl) (by assumption) ?_
      simp only [Act.put, List.setIfInBounds_toArray, List.set_cons_zero, List.set_cons_succ]
      refine skipL 8 rfl (by kernel_rfl) (by kernel_rfl) (by kernel_rfl) (fun _ _ _ h => h) (by rfl) (by assumption) ?_
      simp only [Act.put, List.setIfInBounds_toArray, List.set_cons_zero, List.set_cons_succ]
      refine skipL 9 rfl (by kernel_rfl) (by kernel_rfl) (by kernel_rfl) (fun _ _ _ h => h) (by rfl) (by assumption) ?_
      simp only [Act.put, List.setIfInBounds_toArray, List.set_cons_zero, List.set_cons_succ]
      refine takeL 10 (v := ?_) rfl (by kernel_rfl) (by kernel_rfl) (by kernel_rfl) (fun _ _ _ h => h) ⟨by rfl, ?_⟩ (by assumption) ?_
      rotate_left
      · intro w hS; go_simp <;> with_reducible rfl
      simp only [Act.put, List.setIfInBounds_toArray, List.set_cons_zero, List.set_cons_succ]
      refine takeL 11 (v := ?_) rfl (by kernel_rfl) (by kernel_rfl) (by kernel_rfl) (fun _ _ _ h => h) ⟨by rfl, ?_⟩ (by assumption) ?_
      rotate_left
      · intro w hS; go_simp <;> with_reducible rfl
      simp only [Act.put, List.setIfInBounds_toArray, List.set_cons_zero, List.set_cons_succ]
      refine takeL 12 (v := ?_) rfl (by kernel_rfl) (by kernel_rfl) (by kernel_rfl) (fun _ _ _ h => h) ⟨by rfl, ?_⟩ (by assumption) ?_
      rotate_left
      · intro w hS; go_simp <;> with_reducible rfl
      simp only [Act.put, List.setIfInBounds_toArray, List.set_cons_zero, List.set_cons_succ]
      refine takeL 13 (v := ?_) rfl (by kernel_rfl) (by kernel_rfl) (by kernel_rfl) (fun _ _ _ h => h) ⟨by rfl, ?_⟩ (by assumption) ?_
      rotate_left
      · intro w hS; go_simp <;> with_reducible rfl
      simp only [Act.put, List.setIfInBounds_toArray, List.set_cons_zero, List.set_cons_succ]
      refine takeL 14 (v := ?_) rfl (by kernel_rfl) (by kernel_rfl) (by kernel_rfl) (fun _ _ _ h => h) ⟨by rfl, ?_⟩ (by assumption) ?_
      rotate_left
      · intro w hS; go_simp <;> with_reducible rfl
      simp only [Act.put, List.setIfInBounds_toArray, List.set_cons_zero, List.set_cons_succ]
      refine skipL 15 rfl (by kernel_rfl) (by kernel_rfl) (by kernel_rfl) (fun _ _ _ h => h) (by rfl) (by assumption) ?_
      simp only [Act.put, List.setIfInBounds_toArray, List.set_cons_zero, List.set_cons_succ]
      refine skipL 16 rfl (by kernel_rfl) (by kernel_rfl) (by kernel_rfl) (fun _ _ _ h => h) (by rfl) (by assumption) ?_
      simp only [Act.put, List.setIfInBounds_toArray, List.set_cons_zero, List.set_cons_succ]
      refine skipL 17 rfl (by kernel_rfl) (by kernel_rfl) (by kernel_rfl) (fun _ _ _ h => h) (by rfl) (by assumption) ?_
      simp only [Act.put, List.setIfInBounds_toArray, List.set_cons_zero, List.set_cons_succ]
      refine skipL 18 rfl (by kernel_rfl) (by kernel_rfl) (by kernel_rfl) (fun _ _ _ h => h) (by rfl) (by assumption) ?_
      simp only [Act.put, List.setIfInBounds_toArray, List.set_cons_zero, List.set_cons_succ]
      refine skipL 19 rfl (by kernel_rfl) (by kernel_rfl) (by kernel_rfl) (fun _ _ _ h => h) (by rfl) (by assumption) ?_
      simp only [Act.put, List.setIfInBounds_toArray, List.set_cons_zero, List.set_cons_succ]
      refine skipL 20 rfl (by kernel_rfl) (by kernel_rfl) (by kernel_rfl) (fun _ _ _ h => h) (by rfl) (by assumption) ?_
      simp only [Act.put, List.setIfInBounds_toArray, List.set_cons_zero, List.set_cons_succ]
      refine skipL 21 rfl (by kernel_rfl) (by kernel_rfl) (by kernel_rfl) (fun _ _ _ h => h) (by rfl) (by assumption) ?_
      simp only [Act.put, List.setIfInBounds_toArray, List.set_cons_zero, List.set_cons_succ]
      refine takeL 22 (v := ?_) rfl (by kernel_rfl) (by kernel_rfl) (by kernel_rfl) (fun _ _ _ h => h) ⟨by rfl, ?_⟩ (by assumption) ?_
      rotate_left
      · intro w hS; go_simp <;> with_reducible rfl
      simp only [Act.put, List.setIfInBounds_toArray, List.set_cons_zero, List.set_cons_succ]
      refine takeL 23 (v := ?_) rfl (by kernel_rfl) (by kernel_rfl) (by kernel_rfl) (fun _ _ _ h => h) ⟨by rfl, ?_⟩ (by assumption) ?_
      rotate_left
      · intro w hS; go_simp <;> with_reducible rfl
      simp only [Act.put, List.setIfInBounds_toArray, List.set_cons_zero, List.set_cons_succ]
      refine takeL 24 (v := ?_) rfl (by kernel_rfl) (by kernel_rfl) (by kernel_rfl) (fun _ _ _ h => h) ⟨by rfl, ?_⟩ (by assumption) ?_
      rotate_left
      · intro w hS; go_simp <;> with_reducible rfl
      simp only [Act.put, List.setIfInBounds_toArray, List.set_cons_zero, List.set_cons_succ]
      refine takeL 25 (v := ?_) rfl (by kernel_rfl) (by kernel_rfl) (by kernel_rfl) (fun _ _ _ h => h) ⟨by rfl, ?_⟩ (by assumption) ?_
      rotate_left
      · intro w hS; have fa := KA.at hS; have f1 := fa 0; have f2 := fa 1; have f3 := fa 2; clear fa; have fb := KB.at hS; have f4 := fb 0; have f5 := fb 1; have f6 := fb 2; clear fb; have fd := KF.at hS; have f10 := fd 0; clear fd; go_simp <;> with_reducible rfl
      simp only [Act.put, List.setIfInBounds_toArray, List.set_cons_zero, List.set_cons_succ]
      refine takeL 26 (v := ?_) rfl (by kernel_rfl) (by kernel_rfl) (by kernel_rfl) (fun _ _ _ h => h) ⟨by rfl, ?_⟩ (by assumption) ?_
      rotate_left
      · intro w hS; have fa := KA.at hS; have f1 := fa 0; have f2 := fa 1; have f3 := fa 2; clear fa; have fb := KB.at hS; have f4 := fb 0; have f5 := fb 1; have f6 := fb 2; clear fb; have fd := KF.at hS; have f10 := fd 0; clear fd; go_simp <;> with_reducible rfl
      simp only [Act.put, List.setIfInBounds_toArray, List.set_cons_zero, List.set_cons_succ]
      refine takeL 28 (v := ?_) rfl (by kernel_rfl) (by kernel_rfl) (by kernel_rfl) (fun _ _ _ h => h) ⟨by rfl, ?_⟩ (by assumption) ?_
      rotate_left
      · intro w hS; go_simp <;> with_reducible rfl
      simp only [Act.put, List.setIfInBounds_toArray, List.set_cons_zero, List.set_cons_succ]
      refine oneL 27 rfl (by kernel_rfl) (by rfl) (fun K hK => ?_)
      go_simp
      go_at_call 45
      (with_reducible refine (xm_Degree p _ r m xs _ HP.out (mA.next hHeld) HFdA.out ELA.out (by omega) e HDG.out).mono ?_); rintro e9 y9 ⟨rfl, c9⟩
      refine hK.out _ _ (hHeld.trans (c9.mono hHeld.size)) (fun hHeld => ?_)
      clear hK K
      try simp only [Act.put, List.setIfInBounds_toArray, List.set_cons_zero, List.set_cons_succ]
      refine takeL 29 (v := ?_) rfl (by kernel_rfl) (by kernel_rfl) (by kernel_rfl) (fun _ _ _ h => h) ⟨by rfl, ?_⟩ (by assumption) ?_
      rotate_left
      · intro w hS; go_simp <;> with_reducible rfl
      simp only [Act.put, List.setIfInBounds_toArray, List.set_cons_zero, List.set_cons_succ]
      refine takeL 30 (v := ?_) rfl (by kernel_rfl) (by kernel_rfl) (by kernel_rfl) (fun _ _ _ h => h) ⟨by rfl, ?_⟩ (by assumption) ?_
      rotate_left
      · intro w hS; go_simp <;> with_reducible rfl
      simp only [Act.put, List.setIfInBounds_toArray, List.set_cons_zero, List.set_cons_succ]
      refine takeL 31 (v := ?_) rfl (by kernel_rfl) (by kernel_rfl) (by kernel_rfl) (fun _ _ _ h => h) ⟨by rfl, ?_⟩ (by assumption) ?_
      rotate_left
      · intro w hS; go_simp <;> with_reducible rfl
      simp only [Act.put, List.setIfInBounds_toArray, List.set_cons_zero, List.set_cons_succ]
      refine doneL (by kernel_rfl) ?_ _
      replace B0 := B0.trans (hHeld.mono B0.size)
      clear hHeld
      clear mA mB KA KB KF KS KM mT KT mX KX
      go_wp2
      go_ret
      exact ⟨rfl, B0⟩

set_option maxHeartbeats 1000000 in
theorem walk (x0 : Nat) (v : Value) (R1 C1 : Int) (xs : List (List Nat)) (u : Value) (R2 C2 : Int) (ys : List (List Nat)) (w : World) (mA : Xm w v R1 C1 xs) (mB : Xm w u R2 C2 ys) : Calls Try.prog 7 #[.int .u8 x0, v, u] w (LawOk w) := by
  by_cases hf : Fwx 3 4 R1 C1 xs
  · by_cases hg : Fwx 3 4 R2 C2 ys
    · by_cases hs : Fd R1 C1 xs.length
      · obtain ⟨r, m, e1, e2, h3, h4, h5⟩ := hs.nat
        subst e1 e2
        have hr : r ≤ 3 := by have := hf.1; omega
        have hm : m ≤ 3 := by have := hf.2.1; omega
        by_cases ht : Fd R2 C2 ys.length
        · obtain ⟨k, c, e1, e2, k3, k4, k5⟩ := ht.nat
          subst e1 e2
          have hk : k ≤ 3 := by have := hg.1; omega
          have hc : c ≤ 3 := by have := hg.2.1; omega
          by_cases h1 : r = k
          · by_cases h2 : m = c
            · by_cases h3 : m = k
              · subst h1 h2 h3
                exact gTT x0 m v xs u ys w mA mB hf hg hr hr h5 k5
              · subst h1 h2
                exact gTF x0 r m v xs u ys w mA mB hf hg hr hm h5 k5 h3
            · by_cases h3 : m = k
              · subst h1 h3
                exact gFT2 x0 m c v xs u ys w mA mB hf hg hr hr h5 k5 hc h2
              · subst h1
                exact gFF2 x0 r m c v xs u ys w mA mB hf hg hr hm h5 k5 hc h2 h3
          · by_cases h3 : m = k
            · subst h3
              exact gFT1 x0 r m c v xs u ys w mA mB hf hg hr hm h5 k5 hc h1
            · exact gFF1 x0 r m k c v xs u ys w mA mB hf hg hr hm h5 k5 hk hc h1 h3
        · exact gN x0 r m R2 C2 v xs u ys w mA mB hf hg hr hm h5 ht
      · exact bad x0 v R1 C1 xs u R2 C2 ys w mA mB hf hg hs
    · exact not_few2 x0 v R1 C1 xs u R2 C2 ys w mA mB hf hg
  · exact not_few1 x0 v R1 C1 xs u R2 C2 ys w mA mB hf

set_option maxRecDepth 100000 in
theorem lifted (os : Os) (started : os.Started) (H : Type) (enc : TypeId × Value → H) :
    ReturnsInHanded {} Try.checked os 7 .any (Rows.xmatReckonsSpec.pre6 enc Try.prog Try.f7 Rows.xmatReckonsRow.domain false) (Rows.xmatReckonsSpec.post enc Try.prog Try.f7 false true false false) := by
  refine returnsInHanded_of_change (C := Try.checked) own started (by kernel_rfl) Try.func7
    (ChangeSpec.witness6 (enc := enc) (C := Try.checked) false ⟨#[], #[.int .u8 0, .agg #[.int .i64 0, .int .i64 0, .slice none 0 0], .agg #[.int .i64 0, .int .i64 0, .slice none 0 0]], []⟩ 8 (by kernel_rfl) (by kernel_rfl) (by kernel_rfl) (by kernel_rfl)) ?_
  intro W base args ds gs before hval0 hW hcnd _
  have hval : ∀ (j : Nat) t v, Try.f7.params[j]? = some t → args[j]? = some v → Value.okWide Try.prog W .any base t v := hval0
  have hW' := hW
  obtain ⟨p, q, hA0, hV, rfl, hfz, hnd⟩ := hW
  have hA : DataW.TrodAll enc Try.prog W 0 (fun _ => true) true Try.f7.params.toList args.toList ds p := hA0
  rw [Try.params7] at hA hval
  obtain ⟨v0, vs0, d0, ds0, p0, q0, hargs, rfl, rfl, h0, r0⟩ := trodAll_cons hA
  obtain ⟨v1, vs1, d1, ds1, p1, q1, rfl, rfl, rfl, h1, r1⟩ := trodAll_cons r0
  obtain ⟨v2, vs2, d2, ds2, p2, q2, rfl, rfl, rfl, h2, r2⟩ := trodAll_cons r1
  obtain ⟨rfl, rfl, rfl⟩ := trodAll_nil r2
  obtain rfl : args = #[v0, v1, v2] := by cases args; simp_all
  obtain ⟨rfl, rfl⟩ := trodVars_none hV
  have k0 := h0
  have lt0 : ∀ x ∈ p0, x.block < W.heap.size := by obtain ⟨m, hm⟩ := k0; exact DataW.trod_lt m _ _ _ hm
  obtain ⟨i0, rfl, rfl, rfl, wi0⟩ := open_int Try.underlying5 (hval 0 5 v0 rfl rfl) h0
  obtain ⟨x0, rfl⟩ := Int.eq_ofNat_of_zero_le (wf_u8_bounds wi0).1
  have k1 := h1
  have lt1 : ∀ x ∈ p1, x.block < W.heap.size := by obtain ⟨m, hm⟩ := k1; exact DataW.trod_lt m _ _ _ hm
  obtain ⟨R1, C1, xs1, m1, rb1, cb1⟩ := open_xm (hval 1 24 v1 rfl rfl) h1
  have k2 := h2
  have lt2 : ∀ x ∈ p2, x.block < W.heap.size := by obtain ⟨m, hm⟩ := k2; exact DataW.trod_lt m _ _ _ hm
  obtain ⟨R2, C2, xs2, m2, rb2, cb2⟩ := open_xm (hval 2 24 v2 rfl rfl) h2
  clear hA0 hval0
  refine (walk x0 v1 R1 C1 xs1 v2 R2 C2 xs2 W  m1 m2).mono fun e W' ⟨he, bel⟩ => ?_
  subst he
  exact ⟨_, rfl, _, _, _, [], _, [], hW', trodAll_mk1 (shut_bool Try.underlying4 _), (trodAll_cons_mk (Below.trod laidOut (by kernel_rfl) (of_decide_eq_true (by kernel_rfl)) k0 bel lt0) (trodAll_cons_mk (Below.trod laidOut (by kernel_rfl) (of_decide_eq_true (by kernel_rfl)) k1 bel lt1) (trodAll_cons_mk (Below.trod laidOut (by kernel_rfl) (of_decide_eq_true (by kernel_rfl)) k2 bel lt2) trodAll_mk0))), rfl, bel.frame _, fun h => by cases h⟩

theorem over : Rows.xmatReckonsRow.holds Try.pinned (OpenSpec.ofChange Rows.xmatReckonsSpec) :=
  OpenClaim.holds_of_wide 7 Try.f7 rfl rfl rfl rfl rfl rfl rfl ⟨rfl, rfl, rfl, rfl, rfl⟩ rfl rfl rfl rfl rfl (by kernel_rfl) Try.func7 (by kernel_rfl)
    (of_decide_eq_true (by kernel_rfl)) (by unfold Func.isWrapper; first | (rw [if_pos (by decide +kernel)]; kernel_rfl) | (rw [if_neg (by decide +kernel)]; exact ⟨rfl, rfl⟩))
    (fun os started H enc _ => lifted os started H enc)

theorem proved : Rows.XmatReckonsSaid := over
#print axioms proved
end Go.Proofs.Ythghdjpjbngllaa.xmatReckons
