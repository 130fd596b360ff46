/- XmatEvals: for every number and two matrices of polynomials the law returns true: the values of sums and products are those of the values. No condition. -/
import Derived.Test.YthghdjpjbngllaaRows
import Derived.Test.YthghdjpjbngllaaZeXplain
namespace Go.Proofs.Ythghdjpjbngllaa.xmatEvals
open Go.ChangeShapes Go.WideShapes Go.ChangeAt Go.RowKit
open Go.ChangeMaps (open_string shut_string)

theorem own : ownKnob Try.prog.godebug = none := by kernel_rfl
theorem laidOut : laidOutB Try.prog = true := by kernel_rfl

set_option maxRecDepth 20000 in
set_option maxHeartbeats 4000000 in
theorem not_few1 (x0 : Nat) (v : Value) (R1 C1 : Int) (xs : List (List Nat)) (u : Value) (R2 C2 : Int) (ys : List (List Nat)) (w : World) (mA : Xm w v R1 C1 xs) (mB : Xm w u R2 C2 ys) (hf : ¬ Fwx 3 4 R1 C1 xs) :
    Calls Try.prog 6 #[.int .u8 x0, v, u] w (LawOk w) := by
  obtain ⟨aA, cA, rfl⟩ := mA.agg
  obtain ⟨aB, cB, rfl⟩ := mB.agg
  obtain ⟨wb, ew, KA, KB, B0, hsz⟩ := boxes2 w 24 24 [.int .i64 R1, .int .i64 C1, .slice aA xs.length cA] [.int .i64 R2, .int .i64 C2, .slice aB ys.length cB]
  clear hsz
  replace mA := mA.next B0
  replace mB := mB.next B0
  have HF := Lib.hid hf; clear hf
  go_enter Try.func6, Try.ntmps6
  go_upto_region 1 with (fail)
  rw [← ew]
  clear ew
  go_wp2_with fail
  refine (law23_awake _).mono ?_; rintro e w1 ⟨rfl, b1⟩
  replace mA := mA.next b1
  replace mB := mB.next b1
  replace KA := KA.next b1
  replace KB := KB.next b1
  replace B0 := B0.trans (b1.mono B0.size)
  clear b1
  have qKA0 := KA.cell 0
  have qKA1 := KA.cell 1
  have qKA2 := KA.cell 2
  go_wp2_with fail
  refine (rf23_Few _ R1 C1 3 4 xs _ mA false ⟨fun h => absurd h (by decide), fun h => absurd h HF.out⟩).mono ?_; rintro e w2 ⟨rfl, b2⟩
  clear qKA0 qKA1 qKA2
  replace mA := mA.next b2
  replace mB := mB.next b2
  replace KA := KA.next b2
  replace KB := KB.next b2
  replace B0 := B0.trans (b2.mono B0.size)
  clear b2
  clear mA mB
  go_wp2_with fail
  refine (law23_awake _).mono ?_; rintro e w3 ⟨rfl, b3⟩
  replace KA := KA.next b3
  replace B0 := B0.trans (b3.mono B0.size)
  clear b3
  go_wp2
  go_ret
  exact ⟨rfl, B0⟩

set_option maxRecDepth 20000 in
set_option maxHeartbeats 4000000 in
theorem not_few2 (x0 : Nat) (v : Value) (R1 C1 : Int) (xs : List (List Nat)) (u : Value) (R2 C2 : Int) (ys : List (List Nat)) (w : World) (mA : Xm w v R1 C1 xs) (mB : Xm w u R2 C2 ys) (hf : Fwx 3 4 R1 C1 xs) (hg : ¬ Fwx 3 4 R2 C2 ys) :
    Calls Try.prog 6 #[.int .u8 x0, v, u] w (LawOk w) := by
  obtain ⟨aA, cA, rfl⟩ := mA.agg
  obtain ⟨aB, cB, rfl⟩ := mB.agg
  obtain ⟨wb, ew, KA, KB, B0, hsz⟩ := boxes2 w 24 24 [.int .i64 R1, .int .i64 C1, .slice aA xs.length cA] [.int .i64 R2, .int .i64 C2, .slice aB ys.length cB]
  clear hsz
  replace mA := mA.next B0
  replace mB := mB.next B0
  have HF := Lib.hid hf; have HG := Lib.hid hg; clear hf hg
  go_enter Try.func6, Try.ntmps6
  go_upto_region 1 with (fail)
  rw [← ew]
  clear ew
  go_wp2_with fail
  refine (law23_awake _).mono ?_; rintro e w1 ⟨rfl, b1⟩
  replace mA := mA.next b1
  replace mB := mB.next b1
  replace KA := KA.next b1
  replace KB := KB.next b1
  replace B0 := B0.trans (b1.mono B0.size)
  clear b1
  have qKA0 := KA.cell 0
  have qKA1 := KA.cell 1
  have qKA2 := KA.cell 2
  go_wp2_with fail
  refine (rf23_Few _ R1 C1 3 4 xs _ mA true ⟨fun _ => HF.out, fun _ => rfl⟩).mono ?_; rintro e w2 ⟨rfl, b2⟩
  clear qKA0 qKA1 qKA2
  replace mA := mA.next b2
  replace mB := mB.next b2
  replace KA := KA.next b2
  replace KB := KB.next b2
  replace B0 := B0.trans (b2.mono B0.size)
  clear b2
  have qKB0 := KB.cell 0
  have qKB1 := KB.cell 1
  have qKB2 := KB.cell 2
  go_wp2_with fail
  refine (rf23_Few _ R2 C2 3 4 ys _ mB false ⟨fun h => absurd h (by decide), fun h => absurd h HG.out⟩).mono ?_; rintro e w3 ⟨rfl, b3⟩
  clear qKB0 qKB1 qKB2
  replace mA := mA.next b3
  replace mB := mB.next b3
  replace KA := KA.next b3
  replace KB := KB.next b3
  replace B0 := B0.trans (b3.mono B0.size)
  clear b3
  clear mA mB
  go_wp2_with fail
  refine (law23_awake _).mono ?_; rintro e w4 ⟨rfl, b4⟩
  replace KA := KA.next b4
  replace B0 := B0.trans (b4.mono B0.size)
  clear b4
  go_wp2
  go_ret
  exact ⟨rfl, B0⟩

set_option maxRecDepth 20000 in
set_option maxHeartbeats 4000000 in
theorem noA (x0 : Nat) (R1 C1 R2 C2 : Int) (v : Value) (xs : List (List Nat)) (u : Value) (ys : List (List Nat)) (w : World) (hx0 : x0 < 256) (mA : Xm w v R1 C1 xs) (mB : Xm w u R2 C2 ys) (hfA : Fwx 3 4 R1 C1 xs) (hfB : Fwx 3 4 R2 C2 ys) (hnA : ¬ Fd R1 C1 xs.length) (hnB : ¬ Fd R2 C2 ys.length) :
    Calls Try.prog 6 #[.int .u8 x0, v, u] w (LawOk w) := by
  obtain ⟨p, ep⟩ : ∃ p, p = Ps (x0 % 12) := ⟨_, rfl⟩
  have hp : FP p := by rw [ep]; exact Ps_FP (by omega)
  have ht : Trial p := by rw [ep]; exact Ps_trial (by omega)
  have cOf : ∀ w : World, Calls Try.prog 17 #[.int .u8 x0] w fun e w' => e = .returned (.agg #[.int .u64 (p : Nat)]) ∧ Below w.heap.size w w' := fun w => by rw [ep]; exact law9_Of x0 w
  have cP : ∀ w : World, Calls Try.prog 18 #[.int .u8 x0] w fun e w' => e = .returned (.int .u64 (p : Nat)) ∧ w = w' := fun w => by rw [ep]; exact ref8_P x0 w
  have hp2 := hp.1
  have hp3 := hp.2
  have HP := Lib.hid hp; have HT := Lib.hid ht; have COF := Lib.hid cOf; have CP := Lib.hid cP
  clear hp ht cOf cP ep
  obtain ⟨aA, cA, rfl⟩ := mA.agg
  obtain ⟨aB, cB, rfl⟩ := mB.agg
  obtain ⟨wb, ew, KA, KB, B0, hsz⟩ := boxes2 w 24 24 [.int .i64 R1, .int .i64 C1, .slice aA xs.length cA] [.int .i64 R2, .int .i64 C2, .slice aB ys.length cB]
  clear hsz
  replace mA := mA.next B0
  replace mB := mB.next B0
  obtain ⟨y, ey⟩ : ∃ y, y = x0 * 7 := ⟨_, rfl⟩
  have hy1 : IntKind.u64.wrap (x0 : Int) = (x0 : Int) := wrap_u64 _ (by omega)
  have hy2 : IntKind.u64.wrap ((x0 : Int) * 7) = (y : Int) := by
    rw [show (x0 : Int) * 7 = ((y : Nat) : Int) by rw [ey]; omega]; exact wrap_u64 _ (by omega)
  clear ey
  have HNA := Lib.hid hnA; clear hnA
  have HNB := Lib.hid hnB; clear hnB
  have HF := Lib.hid hfA; have HG := Lib.hid hfB; clear hfA hfB
  go_enter Try.func6, Try.ntmps6
  go_upto_region 1 with (fail)
  rw [← ew]
  clear ew
  go_wp2_with fail
  refine (law23_awake _).mono ?_; rintro e w1 ⟨rfl, b1⟩
  replace mA := mA.next b1
  replace mB := mB.next b1
  replace KA := KA.next b1
  replace KB := KB.next b1
  replace B0 := B0.trans (b1.mono B0.size)
  clear b1
  have qKA0 := KA.cell 0
  have qKA1 := KA.cell 1
  have qKA2 := KA.cell 2
  go_wp2_with fail
  refine (rf23_Few _ R1 C1 3 4 xs _ mA true ⟨fun _ => HF.out, fun _ => rfl⟩).mono ?_; rintro e w2 ⟨rfl, b2⟩
  clear qKA0 qKA1 qKA2
  replace mA := mA.next b2
  replace mB := mB.next b2
  replace KA := KA.next b2
  replace KB := KB.next b2
  replace B0 := B0.trans (b2.mono B0.size)
  clear b2
  have qKB0 := KB.cell 0
  have qKB1 := KB.cell 1
  have qKB2 := KB.cell 2
  go_wp2_with fail
  refine (rf23_Few _ R2 C2 3 4 ys _ mB true ⟨fun _ => HG.out, fun _ => rfl⟩).mono ?_; rintro e w3 ⟨rfl, b3⟩
  clear qKB0 qKB1 qKB2
  replace mA := mA.next b3
  replace mB := mB.next b3
  replace KA := KA.next b3
  replace KB := KB.next b3
  replace B0 := B0.trans (b3.mono B0.size)
  clear b3
  go_wp2_with fail
  refine (COF.out _).mono ?_; rintro e w4 ⟨rfl, b4⟩
  replace mA := mA.next b4
  replace mB := mB.next b4
  replace KA := KA.next b4
  replace KB := KB.next b4
  replace B0 := B0.trans (b4.mono B0.size)
  clear b4
  go_wp2_with fail
  refine (CP.out _).mono ?_; rintro e wx ⟨rfl, rfl⟩
  obtain ⟨w5, e5, KF, b5, hs5⟩ := boxes1 w4 29 [.int .u64 p]
  clear hs5
  replace mA := mA.next b5
  replace mB := mB.next b5
  replace KA := KA.next b5
  replace KB := KB.next b5
  replace B0 := B0.trans (b5.mono B0.size)
  clear b5
  go_upto_region 5 with (fail)
  rw [← e5]
  clear e5
  have qKF0 := KF.cell 0
  have qKA0 := KA.cell 0
  have qKA1 := KA.cell 1
  have qKA2 := KA.cell 2
  go_wp2_with fail
  refine (xm_Eval_bad p y _ R1 C1 xs _ mA HNA.out).mono ?_; rintro e w6 ⟨rfl, b6⟩
  clear qKF0 qKA0 qKA1 qKA2
  replace mA := mA.next b6
  replace mB := mB.next b6
  replace KA := KA.next b6
  replace KB := KB.next b6
  replace KF := KF.next b6
  replace B0 := B0.trans (b6.mono B0.size)
  clear b6
  obtain ⟨w7, e7, KV, b7, hs7⟩ := boxes1 w6 42 [.int .i64 0, .int .i64 0, .slice none 0 0]
  clear hs7
  replace mA := mA.next b7
  replace mB := mB.next b7
  replace KA := KA.next b7
  replace KB := KB.next b7
  replace KF := KF.next b7
  replace B0 := B0.trans (b7.mono B0.size)
  clear b7
  go_upto_region 6 with (fail)
  rw [← e7]
  clear e7
  have qKF0 := KF.cell 0
  have qKB0 := KB.cell 0
  have qKB1 := KB.cell 1
  have qKB2 := KB.cell 2
  go_wp2_with fail
  refine (xm_Eval_bad p y _ R2 C2 ys _ mB HNB.out).mono ?_; rintro e w8 ⟨rfl, b8⟩
  clear qKF0 qKB0 qKB1 qKB2
  replace mA := mA.next b8
  replace mB := mB.next b8
  replace KA := KA.next b8
  replace KB := KB.next b8
  replace KF := KF.next b8
  replace KV := KV.next b8
  replace B0 := B0.trans (b8.mono B0.size)
  clear b8
  obtain ⟨w9, e9, KW, b9, hs9⟩ := boxes1 w8 42 [.int .i64 0, .int .i64 0, .slice none 0 0]
  clear hs9
  replace mA := mA.next b9
  replace mB := mB.next b9
  replace KA := KA.next b9
  replace KB := KB.next b9
  replace KF := KF.next b9
  replace KV := KV.next b9
  replace B0 := B0.trans (b9.mono B0.size)
  clear b9
  go_upto_region 7 with (fail)
  rw [← e9]
  clear e9
  have qKF0 := KF.cell 0
  have qKA0 := KA.cell 0
  have qKA1 := KA.cell 1
  have qKA2 := KA.cell 2
  have qKB0 := KB.cell 0
  have qKB1 := KB.cell 1
  have qKB2 := KB.cell 2
  go_wp2_with fail
  refine (xm_Mul_bad p _ _ R1 C1 R2 C2 xs ys _ mA mB (fun h => HNA.out h.1)).mono ?_; rintro e w10 ⟨rfl, b10⟩
  clear qKF0 qKA0 qKA1 qKA2 qKB0 qKB1 qKB2
  replace mA := mA.next b10
  replace mB := mB.next b10
  replace KA := KA.next b10
  replace KB := KB.next b10
  replace KF := KF.next b10
  replace KV := KV.next b10
  replace KW := KW.next b10
  replace B0 := B0.trans (b10.mono B0.size)
  clear b10
  obtain ⟨w11, e11, KM, b11, hs11⟩ := boxes1 w10 24 [.int .i64 0, .int .i64 0, .slice none 0 0]
  clear hs11
  replace mA := mA.next b11
  replace mB := mB.next b11
  replace KA := KA.next b11
  replace KB := KB.next b11
  replace KF := KF.next b11
  replace KV := KV.next b11
  replace KW := KW.next b11
  replace B0 := B0.trans (b11.mono B0.size)
  clear b11
  go_upto_region 9 with (fail)
  rw [← e11]
  clear e11
  have qKA0 := KA.cell 0
  have qKA1 := KA.cell 1
  have qKA2 := KA.cell 2
  go_wp2_with fail
  refine (rf23_Formed _ R1 C1 xs _ mA false (decide_eq_false HNA.out).symm).mono ?_; rintro e w12 ⟨rfl, b12⟩
  clear qKA0 qKA1 qKA2
  replace mA := mA.next b12
  replace mB := mB.next b12
  replace KA := KA.next b12
  replace KB := KB.next b12
  replace KF := KF.next b12
  replace KV := KV.next b12
  replace KW := KW.next b12
  replace KM := KM.next b12
  replace B0 := B0.trans (b12.mono B0.size)
  clear b12
  have qKB0 := KB.cell 0
  have qKB1 := KB.cell 1
  have qKB2 := KB.cell 2
  go_wp2_with fail
  refine (rf23_Formed _ R2 C2 ys _ mB false (decide_eq_false HNB.out).symm).mono ?_; rintro e w13 ⟨rfl, b13⟩
  clear qKB0 qKB1 qKB2
  replace mA := mA.next b13
  replace mB := mB.next b13
  replace KA := KA.next b13
  replace KB := KB.next b13
  replace KF := KF.next b13
  replace KV := KV.next b13
  replace KW := KW.next b13
  replace KM := KM.next b13
  replace B0 := B0.trans (b13.mono B0.size)
  clear b13
  go_wp2
  go_ret
  exact ⟨rfl, B0⟩

set_option maxRecDepth 20000 in
set_option maxHeartbeats 4000000 in
theorem noAB (x0 : Nat) (R1 C1 : Int) (r2 c2 : Nat) (v : Value) (xs : List (List Nat)) (u : Value) (ys : List (List Nat)) (w : World) (hx0 : x0 < 256) (mA : Xm w v R1 C1 xs) (mB : Xm w u r2 c2 ys) (hfA : Fwx 3 4 R1 C1 xs) (hfB : Fwx 3 4 r2 c2 ys) (hnA : ¬ Fd R1 C1 xs.length) (hr2 : r2 ≤ 3) (hc2 : c2 ≤ 3) (hxB : ys.length = r2 * c2) :
    Calls Try.prog 6 #[.int .u8 x0, v, u] w (LawOk w) := by
  obtain ⟨p, ep⟩ : ∃ p, p = Ps (x0 % 12) := ⟨_, rfl⟩
  have hp : FP p := by rw [ep]; exact Ps_FP (by omega)
  have ht : Trial p := by rw [ep]; exact Ps_trial (by omega)
  have cOf : ∀ w : World, Calls Try.prog 17 #[.int .u8 x0] w fun e w' => e = .returned (.agg #[.int .u64 (p : Nat)]) ∧ Below w.heap.size w w' := fun w => by rw [ep]; exact law9_Of x0 w
  have cP : ∀ w : World, Calls Try.prog 18 #[.int .u8 x0] w fun e w' => e = .returned (.int .u64 (p : Nat)) ∧ w = w' := fun w => by rw [ep]; exact ref8_P x0 w
  have hp2 := hp.1
  have hp3 := hp.2
  have HP := Lib.hid hp; have HT := Lib.hid ht; have COF := Lib.hid cOf; have CP := Lib.hid cP
  clear hp ht cOf cP ep
  obtain ⟨aA, cA, rfl⟩ := mA.agg
  obtain ⟨aB, cB, rfl⟩ := mB.agg
  obtain ⟨wb, ew, KA, KB, B0, hsz⟩ := boxes2 w 24 24 [.int .i64 R1, .int .i64 C1, .slice aA xs.length cA] [.int .i64 r2, .int .i64 c2, .slice aB ys.length cB]
  clear hsz
  replace mA := mA.next B0
  replace mB := mB.next B0
  obtain ⟨y, ey⟩ : ∃ y, y = x0 * 7 := ⟨_, rfl⟩
  have hy1 : IntKind.u64.wrap (x0 : Int) = (x0 : Int) := wrap_u64 _ (by omega)
  have hy2 : IntKind.u64.wrap ((x0 : Int) * 7) = (y : Int) := by
    rw [show (x0 : Int) * 7 = ((y : Nat) : Int) by rw [ey]; omega]; exact wrap_u64 _ (by omega)
  clear ey
  have HNA := Lib.hid hnA; clear hnA
  have HXB := Lib.hid hxB
  have hlB : ∀ j, j < ys.length → (ys.getD j []).length ≤ 4 := fun j hj => by have := hfB.2.2.2 j hj; omega
  have HLB := Lib.hid hlB
  have HFdB := Lib.hid (Fd.of (show r2 ≤ 64 by omega) (show c2 ≤ 64 by omega) HXB.out)
  clear hxB hlB
  have HF := Lib.hid hfA; have HG := Lib.hid hfB; clear hfA hfB
  go_enter Try.func6, Try.ntmps6
  go_upto_region 1 with (fail)
  rw [← ew]
  clear ew
  go_wp2_with fail
  refine (law23_awake _).mono ?_; rintro e w1 ⟨rfl, b1⟩
  replace mA := mA.next b1
  replace mB := mB.next b1
  replace KA := KA.next b1
  replace KB := KB.next b1
  replace B0 := B0.trans (b1.mono B0.size)
  clear b1
  have qKA0 := KA.cell 0
  have qKA1 := KA.cell 1
  have qKA2 := KA.cell 2
  go_wp2_with fail
  refine (rf23_Few _ R1 C1 3 4 xs _ mA true ⟨fun _ => HF.out, fun _ => rfl⟩).mono ?_; rintro e w2 ⟨rfl, b2⟩
  clear qKA0 qKA1 qKA2
  replace mA := mA.next b2
  replace mB := mB.next b2
  replace KA := KA.next b2
  replace KB := KB.next b2
  replace B0 := B0.trans (b2.mono B0.size)
  clear b2
  have qKB0 := KB.cell 0
  have qKB1 := KB.cell 1
  have qKB2 := KB.cell 2
  go_wp2_with fail
  refine (rf23_Few _ r2 c2 3 4 ys _ mB true ⟨fun _ => HG.out, fun _ => rfl⟩).mono ?_; rintro e w3 ⟨rfl, b3⟩
  clear qKB0 qKB1 qKB2
  replace mA := mA.next b3
  replace mB := mB.next b3
  replace KA := KA.next b3
  replace KB := KB.next b3
  replace B0 := B0.trans (b3.mono B0.size)
  clear b3
  go_wp2_with fail
  refine (COF.out _).mono ?_; rintro e w4 ⟨rfl, b4⟩
  replace mA := mA.next b4
  replace mB := mB.next b4
  replace KA := KA.next b4
  replace KB := KB.next b4
  replace B0 := B0.trans (b4.mono B0.size)
  clear b4
  go_wp2_with fail
  refine (CP.out _).mono ?_; rintro e wx ⟨rfl, rfl⟩
  obtain ⟨w5, e5, KF, b5, hs5⟩ := boxes1 w4 29 [.int .u64 p]
  clear hs5
  replace mA := mA.next b5
  replace mB := mB.next b5
  replace KA := KA.next b5
  replace KB := KB.next b5
  replace B0 := B0.trans (b5.mono B0.size)
  clear b5
  go_upto_region 5 with (fail)
  rw [← e5]
  clear e5
  have qKF0 := KF.cell 0
  have qKA0 := KA.cell 0
  have qKA1 := KA.cell 1
  have qKA2 := KA.cell 2
  go_wp2_with fail
  refine (xm_Eval_bad p y _ R1 C1 xs _ mA HNA.out).mono ?_; rintro e w6 ⟨rfl, b6⟩
  clear qKF0 qKA0 qKA1 qKA2
  replace mA := mA.next b6
  replace mB := mB.next b6
  replace KA := KA.next b6
  replace KB := KB.next b6
  replace KF := KF.next b6
  replace B0 := B0.trans (b6.mono B0.size)
  clear b6
  obtain ⟨w7, e7, KV, b7, hs7⟩ := boxes1 w6 42 [.int .i64 0, .int .i64 0, .slice none 0 0]
  clear hs7
  replace mA := mA.next b7
  replace mB := mB.next b7
  replace KA := KA.next b7
  replace KB := KB.next b7
  replace KF := KF.next b7
  replace B0 := B0.trans (b7.mono B0.size)
  clear b7
  go_upto_region 6 with (fail)
  rw [← e7]
  clear e7
  have qKF0 := KF.cell 0
  have qKB0 := KB.cell 0
  have qKB1 := KB.cell 1
  have qKB2 := KB.cell 2
  go_wp2_with fail
  refine (xm_Eval p y _ r2 c2 ys _ HP.out mB (by omega) (by omega) HXB.out (fun j hj => by have := HLB.out j (by rw [HXB.out]; exact hj); omega)).mono ?_; rintro e w8 ⟨a8, k8, rfl, o8, b8⟩
  clear qKF0 qKB0 qKB1 qKB2
  replace mA := mA.next b8
  replace mB := mB.next b8
  replace KA := KA.next b8
  replace KB := KB.next b8
  replace KF := KF.next b8
  replace KV := KV.next b8
  replace B0 := B0.trans (b8.mono B0.size)
  clear b8
  obtain ⟨V2, eV2⟩ : ∃ V2, V2 = xev p y r2 c2 ys := ⟨_, rfl⟩
  rw [← eV2] at o8 ⊢
  have EV2 := Lib.hid eV2; clear eV2
  have mW : Fm w8 (.agg #[.int .i64 r2, .int .i64 c2, .slice a8 (tbv V2).length k8]) r2 c2 (tbv V2) := ⟨_, rfl, o8.sl⟩
  clear o8
  obtain ⟨w9, e9, KW, b9, hs9⟩ := boxes1 w8 42 [.int .i64 r2, .int .i64 c2, .slice a8 (tbv V2).length k8]
  clear hs9
  replace mA := mA.next b9
  replace mB := mB.next b9
  replace KA := KA.next b9
  replace KB := KB.next b9
  replace KF := KF.next b9
  replace KV := KV.next b9
  replace mW := mW.next b9
  replace B0 := B0.trans (b9.mono B0.size)
  clear b9
  go_upto_region 7 with (fail)
  rw [← e9]
  clear e9
  have qKF0 := KF.cell 0
  have qKA0 := KA.cell 0
  have qKA1 := KA.cell 1
  have qKA2 := KA.cell 2
  have qKB0 := KB.cell 0
  have qKB1 := KB.cell 1
  have qKB2 := KB.cell 2
  go_wp2_with fail
  refine (xm_Mul_bad p _ _ R1 C1 r2 c2 xs ys _ mA mB (fun h => HNA.out h.1)).mono ?_; rintro e w10 ⟨rfl, b10⟩
  clear qKF0 qKA0 qKA1 qKA2 qKB0 qKB1 qKB2
  replace mA := mA.next b10
  replace mB := mB.next b10
  replace KA := KA.next b10
  replace KB := KB.next b10
  replace KF := KF.next b10
  replace KV := KV.next b10
  replace mW := mW.next b10
  replace KW := KW.next b10
  replace B0 := B0.trans (b10.mono B0.size)
  clear b10
  obtain ⟨w11, e11, KM, b11, hs11⟩ := boxes1 w10 24 [.int .i64 0, .int .i64 0, .slice none 0 0]
  clear hs11
  replace mA := mA.next b11
  replace mB := mB.next b11
  replace KA := KA.next b11
  replace KB := KB.next b11
  replace KF := KF.next b11
  replace KV := KV.next b11
  replace mW := mW.next b11
  replace KW := KW.next b11
  replace B0 := B0.trans (b11.mono B0.size)
  clear b11
  go_upto_region 9 with (fail)
  rw [← e11]
  clear e11
  have qKA0 := KA.cell 0
  have qKA1 := KA.cell 1
  have qKA2 := KA.cell 2
  go_wp2_with fail
  refine (rf23_Formed _ R1 C1 xs _ mA false (decide_eq_false HNA.out).symm).mono ?_; rintro e w12 ⟨rfl, b12⟩
  clear qKA0 qKA1 qKA2
  replace mA := mA.next b12
  replace mB := mB.next b12
  replace KA := KA.next b12
  replace KB := KB.next b12
  replace KF := KF.next b12
  replace KV := KV.next b12
  replace mW := mW.next b12
  replace KW := KW.next b12
  replace KM := KM.next b12
  replace B0 := B0.trans (b12.mono B0.size)
  clear b12
  have qKB0 := KB.cell 0
  have qKB1 := KB.cell 1
  have qKB2 := KB.cell 2
  go_wp2_with fail
  refine (rf23_Formed _ r2 c2 ys _ mB true (decide_eq_true HFdB.out).symm).mono ?_; rintro e w13 ⟨rfl, b13⟩
  clear qKB0 qKB1 qKB2
  replace mA := mA.next b13
  replace mB := mB.next b13
  replace KA := KA.next b13
  replace KB := KB.next b13
  replace KF := KF.next b13
  replace KV := KV.next b13
  replace mW := mW.next b13
  replace KW := KW.next b13
  replace KM := KM.next b13
  replace B0 := B0.trans (b13.mono B0.size)
  clear b13
  go_wp2
  go_ret
  exact ⟨rfl, B0⟩

set_option maxRecDepth 20000 in
set_option maxHeartbeats 4000000 in
theorem noB (x0 : Nat) (r m : Nat) (R2 C2 : Int) (v : Value) (xs : List (List Nat)) (u : Value) (ys : List (List Nat)) (w : World) (hx0 : x0 < 256) (mA : Xm w v r m xs) (mB : Xm w u R2 C2 ys) (hfA : Fwx 3 4 r m xs) (hfB : Fwx 3 4 R2 C2 ys) (hr : r ≤ 3) (hm1 : m ≤ 3) (hxA : xs.length = r * m) (hnB : ¬ Fd R2 C2 ys.length) :
    Calls Try.prog 6 #[.int .u8 x0, v, u] w (LawOk w) := by
  obtain ⟨p, ep⟩ : ∃ p, p = Ps (x0 % 12) := ⟨_, rfl⟩
  have hp : FP p := by rw [ep]; exact Ps_FP (by omega)
  have ht : Trial p := by rw [ep]; exact Ps_trial (by omega)
  have cOf : ∀ w : World, Calls Try.prog 17 #[.int .u8 x0] w fun e w' => e = .returned (.agg #[.int .u64 (p : Nat)]) ∧ Below w.heap.size w w' := fun w => by rw [ep]; exact law9_Of x0 w
  have cP : ∀ w : World, Calls Try.prog 18 #[.int .u8 x0] w fun e w' => e = .returned (.int .u64 (p : Nat)) ∧ w = w' := fun w => by rw [ep]; exact ref8_P x0 w
  have hp2 := hp.1
  have hp3 := hp.2
  have HP := Lib.hid hp; have HT := Lib.hid ht; have COF := Lib.hid cOf; have CP := Lib.hid cP
  clear hp ht cOf cP ep
  obtain ⟨aA, cA, rfl⟩ := mA.agg
  obtain ⟨aB, cB, rfl⟩ := mB.agg
  obtain ⟨wb, ew, KA, KB, B0, hsz⟩ := boxes2 w 24 24 [.int .i64 r, .int .i64 m, .slice aA xs.length cA] [.int .i64 R2, .int .i64 C2, .slice aB ys.length cB]
  clear hsz
  replace mA := mA.next B0
  replace mB := mB.next B0
  obtain ⟨y, ey⟩ : ∃ y, y = x0 * 7 := ⟨_, rfl⟩
  have hy1 : IntKind.u64.wrap (x0 : Int) = (x0 : Int) := wrap_u64 _ (by omega)
  have hy2 : IntKind.u64.wrap ((x0 : Int) * 7) = (y : Int) := by
    rw [show (x0 : Int) * 7 = ((y : Nat) : Int) by rw [ey]; omega]; exact wrap_u64 _ (by omega)
  clear ey
  have HXA := Lib.hid hxA
  have hlA : ∀ j, j < xs.length → (xs.getD j []).length ≤ 4 := fun j hj => by have := hfA.2.2.2 j hj; omega
  have HLA := Lib.hid hlA
  have HFdA := Lib.hid (Fd.of (show r ≤ 64 by omega) (show m ≤ 64 by omega) HXA.out)
  clear hxA hlA
  have HNB := Lib.hid hnB; clear hnB
  have HF := Lib.hid hfA; have HG := Lib.hid hfB; clear hfA hfB
  go_enter Try.func6, Try.ntmps6
  go_upto_region 1 with (fail)
  rw [← ew]
  clear ew
  go_wp2_with fail
  refine (law23_awake _).mono ?_; rintro e w1 ⟨rfl, b1⟩
  replace mA := mA.next b1
  replace mB := mB.next b1
  replace KA := KA.next b1
  replace KB := KB.next b1
  replace B0 := B0.trans (b1.mono B0.size)
  clear b1
  have qKA0 := KA.cell 0
  have qKA1 := KA.cell 1
  have qKA2 := KA.cell 2
  go_wp2_with fail
  refine (rf23_Few _ r m 3 4 xs _ mA true ⟨fun _ => HF.out, fun _ => rfl⟩).mono ?_; rintro e w2 ⟨rfl, b2⟩
  clear qKA0 qKA1 qKA2
  replace mA := mA.next b2
  replace mB := mB.next b2
  replace KA := KA.next b2
  replace KB := KB.next b2
  replace B0 := B0.trans (b2.mono B0.size)
  clear b2
  have qKB0 := KB.cell 0
  have qKB1 := KB.cell 1
  have qKB2 := KB.cell 2
  go_wp2_with fail
  refine (rf23_Few _ R2 C2 3 4 ys _ mB true ⟨fun _ => HG.out, fun _ => rfl⟩).mono ?_; rintro e w3 ⟨rfl, b3⟩
  clear qKB0 qKB1 qKB2
  replace mA := mA.next b3
  replace mB := mB.next b3
  replace KA := KA.next b3
  replace KB := KB.next b3
  replace B0 := B0.trans (b3.mono B0.size)
  clear b3
  go_wp2_with fail
  refine (COF.out _).mono ?_; rintro e w4 ⟨rfl, b4⟩
  replace mA := mA.next b4
  replace mB := mB.next b4
  replace KA := KA.next b4
  replace KB := KB.next b4
  replace B0 := B0.trans (b4.mono B0.size)
  clear b4
  go_wp2_with fail
  refine (CP.out _).mono ?_; rintro e wx ⟨rfl, rfl⟩
  obtain ⟨w5, e5, KF, b5, hs5⟩ := boxes1 w4 29 [.int .u64 p]
  clear hs5
  replace mA := mA.next b5
  replace mB := mB.next b5
  replace KA := KA.next b5
  replace KB := KB.next b5
  replace B0 := B0.trans (b5.mono B0.size)
  clear b5
  go_upto_region 5 with (fail)
  rw [← e5]
  clear e5
  have qKF0 := KF.cell 0
  have qKA0 := KA.cell 0
  have qKA1 := KA.cell 1
  have qKA2 := KA.cell 2
  go_wp2_with fail
  refine (xm_Eval p y _ r m xs _ HP.out mA (by omega) (by omega) HXA.out (fun j hj => by have := HLA.out j (by rw [HXA.out]; exact hj); omega)).mono ?_; rintro e w6 ⟨a6, k6, rfl, o6, b6⟩
  clear qKF0 qKA0 qKA1 qKA2
  replace mA := mA.next b6
  replace mB := mB.next b6
  replace KA := KA.next b6
  replace KB := KB.next b6
  replace KF := KF.next b6
  replace B0 := B0.trans (b6.mono B0.size)
  clear b6
  obtain ⟨V1, eV1⟩ : ∃ V1, V1 = xev p y r m xs := ⟨_, rfl⟩
  rw [← eV1] at o6 ⊢
  have EV1 := Lib.hid eV1; clear eV1
  have mV : Fm w6 (.agg #[.int .i64 r, .int .i64 m, .slice a6 (tbv V1).length k6]) r m (tbv V1) := ⟨_, rfl, o6.sl⟩
  clear o6
  obtain ⟨w7, e7, KV, b7, hs7⟩ := boxes1 w6 42 [.int .i64 r, .int .i64 m, .slice a6 (tbv V1).length k6]
  clear hs7
  replace mA := mA.next b7
  replace mB := mB.next b7
  replace KA := KA.next b7
  replace KB := KB.next b7
  replace KF := KF.next b7
  replace mV := mV.next b7
  replace B0 := B0.trans (b7.mono B0.size)
  clear b7
  go_upto_region 6 with (fail)
  rw [← e7]
  clear e7
  have qKF0 := KF.cell 0
  have qKB0 := KB.cell 0
  have qKB1 := KB.cell 1
  have qKB2 := KB.cell 2
  go_wp2_with fail
  refine (xm_Eval_bad p y _ R2 C2 ys _ mB HNB.out).mono ?_; rintro e w8 ⟨rfl, b8⟩
  clear qKF0 qKB0 qKB1 qKB2
  replace mA := mA.next b8
  replace mB := mB.next b8
  replace KA := KA.next b8
  replace KB := KB.next b8
  replace KF := KF.next b8
  replace mV := mV.next b8
  replace KV := KV.next b8
  replace B0 := B0.trans (b8.mono B0.size)
  clear b8
  obtain ⟨w9, e9, KW, b9, hs9⟩ := boxes1 w8 42 [.int .i64 0, .int .i64 0, .slice none 0 0]
  clear hs9
  replace mA := mA.next b9
  replace mB := mB.next b9
  replace KA := KA.next b9
  replace KB := KB.next b9
  replace KF := KF.next b9
  replace mV := mV.next b9
  replace KV := KV.next b9
  replace B0 := B0.trans (b9.mono B0.size)
  clear b9
  go_upto_region 7 with (fail)
  rw [← e9]
  clear e9
  have qKF0 := KF.cell 0
  have qKA0 := KA.cell 0
  have qKA1 := KA.cell 1
  have qKA2 := KA.cell 2
  have qKB0 := KB.cell 0
  have qKB1 := KB.cell 1
  have qKB2 := KB.cell 2
  go_wp2_with fail
  refine (xm_Mul_bad p _ _ r m R2 C2 xs ys _ mA mB (fun h => HNB.out h.2.1)).mono ?_; rintro e w10 ⟨rfl, b10⟩
  clear qKF0 qKA0 qKA1 qKA2 qKB0 qKB1 qKB2
  replace mA := mA.next b10
  replace mB := mB.next b10
  replace KA := KA.next b10
  replace KB := KB.next b10
  replace KF := KF.next b10
  replace mV := mV.next b10
  replace KV := KV.next b10
  replace KW := KW.next b10
  replace B0 := B0.trans (b10.mono B0.size)
  clear b10
  obtain ⟨w11, e11, KM, b11, hs11⟩ := boxes1 w10 24 [.int .i64 0, .int .i64 0, .slice none 0 0]
  clear hs11
  replace mA := mA.next b11
  replace mB := mB.next b11
  replace KA := KA.next b11
  replace KB := KB.next b11
  replace KF := KF.next b11
  replace mV := mV.next b11
  replace KV := KV.next b11
  replace KW := KW.next b11
  replace B0 := B0.trans (b11.mono B0.size)
  clear b11
  go_upto_region 9 with (fail)
  rw [← e11]
  clear e11
  have qKA0 := KA.cell 0
  have qKA1 := KA.cell 1
  have qKA2 := KA.cell 2
  go_wp2_with fail
  refine (rf23_Formed _ r m xs _ mA true (decide_eq_true HFdA.out).symm).mono ?_; rintro e w12 ⟨rfl, b12⟩
  clear qKA0 qKA1 qKA2
  replace mA := mA.next b12
  replace mB := mB.next b12
  replace KA := KA.next b12
  replace KB := KB.next b12
  replace KF := KF.next b12
  replace mV := mV.next b12
  replace KV := KV.next b12
  replace KW := KW.next b12
  replace KM := KM.next b12
  replace B0 := B0.trans (b12.mono B0.size)
  clear b12
  have qKB0 := KB.cell 0
  have qKB1 := KB.cell 1
  have qKB2 := KB.cell 2
  go_wp2_with fail
  refine (rf23_Formed _ R2 C2 ys _ mB false (decide_eq_false HNB.out).symm).mono ?_; rintro e w13 ⟨rfl, b13⟩
  clear qKB0 qKB1 qKB2
  replace mA := mA.next b13
  replace mB := mB.next b13
  replace KA := KA.next b13
  replace KB := KB.next b13
  replace KF := KF.next b13
  replace mV := mV.next b13
  replace KV := KV.next b13
  replace KW := KW.next b13
  replace KM := KM.next b13
  replace B0 := B0.trans (b13.mono B0.size)
  clear b13
  go_wp2
  go_ret
  exact ⟨rfl, B0⟩

set_option maxRecDepth 20000 in
set_option maxHeartbeats 4000000 in
theorem noM (x0 : Nat) (r m r2 c2 : Nat) (v : Value) (xs : List (List Nat)) (u : Value) (ys : List (List Nat)) (w : World) (hx0 : x0 < 256) (mA : Xm w v r m xs) (mB : Xm w u r2 c2 ys) (hfA : Fwx 3 4 r m xs) (hfB : Fwx 3 4 r2 c2 ys) (hr : r ≤ 3) (hm1 : m ≤ 3) (hr2 : r2 ≤ 3) (hc2 : c2 ≤ 3) (hxA : xs.length = r * m) (hxB : ys.length = r2 * c2) (hm : ¬ (Fd r m xs.length ∧ Fd r2 c2 ys.length ∧ (m : Int) = r2)) :
    Calls Try.prog 6 #[.int .u8 x0, v, u] w (LawOk w) := by
  obtain ⟨p, ep⟩ : ∃ p, p = Ps (x0 % 12) := ⟨_, rfl⟩
  have hp : FP p := by rw [ep]; exact Ps_FP (by omega)
  have ht : Trial p := by rw [ep]; exact Ps_trial (by omega)
  have cOf : ∀ w : World, Calls Try.prog 17 #[.int .u8 x0] w fun e w' => e = .returned (.agg #[.int .u64 (p : Nat)]) ∧ Below w.heap.size w w' := fun w => by rw [ep]; exact law9_Of x0 w
  have cP : ∀ w : World, Calls Try.prog 18 #[.int .u8 x0] w fun e w' => e = .returned (.int .u64 (p : Nat)) ∧ w = w' := fun w => by rw [ep]; exact ref8_P x0 w
  have hp2 := hp.1
  have hp3 := hp.2
  have HP := Lib.hid hp; have HT := Lib.hid ht; have COF := Lib.hid cOf; have CP := Lib.hid cP
  clear hp ht cOf cP ep
  obtain ⟨aA, cA, rfl⟩ := mA.agg
  obtain ⟨aB, cB, rfl⟩ := mB.agg
  obtain ⟨wb, ew, KA, KB, B0, hsz⟩ := boxes2 w 24 24 [.int .i64 r, .int .i64 m, .slice aA xs.length cA] [.int .i64 r2, .int .i64 c2, .slice aB ys.length cB]
  clear hsz
  replace mA := mA.next B0
  replace mB := mB.next B0
  obtain ⟨y, ey⟩ : ∃ y, y = x0 * 7 := ⟨_, rfl⟩
  have hy1 : IntKind.u64.wrap (x0 : Int) = (x0 : Int) := wrap_u64 _ (by omega)
  have hy2 : IntKind.u64.wrap ((x0 : Int) * 7) = (y : Int) := by
    rw [show (x0 : Int) * 7 = ((y : Nat) : Int) by rw [ey]; omega]; exact wrap_u64 _ (by omega)
  clear ey
  have HXA := Lib.hid hxA
  have hlA : ∀ j, j < xs.length → (xs.getD j []).length ≤ 4 := fun j hj => by have := hfA.2.2.2 j hj; omega
  have HLA := Lib.hid hlA
  have HFdA := Lib.hid (Fd.of (show r ≤ 64 by omega) (show m ≤ 64 by omega) HXA.out)
  clear hxA hlA
  have HXB := Lib.hid hxB
  have hlB : ∀ j, j < ys.length → (ys.getD j []).length ≤ 4 := fun j hj => by have := hfB.2.2.2 j hj; omega
  have HLB := Lib.hid hlB
  have HFdB := Lib.hid (Fd.of (show r2 ≤ 64 by omega) (show c2 ≤ 64 by omega) HXB.out)
  clear hxB hlB
  have HF := Lib.hid hfA; have HG := Lib.hid hfB; clear hfA hfB
  have HM := Lib.hid hm; clear hm
  go_enter Try.func6, Try.ntmps6
  go_upto_region 1 with (fail)
  rw [← ew]
  clear ew
  go_wp2_with fail
  refine (law23_awake _).mono ?_; rintro e w1 ⟨rfl, b1⟩
  replace mA := mA.next b1
  replace mB := mB.next b1
  replace KA := KA.next b1
  replace KB := KB.next b1
  replace B0 := B0.trans (b1.mono B0.size)
  clear b1
  have qKA0 := KA.cell 0
  have qKA1 := KA.cell 1
  have qKA2 := KA.cell 2
  go_wp2_with fail
  refine (rf23_Few _ r m 3 4 xs _ mA true ⟨fun _ => HF.out, fun _ => rfl⟩).mono ?_; rintro e w2 ⟨rfl, b2⟩
  clear qKA0 qKA1 qKA2
  replace mA := mA.next b2
  replace mB := mB.next b2
  replace KA := KA.next b2
  replace KB := KB.next b2
  replace B0 := B0.trans (b2.mono B0.size)
  clear b2
  have qKB0 := KB.cell 0
  have qKB1 := KB.cell 1
  have qKB2 := KB.cell 2
  go_wp2_with fail
  refine (rf23_Few _ r2 c2 3 4 ys _ mB true ⟨fun _ => HG.out, fun _ => rfl⟩).mono ?_; rintro e w3 ⟨rfl, b3⟩
  clear qKB0 qKB1 qKB2
  replace mA := mA.next b3
  replace mB := mB.next b3
  replace KA := KA.next b3
  replace KB := KB.next b3
  replace B0 := B0.trans (b3.mono B0.size)
  clear b3
  go_wp2_with fail
  refine (COF.out _).mono ?_; rintro e w4 ⟨rfl, b4⟩
  replace mA := mA.next b4
  replace mB := mB.next b4
  replace KA := KA.next b4
  replace KB := KB.next b4
  replace B0 := B0.trans (b4.mono B0.size)
  clear b4
  go_wp2_with fail
  refine (CP.out _).mono ?_; rintro e wx ⟨rfl, rfl⟩
  obtain ⟨w5, e5, KF, b5, hs5⟩ := boxes1 w4 29 [.int .u64 p]
  clear hs5
  replace mA := mA.next b5
  replace mB := mB.next b5
  replace KA := KA.next b5
  replace KB := KB.next b5
  replace B0 := B0.trans (b5.mono B0.size)
  clear b5
  go_upto_region 5 with (fail)
  rw [← e5]
  clear e5
  have qKF0 := KF.cell 0
  have qKA0 := KA.cell 0
  have qKA1 := KA.cell 1
  have qKA2 := KA.cell 2
  go_wp2_with fail
  refine (xm_Eval p y _ r m xs _ HP.out mA (by omega) (by omega) HXA.out (fun j hj => by have := HLA.out j (by rw [HXA.out]; exact hj); omega)).mono ?_; rintro e w6 ⟨a6, k6, rfl, o6, b6⟩
  clear qKF0 qKA0 qKA1 qKA2
  replace mA := mA.next b6
  replace mB := mB.next b6
  replace KA := KA.next b6
  replace KB := KB.next b6
  replace KF := KF.next b6
  replace B0 := B0.trans (b6.mono B0.size)
  clear b6
  obtain ⟨V1, eV1⟩ : ∃ V1, V1 = xev p y r m xs := ⟨_, rfl⟩
  rw [← eV1] at o6 ⊢
  have EV1 := Lib.hid eV1; clear eV1
  have mV : Fm w6 (.agg #[.int .i64 r, .int .i64 m, .slice a6 (tbv V1).length k6]) r m (tbv V1) := ⟨_, rfl, o6.sl⟩
  clear o6
  obtain ⟨w7, e7, KV, b7, hs7⟩ := boxes1 w6 42 [.int .i64 r, .int .i64 m, .slice a6 (tbv V1).length k6]
  clear hs7
  replace mA := mA.next b7
  replace mB := mB.next b7
  replace KA := KA.next b7
  replace KB := KB.next b7
  replace KF := KF.next b7
  replace mV := mV.next b7
  replace B0 := B0.trans (b7.mono B0.size)
  clear b7
  go_upto_region 6 with (fail)
  rw [← e7]
  clear e7
  have qKF0 := KF.cell 0
  have qKB0 := KB.cell 0
  have qKB1 := KB.cell 1
  have qKB2 := KB.cell 2
  go_wp2_with fail
  refine (xm_Eval p y _ r2 c2 ys _ HP.out mB (by omega) (by omega) HXB.out (fun j hj => by have := HLB.out j (by rw [HXB.out]; exact hj); omega)).mono ?_; rintro e w8 ⟨a8, k8, rfl, o8, b8⟩
  clear qKF0 qKB0 qKB1 qKB2
  replace mA := mA.next b8
  replace mB := mB.next b8
  replace KA := KA.next b8
  replace KB := KB.next b8
  replace KF := KF.next b8
  replace mV := mV.next b8
  replace KV := KV.next b8
  replace B0 := B0.trans (b8.mono B0.size)
  clear b8
  obtain ⟨V2, eV2⟩ : ∃ V2, V2 = xev p y r2 c2 ys := ⟨_, rfl⟩
  rw [← eV2] at o8 ⊢
  have EV2 := Lib.hid eV2; clear eV2
  have mW : Fm w8 (.agg #[.int .i64 r2, .int .i64 c2, .slice a8 (tbv V2).length k8]) r2 c2 (tbv V2) := ⟨_, rfl, o8.sl⟩
  clear o8
  obtain ⟨w9, e9, KW, b9, hs9⟩ := boxes1 w8 42 [.int .i64 r2, .int .i64 c2, .slice a8 (tbv V2).length k8]
  clear hs9
  replace mA := mA.next b9
  replace mB := mB.next b9
  replace KA := KA.next b9
  replace KB := KB.next b9
  replace KF := KF.next b9
  replace mV := mV.next b9
  replace KV := KV.next b9
  replace mW := mW.next b9
  replace B0 := B0.trans (b9.mono B0.size)
  clear b9
  go_upto_region 7 with (fail)
  rw [← e9]
  clear e9
  have qKF0 := KF.cell 0
  have qKA0 := KA.cell 0
  have qKA1 := KA.cell 1
  have qKA2 := KA.cell 2
  have qKB0 := KB.cell 0
  have qKB1 := KB.cell 1
  have qKB2 := KB.cell 2
  go_wp2_with fail
  refine (xm_Mul_bad p _ _ r m r2 c2 xs ys _ mA mB HM.out).mono ?_; rintro e w10 ⟨rfl, b10⟩
  clear qKF0 qKA0 qKA1 qKA2 qKB0 qKB1 qKB2
  replace mA := mA.next b10
  replace mB := mB.next b10
  replace KA := KA.next b10
  replace KB := KB.next b10
  replace KF := KF.next b10
  replace mV := mV.next b10
  replace KV := KV.next b10
  replace mW := mW.next b10
  replace KW := KW.next b10
  replace B0 := B0.trans (b10.mono B0.size)
  clear b10
  obtain ⟨w11, e11, KM, b11, hs11⟩ := boxes1 w10 24 [.int .i64 0, .int .i64 0, .slice none 0 0]
  clear hs11
  replace mA := mA.next b11
  replace mB := mB.next b11
  replace KA := KA.next b11
  replace KB := KB.next b11
  replace KF := KF.next b11
  replace mV := mV.next b11
  replace KV := KV.next b11
  replace mW := mW.next b11
  replace KW := KW.next b11
  replace B0 := B0.trans (b11.mono B0.size)
  clear b11
  go_upto_region 9 with (fail)
  rw [← e11]
  clear e11
  have qKA0 := KA.cell 0
  have qKA1 := KA.cell 1
  have qKA2 := KA.cell 2
  go_wp2_with fail
  refine (rf23_Formed _ r m xs _ mA true (decide_eq_true HFdA.out).symm).mono ?_; rintro e w12 ⟨rfl, b12⟩
  clear qKA0 qKA1 qKA2
  replace mA := mA.next b12
  replace mB := mB.next b12
  replace KA := KA.next b12
  replace KB := KB.next b12
  replace KF := KF.next b12
  replace mV := mV.next b12
  replace KV := KV.next b12
  replace mW := mW.next b12
  replace KW := KW.next b12
  replace KM := KM.next b12
  replace B0 := B0.trans (b12.mono B0.size)
  clear b12
  have qKB0 := KB.cell 0
  have qKB1 := KB.cell 1
  have qKB2 := KB.cell 2
  go_wp2_with fail
  refine (rf23_Formed _ r2 c2 ys _ mB true (decide_eq_true HFdB.out).symm).mono ?_; rintro e w13 ⟨rfl, b13⟩
  clear qKB0 qKB1 qKB2
  replace mA := mA.next b13
  replace mB := mB.next b13
  replace KA := KA.next b13
  replace KB := KB.next b13
  replace KF := KF.next b13
  replace mV := mV.next b13
  replace KV := KV.next b13
  replace mW := mW.next b13
  replace KW := KW.next b13
  replace KM := KM.next b13
  replace B0 := B0.trans (b13.mono B0.size)
  clear b13
  go_wp2
  go_ret
  exact ⟨rfl, B0⟩

set_option maxRecDepth 20000 in
set_option maxHeartbeats 4000000 in
theorem good (x0 : Nat) (r m c : Nat) (v : Value) (xs : List (List Nat)) (u : Value) (ys : List (List Nat)) (w : World) (hx0 : x0 < 256) (mA : Xm w v r m xs) (mB : Xm w u m c ys) (hfA : Fwx 3 4 r m xs) (hfB : Fwx 3 4 m c ys) (hr : r ≤ 3) (hm1 : m ≤ 3) (hc : c ≤ 3) (hxA : xs.length = r * m) (hxB : ys.length = m * c) :
    Calls Try.prog 6 #[.int .u8 x0, v, u] w (LawOk w) := by
  obtain ⟨p, ep⟩ : ∃ p, p = Ps (x0 % 12) := ⟨_, rfl⟩
  have hp : FP p := by rw [ep]; exact Ps_FP (by omega)
  have ht : Trial p := by rw [ep]; exact Ps_trial (by omega)
  have cOf : ∀ w : World, Calls Try.prog 17 #[.int .u8 x0] w fun e w' => e = .returned (.agg #[.int .u64 (p : Nat)]) ∧ Below w.heap.size w w' := fun w => by rw [ep]; exact law9_Of x0 w
  have cP : ∀ w : World, Calls Try.prog 18 #[.int .u8 x0] w fun e w' => e = .returned (.int .u64 (p : Nat)) ∧ w = w' := fun w => by rw [ep]; exact ref8_P x0 w
  have hp2 := hp.1
  have hp3 := hp.2
  have HP := Lib.hid hp; have HT := Lib.hid ht; have COF := Lib.hid cOf; have CP := Lib.hid cP
  clear hp ht cOf cP ep
  obtain ⟨aA, cA, rfl⟩ := mA.agg
  obtain ⟨aB, cB, rfl⟩ := mB.agg
  obtain ⟨wb, ew, KA, KB, B0, hsz⟩ := boxes2 w 24 24 [.int .i64 r, .int .i64 m, .slice aA xs.length cA] [.int .i64 m, .int .i64 c, .slice aB ys.length cB]
  clear hsz
  replace mA := mA.next B0
  replace mB := mB.next B0
  obtain ⟨y, ey⟩ : ∃ y, y = x0 * 7 := ⟨_, rfl⟩
  have hy1 : IntKind.u64.wrap (x0 : Int) = (x0 : Int) := wrap_u64 _ (by omega)
  have hy2 : IntKind.u64.wrap ((x0 : Int) * 7) = (y : Int) := by
    rw [show (x0 : Int) * 7 = ((y : Nat) : Int) by rw [ey]; omega]; exact wrap_u64 _ (by omega)
  clear ey
  have HXA := Lib.hid hxA
  have hlA : ∀ j, j < xs.length → (xs.getD j []).length ≤ 4 := fun j hj => by have := hfA.2.2.2 j hj; omega
  have HLA := Lib.hid hlA
  have HFdA := Lib.hid (Fd.of (show r ≤ 64 by omega) (show m ≤ 64 by omega) HXA.out)
  clear hxA hlA
  have HXB := Lib.hid hxB
  have hlB : ∀ j, j < ys.length → (ys.getD j []).length ≤ 4 := fun j hj => by have := hfB.2.2.2 j hj; omega
  have HLB := Lib.hid hlB
  have HFdB := Lib.hid (Fd.of (show m ≤ 64 by omega) (show c ≤ 64 by omega) HXB.out)
  clear hxB hlB
  have HF := Lib.hid hfA; have HG := Lib.hid hfB; clear hfA hfB
  go_enter Try.func6, Try.ntmps6
  go_upto_region 1 with (fail)
  rw [← ew]
  clear ew
  go_wp2_with fail
  refine (law23_awake _).mono ?_; rintro e w1 ⟨rfl, b1⟩
  replace mA := mA.next b1
  replace mB := mB.next b1
  replace KA := KA.next b1
  replace KB := KB.next b1
  replace B0 := B0.trans (b1.mono B0.size)
  clear b1
  have qKA0 := KA.cell 0
  have qKA1 := KA.cell 1
  have qKA2 := KA.cell 2
  go_wp2_with fail
  refine (rf23_Few _ r m 3 4 xs _ mA true ⟨fun _ => HF.out, fun _ => rfl⟩).mono ?_; rintro e w2 ⟨rfl, b2⟩
  clear qKA0 qKA1 qKA2
  replace mA := mA.next b2
  replace mB := mB.next b2
  replace KA := KA.next b2
  replace KB := KB.next b2
  replace B0 := B0.trans (b2.mono B0.size)
  clear b2
  have qKB0 := KB.cell 0
  have qKB1 := KB.cell 1
  have qKB2 := KB.cell 2
  go_wp2_with fail
  refine (rf23_Few _ m c 3 4 ys _ mB true ⟨fun _ => HG.out, fun _ => rfl⟩).mono ?_; rintro e w3 ⟨rfl, b3⟩
  clear qKB0 qKB1 qKB2
  replace mA := mA.next b3
  replace mB := mB.next b3
  replace KA := KA.next b3
  replace KB := KB.next b3
  replace B0 := B0.trans (b3.mono B0.size)
  clear b3
  go_wp2_with fail
  refine (COF.out _).mono ?_; rintro e w4 ⟨rfl, b4⟩
  replace mA := mA.next b4
  replace mB := mB.next b4
  replace KA := KA.next b4
  replace KB := KB.next b4
  replace B0 := B0.trans (b4.mono B0.size)
  clear b4
  go_wp2_with fail
  refine (CP.out _).mono ?_; rintro e wx ⟨rfl, rfl⟩
  obtain ⟨w5, e5, KF, b5, hs5⟩ := boxes1 w4 29 [.int .u64 p]
  clear hs5
  replace mA := mA.next b5
  replace mB := mB.next b5
  replace KA := KA.next b5
  replace KB := KB.next b5
  replace B0 := B0.trans (b5.mono B0.size)
  clear b5
  go_upto_region 5 with (fail)
  rw [← e5]
  clear e5
  have qKF0 := KF.cell 0
  have qKA0 := KA.cell 0
  have qKA1 := KA.cell 1
  have qKA2 := KA.cell 2
  go_wp2_with fail
  refine (xm_Eval p y _ r m xs _ HP.out mA (by omega) (by omega) HXA.out (fun j hj => by have := HLA.out j (by rw [HXA.out]; exact hj); omega)).mono ?_; rintro e w6 ⟨a6, k6, rfl, o6, b6⟩
  clear qKF0 qKA0 qKA1 qKA2
  replace mA := mA.next b6
  replace mB := mB.next b6
  replace KA := KA.next b6
  replace KB := KB.next b6
  replace KF := KF.next b6
  replace B0 := B0.trans (b6.mono B0.size)
  clear b6
  obtain ⟨V1, eV1⟩ : ∃ V1, V1 = xev p y r m xs := ⟨_, rfl⟩
  rw [← eV1] at o6 ⊢
  have EV1 := Lib.hid eV1; clear eV1
  have mV : Fm w6 (.agg #[.int .i64 r, .int .i64 m, .slice a6 (tbv V1).length k6]) r m (tbv V1) := ⟨_, rfl, o6.sl⟩
  clear o6
  obtain ⟨w7, e7, KV, b7, hs7⟩ := boxes1 w6 42 [.int .i64 r, .int .i64 m, .slice a6 (tbv V1).length k6]
  clear hs7
  replace mA := mA.next b7
  replace mB := mB.next b7
  replace KA := KA.next b7
  replace KB := KB.next b7
  replace KF := KF.next b7
  replace mV := mV.next b7
  replace B0 := B0.trans (b7.mono B0.size)
  clear b7
  go_upto_region 6 with (fail)
  rw [← e7]
  clear e7
  have qKF0 := KF.cell 0
  have qKB0 := KB.cell 0
  have qKB1 := KB.cell 1
  have qKB2 := KB.cell 2
  go_wp2_with fail
  refine (xm_Eval p y _ m c ys _ HP.out mB (by omega) (by omega) HXB.out (fun j hj => by have := HLB.out j (by rw [HXB.out]; exact hj); omega)).mono ?_; rintro e w8 ⟨a8, k8, rfl, o8, b8⟩
  clear qKF0 qKB0 qKB1 qKB2
  replace mA := mA.next b8
  replace mB := mB.next b8
  replace KA := KA.next b8
  replace KB := KB.next b8
  replace KF := KF.next b8
  replace mV := mV.next b8
  replace KV := KV.next b8
  replace B0 := B0.trans (b8.mono B0.size)
  clear b8
  obtain ⟨V2, eV2⟩ : ∃ V2, V2 = xev p y m c ys := ⟨_, rfl⟩
  rw [← eV2] at o8 ⊢
  have EV2 := Lib.hid eV2; clear eV2
  have mW : Fm w8 (.agg #[.int .i64 m, .int .i64 c, .slice a8 (tbv V2).length k8]) m c (tbv V2) := ⟨_, rfl, o8.sl⟩
  clear o8
  obtain ⟨w9, e9, KW, b9, hs9⟩ := boxes1 w8 42 [.int .i64 m, .int .i64 c, .slice a8 (tbv V2).length k8]
  clear hs9
  replace mA := mA.next b9
  replace mB := mB.next b9
  replace KA := KA.next b9
  replace KB := KB.next b9
  replace KF := KF.next b9
  replace mV := mV.next b9
  replace KV := KV.next b9
  replace mW := mW.next b9
  replace B0 := B0.trans (b9.mono B0.size)
  clear b9
  go_upto_region 7 with (fail)
  rw [← e9]
  clear e9
  have qKF0 := KF.cell 0
  have qKA0 := KA.cell 0
  have qKA1 := KA.cell 1
  have qKA2 := KA.cell 2
  have qKB0 := KB.cell 0
  have qKB1 := KB.cell 1
  have qKB2 := KB.cell 2
  go_wp2_with fail
  refine (xm_Mul p 8 4 _ _ r m c xs ys _ HP.out mA mB (by omega) (by omega) (by omega) HXA.out HXB.out (by omega) (by omega) HLA.out HLB.out (dotT p xs ys m c) (fun i k _ hk => dotT_at hk)).mono ?_; rintro e w10 ⟨a10, k10, us10, rfl, o10, b10⟩
  clear qKF0 qKA0 qKA1 qKA2 qKB0 qKB1 qKB2
  replace mA := mA.next b10
  replace mB := mB.next b10
  replace KA := KA.next b10
  replace KB := KB.next b10
  replace KF := KF.next b10
  replace mV := mV.next b10
  replace KV := KV.next b10
  replace mW := mW.next b10
  replace KW := KW.next b10
  replace B0 := B0.trans (b10.mono B0.size)
  clear b10
  obtain ⟨zsM, zlM, nsM, hzM⟩ := o10.ns HP.out
  have mM : Xm w10 (.agg #[.int .i64 r, .int .i64 c, .slice a10 (r * c) k10]) r c zsM := ⟨_, rfl, nsM⟩
  have ZLM := Lib.hid zlM; have ZM := Lib.hid hzM
  clear zlM nsM hzM o10
  obtain ⟨w11, e11, KM, b11, hs11⟩ := boxes1 w10 24 [.int .i64 r, .int .i64 c, .slice a10 (r * c) k10]
  clear hs11
  replace mA := mA.next b11
  replace mB := mB.next b11
  replace KA := KA.next b11
  replace KB := KB.next b11
  replace KF := KF.next b11
  replace mV := mV.next b11
  replace KV := KV.next b11
  replace mW := mW.next b11
  replace KW := KW.next b11
  replace mM := mM.next b11
  replace B0 := B0.trans (b11.mono B0.size)
  clear b11
  go_upto_region 10 with (fail)
  rw [← e11]
  clear e11
  have hlM : ∀ j, j < r * c → (zsM.getD j []).length ≤ 1000000 := fun j hj => by have := (ZM.out j hj).2.2; omega
  have HLM := Lib.hid hlM; clear hlM
  have qKF0 := KF.cell 0
  have qKM0 := KM.cell 0
  have qKM1 := KM.cell 1
  have qKM2 := KM.cell 2
  go_wp2_with fail
  refine (xm_Eval p y _ r c zsM _ HP.out mM (by omega) (by omega) ZLM.out HLM.out).mono ?_; rintro e w12 ⟨a12, k12, rfl, o12, b12⟩
  clear qKF0 qKM0 qKM1 qKM2
  replace mA := mA.next b12
  replace mB := mB.next b12
  replace KA := KA.next b12
  replace KB := KB.next b12
  replace KF := KF.next b12
  replace mV := mV.next b12
  replace KV := KV.next b12
  replace mW := mW.next b12
  replace KW := KW.next b12
  replace mM := mM.next b12
  replace KM := KM.next b12
  replace B0 := B0.trans (b12.mono B0.size)
  clear b12
  obtain ⟨Y1, eY1⟩ : ∃ Y1, Y1 = xev p y r c zsM := ⟨_, rfl⟩
  rw [← eY1] at o12 ⊢
  have EY1 := Lib.hid eY1; clear eY1
  have mY : Fm w12 (.agg #[.int .i64 r, .int .i64 c, .slice a12 (tbv Y1).length k12]) r c (tbv Y1) := ⟨_, rfl, o12.sl⟩
  clear o12
  obtain ⟨w13, e13, KY, b13, hs13⟩ := boxes1 w12 42 [.int .i64 r, .int .i64 c, .slice a12 (tbv Y1).length k12]
  clear hs13
  replace mA := mA.next b13
  replace mB := mB.next b13
  replace KA := KA.next b13
  replace KB := KB.next b13
  replace KF := KF.next b13
  replace mV := mV.next b13
  replace KV := KV.next b13
  replace mW := mW.next b13
  replace KW := KW.next b13
  replace mM := mM.next b13
  replace KM := KM.next b13
  replace mY := mY.next b13
  replace B0 := B0.trans (b13.mono B0.size)
  clear b13
  go_upto_region 11 with (fail)
  rw [← e13]
  clear e13
  have qKF0 := KF.cell 0
  have qKV0 := KV.cell 0
  have qKV1 := KV.cell 1
  have qKV2 := KV.cell 2
  have qKW0 := KW.cell 0
  have qKW1 := KW.cell 1
  have qKW2 := KW.cell 2
  go_wp2_with fail
  refine (fm_Mul p _ _ r m c (tbv V1) (tbv V2) _ HP.out mV mW (by omega) (by omega) (by omega) (tbv_length V1) (tbv_length V2)).mono ?_; rintro e w14 ⟨a14, k14, rfl, o14, b14⟩
  clear qKF0 qKV0 qKV1 qKV2 qKW0 qKW1 qKW2
  replace mA := mA.next b14
  replace mB := mB.next b14
  replace KA := KA.next b14
  replace KB := KB.next b14
  replace KF := KF.next b14
  replace mV := mV.next b14
  replace KV := KV.next b14
  replace mW := mW.next b14
  replace KW := KW.next b14
  replace mM := mM.next b14
  replace KM := KM.next b14
  replace mY := mY.next b14
  replace KY := KY.next b14
  replace B0 := B0.trans (b14.mono B0.size)
  clear b14
  obtain ⟨Q1, eQ1⟩ : ∃ Q1, Q1 = mx p r m (tbv V1) * mx p m c (tbv V2) := ⟨_, rfl⟩
  rw [← eQ1] at o14 ⊢
  have EQ1 := Lib.hid eQ1; clear eQ1
  have mQ : Fm w14 (.agg #[.int .i64 r, .int .i64 c, .slice a14 (tbv Q1).length k14]) r c (tbv Q1) := ⟨_, rfl, o14.sl⟩
  clear o14
  obtain ⟨w15, e15, KQ, b15, hs15⟩ := boxes1 w14 42 [.int .i64 r, .int .i64 c, .slice a14 (tbv Q1).length k14]
  clear hs15
  replace mA := mA.next b15
  replace mB := mB.next b15
  replace KA := KA.next b15
  replace KB := KB.next b15
  replace KF := KF.next b15
  replace mV := mV.next b15
  replace KV := KV.next b15
  replace mW := mW.next b15
  replace KW := KW.next b15
  replace mM := mM.next b15
  replace KM := KM.next b15
  replace mY := mY.next b15
  replace KY := KY.next b15
  replace mQ := mQ.next b15
  replace B0 := B0.trans (b15.mono B0.size)
  clear b15
  have HYQ : Y1 = Q1 := by
    rw [EY1.out, EQ1.out, mx_tbv, mx_tbv, EV1.out, EV2.out]
    exact xev_mul fun i k hi hk => by rw [(ZM.out _ (at_lt rfl hi hk)).2.1, dotT_at hk]
  subst HYQ
  go_upto_region 12 with (fail)
  rw [← e15]
  clear e15
  have qKF0 := KF.cell 0
  have qKA0 := KA.cell 0
  go_wp2_with fail
  refine (xm_Identity p 1 r _ HP.out (by omega) (by omega) (by omega) (fun j => if j / r = j % r then 1 else 0) (fun i k _ hk => by rw [show (i * r + k) / r = i by rw [Nat.mul_comm, Nat.mul_add_div (by omega), Nat.div_eq_of_lt hk, Nat.add_zero], show (i * r + k) % r = k by rw [Nat.mul_comm, Nat.mul_add_mod, Nat.mod_eq_of_lt hk]])).mono ?_; rintro e w16 ⟨a16, k16, us16, rfl, o16, b16⟩
  clear qKF0 qKA0
  replace mA := mA.next b16
  replace mB := mB.next b16
  replace KA := KA.next b16
  replace KB := KB.next b16
  replace KF := KF.next b16
  replace mV := mV.next b16
  replace KV := KV.next b16
  replace mW := mW.next b16
  replace KW := KW.next b16
  replace mM := mM.next b16
  replace KM := KM.next b16
  replace mY := mY.next b16
  replace KY := KY.next b16
  replace mQ := mQ.next b16
  replace KQ := KQ.next b16
  replace B0 := B0.trans (b16.mono B0.size)
  clear b16
  obtain ⟨zsI, zlI, nsI, hzI⟩ := o16.ns HP.out
  have mI : Xm w16 (.agg #[.int .i64 r, .int .i64 r, .slice a16 (r * r) k16]) r r zsI := ⟨_, rfl, nsI⟩
  have ZLI := Lib.hid zlI; have ZI := Lib.hid hzI
  clear zlI nsI hzI o16
  obtain ⟨w17, e17, KI, b17, hs17⟩ := boxes1 w16 24 [.int .i64 r, .int .i64 r, .slice a16 (r * r) k16]
  clear hs17
  replace mA := mA.next b17
  replace mB := mB.next b17
  replace KA := KA.next b17
  replace KB := KB.next b17
  replace KF := KF.next b17
  replace mV := mV.next b17
  replace KV := KV.next b17
  replace mW := mW.next b17
  replace KW := KW.next b17
  replace mM := mM.next b17
  replace KM := KM.next b17
  replace mY := mY.next b17
  replace KY := KY.next b17
  replace mQ := mQ.next b17
  replace KQ := KQ.next b17
  replace mI := mI.next b17
  replace B0 := B0.trans (b17.mono B0.size)
  clear b17
  go_upto_region 13 with (fail)
  rw [← e17]
  clear e17
  have hlI : ∀ j, j < r * r → (zsI.getD j []).length ≤ 1000000 := fun j hj => by have := (ZI.out j hj).2.2; omega
  have HLI := Lib.hid hlI; clear hlI
  have qKF0 := KF.cell 0
  have qKI0 := KI.cell 0
  have qKI1 := KI.cell 1
  have qKI2 := KI.cell 2
  go_wp2_with fail
  refine (xm_Eval p y _ r r zsI _ HP.out mI (by omega) (by omega) ZLI.out HLI.out).mono ?_; rintro e w18 ⟨a18, k18, rfl, o18, b18⟩
  clear qKF0 qKI0 qKI1 qKI2
  replace mA := mA.next b18
  replace mB := mB.next b18
  replace KA := KA.next b18
  replace KB := KB.next b18
  replace KF := KF.next b18
  replace mV := mV.next b18
  replace KV := KV.next b18
  replace mW := mW.next b18
  replace KW := KW.next b18
  replace mM := mM.next b18
  replace KM := KM.next b18
  replace mY := mY.next b18
  replace KY := KY.next b18
  replace mQ := mQ.next b18
  replace KQ := KQ.next b18
  replace mI := mI.next b18
  replace KI := KI.next b18
  replace B0 := B0.trans (b18.mono B0.size)
  clear b18
  obtain ⟨O1, eO1⟩ : ∃ O1, O1 = xev p y r r zsI := ⟨_, rfl⟩
  rw [← eO1] at o18 ⊢
  have EO1 := Lib.hid eO1; clear eO1
  have mO : Fm w18 (.agg #[.int .i64 r, .int .i64 r, .slice a18 (tbv O1).length k18]) r r (tbv O1) := ⟨_, rfl, o18.sl⟩
  clear o18
  obtain ⟨w19, e19, KO, b19, hs19⟩ := boxes1 w18 42 [.int .i64 r, .int .i64 r, .slice a18 (tbv O1).length k18]
  clear hs19
  replace mA := mA.next b19
  replace mB := mB.next b19
  replace KA := KA.next b19
  replace KB := KB.next b19
  replace KF := KF.next b19
  replace mV := mV.next b19
  replace KV := KV.next b19
  replace mW := mW.next b19
  replace KW := KW.next b19
  replace mM := mM.next b19
  replace KM := KM.next b19
  replace mY := mY.next b19
  replace KY := KY.next b19
  replace mQ := mQ.next b19
  replace KQ := KQ.next b19
  replace mI := mI.next b19
  replace KI := KI.next b19
  replace mO := mO.next b19
  replace B0 := B0.trans (b19.mono B0.size)
  clear b19
  have HO : O1 = MT.one r := by
    rw [EO1.out]
    exact xev_one fun i k hi hk => by
      rw [(ZI.out _ (at_lt rfl hi hk)).2.1, show (i * r + k) / r = i by rw [Nat.mul_comm, Nat.mul_add_div (by omega), Nat.div_eq_of_lt hk, Nat.add_zero], show (i * r + k) % r = k by rw [Nat.mul_comm, Nat.mul_add_mod, Nat.mod_eq_of_lt hk]]
  have HO1 := Lib.hid (show ∀ i k, i < r → k < r → (tbv O1).getD (i * r + k) 0 % p = if i = k then 1 else 0 from fun i k hi hk => by
    rw [tbv_get O1 hi hk, HO, MT.e_one hi hk]
    split
    · rw [← Zp.of_one, Zp.val_of, Nat.mod_mod_of_dvd _ (by rw [show p - 1 + 1 = p by omega]; exact Nat.dvd_refl p), Nat.mod_eq_of_lt (by omega)]
    · rw [Zp.zero_val, Nat.zero_mod])
  clear HO
  go_upto_region 14 with (fail)
  rw [← e19]
  clear e19
  have qKF0 := KF.cell 0
  go_wp2_with fail
  refine (xm_Identity_bad p 65 _ (by unfold Sd; omega)).mono ?_; rintro e w20 ⟨rfl, b20⟩
  clear qKF0
  replace mA := mA.next b20
  replace mB := mB.next b20
  replace KA := KA.next b20
  replace KB := KB.next b20
  replace KF := KF.next b20
  replace mV := mV.next b20
  replace KV := KV.next b20
  replace mW := mW.next b20
  replace KW := KW.next b20
  replace mM := mM.next b20
  replace KM := KM.next b20
  replace mY := mY.next b20
  replace KY := KY.next b20
  replace mQ := mQ.next b20
  replace KQ := KQ.next b20
  replace mI := mI.next b20
  replace KI := KI.next b20
  replace mO := mO.next b20
  replace KO := KO.next b20
  replace B0 := B0.trans (b20.mono B0.size)
  clear b20
  obtain ⟨w21, e21, KE, b21, hs21⟩ := boxes1 w20 24 [.int .i64 0, .int .i64 0, .slice none 0 0]
  clear hs21
  replace mA := mA.next b21
  replace mB := mB.next b21
  replace KA := KA.next b21
  replace KB := KB.next b21
  replace KF := KF.next b21
  replace mV := mV.next b21
  replace KV := KV.next b21
  replace mW := mW.next b21
  replace KW := KW.next b21
  replace mM := mM.next b21
  replace KM := KM.next b21
  replace mY := mY.next b21
  replace KY := KY.next b21
  replace mQ := mQ.next b21
  replace KQ := KQ.next b21
  replace mI := mI.next b21
  replace KI := KI.next b21
  replace mO := mO.next b21
  replace KO := KO.next b21
  replace B0 := B0.trans (b21.mono B0.size)
  clear b21
  go_upto_region 15 with (fail)
  rw [← e21]
  clear e21
  have lY := Lib.hid (tbv_length Y1)
  have wY := Lib.hid (tbv_wf HP.out.pos Y1)
  have lO := Lib.hid (tbv_length O1)
  have hrc : r * c ≤ 3 * 3 := Nat.mul_le_mul (by omega) (by omega)
  have qKY0 := KY.cell 0
  have qKY1 := KY.cell 1
  have qKY2 := KY.cell 2
  have qKQ0 := KQ.cell 0
  have qKQ1 := KQ.cell 1
  have qKQ2 := KQ.cell 2
  go_wp2_with fail
  refine (rf21_Is _ _ r c p (tbv Y1) (tbv Y1) _ (by omega) mY mQ (Fd.of (by omega) (by omega) lY.out) wY.out rfl (fun _ _ => rfl) (by rw [lY.out]; omega)).mono ?_; rintro e w22 ⟨rfl, b22⟩
  clear qKY0 qKY1 qKY2 qKQ0 qKQ1 qKQ2
  replace mA := mA.next b22
  replace mB := mB.next b22
  replace KA := KA.next b22
  replace KB := KB.next b22
  replace KF := KF.next b22
  replace mV := mV.next b22
  replace KV := KV.next b22
  replace mW := mW.next b22
  replace KW := KW.next b22
  replace mM := mM.next b22
  replace KM := KM.next b22
  replace mY := mY.next b22
  replace KY := KY.next b22
  replace mQ := mQ.next b22
  replace KQ := KQ.next b22
  replace mI := mI.next b22
  replace KI := KI.next b22
  replace mO := mO.next b22
  replace KO := KO.next b22
  replace KE := KE.next b22
  replace B0 := B0.trans (b22.mono B0.size)
  clear b22
  have qKO0 := KO.cell 0
  have qKO1 := KO.cell 1
  have qKO2 := KO.cell 2
  go_wp2_with fail
  refine (rf21_One _ r p (tbv O1) _ (by omega) mO (by omega) lO.out HO1.out).mono ?_; rintro e w23 ⟨rfl, b23⟩
  clear qKO0 qKO1 qKO2
  replace mA := mA.next b23
  replace mB := mB.next b23
  replace KA := KA.next b23
  replace KB := KB.next b23
  replace KF := KF.next b23
  replace mV := mV.next b23
  replace KV := KV.next b23
  replace mW := mW.next b23
  replace KW := KW.next b23
  replace mM := mM.next b23
  replace KM := KM.next b23
  replace mY := mY.next b23
  replace KY := KY.next b23
  replace mQ := mQ.next b23
  replace KQ := KQ.next b23
  replace mI := mI.next b23
  replace KI := KI.next b23
  replace mO := mO.next b23
  replace KO := KO.next b23
  replace KE := KE.next b23
  replace B0 := B0.trans (b23.mono B0.size)
  clear b23
  go_wp2
  go_ret
  exact ⟨rfl, B0⟩

set_option maxHeartbeats 1000000 in
theorem walk (x0 : Nat) (v : Value) (R1 C1 : Int) (xs : List (List Nat)) (u : Value) (R2 C2 : Int) (ys : List (List Nat)) (w : World) (hx0 : x0 < 256) (mA : Xm w v R1 C1 xs) (mB : Xm w u R2 C2 ys) : Calls Try.prog 6 #[.int .u8 x0, v, u] w (LawOk w) := by
  by_cases hf : Fwx 3 4 R1 C1 xs
  · by_cases hg : Fwx 3 4 R2 C2 ys
    · by_cases hs : Fd R1 C1 xs.length
      · obtain ⟨r, m, e1, e2, h3, h4, h5⟩ := hs.nat
        subst e1 e2
        have hr : r ≤ 3 := by have := hf.1; omega
        have hm : m ≤ 3 := by have := hf.2.1; omega
        by_cases ht : Fd R2 C2 ys.length
        · obtain ⟨r2, c2, e1, e2, k3, k4, k5⟩ := ht.nat
          subst e1 e2
          have hr2 : r2 ≤ 3 := by have := hg.1; omega
          have hc2 : c2 ≤ 3 := by have := hg.2.1; omega
          by_cases he : m = r2
          · subst he
            exact good x0 r m c2 v xs u ys w hx0 mA mB hf hg hr hm hc2 h5 k5
          · exact noM x0 r m r2 c2 v xs u ys w hx0 mA mB hf hg hr hm hr2 hc2 h5 k5 (fun h => he (by have := h.2.2; omega))
        · exact noB x0 r m R2 C2 v xs u ys w hx0 mA mB hf hg hr hm h5 ht
      · by_cases ht : Fd R2 C2 ys.length
        · obtain ⟨r2, c2, e1, e2, k3, k4, k5⟩ := ht.nat
          subst e1 e2
          have hr2 : r2 ≤ 3 := by have := hg.1; omega
          have hc2 : c2 ≤ 3 := by have := hg.2.1; omega
          exact noAB x0 R1 C1 r2 c2 v xs u ys w hx0 mA mB hf hg hs hr2 hc2 k5
        · exact noA x0 R1 C1 R2 C2 v xs u ys w hx0 mA mB hf hg hs ht
    · exact not_few2 x0 v R1 C1 xs u R2 C2 ys w mA mB hf hg
  · exact not_few1 x0 v R1 C1 xs u R2 C2 ys w mA mB hf

set_option maxRecDepth 100000 in
theorem lifted (os : Os) (started : os.Started) (H : Type) (enc : TypeId × Value → H) :
    ReturnsInHanded {} Try.checked os 6 .any (Rows.xmatEvalsSpec.pre6 enc Try.prog Try.f6 Rows.xmatEvalsRow.domain false) (Rows.xmatEvalsSpec.post enc Try.prog Try.f6 false true false false) := by
  refine returnsInHanded_of_change (C := Try.checked) own started (by kernel_rfl) Try.func6
    (ChangeSpec.witness6 (enc := enc) (C := Try.checked) false ⟨#[], #[.int .u8 0, .agg #[.int .i64 0, .int .i64 0, .slice none 0 0], .agg #[.int .i64 0, .int .i64 0, .slice none 0 0]], []⟩ 8 (by kernel_rfl) (by kernel_rfl) (by kernel_rfl) (by kernel_rfl)) ?_
  intro W base args ds gs before hval0 hW hcnd _
  have hval : ∀ (j : Nat) t v, Try.f6.params[j]? = some t → args[j]? = some v → Value.okWide Try.prog W .any base t v := hval0
  have hW' := hW
  obtain ⟨p, q, hA0, hV, rfl, hfz, hnd⟩ := hW
  have hA : DataW.TrodAll enc Try.prog W 0 (fun _ => true) true Try.f6.params.toList args.toList ds p := hA0
  rw [Try.params6] at hA hval
  obtain ⟨v0, vs0, d0, ds0, p0, q0, hargs, rfl, rfl, h0, r0⟩ := trodAll_cons hA
  obtain ⟨v1, vs1, d1, ds1, p1, q1, rfl, rfl, rfl, h1, r1⟩ := trodAll_cons r0
  obtain ⟨v2, vs2, d2, ds2, p2, q2, rfl, rfl, rfl, h2, r2⟩ := trodAll_cons r1
  obtain ⟨rfl, rfl, rfl⟩ := trodAll_nil r2
  obtain rfl : args = #[v0, v1, v2] := by cases args; simp_all
  obtain ⟨rfl, rfl⟩ := trodVars_none hV
  have k0 := h0
  have lt0 : ∀ x ∈ p0, x.block < W.heap.size := by obtain ⟨m, hm⟩ := k0; exact DataW.trod_lt m _ _ _ hm
  obtain ⟨i0, rfl, rfl, rfl, wi0⟩ := open_int Try.underlying5 (hval 0 5 v0 rfl rfl) h0
  obtain ⟨x0, rfl⟩ := Int.eq_ofNat_of_zero_le (wf_u8_bounds wi0).1
  have k1 := h1
  have lt1 : ∀ x ∈ p1, x.block < W.heap.size := by obtain ⟨m, hm⟩ := k1; exact DataW.trod_lt m _ _ _ hm
  obtain ⟨R1, C1, xs1, m1, rb1, cb1⟩ := open_xm (hval 1 24 v1 rfl rfl) h1
  have k2 := h2
  have lt2 : ∀ x ∈ p2, x.block < W.heap.size := by obtain ⟨m, hm⟩ := k2; exact DataW.trod_lt m _ _ _ hm
  obtain ⟨R2, C2, xs2, m2, rb2, cb2⟩ := open_xm (hval 2 24 v2 rfl rfl) h2
  clear hA0 hval0
  refine (walk x0 v1 R1 C1 xs1 v2 R2 C2 xs2 W (by have := wf_u8_bounds wi0; omega) m1 m2).mono fun e W' ⟨he, bel⟩ => ?_
  subst he
  exact ⟨_, rfl, _, _, _, [], _, [], hW', trodAll_mk1 (shut_bool Try.underlying4 _), (trodAll_cons_mk (Below.trod laidOut (by kernel_rfl) (of_decide_eq_true (by kernel_rfl)) k0 bel lt0) (trodAll_cons_mk (Below.trod laidOut (by kernel_rfl) (of_decide_eq_true (by kernel_rfl)) k1 bel lt1) (trodAll_cons_mk (Below.trod laidOut (by kernel_rfl) (of_decide_eq_true (by kernel_rfl)) k2 bel lt2) trodAll_mk0))), rfl, bel.frame _, fun h => by cases h⟩

theorem over : Rows.xmatEvalsRow.holds Try.pinned (OpenSpec.ofChange Rows.xmatEvalsSpec) :=
  OpenClaim.holds_of_wide 6 Try.f6 rfl rfl rfl rfl rfl rfl rfl ⟨rfl, rfl, rfl, rfl, rfl⟩ rfl rfl rfl rfl rfl (by kernel_rfl) Try.func6 (by kernel_rfl)
    (of_decide_eq_true (by kernel_rfl)) (by unfold Func.isWrapper; first | (rw [if_pos (by decide +kernel)]; kernel_rfl) | (rw [if_neg (by decide +kernel)]; exact ⟨rfl, rfl⟩))
    (fun os started H enc _ => lifted os started H enc)

theorem proved : Rows.XmatEvalsSaid := over
#print axioms proved
end Go.Proofs.Ythghdjpjbngllaa.xmatEvals
