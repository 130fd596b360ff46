/- FrobApart: for every number and two matrices the law returns true: matrices that are told not to be similar have other invariants; of other sides none is asked for. No condition. -/
import Derived.Test.YtkmfhabgempjiaaRows
import Derived.Test.YtkmfhabgempjiaaQiM8
import Derived.Test.YtkmfhabgempjiaaQiM21
import Derived.Test.YtkmfhabgempjiaaQiM22
namespace Go.Proofs.Ytkmfhabgempjiaa.frobApart
set_option maxHeartbeats 4000000
open Go.ChangeShapes Go.WideShapes Go.ChangeAt Go.RowKit
open Go.ChangeMaps (open_string shut_string)
theorem own : ownKnob Try.prog.godebug = none := by kernel_rfl
theorem laidOut : laidOutB Try.prog = true := by kernel_rfl
set_option maxRecDepth 20000 in
theorem not_fewA (x0 : Nat) (v : Value) (R C : Int) (xs : List Nat) (u : Value) (R2 C2 : Int) (ys : List Nat) (w : World) (mA : Fm w v R C xs) (mB : Fm w u R2 C2 ys) (hf : ¬ (R ≤ 3 ∧ C ≤ 3 ∧ xs.length ≤ 100)) :
  Calls Try.prog 13 #[.int .u8 x0, v, u] w (LawOk w) := by
 obtain ⟨aA, cA, rfl⟩ := mA.agg
 obtain ⟨aB, cB, rfl⟩ := mB.agg
 obtain ⟨wb, ew, KA, KB, B0, hsz⟩ := boxes2 w 63 63 [.int .i64 R, .int .i64 C, .slice aA xs.length cA] [.int .i64 R2, .int .i64 C2, .slice aB ys.length cB]
 clear hsz
 replace mA := mA.next B0
 replace mB := mB.next B0
 have HF := Lib.hid hf; clear hf
 go_enter Try.func13, Try.ntmps13
 go_upto_region 1 with (fail)
 rw [← ew]
 clear ew
 go_wp2_with fail
 refine (law25_awake _).mono ?_; rintro e w1 ⟨rfl, b1⟩
 replace mA := mA.next b1
 replace mB := mB.next b1
 replace KA := KA.next b1
 replace KB := KB.next b1
 replace B0 := B0.trans (b1.mono B0.size)
 clear b1
 have qKA0 := KA.cell 0
 have qKA1 := KA.cell 1
 have qKA2 := KA.cell 2
 go_wp2_with fail
 refine (rf21_Few _ R C 3 xs _ mA false (decide_eq_false HF.out).symm).mono ?_; rintro e w2 ⟨rfl, b2⟩
 clear qKA0 qKA1 qKA2
 replace mA := mA.next b2
 replace mB := mB.next b2
 replace KA := KA.next b2
 replace KB := KB.next b2
 replace B0 := B0.trans (b2.mono B0.size)
 clear b2
 clear mA mB
 go_wp2_with fail
 refine (law25_awake _).mono ?_; rintro e w3 ⟨rfl, b3⟩
 replace KA := KA.next b3
 replace KB := KB.next b3
 replace B0 := B0.trans (b3.mono B0.size)
 clear b3
 go_wp2
 go_ret
 exact ⟨rfl, B0⟩
set_option maxRecDepth 20000 in
theorem not_fewB (x0 : Nat) (v : Value) (R C : Int) (xs : List Nat) (u : Value) (R2 C2 : Int) (ys : List Nat) (w : World) (mA : Fm w v R C xs) (mB : Fm w u R2 C2 ys) (hf : (R ≤ 3 ∧ C ≤ 3 ∧ xs.length ≤ 100)) (hg : ¬ (R2 ≤ 3 ∧ C2 ≤ 3 ∧ ys.length ≤ 100)) :
  Calls Try.prog 13 #[.int .u8 x0, v, u] w (LawOk w) := by
 obtain ⟨aA, cA, rfl⟩ := mA.agg
 obtain ⟨aB, cB, rfl⟩ := mB.agg
 obtain ⟨wb, ew, KA, KB, B0, hsz⟩ := boxes2 w 63 63 [.int .i64 R, .int .i64 C, .slice aA xs.length cA] [.int .i64 R2, .int .i64 C2, .slice aB ys.length cB]
 clear hsz
 replace mA := mA.next B0
 replace mB := mB.next B0
 have HF := Lib.hid hf; have HG := Lib.hid hg; clear hf hg
 go_enter Try.func13, Try.ntmps13
 go_upto_region 1 with (fail)
 rw [← ew]
 clear ew
 go_wp2_with fail
 refine (law25_awake _).mono ?_; rintro e w1 ⟨rfl, b1⟩
 replace mA := mA.next b1
 replace mB := mB.next b1
 replace KA := KA.next b1
 replace KB := KB.next b1
 replace B0 := B0.trans (b1.mono B0.size)
 clear b1
 have qKA0 := KA.cell 0
 have qKA1 := KA.cell 1
 have qKA2 := KA.cell 2
 go_wp2_with fail
 refine (rf21_Few _ R C 3 xs _ mA true (decide_eq_true HF.out).symm).mono ?_; rintro e w2 ⟨rfl, b2⟩
 clear qKA0 qKA1 qKA2
 replace mA := mA.next b2
 replace mB := mB.next b2
 replace KA := KA.next b2
 replace KB := KB.next b2
 replace B0 := B0.trans (b2.mono B0.size)
 clear b2
 have qKB0 := KB.cell 0
 have qKB1 := KB.cell 1
 have qKB2 := KB.cell 2
 go_wp2_with fail
 refine (rf21_Few _ R2 C2 3 ys _ mB false (decide_eq_false HG.out).symm).mono ?_; rintro e w3 ⟨rfl, b3⟩
 clear qKB0 qKB1 qKB2
 replace mA := mA.next b3
 replace mB := mB.next b3
 replace KA := KA.next b3
 replace KB := KB.next b3
 replace B0 := B0.trans (b3.mono B0.size)
 clear b3
 clear mA mB
 go_wp2_with fail
 refine (law25_awake _).mono ?_; rintro e w4 ⟨rfl, b4⟩
 replace KA := KA.next b4
 replace KB := KB.next b4
 replace B0 := B0.trans (b4.mono B0.size)
 clear b4
 go_wp2
 go_ret
 exact ⟨rfl, B0⟩
set_option maxRecDepth 20000 in
theorem not_sqA (x0 : Nat) (v : Value) (R C : Int) (xs : List Nat) (u : Value) (R2 C2 : Int) (ys : List Nat) (w : World) (mA : Fm w v R C xs) (mB : Fm w u R2 C2 ys) (hf : (R ≤ 3 ∧ C ≤ 3 ∧ xs.length ≤ 100)) (hg : (R2 ≤ 3 ∧ C2 ≤ 3 ∧ ys.length ≤ 100)) (hs : ¬ (Fd R C xs.length ∧ R = C)) :
  Calls Try.prog 13 #[.int .u8 x0, v, u] w (LawOk w) := by
 obtain ⟨p, ep⟩ : ∃ p, p = Ps (x0 % 12) := ⟨_, rfl⟩
 have hp : FP p := by rw [ep]; exact Ps_FP (by omega)
 have ht : Trial p := by rw [ep]; exact Ps_trial (by omega)
 have cOf : ∀ w : World, Calls Try.prog 17 #[.int .u8 x0] w fun e w' => e = .returned (.agg #[.int .u64 (p : Nat)]) ∧ Below w.heap.size w w' := fun w => by rw [ep]; exact law9_Of x0 w
 have cP : ∀ w : World, Calls Try.prog 18 #[.int .u8 x0] w fun e w' => e = .returned (.int .u64 (p : Nat)) ∧ w = w' := fun w => by rw [ep]; exact ref8_P x0 w
 have hp2 := hp.1
 have hp3 := hp.2
 have HP := Lib.hid hp; have HT := Lib.hid ht; have COF := Lib.hid cOf; have CP := Lib.hid cP
 clear hp ht cOf cP ep
 obtain ⟨aA, cA, rfl⟩ := mA.agg
 obtain ⟨aB, cB, rfl⟩ := mB.agg
 obtain ⟨wb, ew, KA, KB, B0, hsz⟩ := boxes2 w 63 63 [.int .i64 R, .int .i64 C, .slice aA xs.length cA] [.int .i64 R2, .int .i64 C2, .slice aB ys.length cB]
 clear hsz
 replace mA := mA.next B0
 replace mB := mB.next B0
 have HF := Lib.hid hf; have HG := Lib.hid hg; clear hf hg
 have HS := Lib.hid hs; clear hs
 go_enter Try.func13, Try.ntmps13
 go_upto_region 1 with (fail)
 rw [← ew]
 clear ew
 go_wp2_with fail
 refine (law25_awake _).mono ?_; rintro e w1 ⟨rfl, b1⟩
 replace mA := mA.next b1
 replace mB := mB.next b1
 replace KA := KA.next b1
 replace KB := KB.next b1
 replace B0 := B0.trans (b1.mono B0.size)
 clear b1
 have qKA0 := KA.cell 0
 have qKA1 := KA.cell 1
 have qKA2 := KA.cell 2
 go_wp2_with fail
 refine (rf21_Few _ R C 3 xs _ mA true (decide_eq_true HF.out).symm).mono ?_; rintro e w2 ⟨rfl, b2⟩
 clear qKA0 qKA1 qKA2
 replace mA := mA.next b2
 replace mB := mB.next b2
 replace KA := KA.next b2
 replace KB := KB.next b2
 replace B0 := B0.trans (b2.mono B0.size)
 clear b2
 have qKB0 := KB.cell 0
 have qKB1 := KB.cell 1
 have qKB2 := KB.cell 2
 go_wp2_with fail
 refine (rf21_Few _ R2 C2 3 ys _ mB true (decide_eq_true HG.out).symm).mono ?_; rintro e w3 ⟨rfl, b3⟩
 clear qKB0 qKB1 qKB2
 replace mA := mA.next b3
 replace mB := mB.next b3
 replace KA := KA.next b3
 replace KB := KB.next b3
 replace B0 := B0.trans (b3.mono B0.size)
 clear b3
 go_wp2_with fail
 refine (COF.out _).mono ?_; rintro e w4 ⟨rfl, b4⟩
 replace mA := mA.next b4
 replace mB := mB.next b4
 replace KA := KA.next b4
 replace KB := KB.next b4
 replace B0 := B0.trans (b4.mono B0.size)
 clear b4
 obtain ⟨w5, e5, KF, b5, hs5⟩ := boxes1 w4 29 [.int .u64 p]
 clear hs5
 replace mA := mA.next b5
 replace mB := mB.next b5
 replace KA := KA.next b5
 replace KB := KB.next b5
 replace B0 := B0.trans (b5.mono B0.size)
 clear b5
 go_upto_region 4 with (fail)
 rw [← e5]
 clear e5
 have qKF0 := KF.cell 0
 have qKA0 := KA.cell 0
 have qKA1 := KA.cell 1
 have qKA2 := KA.cell 2
 have qKB0 := KB.cell 0
 have qKB1 := KB.cell 1
 have qKB2 := KB.cell 2
 go_wp2_with fail
 refine (fb_Similar_noA p _ _ R C R2 C2 xs ys _ mA mB HS.out).mono ?_; rintro e w6 ⟨rfl, b6⟩
 clear qKF0 qKA0 qKA1 qKA2 qKB0 qKB1 qKB2
 replace mA := mA.next b6
 replace mB := mB.next b6
 replace KA := KA.next b6
 replace KB := KB.next b6
 replace KF := KF.next b6
 replace B0 := B0.trans (b6.mono B0.size)
 clear b6
 obtain ⟨w7, e7, KX, b7, hs7⟩ := boxes1 w6 63 [.int .i64 0, .int .i64 0, .slice none 0 0]
 clear hs7
 replace mA := mA.next b7
 replace mB := mB.next b7
 replace KA := KA.next b7
 replace KB := KB.next b7
 replace KF := KF.next b7
 replace B0 := B0.trans (b7.mono B0.size)
 clear b7
 go_upto_region 5 with (fail)
 rw [← e7]
 clear e7
 have qKA0 := KA.cell 0
 have qKA1 := KA.cell 1
 have qKA2 := KA.cell 2
 go_wp2_with fail
 refine (law25_square _ R C xs _ mA false (decide_eq_false HS.out).symm).mono ?_; rintro e w8 ⟨rfl, b8⟩
 clear qKA0 qKA1 qKA2
 replace mA := mA.next b8
 replace mB := mB.next b8
 replace KA := KA.next b8
 replace KB := KB.next b8
 replace KF := KF.next b8
 replace KX := KX.next b8
 replace B0 := B0.trans (b8.mono B0.size)
 clear b8
 clear mA mB KX KF
 go_wp2
 go_ret
 exact ⟨rfl, B0⟩
set_option maxRecDepth 20000 in
theorem not_sqB (x0 : Nat) (v : Value) (R C : Int) (xs : List Nat) (u : Value) (R2 C2 : Int) (ys : List Nat) (w : World) (mA : Fm w v R C xs) (mB : Fm w u R2 C2 ys) (hf : (R ≤ 3 ∧ C ≤ 3 ∧ xs.length ≤ 100)) (hg : (R2 ≤ 3 ∧ C2 ≤ 3 ∧ ys.length ≤ 100)) (hs : (Fd R C xs.length ∧ R = C)) (ht : ¬ (Fd R2 C2 ys.length ∧ R2 = C2)) :
  Calls Try.prog 13 #[.int .u8 x0, v, u] w (LawOk w) := by
 obtain ⟨p, ep⟩ : ∃ p, p = Ps (x0 % 12) := ⟨_, rfl⟩
 have hp : FP p := by rw [ep]; exact Ps_FP (by omega)
 have ht : Trial p := by rw [ep]; exact Ps_trial (by omega)
 have cOf : ∀ w : World, Calls Try.prog 17 #[.int .u8 x0] w fun e w' => e = .returned (.agg #[.int .u64 (p : Nat)]) ∧ Below w.heap.size w w' := fun w => by rw [ep]; exact law9_Of x0 w
 have cP : ∀ w : World, Calls Try.prog 18 #[.int .u8 x0] w fun e w' => e = .returned (.int .u64 (p : Nat)) ∧ w = w' := fun w => by rw [ep]; exact ref8_P x0 w
 have hp2 := hp.1
 have hp3 := hp.2
 have HP := Lib.hid hp; have HT := Lib.hid ht; have COF := Lib.hid cOf; have CP := Lib.hid cP
 clear hp ht cOf cP ep
 obtain ⟨aA, cA, rfl⟩ := mA.agg
 obtain ⟨aB, cB, rfl⟩ := mB.agg
 obtain ⟨wb, ew, KA, KB, B0, hsz⟩ := boxes2 w 63 63 [.int .i64 R, .int .i64 C, .slice aA xs.length cA] [.int .i64 R2, .int .i64 C2, .slice aB ys.length cB]
 clear hsz
 replace mA := mA.next B0
 replace mB := mB.next B0
 have HF := Lib.hid hf; have HG := Lib.hid hg; clear hf hg
 have HS := Lib.hid hs; have HTT := Lib.hid ht; clear hs ht
 go_enter Try.func13, Try.ntmps13
 go_upto_region 1 with (fail)
 rw [← ew]
 clear ew
 go_wp2_with fail
 refine (law25_awake _).mono ?_; rintro e w1 ⟨rfl, b1⟩
 replace mA := mA.next b1
 replace mB := mB.next b1
 replace KA := KA.next b1
 replace KB := KB.next b1
 replace B0 := B0.trans (b1.mono B0.size)
 clear b1
 have qKA0 := KA.cell 0
 have qKA1 := KA.cell 1
 have qKA2 := KA.cell 2
 go_wp2_with fail
 refine (rf21_Few _ R C 3 xs _ mA true (decide_eq_true HF.out).symm).mono ?_; rintro e w2 ⟨rfl, b2⟩
 clear qKA0 qKA1 qKA2
 replace mA := mA.next b2
 replace mB := mB.next b2
 replace KA := KA.next b2
 replace KB := KB.next b2
 replace B0 := B0.trans (b2.mono B0.size)
 clear b2
 have qKB0 := KB.cell 0
 have qKB1 := KB.cell 1
 have qKB2 := KB.cell 2
 go_wp2_with fail
 refine (rf21_Few _ R2 C2 3 ys _ mB true (decide_eq_true HG.out).symm).mono ?_; rintro e w3 ⟨rfl, b3⟩
 clear qKB0 qKB1 qKB2
 replace mA := mA.next b3
 replace mB := mB.next b3
 replace KA := KA.next b3
 replace KB := KB.next b3
 replace B0 := B0.trans (b3.mono B0.size)
 clear b3
 go_wp2_with fail
 refine (COF.out _).mono ?_; rintro e w4 ⟨rfl, b4⟩
 replace mA := mA.next b4
 replace mB := mB.next b4
 replace KA := KA.next b4
 replace KB := KB.next b4
 replace B0 := B0.trans (b4.mono B0.size)
 clear b4
 obtain ⟨w5, e5, KF, b5, hs5⟩ := boxes1 w4 29 [.int .u64 p]
 clear hs5
 replace mA := mA.next b5
 replace mB := mB.next b5
 replace KA := KA.next b5
 replace KB := KB.next b5
 replace B0 := B0.trans (b5.mono B0.size)
 clear b5
 go_upto_region 4 with (fail)
 rw [← e5]
 clear e5
 have qKF0 := KF.cell 0
 have qKA0 := KA.cell 0
 have qKA1 := KA.cell 1
 have qKA2 := KA.cell 2
 have qKB0 := KB.cell 0
 have qKB1 := KB.cell 1
 have qKB2 := KB.cell 2
 go_wp2_with fail
 refine (fb_Similar_noB p _ _ R C R2 C2 xs ys _ mA mB HS.out HTT.out).mono ?_; rintro e w6 ⟨rfl, b6⟩
 clear qKF0 qKA0 qKA1 qKA2 qKB0 qKB1 qKB2
 replace mA := mA.next b6
 replace mB := mB.next b6
 replace KA := KA.next b6
 replace KB := KB.next b6
 replace KF := KF.next b6
 replace B0 := B0.trans (b6.mono B0.size)
 clear b6
 obtain ⟨w7, e7, KX, b7, hs7⟩ := boxes1 w6 63 [.int .i64 0, .int .i64 0, .slice none 0 0]
 clear hs7
 replace mA := mA.next b7
 replace mB := mB.next b7
 replace KA := KA.next b7
 replace KB := KB.next b7
 replace KF := KF.next b7
 replace B0 := B0.trans (b7.mono B0.size)
 clear b7
 go_upto_region 5 with (fail)
 rw [← e7]
 clear e7
 have qKA0 := KA.cell 0
 have qKA1 := KA.cell 1
 have qKA2 := KA.cell 2
 go_wp2_with fail
 refine (law25_square _ R C xs _ mA true (decide_eq_true HS.out).symm).mono ?_; rintro e w8 ⟨rfl, b8⟩
 clear qKA0 qKA1 qKA2
 replace mA := mA.next b8
 replace mB := mB.next b8
 replace KA := KA.next b8
 replace KB := KB.next b8
 replace KF := KF.next b8
 replace KX := KX.next b8
 replace B0 := B0.trans (b8.mono B0.size)
 clear b8
 have qKB0 := KB.cell 0
 have qKB1 := KB.cell 1
 have qKB2 := KB.cell 2
 go_wp2_with fail
 refine (law25_square _ R2 C2 ys _ mB false (decide_eq_false HTT.out).symm).mono ?_; rintro e w9 ⟨rfl, b9⟩
 clear qKB0 qKB1 qKB2
 replace mA := mA.next b9
 replace mB := mB.next b9
 replace KA := KA.next b9
 replace KB := KB.next b9
 replace KF := KF.next b9
 replace KX := KX.next b9
 replace B0 := B0.trans (b9.mono B0.size)
 clear b9
 clear mA mB KX KF
 go_wp2
 go_ret
 exact ⟨rfl, B0⟩
set_option maxRecDepth 20000 in
theorem not_side (x0 : Nat) (v : Value) (R C : Int) (xs : List Nat) (u : Value) (R2 C2 : Int) (ys : List Nat) (w : World) (mA : Fm w v R C xs) (mB : Fm w u R2 C2 ys) (hf : (R ≤ 3 ∧ C ≤ 3 ∧ xs.length ≤ 100)) (hg : (R2 ≤ 3 ∧ C2 ≤ 3 ∧ ys.length ≤ 100)) (hs : (Fd R C xs.length ∧ R = C)) (ht : (Fd R2 C2 ys.length ∧ R2 = C2)) (hne : R ≠ R2) :
  Calls Try.prog 13 #[.int .u8 x0, v, u] w (LawOk w) := by
 obtain ⟨p, ep⟩ : ∃ p, p = Ps (x0 % 12) := ⟨_, rfl⟩
 have hp : FP p := by rw [ep]; exact Ps_FP (by omega)
 have ht : Trial p := by rw [ep]; exact Ps_trial (by omega)
 have cOf : ∀ w : World, Calls Try.prog 17 #[.int .u8 x0] w fun e w' => e = .returned (.agg #[.int .u64 (p : Nat)]) ∧ Below w.heap.size w w' := fun w => by rw [ep]; exact law9_Of x0 w
 have cP : ∀ w : World, Calls Try.prog 18 #[.int .u8 x0] w fun e w' => e = .returned (.int .u64 (p : Nat)) ∧ w = w' := fun w => by rw [ep]; exact ref8_P x0 w
 have hp2 := hp.1
 have hp3 := hp.2
 have HP := Lib.hid hp; have HT := Lib.hid ht; have COF := Lib.hid cOf; have CP := Lib.hid cP
 clear hp ht cOf cP ep
 obtain ⟨aA, cA, rfl⟩ := mA.agg
 obtain ⟨aB, cB, rfl⟩ := mB.agg
 obtain ⟨wb, ew, KA, KB, B0, hsz⟩ := boxes2 w 63 63 [.int .i64 R, .int .i64 C, .slice aA xs.length cA] [.int .i64 R2, .int .i64 C2, .slice aB ys.length cB]
 clear hsz
 replace mA := mA.next B0
 replace mB := mB.next B0
 have HF := Lib.hid hf; have HG := Lib.hid hg; clear hf hg
 have HS := Lib.hid hs; have HTT := Lib.hid ht; have HNE := Lib.hid hne; have hrr : (R != R2) = true := by simpa using hne
 clear hs ht hne
 go_enter Try.func13, Try.ntmps13
 go_upto_region 1 with (fail)
 rw [← ew]
 clear ew
 go_wp2_with fail
 refine (law25_awake _).mono ?_; rintro e w1 ⟨rfl, b1⟩
 replace mA := mA.next b1
 replace mB := mB.next b1
 replace KA := KA.next b1
 replace KB := KB.next b1
 replace B0 := B0.trans (b1.mono B0.size)
 clear b1
 have qKA0 := KA.cell 0
 have qKA1 := KA.cell 1
 have qKA2 := KA.cell 2
 go_wp2_with fail
 refine (rf21_Few _ R C 3 xs _ mA true (decide_eq_true HF.out).symm).mono ?_; rintro e w2 ⟨rfl, b2⟩
 clear qKA0 qKA1 qKA2
 replace mA := mA.next b2
 replace mB := mB.next b2
 replace KA := KA.next b2
 replace KB := KB.next b2
 replace B0 := B0.trans (b2.mono B0.size)
 clear b2
 have qKB0 := KB.cell 0
 have qKB1 := KB.cell 1
 have qKB2 := KB.cell 2
 go_wp2_with fail
 refine (rf21_Few _ R2 C2 3 ys _ mB true (decide_eq_true HG.out).symm).mono ?_; rintro e w3 ⟨rfl, b3⟩
 clear qKB0 qKB1 qKB2
 replace mA := mA.next b3
 replace mB := mB.next b3
 replace KA := KA.next b3
 replace KB := KB.next b3
 replace B0 := B0.trans (b3.mono B0.size)
 clear b3
 go_wp2_with fail
 refine (COF.out _).mono ?_; rintro e w4 ⟨rfl, b4⟩
 replace mA := mA.next b4
 replace mB := mB.next b4
 replace KA := KA.next b4
 replace KB := KB.next b4
 replace B0 := B0.trans (b4.mono B0.size)
 clear b4
 obtain ⟨w5, e5, KF, b5, hs5⟩ := boxes1 w4 29 [.int .u64 p]
 clear hs5
 replace mA := mA.next b5
 replace mB := mB.next b5
 replace KA := KA.next b5
 replace KB := KB.next b5
 replace B0 := B0.trans (b5.mono B0.size)
 clear b5
 go_upto_region 4 with (fail)
 rw [← e5]
 clear e5
 have qKF0 := KF.cell 0
 have qKA0 := KA.cell 0
 have qKA1 := KA.cell 1
 have qKA2 := KA.cell 2
 have qKB0 := KB.cell 0
 have qKB1 := KB.cell 1
 have qKB2 := KB.cell 2
 go_wp2_with fail
 refine (fb_Similar_noR p _ _ R C R2 C2 xs ys _ mA mB HS.out HTT.out HNE.out).mono ?_; rintro e w6 ⟨rfl, b6⟩
 clear qKF0 qKA0 qKA1 qKA2 qKB0 qKB1 qKB2
 replace mA := mA.next b6
 replace mB := mB.next b6
 replace KA := KA.next b6
 replace KB := KB.next b6
 replace KF := KF.next b6
 replace B0 := B0.trans (b6.mono B0.size)
 clear b6
 obtain ⟨w7, e7, KX, b7, hs7⟩ := boxes1 w6 63 [.int .i64 0, .int .i64 0, .slice none 0 0]
 clear hs7
 replace mA := mA.next b7
 replace mB := mB.next b7
 replace KA := KA.next b7
 replace KB := KB.next b7
 replace KF := KF.next b7
 replace B0 := B0.trans (b7.mono B0.size)
 clear b7
 go_upto_region 5 with (fail)
 rw [← e7]
 clear e7
 have qKA0 := KA.cell 0
 have qKA1 := KA.cell 1
 have qKA2 := KA.cell 2
 go_wp2_with fail
 refine (law25_square _ R C xs _ mA true (decide_eq_true HS.out).symm).mono ?_; rintro e w8 ⟨rfl, b8⟩
 clear qKA0 qKA1 qKA2
 replace mA := mA.next b8
 replace mB := mB.next b8
 replace KA := KA.next b8
 replace KB := KB.next b8
 replace KF := KF.next b8
 replace KX := KX.next b8
 replace B0 := B0.trans (b8.mono B0.size)
 clear b8
 have qKB0 := KB.cell 0
 have qKB1 := KB.cell 1
 have qKB2 := KB.cell 2
 go_wp2_with fail
 refine (law25_square _ R2 C2 ys _ mB true (decide_eq_true HTT.out).symm).mono ?_; rintro e w9 ⟨rfl, b9⟩
 clear qKB0 qKB1 qKB2
 replace mA := mA.next b9
 replace mB := mB.next b9
 replace KA := KA.next b9
 replace KB := KB.next b9
 replace KF := KF.next b9
 replace KX := KX.next b9
 replace B0 := B0.trans (b9.mono B0.size)
 clear b9
 have qKA0 := KA.cell 0
 have qKB0 := KB.cell 0
 clear mA mB KX KF
 go_wp2
 go_ret
 exact ⟨rfl, B0⟩
set_option maxRecDepth 20000 in
theorem good (x0 : Nat) (n : Nat) (v : Value) (xs : List Nat) (u : Value) (ys : List Nat) (w : World) (mA : Fm w v n n xs) (mB : Fm w u n n ys) (hn : n ≤ 3) (hx : xs.length = n * n) (hy : ys.length = n * n) (hf : ((n : Int) ≤ 3 ∧ (n : Int) ≤ 3 ∧ xs.length ≤ 100)) (hg : ((n : Int) ≤ 3 ∧ (n : Int) ≤ 3 ∧ ys.length ≤ 100)) :
  Calls Try.prog 13 #[.int .u8 x0, v, u] w (LawOk w) := by
 obtain ⟨p, ep⟩ : ∃ p, p = Ps (x0 % 12) := ⟨_, rfl⟩
 have hp : FP p := by rw [ep]; exact Ps_FP (by omega)
 have ht : Trial p := by rw [ep]; exact Ps_trial (by omega)
 have cOf : ∀ w : World, Calls Try.prog 17 #[.int .u8 x0] w fun e w' => e = .returned (.agg #[.int .u64 (p : Nat)]) ∧ Below w.heap.size w w' := fun w => by rw [ep]; exact law9_Of x0 w
 have cP : ∀ w : World, Calls Try.prog 18 #[.int .u8 x0] w fun e w' => e = .returned (.int .u64 (p : Nat)) ∧ w = w' := fun w => by rw [ep]; exact ref8_P x0 w
 have hp2 := hp.1
 have hp3 := hp.2
 have HP := Lib.hid hp; have HT := Lib.hid ht; have COF := Lib.hid cOf; have CP := Lib.hid cP
 clear hp ht cOf cP ep
 obtain ⟨aA, cA, rfl⟩ := mA.agg
 obtain ⟨aB, cB, rfl⟩ := mB.agg
 obtain ⟨wb, ew, KA, KB, B0, hsz⟩ := boxes2 w 63 63 [.int .i64 n, .int .i64 n, .slice aA xs.length cA] [.int .i64 n, .int .i64 n, .slice aB ys.length cB]
 clear hsz
 replace mA := mA.next B0
 replace mB := mB.next B0
 have HF := Lib.hid hf; have HG := Lib.hid hg; have HX := Lib.hid hx; have HY := Lib.hid hy; clear hf hg hx hy
 have HFd := Lib.hid (Fd.of (show n ≤ 64 by omega) (show n ≤ 64 by omega) HX.out)
 have HGd := Lib.hid (Fd.of (show n ≤ 64 by omega) (show n ≤ 64 by omega) HY.out)
 have hnn : ((n : Int) != (n : Int)) = false := by simp
 go_enter Try.func13, Try.ntmps13
 go_upto_region 1 with (fail)
 rw [← ew]
 clear ew
 go_wp2_with fail
 refine (law25_awake _).mono ?_; rintro e w1 ⟨rfl, b1⟩
 replace mA := mA.next b1
 replace mB := mB.next b1
 replace KA := KA.next b1
 replace KB := KB.next b1
 replace B0 := B0.trans (b1.mono B0.size)
 clear b1
 have qKA0 := KA.cell 0
 have qKA1 := KA.cell 1
 have qKA2 := KA.cell 2
 go_wp2_with fail
 refine (rf21_Few _ n n 3 xs _ mA true (decide_eq_true HF.out).symm).mono ?_; rintro e w2 ⟨rfl, b2⟩
 clear qKA0 qKA1 qKA2
 replace mA := mA.next b2
 replace mB := mB.next b2
 replace KA := KA.next b2
 replace KB := KB.next b2
 replace B0 := B0.trans (b2.mono B0.size)
 clear b2
 have qKB0 := KB.cell 0
 have qKB1 := KB.cell 1
 have qKB2 := KB.cell 2
 go_wp2_with fail
 refine (rf21_Few _ n n 3 ys _ mB true (decide_eq_true HG.out).symm).mono ?_; rintro e w3 ⟨rfl, b3⟩
 clear qKB0 qKB1 qKB2
 replace mA := mA.next b3
 replace mB := mB.next b3
 replace KA := KA.next b3
 replace KB := KB.next b3
 replace B0 := B0.trans (b3.mono B0.size)
 clear b3
 go_wp2_with fail
 refine (COF.out _).mono ?_; rintro e w4 ⟨rfl, b4⟩
 replace mA := mA.next b4
 replace mB := mB.next b4
 replace KA := KA.next b4
 replace KB := KB.next b4
 replace B0 := B0.trans (b4.mono B0.size)
 clear b4
 obtain ⟨w5, e5, KF, b5, hs5⟩ := boxes1 w4 29 [.int .u64 p]
 clear hs5
 replace mA := mA.next b5
 replace mB := mB.next b5
 replace KA := KA.next b5
 replace KB := KB.next b5
 replace B0 := B0.trans (b5.mono B0.size)
 clear b5
 go_upto_region 4 with (fail)
 rw [← e5]
 clear e5
 have qKF0 := KF.cell 0
 have qKA0 := KA.cell 0
 have qKA1 := KA.cell 1
 have qKA2 := KA.cell 2
 have qKB0 := KB.cell 0
 have qKB1 := KB.cell 1
 have qKB2 := KB.cell 2
 go_wp2_with fail
 refine (fb_Similar p _ _ n xs ys _ HP.out HT.out mA mB (by omega) HX.out HY.out).mono ?_; rintro e w6 ⟨W1, U1, V1, W2, U2, V2, X1, X2, hs1, hs2, (⟨-, Q, hQ, hQA, aQ, kQ, rfl, oQ, b6⟩ | ⟨hno, rfl, b6⟩)⟩
 ·clear qKF0 qKA0 qKA1 qKA2 qKB0 qKB1 qKB2
  replace mA := mA.next b6
  replace mB := mB.next b6
  replace KA := KA.next b6
  replace KB := KB.next b6
  replace KF := KF.next b6
  replace B0 := B0.trans (b6.mono B0.size)
  clear b6
  have HQ := Lib.hid (And.intro hQ hQA); clear hQ hQA oQ hs1 hs2
  obtain ⟨w7, e7, KX, b7, hs7⟩ := boxes1 w6 63 [.int .i64 n, .int .i64 n, .slice aQ (tbv Q).length kQ]
  clear hs7
  replace mA := mA.next b7
  replace mB := mB.next b7
  replace KA := KA.next b7
  replace KB := KB.next b7
  replace KF := KF.next b7
  replace B0 := B0.trans (b7.mono B0.size)
  clear b7
  clear KX
  go_upto_region 5 with (fail)
  rw [← e7]
  clear e7
  have qKA0 := KA.cell 0
  have qKA1 := KA.cell 1
  have qKA2 := KA.cell 2
  go_wp2_with fail
  refine (law25_square _ n n xs _ mA true (decide_eq_true ⟨HFd.out, rfl⟩).symm).mono ?_; rintro e w8 ⟨rfl, b8⟩
  clear qKA0 qKA1 qKA2
  replace mA := mA.next b8
  replace mB := mB.next b8
  replace KA := KA.next b8
  replace KB := KB.next b8
  replace KF := KF.next b8
  replace B0 := B0.trans (b8.mono B0.size)
  clear b8
  have qKB0 := KB.cell 0
  have qKB1 := KB.cell 1
  have qKB2 := KB.cell 2
  go_wp2_with fail
  refine (law25_square _ n n ys _ mB true (decide_eq_true ⟨HGd.out, rfl⟩).symm).mono ?_; rintro e w9 ⟨rfl, b9⟩
  clear qKB0 qKB1 qKB2
  replace mA := mA.next b9
  replace mB := mB.next b9
  replace KA := KA.next b9
  replace KB := KB.next b9
  replace KF := KF.next b9
  replace B0 := B0.trans (b9.mono B0.size)
  clear b9
  have qKA0 := KA.cell 0
  have qKB0 := KB.cell 0
  go_upto_region 7 with (fail)
  clear qKA0 qKB0
  have qKF0 := KF.cell 0
  have qKA0 := KA.cell 0
  have qKA1 := KA.cell 1
  have qKA2 := KA.cell 2
  go_wp2_with fail
  refine (fb_Invariants p _ n xs _ HP.out HT.out mA (by omega) HX.out).mono ?_; rintro e w10 ⟨W, U, V, X, h1, h2, h3, h4, h5, iv1, us, rfl, QI, b10⟩
  clear qKF0 qKA0 qKA1 qKA2
  replace mA := mA.next b10
  replace mB := mB.next b10
  replace KA := KA.next b10
  replace KB := KB.next b10
  replace KF := KF.next b10
  replace B0 := B0.trans (b10.mono B0.size)
  clear b10
  have hSF1 : SmF (mx p n n xs) W U V X := ⟨h1, h2, h3, h4, h5⟩
  obtain ⟨zz1, zl, nz1, hz⟩ := QI.ns HP.out
  have hIv1 : IvL n W zz1 := ⟨zl, fun j hj => ⟨(hz j hj).1, (hz j hj).2.1⟩⟩
  have hl1 : zz1.length ≤ 1000 := by rw [zl]; have := pks_len W n; omega
  have HB1 := Lib.hid (show ∀ j, j < zz1.length → (zz1.getD j []).length ≤ 255 from fun j hj => (hz j (by omega)).2.2)
  clear h1 h2 h3 h4 h5 QI hz us zl
  obtain ⟨w1, u1, v1, x1, HSI1⟩ : ∃ W U V X, Hid (SmF (mx p n n xs) W U V X ∧ IvL n W zz1) := ⟨W, U, V, X, Lib.hid ⟨hSF1, hIv1⟩⟩
  clear hSF1 hIv1
  go_upto_region 8 with (fail)
  have qKF0 := KF.cell 0
  have qKB0 := KB.cell 0
  have qKB1 := KB.cell 1
  have qKB2 := KB.cell 2
  go_wp2_with fail
  refine (fb_Invariants p _ n ys _ HP.out HT.out mB (by omega) HY.out).mono ?_; rintro e w11 ⟨W, U, V, X, h1, h2, h3, h4, h5, iv2, us, rfl, QI, b11⟩
  clear qKF0 qKB0 qKB1 qKB2
  replace mA := mA.next b11
  replace mB := mB.next b11
  replace KA := KA.next b11
  replace KB := KB.next b11
  replace KF := KF.next b11
  replace nz1 := nz1.next b11
  replace B0 := B0.trans (b11.mono B0.size)
  clear b11
  have hSF2 : SmF (mx p n n ys) W U V X := ⟨h1, h2, h3, h4, h5⟩
  obtain ⟨zz2, zl, nz2, hz⟩ := QI.ns HP.out
  have hIv2 : IvL n W zz2 := ⟨zl, fun j hj => ⟨(hz j hj).1, (hz j hj).2.1⟩⟩
  have hl2 : zz2.length ≤ 1000 := by rw [zl]; have := pks_len W n; omega
  have HB2 := Lib.hid (show ∀ j, j < zz2.length → (zz2.getD j []).length ≤ 255 from fun j hj => (hz j (by omega)).2.2)
  clear h1 h2 h3 h4 h5 QI hz us zl
  obtain ⟨w2, u2, v2, x2, HSI2⟩ : ∃ W U V X, Hid (SmF (mx p n n ys) W U V X ∧ IvL n W zz2) := ⟨W, U, V, X, Lib.hid ⟨hSF2, hIv2⟩⟩
  clear hSF2 hIv2
  have hzz : zz1 = zz2 := by
   obtain ⟨⟨Z', hZ⟩, hZA⟩ := HQ.out
   exact ivl_same HP.out (smF_same HT.out (sim_eqv hZ hZA) HSI1.out.1 HSI2.out.1) HSI1.out.2 HSI2.out.2
  have HZZ := Lib.hid hzz; clear hzz
  obtain ⟨M1, eM1⟩ : ∃ M, M = zz1.length := ⟨_, rfl⟩
  obtain ⟨M2, eM2⟩ : ∃ M, M = zz2.length := ⟨_, rfl⟩
  obtain ⟨a1, c1, rfl⟩ := nz1.slice
  obtain ⟨a2, c2, rfl⟩ := nz2.slice
  rw [← eM1] at nz1 hl1 HB1 ⊢
  rw [← eM2] at nz2 hl2 HB2 ⊢
  have HM1 := Lib.hid eM1; have HM2 := Lib.hid eM2
  obtain ⟨γ0, eγ0⟩ : ∃ γ, γ = decide (M1 = M2) := ⟨_, rfl⟩
  have hb0 : ((M1 : Int) == (M2 : Int)) = γ0 := by
   rw [eγ0]
   by_cases h : M1 = M2
   ·rw [decide_eq_true h, h]; simp
   ·rw [decide_eq_false h]; simp; omega
  have HG0 := Lib.hid (show γ0 = true ↔ M1 = M2 ∧ ∀ j, j < 0 → zz1.getD j [] = zz2.getD j [] from ⟨fun h => ⟨by rw [eγ0] at h; exact of_decide_eq_true h, fun j hj => by omega⟩, fun h => by rw [eγ0]; exact decide_eq_true h.1⟩)
  have HN1 := Lib.hid nz1; have HN2 := Lib.hid nz2; have HB0 := Lib.hid B0
  clear eM1 eM2 eγ0 nz1 nz2 B0 mA mB KA KB KF
  go_wp2
  clear hb0
  go_loopw [14, 15] (fun gv jv wr => ∃ (i : Nat) (γ : Bool), i ≤ M1 ∧ i ≤ M2 ∧ jv = .int .i64 i ∧ gv = .bool γ ∧ Hid (γ = true ↔ M1 = M2 ∧ ∀ j, j < i → zz1.getD j [] = zz2.getD j []) ∧ Below w11.heap.size w11 wr) (fun _ jv _ => M1 - (intOf jv).toNat)
  case atStart => exact ⟨0, γ0, by omega, by omega, rfl, rfl, HG0, Below.refl _ _⟩
  case round =>
   obtain ⟨i, γ, hi1, hi2, rfl, rfl, HG, B⟩ := hrel
   by_cases h1 : i < M1
   ·by_cases h2 : i < M2
    ·go_upto_region 13 with (fail)
     obtain ⟨b1, o1, ak1, ck1, rfl, lb1, qz1, sz1⟩ := (HN1.out.next B).get HM1.out h1
     obtain ⟨b2, o2, ak2, ck2, rfl, lb2, qz2, sz2⟩ := (HN2.out.next B).get HM2.out h2
     have l1 := HB1.out i h1
     have l2 := HB2.out i h2
     obtain ⟨z1, ez1⟩ : ∃ z, z = zz1.getD i [] := ⟨_, rfl⟩
     obtain ⟨z2, ez2⟩ : ∃ z, z = zz2.getD i [] := ⟨_, rfl⟩
     rw [← ez1] at qz1 sz1 l1
     rw [← ez2] at qz2 sz2 l2
     have bd := dw wr
     replace sz1 := sz1.next bd; replace sz2 := sz2.next bd
     replace qz1 := (bd.cell (p := ⟨b1, o1 + i, none⟩) lb1).trans qz1
     replace qz2 := (bd.cell (p := ⟨b2, o2 + i, none⟩) lb2).trans qz2
     replace lb1 : b1 < wr.drew.heap.size := lb1
     replace lb2 : b2 < wr.drew.heap.size := lb2
     replace B := B.trans (bd.mono B.size)
     obtain ⟨δ, eδ⟩ : ∃ δ, δ = decide (z1 = z2) := ⟨_, rfl⟩
     have HZ1 := Lib.hid ez1; have HZ2 := Lib.hid ez2; have HDL := Lib.hid eδ
     clear bd ez1 ez2 eδ
     cases γ with
     | true =>
      have zF0 := Lib.hid fun (w : World) (hS : Below (wr.drew).heap.size (wr.drew) w) => And.intro ((hS.cell (p := ⟨b1, o1 + i, none⟩) lb1).trans qz1) ((hS.cell (p := ⟨b2, o2 + i, none⟩) lb2).trans qz2)
      refine startL (S := (fun w' => Below (wr.drew).heap.size (wr.drew) w')) (by kernel_rfl) (Below.refl _ _) (fun hHeld => ?_)
      refine tk 0 ?_
      refine tk 1 ?_
      refine tk 2 ?_
      refine tk 3 ?_
      refine tk 4 ?_
      refine tf 5 zF0.out ?_
      refine tk 6 ?_
      refine tk 7 ?_
      refine tk 8 ?_
      refine tf 9 zF0.out ?_
      refine on 10 fun K hK => ?_
      go_simp
      go_at_call 29
      (with_reducible refine (ref9_Same _ _ z1 z2 δ _ (sz1.next hHeld) (sz2.next hHeld) (by omega) (by omega) HDL.out).mono ?_); rintro e y3 ⟨rfl, q4⟩
      refine hK.out _ _ (hHeld.trans ((q4.below _).mono hHeld.size)) (fun hHeld => ?_)
      clear hK K
      try simp only [Act.put, zq1, zq2, zq3]
      refine tk 11 ?_
      refine tk 12 ?_
      clear zF0; refine doneL (by kernel_rfl) ?_ _
      have HG2 := Lib.hid (show δ = true ↔ M1 = M2 ∧ ∀ j, j < i + 1 → zz1.getD j [] = zz2.getD j [] from ⟨fun h => ⟨(HG.out.1 rfl).1, fun j hj => by
       by_cases e : j = i
       ·rw [e, ← HZ1.out, ← HZ2.out]; rw [HDL.out] at h; exact of_decide_eq_true h
       ·exact (HG.out.1 rfl).2 j (by omega)⟩, fun h => by rw [HDL.out]; exact decide_eq_true (by rw [HZ1.out, HZ2.out]; exact h.2 i (by omega))⟩)
      have B2 := B.trans (hHeld.mono B.size)
      clear hHeld B qz1 qz2 sz1 sz2 l1 l2 lb1 lb2 HG
      go_wp2
      go_roundw
      case rel => exact ⟨i + 1, δ, by omega, by omega, by go_num, rfl, HG2, B2⟩
      case measure => simp [intOf] <;> omega
     | false =>
      refine startL (S := (fun w' => Below (wr.drew).heap.size (wr.drew) w')) (by kernel_rfl) (Below.refl _ _) (fun hHeld => ?_)
      refine tk 0 ?_
      refine tk 1 ?_
      refine skipL 2 rfl (by kernel_rfl) (by kernel_rfl) (by kernel_rfl) (fun _ _ _ h => h) (by rfl) (by assumption) ?_
      simp only [Act.put, zq1, zq2, zq3]
      refine skipL 3 rfl (by kernel_rfl) (by kernel_rfl) (by kernel_rfl) (fun _ _ _ h => h) (by rfl) (by assumption) ?_
      simp only [Act.put, zq1, zq2, zq3]
      refine skipL 4 rfl (by kernel_rfl) (by kernel_rfl) (by kernel_rfl) (fun _ _ _ h => h) (by rfl) (by assumption) ?_
      simp only [Act.put, zq1, zq2, zq3]
      refine skipL 5 rfl (by kernel_rfl) (by kernel_rfl) (by kernel_rfl) (fun _ _ _ h => h) (by rfl) (by assumption) ?_
      simp only [Act.put, zq1, zq2, zq3]
      refine skipL 6 rfl (by kernel_rfl) (by kernel_rfl) (by kernel_rfl) (fun _ _ _ h => h) (by rfl) (by assumption) ?_
      simp only [Act.put, zq1, zq2, zq3]
      refine skipL 7 rfl (by kernel_rfl) (by kernel_rfl) (by kernel_rfl) (fun _ _ _ h => h) (by rfl) (by assumption) ?_
      simp only [Act.put, zq1, zq2, zq3]
      refine skipL 8 rfl (by kernel_rfl) (by kernel_rfl) (by kernel_rfl) (fun _ _ _ h => h) (by rfl) (by assumption) ?_
      simp only [Act.put, zq1, zq2, zq3]
      refine skipL 9 rfl (by kernel_rfl) (by kernel_rfl) (by kernel_rfl) (fun _ _ _ h => h) (by rfl) (by assumption) ?_
      simp only [Act.put, zq1, zq2, zq3]
      refine skipL 10 rfl (by kernel_rfl) (by kernel_rfl) (by kernel_rfl) (fun _ _ _ h => h) (by rfl) (by assumption) ?_
      simp only [Act.put, zq1, zq2, zq3]
      refine tk 11 ?_
      refine tk 12 ?_
      refine doneL (by kernel_rfl) ?_ _
      have HG2 := Lib.hid (show false = true ↔ M1 = M2 ∧ ∀ j, j < i + 1 → zz1.getD j [] = zz2.getD j [] from ⟨fun h => (by cases h), fun h => HG.out.2 ⟨h.1, fun j hj => h.2 j (by omega)⟩⟩)
      have B2 := B.trans (hHeld.mono B.size)
      clear hHeld B qz1 qz2 sz1 sz2 l1 l2 lb1 lb2 HG
      go_wp2
      go_roundw
      case rel => exact ⟨i + 1, false, by omega, by omega, by go_num, rfl, HG2, B2⟩
      case measure => simp [intOf] <;> omega
    ·have hg : γ = true := HG.out.2 ⟨by rw [HM1.out, HM2.out, HZZ.out], fun j _ => by rw [HZZ.out]⟩
     subst hg
     have BF := HB0.out.trans (B.mono HB0.out.size)
     go_wp2
     go_ret
     exact ⟨rfl, BF⟩
   ·have hg : γ = true := HG.out.2 ⟨by rw [HM1.out, HM2.out, HZZ.out], fun j _ => by rw [HZZ.out]⟩
    subst hg
    have BF := HB0.out.trans (B.mono HB0.out.size)
    go_wp2
    go_ret
    exact ⟨rfl, BF⟩
 ·clear qKF0 qKA0 qKA1 qKA2 qKB0 qKB1 qKB2
  replace mA := mA.next b6
  replace mB := mB.next b6
  replace KA := KA.next b6
  replace KB := KB.next b6
  replace KF := KF.next b6
  replace B0 := B0.trans (b6.mono B0.size)
  clear b6
  have HQ := Lib.hid (And.intro hs1 (And.intro hs2 hno)); clear hs1 hs2 hno
  obtain ⟨w7, e7, KX, b7, hs7⟩ := boxes1 w6 63 [.int .i64 0, .int .i64 0, .slice none 0 0]
  clear hs7
  replace mA := mA.next b7
  replace mB := mB.next b7
  replace KA := KA.next b7
  replace KB := KB.next b7
  replace KF := KF.next b7
  replace B0 := B0.trans (b7.mono B0.size)
  clear b7
  clear KX
  go_upto_region 5 with (fail)
  rw [← e7]
  clear e7
  have qKA0 := KA.cell 0
  have qKA1 := KA.cell 1
  have qKA2 := KA.cell 2
  go_wp2_with fail
  refine (law25_square _ n n xs _ mA true (decide_eq_true ⟨HFd.out, rfl⟩).symm).mono ?_; rintro e w8 ⟨rfl, b8⟩
  clear qKA0 qKA1 qKA2
  replace mA := mA.next b8
  replace mB := mB.next b8
  replace KA := KA.next b8
  replace KB := KB.next b8
  replace KF := KF.next b8
  replace B0 := B0.trans (b8.mono B0.size)
  clear b8
  have qKB0 := KB.cell 0
  have qKB1 := KB.cell 1
  have qKB2 := KB.cell 2
  go_wp2_with fail
  refine (law25_square _ n n ys _ mB true (decide_eq_true ⟨HGd.out, rfl⟩).symm).mono ?_; rintro e w9 ⟨rfl, b9⟩
  clear qKB0 qKB1 qKB2
  replace mA := mA.next b9
  replace mB := mB.next b9
  replace KA := KA.next b9
  replace KB := KB.next b9
  replace KF := KF.next b9
  replace B0 := B0.trans (b9.mono B0.size)
  clear b9
  have qKA0 := KA.cell 0
  have qKB0 := KB.cell 0
  go_upto_region 7 with (fail)
  clear qKA0 qKB0
  have qKF0 := KF.cell 0
  have qKA0 := KA.cell 0
  have qKA1 := KA.cell 1
  have qKA2 := KA.cell 2
  go_wp2_with fail
  refine (fb_Invariants p _ n xs _ HP.out HT.out mA (by omega) HX.out).mono ?_; rintro e w10 ⟨W, U, V, X, h1, h2, h3, h4, h5, iv1, us, rfl, QI, b10⟩
  clear qKF0 qKA0 qKA1 qKA2
  replace mA := mA.next b10
  replace mB := mB.next b10
  replace KA := KA.next b10
  replace KB := KB.next b10
  replace KF := KF.next b10
  replace B0 := B0.trans (b10.mono B0.size)
  clear b10
  have hSF1 : SmF (mx p n n xs) W U V X := ⟨h1, h2, h3, h4, h5⟩
  obtain ⟨zz1, zl, nz1, hz⟩ := QI.ns HP.out
  have hIv1 : IvL n W zz1 := ⟨zl, fun j hj => ⟨(hz j hj).1, (hz j hj).2.1⟩⟩
  have hl1 : zz1.length ≤ 1000 := by rw [zl]; have := pks_len W n; omega
  have HB1 := Lib.hid (show ∀ j, j < zz1.length → (zz1.getD j []).length ≤ 255 from fun j hj => (hz j (by omega)).2.2)
  clear h1 h2 h3 h4 h5 QI hz us zl
  obtain ⟨w1, u1, v1, x1, HSI1⟩ : ∃ W U V X, Hid (SmF (mx p n n xs) W U V X ∧ IvL n W zz1) := ⟨W, U, V, X, Lib.hid ⟨hSF1, hIv1⟩⟩
  clear hSF1 hIv1
  go_upto_region 8 with (fail)
  have qKF0 := KF.cell 0
  have qKB0 := KB.cell 0
  have qKB1 := KB.cell 1
  have qKB2 := KB.cell 2
  go_wp2_with fail
  refine (fb_Invariants p _ n ys _ HP.out HT.out mB (by omega) HY.out).mono ?_; rintro e w11 ⟨W, U, V, X, h1, h2, h3, h4, h5, iv2, us, rfl, QI, b11⟩
  clear qKF0 qKB0 qKB1 qKB2
  replace mA := mA.next b11
  replace mB := mB.next b11
  replace KA := KA.next b11
  replace KB := KB.next b11
  replace KF := KF.next b11
  replace nz1 := nz1.next b11
  replace B0 := B0.trans (b11.mono B0.size)
  clear b11
  have hSF2 : SmF (mx p n n ys) W U V X := ⟨h1, h2, h3, h4, h5⟩
  obtain ⟨zz2, zl, nz2, hz⟩ := QI.ns HP.out
  have hIv2 : IvL n W zz2 := ⟨zl, fun j hj => ⟨(hz j hj).1, (hz j hj).2.1⟩⟩
  have hl2 : zz2.length ≤ 1000 := by rw [zl]; have := pks_len W n; omega
  have HB2 := Lib.hid (show ∀ j, j < zz2.length → (zz2.getD j []).length ≤ 255 from fun j hj => (hz j (by omega)).2.2)
  clear h1 h2 h3 h4 h5 QI hz us zl
  obtain ⟨w2, u2, v2, x2, HSI2⟩ : ∃ W U V X, Hid (SmF (mx p n n ys) W U V X ∧ IvL n W zz2) := ⟨W, U, V, X, Lib.hid ⟨hSF2, hIv2⟩⟩
  clear hSF2 hIv2
  have hzz : zz1 ≠ zz2 := fun e => by
   obtain ⟨q1, q2, q3⟩ := HQ.out
   have e1 := HSI2.out.2
   rw [← e] at e1
   refine q3 ?_
   rw [frM_same (A := mx p n n xs) (X := X1) (X2 := x1) (smF_same HT.out (Eqv.refl _) q1 HSI1.out.1), frM_same (A := mx p n n ys) (X := X2) (X2 := x2) (smF_same HT.out (Eqv.refl _) q2 HSI2.out.1)]
   exact ivl_frM HP.out HT.out HSI1.out.1 HSI2.out.1 HSI1.out.2 e1
  have HZZ := Lib.hid hzz; clear hzz
  obtain ⟨M1, eM1⟩ : ∃ M, M = zz1.length := ⟨_, rfl⟩
  obtain ⟨M2, eM2⟩ : ∃ M, M = zz2.length := ⟨_, rfl⟩
  obtain ⟨a1, c1, rfl⟩ := nz1.slice
  obtain ⟨a2, c2, rfl⟩ := nz2.slice
  rw [← eM1] at nz1 hl1 HB1 ⊢
  rw [← eM2] at nz2 hl2 HB2 ⊢
  have HM1 := Lib.hid eM1; have HM2 := Lib.hid eM2
  obtain ⟨γ0, eγ0⟩ : ∃ γ, γ = decide (M1 = M2) := ⟨_, rfl⟩
  have hb0 : ((M1 : Int) == (M2 : Int)) = γ0 := by
   rw [eγ0]
   by_cases h : M1 = M2
   ·rw [decide_eq_true h, h]; simp
   ·rw [decide_eq_false h]; simp; omega
  have HG0 := Lib.hid (show γ0 = true ↔ M1 = M2 ∧ ∀ j, j < 0 → zz1.getD j [] = zz2.getD j [] from ⟨fun h => ⟨by rw [eγ0] at h; exact of_decide_eq_true h, fun j hj => by omega⟩, fun h => by rw [eγ0]; exact decide_eq_true h.1⟩)
  have HN1 := Lib.hid nz1; have HN2 := Lib.hid nz2; have HB0 := Lib.hid B0
  clear eM1 eM2 eγ0 nz1 nz2 B0 mA mB KA KB KF
  go_wp2
  clear hb0
  go_loopw [14, 15] (fun gv jv wr => ∃ (i : Nat) (γ : Bool), i ≤ M1 ∧ i ≤ M2 ∧ jv = .int .i64 i ∧ gv = .bool γ ∧ Hid (γ = true ↔ M1 = M2 ∧ ∀ j, j < i → zz1.getD j [] = zz2.getD j []) ∧ Below w11.heap.size w11 wr) (fun _ jv _ => M1 - (intOf jv).toNat)
  case atStart => exact ⟨0, γ0, by omega, by omega, rfl, rfl, HG0, Below.refl _ _⟩
  case round =>
   obtain ⟨i, γ, hi1, hi2, rfl, rfl, HG, B⟩ := hrel
   by_cases h1 : i < M1
   ·by_cases h2 : i < M2
    ·go_upto_region 13 with (fail)
     obtain ⟨b1, o1, ak1, ck1, rfl, lb1, qz1, sz1⟩ := (HN1.out.next B).get HM1.out h1
     obtain ⟨b2, o2, ak2, ck2, rfl, lb2, qz2, sz2⟩ := (HN2.out.next B).get HM2.out h2
     have l1 := HB1.out i h1
     have l2 := HB2.out i h2
     obtain ⟨z1, ez1⟩ : ∃ z, z = zz1.getD i [] := ⟨_, rfl⟩
     obtain ⟨z2, ez2⟩ : ∃ z, z = zz2.getD i [] := ⟨_, rfl⟩
     rw [← ez1] at qz1 sz1 l1
     rw [← ez2] at qz2 sz2 l2
     have bd := dw wr
     replace sz1 := sz1.next bd; replace sz2 := sz2.next bd
     replace qz1 := (bd.cell (p := ⟨b1, o1 + i, none⟩) lb1).trans qz1
     replace qz2 := (bd.cell (p := ⟨b2, o2 + i, none⟩) lb2).trans qz2
     replace lb1 : b1 < wr.drew.heap.size := lb1
     replace lb2 : b2 < wr.drew.heap.size := lb2
     replace B := B.trans (bd.mono B.size)
     obtain ⟨δ, eδ⟩ : ∃ δ, δ = decide (z1 = z2) := ⟨_, rfl⟩
     have HZ1 := Lib.hid ez1; have HZ2 := Lib.hid ez2; have HDL := Lib.hid eδ
     clear bd ez1 ez2 eδ
     cases γ with
     | true =>
      have zF0 := Lib.hid fun (w : World) (hS : Below (wr.drew).heap.size (wr.drew) w) => And.intro ((hS.cell (p := ⟨b1, o1 + i, none⟩) lb1).trans qz1) ((hS.cell (p := ⟨b2, o2 + i, none⟩) lb2).trans qz2)
      refine startL (S := (fun w' => Below (wr.drew).heap.size (wr.drew) w')) (by kernel_rfl) (Below.refl _ _) (fun hHeld => ?_)
      refine tk 0 ?_
      refine tk 1 ?_
      refine tk 2 ?_
      refine tk 3 ?_
      refine tk 4 ?_
      refine tf 5 zF0.out ?_
      refine tk 6 ?_
      refine tk 7 ?_
      refine tk 8 ?_
      refine tf 9 zF0.out ?_
      refine on 10 fun K hK => ?_
      go_simp
      go_at_call 29
      (with_reducible refine (ref9_Same _ _ z1 z2 δ _ (sz1.next hHeld) (sz2.next hHeld) (by omega) (by omega) HDL.out).mono ?_); rintro e y3 ⟨rfl, q4⟩
      refine hK.out _ _ (hHeld.trans ((q4.below _).mono hHeld.size)) (fun hHeld => ?_)
      clear hK K
      try simp only [Act.put, zq1, zq2, zq3]
      refine tk 11 ?_
      refine tk 12 ?_
      clear zF0; refine doneL (by kernel_rfl) ?_ _
      have HG2 := Lib.hid (show δ = true ↔ M1 = M2 ∧ ∀ j, j < i + 1 → zz1.getD j [] = zz2.getD j [] from ⟨fun h => ⟨(HG.out.1 rfl).1, fun j hj => by
       by_cases e : j = i
       ·rw [e, ← HZ1.out, ← HZ2.out]; rw [HDL.out] at h; exact of_decide_eq_true h
       ·exact (HG.out.1 rfl).2 j (by omega)⟩, fun h => by rw [HDL.out]; exact decide_eq_true (by rw [HZ1.out, HZ2.out]; exact h.2 i (by omega))⟩)
      have B2 := B.trans (hHeld.mono B.size)
      clear hHeld B qz1 qz2 sz1 sz2 l1 l2 lb1 lb2 HG
      go_wp2
      go_roundw
      case rel => exact ⟨i + 1, δ, by omega, by omega, by go_num, rfl, HG2, B2⟩
      case measure => simp [intOf] <;> omega
     | false =>
      refine startL (S := (fun w' => Below (wr.drew).heap.size (wr.drew) w')) (by kernel_rfl) (Below.refl _ _) (fun hHeld => ?_)
      refine tk 0 ?_
      refine tk 1 ?_
      refine skipL 2 rfl (by kernel_rfl) (by kernel_rfl) (by kernel_rfl) (fun _ _ _ h => h) (by rfl) (by assumption) ?_
      simp only [Act.put, zq1, zq2, zq3]
      refine skipL 3 rfl (by kernel_rfl) (by kernel_rfl) (by kernel_rfl) (fun _ _ _ h => h) (by rfl) (by assumption) ?_
      simp only [Act.put, zq1, zq2, zq3]
      refine skipL 4 rfl (by kernel_rfl) (by kernel_rfl) (by kernel_rfl) (fun _ _ _ h => h) (by rfl) (by assumption) ?_
      simp only [Act.put, zq1, zq2, zq3]
      refine skipL 5 rfl (by kernel_rfl) (by kernel_rfl) (by kernel_rfl) (fun _ _ _ h => h) (by rfl) (by assumption) ?_
      simp only [Act.put, zq1, zq2, zq3]
      refine skipL 6 rfl (by kernel_rfl) (by kernel_rfl) (by kernel_rfl) (fun _ _ _ h => h) (by rfl) (by assumption) ?_
      simp only [Act.put, zq1, zq2, zq3]
      refine skipL 7 rfl (by kernel_rfl) (by kernel_rfl) (by kernel_rfl) (fun _ _ _ h => h) (by rfl) (by assumption) ?_
      simp only [Act.put, zq1, zq2, zq3]
      refine skipL 8 rfl (by kernel_rfl) (by kernel_rfl) (by kernel_rfl) (fun _ _ _ h => h) (by rfl) (by assumption) ?_
      simp only [Act.put, zq1, zq2, zq3]
      refine skipL 9 rfl (by kernel_rfl) (by kernel_rfl) (by kernel_rfl) (fun _ _ _ h => h) (by rfl) (by assumption) ?_
      simp only [Act.put, zq1, zq2, zq3]
      refine skipL 10 rfl (by kernel_rfl) (by kernel_rfl) (by kernel_rfl) (fun _ _ _ h => h) (by rfl) (by assumption) ?_
      simp only [Act.put, zq1, zq2, zq3]
      refine tk 11 ?_
      refine tk 12 ?_
      refine doneL (by kernel_rfl) ?_ _
      have HG2 := Lib.hid (show false = true ↔ M1 = M2 ∧ ∀ j, j < i + 1 → zz1.getD j [] = zz2.getD j [] from ⟨fun h => (by cases h), fun h => HG.out.2 ⟨h.1, fun j hj => h.2 j (by omega)⟩⟩)
      have B2 := B.trans (hHeld.mono B.size)
      clear hHeld B qz1 qz2 sz1 sz2 l1 l2 lb1 lb2 HG
      go_wp2
      go_roundw
      case rel => exact ⟨i + 1, false, by omega, by omega, by go_num, rfl, HG2, B2⟩
      case measure => simp [intOf] <;> omega
    ·have hg : γ = false := by
      cases hγ : γ with
      | false => rfl
      | true =>
       obtain ⟨e1, e2⟩ := HG.out.1 hγ
       refine absurd (List.ext_getElem (by rw [← HM1.out, ← HM2.out, e1]) fun j k1 k2 => ?_) HZZ.out
       have g1 : zz1.getD j [] = zz1[j] := by simp [List.getD, List.getElem?_eq_getElem k1]
       have g2 : zz2.getD j [] = zz2[j] := by simp [List.getD, List.getElem?_eq_getElem k2]
       rw [← g1, ← g2]
       exact e2 j (by have := HM1.out; have := HM2.out; omega)
     subst hg
     have BF := HB0.out.trans (B.mono HB0.out.size)
     go_wp2
     go_ret
     exact ⟨rfl, BF⟩
   ·have hg : γ = false := by
     cases hγ : γ with
     | false => rfl
     | true =>
      obtain ⟨e1, e2⟩ := HG.out.1 hγ
      refine absurd (List.ext_getElem (by rw [← HM1.out, ← HM2.out, e1]) fun j k1 k2 => ?_) HZZ.out
      have g1 : zz1.getD j [] = zz1[j] := by simp [List.getD, List.getElem?_eq_getElem k1]
      have g2 : zz2.getD j [] = zz2[j] := by simp [List.getD, List.getElem?_eq_getElem k2]
      rw [← g1, ← g2]
      exact e2 j (by have := HM1.out; have := HM2.out; omega)
    subst hg
    have BF := HB0.out.trans (B.mono HB0.out.size)
    go_wp2
    go_ret
    exact ⟨rfl, BF⟩
theorem walk (x0 : Nat) (v : Value) (R C : Int) (xs : List Nat) (u : Value) (R2 C2 : Int) (ys : List Nat) (w : World) (mA : Fm w v R C xs) (mB : Fm w u R2 C2 ys) : Calls Try.prog 13 #[.int .u8 x0, v, u] w (LawOk w) := by
 by_cases hf : (R ≤ 3 ∧ C ≤ 3 ∧ xs.length ≤ 100)
 ·by_cases hg : (R2 ≤ 3 ∧ C2 ≤ 3 ∧ ys.length ≤ 100)
  ·by_cases hs : (Fd R C xs.length ∧ R = C)
   ·by_cases ht : (Fd R2 C2 ys.length ∧ R2 = C2)
    ·by_cases hne : R = R2
     ·subst hne
      obtain ⟨h1, rfl⟩ := hs
      obtain ⟨h2, h3⟩ := ht
      subst h3
      obtain ⟨r, c, e1, e2, h3, h4, h5⟩ := h1.nat
      obtain ⟨r2, c2, e3, e4, h6, h7, h8⟩ := h2.nat
      subst e1
      have e5 : c = r := by omega
      have e6 : r2 = r := by omega
      have e7 : c2 = r := by omega
      subst e5 e6 e7
      exact good x0 c2 v xs u ys w mA mB (by omega) h5 h8 hf hg
     ·exact not_side x0 v R C xs u R2 C2 ys w mA mB hf hg hs ht hne
    ·exact not_sqB x0 v R C xs u R2 C2 ys w mA mB hf hg hs ht
   ·exact not_sqA x0 v R C xs u R2 C2 ys w mA mB hf hg hs
  ·exact not_fewB x0 v R C xs u R2 C2 ys w mA mB hf hg
 ·exact not_fewA x0 v R C xs u R2 C2 ys w mA mB hf
set_option maxRecDepth 100000 in
theorem lifted (os : Os) (started : os.Started) (H : Type) (enc : TypeId × Value → H) :
  ReturnsInHanded {} Try.checked os 13 .any (Rows.frobApartSpec.pre6 enc Try.prog Try.f13 Rows.frobApartRow.domain false) (Rows.frobApartSpec.post enc Try.prog Try.f13 false true false false) := by
 refine returnsInHanded_of_change (C := Try.checked) own started (by kernel_rfl) Try.func13
  (ChangeSpec.witness6 (enc := enc) (C := Try.checked) false ⟨#[], #[.int .u8 0, .agg #[.int .i64 0, .int .i64 0, .slice none 0 0], .agg #[.int .i64 0, .int .i64 0, .slice none 0 0]], []⟩ 8 (by kernel_rfl) (by kernel_rfl) (by kernel_rfl) (by kernel_rfl)) ?_
 intro W base args ds gs before hval0 hW hcnd _
 have hval : ∀ (j : Nat) t v, Try.f13.params[j]? = some t → args[j]? = some v → Value.okWide Try.prog W .any base t v := hval0
 have hW' := hW
 obtain ⟨p, q, hA0, hV, rfl, hfz, hnd⟩ := hW
 have hA : DataW.TrodAll enc Try.prog W 0 (fun _ => true) true Try.f13.params.toList args.toList ds p := hA0
 rw [Try.params13] at hA hval
 obtain ⟨v0, vs0, d0, ds0, p0, q0, hargs, rfl, rfl, h0, r0⟩ := trodAll_cons hA
 obtain ⟨v1, vs1, d1, ds1, p1, q1, rfl, rfl, rfl, h1, r1⟩ := trodAll_cons r0
 obtain ⟨v2, vs2, d2, ds2, p2, q2, rfl, rfl, rfl, h2, r2⟩ := trodAll_cons r1
 obtain ⟨rfl, rfl, rfl⟩ := trodAll_nil r2
 obtain rfl : args = #[v0, v1, v2] := by cases args; simp_all
 obtain ⟨rfl, rfl⟩ := trodVars_none hV
 have k0 := h0
 have lt0 : ∀ x ∈ p0, x.block < W.heap.size := by obtain ⟨m, hm⟩ := k0; exact DataW.trod_lt m _ _ _ hm
 obtain ⟨i0, rfl, rfl, rfl, wi0⟩ := open_int Try.underlying5 (hval 0 5 v0 rfl rfl) h0
 obtain ⟨x0, rfl⟩ := Int.eq_ofNat_of_zero_le (wf_u8_bounds wi0).1
 have k1 := h1
 have lt1 : ∀ x ∈ p1, x.block < W.heap.size := by obtain ⟨m, hm⟩ := k1; exact DataW.trod_lt m _ _ _ hm
 obtain ⟨R1, C1, xs1, m1, rb1, cb1⟩ := open_fm (hval 1 63 v1 rfl rfl) h1
 have k2 := h2
 have lt2 : ∀ x ∈ p2, x.block < W.heap.size := by obtain ⟨m, hm⟩ := k2; exact DataW.trod_lt m _ _ _ hm
 obtain ⟨R2, C2, xs2, m2, rb2, cb2⟩ := open_fm (hval 2 63 v2 rfl rfl) h2
 clear hA0 hval0
 refine (walk x0 v1 R1 C1 xs1 v2 R2 C2 xs2 W  m1 m2).mono fun e W' ⟨he, bel⟩ => ?_
 subst he
 exact ⟨_, rfl, _, _, _, [], _, [], hW', trodAll_mk1 (shut_bool Try.underlying4 _), (trodAll_cons_mk (Below.trod laidOut (by kernel_rfl) (of_decide_eq_true (by kernel_rfl)) k0 bel lt0) (trodAll_cons_mk (Below.trod laidOut (by kernel_rfl) (of_decide_eq_true (by kernel_rfl)) k1 bel lt1) (trodAll_cons_mk (Below.trod laidOut (by kernel_rfl) (of_decide_eq_true (by kernel_rfl)) k2 bel lt2) trodAll_mk0))), rfl, bel.frame _, fun h => by cases h⟩
theorem over : Rows.frobApartRow.holds Try.pinned (OpenSpec.ofChange Rows.frobApartSpec) :=
 OpenClaim.holds_of_wide 13 Try.f13 rfl rfl rfl rfl rfl rfl rfl ⟨rfl, rfl, rfl, rfl, rfl⟩ rfl rfl rfl rfl rfl (by kernel_rfl) Try.func13 (by kernel_rfl)
  (of_decide_eq_true (by kernel_rfl)) (by unfold Func.isWrapper; first | (rw [if_pos (by decide +kernel)]; kernel_rfl) | (rw [if_neg (by decide +kernel)]; exact ⟨rfl, rfl⟩))
  (fun os started H enc _ => lifted os started H enc)
theorem proved : Rows.FrobApartSaid := over
#print axioms proved
end Go.Proofs.Ytkmfhabgempjiaa.frobApart
