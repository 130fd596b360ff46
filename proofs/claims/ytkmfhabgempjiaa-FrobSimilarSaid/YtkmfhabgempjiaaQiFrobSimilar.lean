/- FrobSimilar: for every number and two matrices the law returns true: matrices that are made of each other are told to be similar, with what makes them. No condition. -/
import Derived.Test.YtkmfhabgempjiaaRows
import Derived.Test.YtkmfhabgempjiaaQiM8
import Derived.Test.YtkmfhabgempjiaaQiM21
import Derived.Test.YtkmfhabgempjiaaQiM22
namespace Go.Proofs.Ytkmfhabgempjiaa.frobSimilar
set_option maxHeartbeats 4000000
open Go.ChangeShapes Go.WideShapes Go.ChangeAt Go.RowKit
open Go.ChangeMaps (open_string shut_string)
theorem own : ownKnob Try.prog.godebug = none := by kernel_rfl
theorem laidOut : laidOutB Try.prog = true := by kernel_rfl
set_option maxRecDepth 20000 in
theorem not_fewA (x0 : Nat) (v : Value) (R C : Int) (xs : List Nat) (u : Value) (R2 C2 : Int) (ys : List Nat) (w : World) (mA : Fm w v R C xs) (mB : Fm w u R2 C2 ys) (hf : ¬ (R ≤ 4 ∧ C ≤ 4 ∧ xs.length ≤ 100)) :
  Calls Try.prog 12 #[.int .u8 x0, v, u] w (LawOk w) := by
 obtain ⟨aA, cA, rfl⟩ := mA.agg
 obtain ⟨aB, cB, rfl⟩ := mB.agg
 obtain ⟨wb, ew, KA, KB, B0, hsz⟩ := boxes2 w 63 63 [.int .i64 R, .int .i64 C, .slice aA xs.length cA] [.int .i64 R2, .int .i64 C2, .slice aB ys.length cB]
 clear hsz
 replace mA := mA.next B0
 replace mB := mB.next B0
 have HF := Lib.hid hf; clear hf
 go_enter Try.func12, Try.ntmps12
 go_upto_region 1 with (fail)
 rw [← ew]
 clear ew
 go_wp2_with fail
 refine (law25_awake _).mono ?_; rintro e w1 ⟨rfl, b1⟩
 replace mA := mA.next b1
 replace mB := mB.next b1
 replace KA := KA.next b1
 replace KB := KB.next b1
 replace B0 := B0.trans (b1.mono B0.size)
 clear b1
 have qKA0 := KA.cell 0
 have qKA1 := KA.cell 1
 have qKA2 := KA.cell 2
 go_wp2_with fail
 refine (rf21_Few _ R C 4 xs _ mA false (decide_eq_false HF.out).symm).mono ?_; rintro e w2 ⟨rfl, b2⟩
 clear qKA0 qKA1 qKA2
 replace mA := mA.next b2
 replace mB := mB.next b2
 replace KA := KA.next b2
 replace KB := KB.next b2
 replace B0 := B0.trans (b2.mono B0.size)
 clear b2
 clear mA mB
 go_wp2_with fail
 refine (law25_awake _).mono ?_; rintro e w3 ⟨rfl, b3⟩
 replace KA := KA.next b3
 replace KB := KB.next b3
 replace B0 := B0.trans (b3.mono B0.size)
 clear b3
 go_wp2
 go_ret
 exact ⟨rfl, B0⟩
set_option maxRecDepth 20000 in
theorem not_fewB (x0 : Nat) (v : Value) (R C : Int) (xs : List Nat) (u : Value) (R2 C2 : Int) (ys : List Nat) (w : World) (mA : Fm w v R C xs) (mB : Fm w u R2 C2 ys) (hf : (R ≤ 4 ∧ C ≤ 4 ∧ xs.length ≤ 100)) (hg : ¬ (R2 ≤ 4 ∧ C2 ≤ 4 ∧ ys.length ≤ 100)) :
  Calls Try.prog 12 #[.int .u8 x0, v, u] w (LawOk w) := by
 obtain ⟨aA, cA, rfl⟩ := mA.agg
 obtain ⟨aB, cB, rfl⟩ := mB.agg
 obtain ⟨wb, ew, KA, KB, B0, hsz⟩ := boxes2 w 63 63 [.int .i64 R, .int .i64 C, .slice aA xs.length cA] [.int .i64 R2, .int .i64 C2, .slice aB ys.length cB]
 clear hsz
 replace mA := mA.next B0
 replace mB := mB.next B0
 have HF := Lib.hid hf; have HG := Lib.hid hg; clear hf hg
 go_enter Try.func12, Try.ntmps12
 go_upto_region 1 with (fail)
 rw [← ew]
 clear ew
 go_wp2_with fail
 refine (law25_awake _).mono ?_; rintro e w1 ⟨rfl, b1⟩
 replace mA := mA.next b1
 replace mB := mB.next b1
 replace KA := KA.next b1
 replace KB := KB.next b1
 replace B0 := B0.trans (b1.mono B0.size)
 clear b1
 have qKA0 := KA.cell 0
 have qKA1 := KA.cell 1
 have qKA2 := KA.cell 2
 go_wp2_with fail
 refine (rf21_Few _ R C 4 xs _ mA true (decide_eq_true HF.out).symm).mono ?_; rintro e w2 ⟨rfl, b2⟩
 clear qKA0 qKA1 qKA2
 replace mA := mA.next b2
 replace mB := mB.next b2
 replace KA := KA.next b2
 replace KB := KB.next b2
 replace B0 := B0.trans (b2.mono B0.size)
 clear b2
 have qKB0 := KB.cell 0
 have qKB1 := KB.cell 1
 have qKB2 := KB.cell 2
 go_wp2_with fail
 refine (rf21_Few _ R2 C2 4 ys _ mB false (decide_eq_false HG.out).symm).mono ?_; rintro e w3 ⟨rfl, b3⟩
 clear qKB0 qKB1 qKB2
 replace mA := mA.next b3
 replace mB := mB.next b3
 replace KA := KA.next b3
 replace KB := KB.next b3
 replace B0 := B0.trans (b3.mono B0.size)
 clear b3
 clear mA mB
 go_wp2_with fail
 refine (law25_awake _).mono ?_; rintro e w4 ⟨rfl, b4⟩
 replace KA := KA.next b4
 replace KB := KB.next b4
 replace B0 := B0.trans (b4.mono B0.size)
 clear b4
 go_wp2
 go_ret
 exact ⟨rfl, B0⟩
set_option maxRecDepth 20000 in
theorem not_sqA (x0 : Nat) (v : Value) (R C : Int) (xs : List Nat) (u : Value) (R2 C2 : Int) (ys : List Nat) (w : World) (mA : Fm w v R C xs) (mB : Fm w u R2 C2 ys) (hf : (R ≤ 4 ∧ C ≤ 4 ∧ xs.length ≤ 100)) (hg : (R2 ≤ 4 ∧ C2 ≤ 4 ∧ ys.length ≤ 100)) (hs : ¬ (Fd R C xs.length ∧ R = C)) :
  Calls Try.prog 12 #[.int .u8 x0, v, u] w (LawOk w) := by
 obtain ⟨aA, cA, rfl⟩ := mA.agg
 obtain ⟨aB, cB, rfl⟩ := mB.agg
 obtain ⟨wb, ew, KA, KB, B0, hsz⟩ := boxes2 w 63 63 [.int .i64 R, .int .i64 C, .slice aA xs.length cA] [.int .i64 R2, .int .i64 C2, .slice aB ys.length cB]
 clear hsz
 replace mA := mA.next B0
 replace mB := mB.next B0
 have HF := Lib.hid hf; have HG := Lib.hid hg; have HS := Lib.hid hs; clear hf hg hs
 go_enter Try.func12, Try.ntmps12
 go_upto_region 1 with (fail)
 rw [← ew]
 clear ew
 go_wp2_with fail
 refine (law25_awake _).mono ?_; rintro e w1 ⟨rfl, b1⟩
 replace mA := mA.next b1
 replace mB := mB.next b1
 replace KA := KA.next b1
 replace KB := KB.next b1
 replace B0 := B0.trans (b1.mono B0.size)
 clear b1
 have qKA0 := KA.cell 0
 have qKA1 := KA.cell 1
 have qKA2 := KA.cell 2
 go_wp2_with fail
 refine (rf21_Few _ R C 4 xs _ mA true (decide_eq_true HF.out).symm).mono ?_; rintro e w2 ⟨rfl, b2⟩
 clear qKA0 qKA1 qKA2
 replace mA := mA.next b2
 replace mB := mB.next b2
 replace KA := KA.next b2
 replace KB := KB.next b2
 replace B0 := B0.trans (b2.mono B0.size)
 clear b2
 have qKB0 := KB.cell 0
 have qKB1 := KB.cell 1
 have qKB2 := KB.cell 2
 go_wp2_with fail
 refine (rf21_Few _ R2 C2 4 ys _ mB true (decide_eq_true HG.out).symm).mono ?_; rintro e w3 ⟨rfl, b3⟩
 clear qKB0 qKB1 qKB2
 replace mA := mA.next b3
 replace mB := mB.next b3
 replace KA := KA.next b3
 replace KB := KB.next b3
 replace B0 := B0.trans (b3.mono B0.size)
 clear b3
 have qKA0 := KA.cell 0
 have qKA1 := KA.cell 1
 have qKA2 := KA.cell 2
 go_wp2_with fail
 refine (law25_square _ R C xs _ mA false (decide_eq_false HS.out).symm).mono ?_; rintro e w4 ⟨rfl, b4⟩
 clear qKA0 qKA1 qKA2
 replace mA := mA.next b4
 replace mB := mB.next b4
 replace KA := KA.next b4
 replace KB := KB.next b4
 replace B0 := B0.trans (b4.mono B0.size)
 clear b4
 clear mA mB
 go_wp2_with fail
 refine (law25_awake _).mono ?_; rintro e w5 ⟨rfl, b5⟩
 replace KA := KA.next b5
 replace KB := KB.next b5
 replace B0 := B0.trans (b5.mono B0.size)
 clear b5
 go_wp2
 go_ret
 exact ⟨rfl, B0⟩
set_option maxRecDepth 20000 in
theorem not_sqB (x0 : Nat) (v : Value) (R C : Int) (xs : List Nat) (u : Value) (R2 C2 : Int) (ys : List Nat) (w : World) (mA : Fm w v R C xs) (mB : Fm w u R2 C2 ys) (hf : (R ≤ 4 ∧ C ≤ 4 ∧ xs.length ≤ 100)) (hg : (R2 ≤ 4 ∧ C2 ≤ 4 ∧ ys.length ≤ 100)) (hs : (Fd R C xs.length ∧ R = C)) (ht : ¬ (Fd R2 C2 ys.length ∧ R2 = C2)) :
  Calls Try.prog 12 #[.int .u8 x0, v, u] w (LawOk w) := by
 obtain ⟨aA, cA, rfl⟩ := mA.agg
 obtain ⟨aB, cB, rfl⟩ := mB.agg
 obtain ⟨wb, ew, KA, KB, B0, hsz⟩ := boxes2 w 63 63 [.int .i64 R, .int .i64 C, .slice aA xs.length cA] [.int .i64 R2, .int .i64 C2, .slice aB ys.length cB]
 clear hsz
 replace mA := mA.next B0
 replace mB := mB.next B0
 have HF := Lib.hid hf; have HG := Lib.hid hg; have HS := Lib.hid hs; have HT := Lib.hid ht; clear hf hg hs ht
 go_enter Try.func12, Try.ntmps12
 go_upto_region 1 with (fail)
 rw [← ew]
 clear ew
 go_wp2_with fail
 refine (law25_awake _).mono ?_; rintro e w1 ⟨rfl, b1⟩
 replace mA := mA.next b1
 replace mB := mB.next b1
 replace KA := KA.next b1
 replace KB := KB.next b1
 replace B0 := B0.trans (b1.mono B0.size)
 clear b1
 have qKA0 := KA.cell 0
 have qKA1 := KA.cell 1
 have qKA2 := KA.cell 2
 go_wp2_with fail
 refine (rf21_Few _ R C 4 xs _ mA true (decide_eq_true HF.out).symm).mono ?_; rintro e w2 ⟨rfl, b2⟩
 clear qKA0 qKA1 qKA2
 replace mA := mA.next b2
 replace mB := mB.next b2
 replace KA := KA.next b2
 replace KB := KB.next b2
 replace B0 := B0.trans (b2.mono B0.size)
 clear b2
 have qKB0 := KB.cell 0
 have qKB1 := KB.cell 1
 have qKB2 := KB.cell 2
 go_wp2_with fail
 refine (rf21_Few _ R2 C2 4 ys _ mB true (decide_eq_true HG.out).symm).mono ?_; rintro e w3 ⟨rfl, b3⟩
 clear qKB0 qKB1 qKB2
 replace mA := mA.next b3
 replace mB := mB.next b3
 replace KA := KA.next b3
 replace KB := KB.next b3
 replace B0 := B0.trans (b3.mono B0.size)
 clear b3
 have qKA0 := KA.cell 0
 have qKA1 := KA.cell 1
 have qKA2 := KA.cell 2
 go_wp2_with fail
 refine (law25_square _ R C xs _ mA true (decide_eq_true HS.out).symm).mono ?_; rintro e w4 ⟨rfl, b4⟩
 clear qKA0 qKA1 qKA2
 replace mA := mA.next b4
 replace mB := mB.next b4
 replace KA := KA.next b4
 replace KB := KB.next b4
 replace B0 := B0.trans (b4.mono B0.size)
 clear b4
 have qKB0 := KB.cell 0
 have qKB1 := KB.cell 1
 have qKB2 := KB.cell 2
 go_wp2_with fail
 refine (law25_square _ R2 C2 ys _ mB false (decide_eq_false HT.out).symm).mono ?_; rintro e w5 ⟨rfl, b5⟩
 clear qKB0 qKB1 qKB2
 replace mA := mA.next b5
 replace mB := mB.next b5
 replace KA := KA.next b5
 replace KB := KB.next b5
 replace B0 := B0.trans (b5.mono B0.size)
 clear b5
 clear mA mB
 go_wp2_with fail
 refine (law25_awake _).mono ?_; rintro e w6 ⟨rfl, b6⟩
 replace KA := KA.next b6
 replace KB := KB.next b6
 replace B0 := B0.trans (b6.mono B0.size)
 clear b6
 go_wp2
 go_ret
 exact ⟨rfl, B0⟩
set_option maxRecDepth 20000 in
theorem not_side (x0 : Nat) (v : Value) (R C : Int) (xs : List Nat) (u : Value) (R2 C2 : Int) (ys : List Nat) (w : World) (mA : Fm w v R C xs) (mB : Fm w u R2 C2 ys) (hf : (R ≤ 4 ∧ C ≤ 4 ∧ xs.length ≤ 100)) (hg : (R2 ≤ 4 ∧ C2 ≤ 4 ∧ ys.length ≤ 100)) (hs : (Fd R C xs.length ∧ R = C)) (ht : (Fd R2 C2 ys.length ∧ R2 = C2)) (hne : R ≠ R2) :
  Calls Try.prog 12 #[.int .u8 x0, v, u] w (LawOk w) := by
 obtain ⟨aA, cA, rfl⟩ := mA.agg
 obtain ⟨aB, cB, rfl⟩ := mB.agg
 obtain ⟨wb, ew, KA, KB, B0, hsz⟩ := boxes2 w 63 63 [.int .i64 R, .int .i64 C, .slice aA xs.length cA] [.int .i64 R2, .int .i64 C2, .slice aB ys.length cB]
 clear hsz
 replace mA := mA.next B0
 replace mB := mB.next B0
 have HF := Lib.hid hf; have HG := Lib.hid hg; have HS := Lib.hid hs; have HT := Lib.hid ht; have hrr : (R != R2) = true := by simpa using hne
 clear hf hg hs ht hne
 go_enter Try.func12, Try.ntmps12
 go_upto_region 1 with (fail)
 rw [← ew]
 clear ew
 go_wp2_with fail
 refine (law25_awake _).mono ?_; rintro e w1 ⟨rfl, b1⟩
 replace mA := mA.next b1
 replace mB := mB.next b1
 replace KA := KA.next b1
 replace KB := KB.next b1
 replace B0 := B0.trans (b1.mono B0.size)
 clear b1
 have qKA0 := KA.cell 0
 have qKA1 := KA.cell 1
 have qKA2 := KA.cell 2
 go_wp2_with fail
 refine (rf21_Few _ R C 4 xs _ mA true (decide_eq_true HF.out).symm).mono ?_; rintro e w2 ⟨rfl, b2⟩
 clear qKA0 qKA1 qKA2
 replace mA := mA.next b2
 replace mB := mB.next b2
 replace KA := KA.next b2
 replace KB := KB.next b2
 replace B0 := B0.trans (b2.mono B0.size)
 clear b2
 have qKB0 := KB.cell 0
 have qKB1 := KB.cell 1
 have qKB2 := KB.cell 2
 go_wp2_with fail
 refine (rf21_Few _ R2 C2 4 ys _ mB true (decide_eq_true HG.out).symm).mono ?_; rintro e w3 ⟨rfl, b3⟩
 clear qKB0 qKB1 qKB2
 replace mA := mA.next b3
 replace mB := mB.next b3
 replace KA := KA.next b3
 replace KB := KB.next b3
 replace B0 := B0.trans (b3.mono B0.size)
 clear b3
 have qKA0 := KA.cell 0
 have qKA1 := KA.cell 1
 have qKA2 := KA.cell 2
 go_wp2_with fail
 refine (law25_square _ R C xs _ mA true (decide_eq_true HS.out).symm).mono ?_; rintro e w4 ⟨rfl, b4⟩
 clear qKA0 qKA1 qKA2
 replace mA := mA.next b4
 replace mB := mB.next b4
 replace KA := KA.next b4
 replace KB := KB.next b4
 replace B0 := B0.trans (b4.mono B0.size)
 clear b4
 have qKB0 := KB.cell 0
 have qKB1 := KB.cell 1
 have qKB2 := KB.cell 2
 go_wp2_with fail
 refine (law25_square _ R2 C2 ys _ mB true (decide_eq_true HT.out).symm).mono ?_; rintro e w5 ⟨rfl, b5⟩
 clear qKB0 qKB1 qKB2
 replace mA := mA.next b5
 replace mB := mB.next b5
 replace KA := KA.next b5
 replace KB := KB.next b5
 replace B0 := B0.trans (b5.mono B0.size)
 clear b5
 have qKA0 := KA.cell 0
 have qKB0 := KB.cell 0
 clear mA mB
 go_wp2_with fail
 refine (law25_awake _).mono ?_; rintro e w6 ⟨rfl, b6⟩
 clear qKA0 qKB0
 replace KA := KA.next b6
 replace KB := KB.next b6
 replace B0 := B0.trans (b6.mono B0.size)
 clear b6
 go_wp2
 go_ret
 exact ⟨rfl, B0⟩
set_option maxRecDepth 20000 in
theorem good (x0 : Nat) (n : Nat) (v : Value) (xs : List Nat) (u : Value) (ys : List Nat) (w : World) (mA : Fm w v n n xs) (mB : Fm w u n n ys) (hn : n ≤ 4) (hx : xs.length = n * n) (hy : ys.length = n * n) (hf : ((n : Int) ≤ 4 ∧ (n : Int) ≤ 4 ∧ xs.length ≤ 100)) (hg : ((n : Int) ≤ 4 ∧ (n : Int) ≤ 4 ∧ ys.length ≤ 100)) :
  Calls Try.prog 12 #[.int .u8 x0, v, u] w (LawOk w) := by
 obtain ⟨p, ep⟩ : ∃ p, p = Ps (x0 % 12) := ⟨_, rfl⟩
 have hp : FP p := by rw [ep]; exact Ps_FP (by omega)
 have ht : Trial p := by rw [ep]; exact Ps_trial (by omega)
 have cOf : ∀ w : World, Calls Try.prog 17 #[.int .u8 x0] w fun e w' => e = .returned (.agg #[.int .u64 (p : Nat)]) ∧ Below w.heap.size w w' := fun w => by rw [ep]; exact law9_Of x0 w
 have cP : ∀ w : World, Calls Try.prog 18 #[.int .u8 x0] w fun e w' => e = .returned (.int .u64 (p : Nat)) ∧ w = w' := fun w => by rw [ep]; exact ref8_P x0 w
 have hp2 := hp.1
 have hp3 := hp.2
 have HP := Lib.hid hp; have HT := Lib.hid ht; have COF := Lib.hid cOf; have CP := Lib.hid cP
 clear hp ht cOf cP ep
 obtain ⟨aA, cA, rfl⟩ := mA.agg
 obtain ⟨aB, cB, rfl⟩ := mB.agg
 obtain ⟨wb, ew, KA, KB, B0, hsz⟩ := boxes2 w 63 63 [.int .i64 n, .int .i64 n, .slice aA xs.length cA] [.int .i64 n, .int .i64 n, .slice aB ys.length cB]
 clear hsz
 replace mA := mA.next B0
 replace mB := mB.next B0
 have HF := Lib.hid hf; have HG := Lib.hid hg; have HX := Lib.hid hx; have HY := Lib.hid hy; clear hf hg hx hy
 have HFd := Lib.hid (Fd.of (show n ≤ 64 by omega) (show n ≤ 64 by omega) HX.out)
 have HGd := Lib.hid (Fd.of (show n ≤ 64 by omega) (show n ≤ 64 by omega) HY.out)
 have hnn : ((n : Int) != (n : Int)) = false := by simp
 go_enter Try.func12, Try.ntmps12
 go_upto_region 1 with (fail)
 rw [← ew]
 clear ew
 go_wp2_with fail
 refine (law25_awake _).mono ?_; rintro e w1 ⟨rfl, b1⟩
 replace mA := mA.next b1
 replace mB := mB.next b1
 replace KA := KA.next b1
 replace KB := KB.next b1
 replace B0 := B0.trans (b1.mono B0.size)
 clear b1
 have qKA0 := KA.cell 0
 have qKA1 := KA.cell 1
 have qKA2 := KA.cell 2
 go_wp2_with fail
 refine (rf21_Few _ n n 4 xs _ mA true (decide_eq_true HF.out).symm).mono ?_; rintro e w2 ⟨rfl, b2⟩
 clear qKA0 qKA1 qKA2
 replace mA := mA.next b2
 replace mB := mB.next b2
 replace KA := KA.next b2
 replace KB := KB.next b2
 replace B0 := B0.trans (b2.mono B0.size)
 clear b2
 have qKB0 := KB.cell 0
 have qKB1 := KB.cell 1
 have qKB2 := KB.cell 2
 go_wp2_with fail
 refine (rf21_Few _ n n 4 ys _ mB true (decide_eq_true HG.out).symm).mono ?_; rintro e w3 ⟨rfl, b3⟩
 clear qKB0 qKB1 qKB2
 replace mA := mA.next b3
 replace mB := mB.next b3
 replace KA := KA.next b3
 replace KB := KB.next b3
 replace B0 := B0.trans (b3.mono B0.size)
 clear b3
 have qKA0 := KA.cell 0
 have qKA1 := KA.cell 1
 have qKA2 := KA.cell 2
 go_wp2_with fail
 refine (law25_square _ n n xs _ mA true (decide_eq_true ⟨HFd.out, rfl⟩).symm).mono ?_; rintro e w4 ⟨rfl, b4⟩
 clear qKA0 qKA1 qKA2
 replace mA := mA.next b4
 replace mB := mB.next b4
 replace KA := KA.next b4
 replace KB := KB.next b4
 replace B0 := B0.trans (b4.mono B0.size)
 clear b4
 have qKB0 := KB.cell 0
 have qKB1 := KB.cell 1
 have qKB2 := KB.cell 2
 go_wp2_with fail
 refine (law25_square _ n n ys _ mB true (decide_eq_true ⟨HGd.out, rfl⟩).symm).mono ?_; rintro e w5 ⟨rfl, b5⟩
 clear qKB0 qKB1 qKB2
 replace mA := mA.next b5
 replace mB := mB.next b5
 replace KA := KA.next b5
 replace KB := KB.next b5
 replace B0 := B0.trans (b5.mono B0.size)
 clear b5
 have qKA0 := KA.cell 0
 have qKB0 := KB.cell 0
 go_wp2_with fail
 refine (COF.out _).mono ?_; rintro e w6 ⟨rfl, b6⟩
 clear qKA0 qKB0
 replace mA := mA.next b6
 replace mB := mB.next b6
 replace KA := KA.next b6
 replace KB := KB.next b6
 replace B0 := B0.trans (b6.mono B0.size)
 clear b6
 go_wp2_with fail
 refine (CP.out _).mono ?_; rintro e wx ⟨rfl, rfl⟩
 obtain ⟨w7, e7, KF, b7, hs7⟩ := boxes1 w6 29 [.int .u64 p]
 clear hs7
 replace mA := mA.next b7
 replace mB := mB.next b7
 replace KA := KA.next b7
 replace KB := KB.next b7
 replace B0 := B0.trans (b7.mono B0.size)
 clear b7
 go_upto_region 4 with (fail)
 rw [← e7]
 clear e7
 by_cases hdet : (mx p n n ys).det = 0
 ·have qKF0 := KF.cell 0
  have qKB0 := KB.cell 0
  have qKB1 := KB.cell 1
  have qKB2 := KB.cell 2
  go_wp2_with fail
  refine (fm_Inverse_det0 p _ n ys _ HP.out HT.out mB (by omega) HY.out hdet).mono ?_; rintro e w8 ⟨rfl, b8⟩
  clear qKF0 qKB0 qKB1 qKB2
  replace mA := mA.next b8
  replace mB := mB.next b8
  replace KA := KA.next b8
  replace KB := KB.next b8
  replace KF := KF.next b8
  replace B0 := B0.trans (b8.mono B0.size)
  clear b8
  obtain ⟨w9, e9, KT, b9, hs9⟩ := boxes1 w8 63 [.int .i64 0, .int .i64 0, .slice none 0 0]
  clear hs9
  replace mA := mA.next b9
  replace mB := mB.next b9
  replace KA := KA.next b9
  replace KB := KB.next b9
  replace KF := KF.next b9
  replace B0 := B0.trans (b9.mono B0.size)
  clear b9
  clear KT
  go_upto_region 6 with (fail)
  rw [← e9]
  clear e9
  have qKF0 := KF.cell 0
  have qKA0 := KA.cell 0
  have qKA1 := KA.cell 1
  have qKA2 := KA.cell 2
  have qKB0 := KB.cell 0
  have qKB1 := KB.cell 1
  have qKB2 := KB.cell 2
  go_wp2_with fail
  refine (fb_Similar p _ _ n xs ys _ HP.out HT.out mA mB hn HX.out HY.out).mono ?_; rintro e w10 ⟨W1, U1, V1, W2, U2, V2, X1, X2, hs1, hs2, (⟨-, Q, hQ, hQA, aQ, kQ, rfl, oQ, b10⟩ | ⟨-, rfl, b10⟩)⟩
  ·clear qKF0 qKA0 qKA1 qKA2 qKB0 qKB1 qKB2
   clear hs1 hs2
   replace mA := mA.next b10
   replace mB := mB.next b10
   replace KA := KA.next b10
   replace KB := KB.next b10
   replace KF := KF.next b10
   replace B0 := B0.trans (b10.mono B0.size)
   clear b10
   have hQ2 := Lib.hid (And.intro hQ hQA)
   have mX : Fm w10 (.agg #[.int .i64 n, .int .i64 n, .slice aQ (tbv Q).length kQ]) n n (tbv Q) := ⟨_, rfl, oQ.sl⟩
   clear hQ hQA oQ
   obtain ⟨w11, e11, KX, b11, hs11⟩ := boxes1 w10 63 [.int .i64 n, .int .i64 n, .slice aQ (tbv Q).length kQ]
   clear hs11
   replace mA := mA.next b11
   replace mB := mB.next b11
   replace KA := KA.next b11
   replace KB := KB.next b11
   replace KF := KF.next b11
   replace mX := mX.next b11
   replace B0 := B0.trans (b11.mono B0.size)
   clear b11
   go_upto_region 7 with (fail)
   rw [← e11]
   clear e11
   have qKX0 := KX.cell 0
   have qKX1 := KX.cell 1
   have qKX2 := KX.cell 2
   have qKA0 := KA.cell 0
   have qKA1 := KA.cell 1
   have qKA2 := KA.cell 2
   have qKB0 := KB.cell 0
   have qKB1 := KB.cell 1
   have qKB2 := KB.cell 2
   go_wp2_with fail
   refine (law25_makes p _ _ _ n xs ys Q _ HP.out HT.out mX mA mB hn HX.out HY.out hQ2.out.1 hQ2.out.2).mono ?_; rintro e w12 ⟨rfl, b12⟩
   clear qKX0 qKX1 qKX2 qKA0 qKA1 qKA2 qKB0 qKB1 qKB2
   replace mA := mA.next b12
   replace mB := mB.next b12
   replace KA := KA.next b12
   replace KB := KB.next b12
   replace KF := KF.next b12
   replace mX := mX.next b12
   replace KX := KX.next b12
   replace B0 := B0.trans (b12.mono B0.size)
   clear b12
   clear mA mB mX KX KA KB KF
   go_wp2
   go_ret
   exact ⟨rfl, B0⟩
  ·clear qKF0 qKA0 qKA1 qKA2 qKB0 qKB1 qKB2
   clear hs1 hs2
   replace mA := mA.next b10
   replace mB := mB.next b10
   replace KA := KA.next b10
   replace KB := KB.next b10
   replace KF := KF.next b10
   replace B0 := B0.trans (b10.mono B0.size)
   clear b10
   obtain ⟨w11, e11, KX, b11, hs11⟩ := boxes1 w10 63 [.int .i64 0, .int .i64 0, .slice none 0 0]
   clear hs11
   replace mA := mA.next b11
   replace mB := mB.next b11
   replace KA := KA.next b11
   replace KB := KB.next b11
   replace KF := KF.next b11
   replace B0 := B0.trans (b11.mono B0.size)
   clear b11
   go_upto_region 7 with (fail)
   rw [← e11]
   clear e11
   have qKX0 := KX.cell 0
   have qKX1 := KX.cell 1
   have qKX2 := KX.cell 2
   go_wp2_with fail
   refine (rf21_None none 0 _).mono ?_; rintro e w12 ⟨rfl, b12⟩
   clear qKX0 qKX1 qKX2
   replace mA := mA.next b12
   replace mB := mB.next b12
   replace KA := KA.next b12
   replace KB := KB.next b12
   replace KF := KF.next b12
   replace KX := KX.next b12
   replace B0 := B0.trans (b12.mono B0.size)
   clear b12
   clear mA mB KX KA KB KF
   go_wp2
   go_ret
   exact ⟨rfl, B0⟩
 ·have qKF0 := KF.cell 0
  have qKB0 := KB.cell 0
  have qKB1 := KB.cell 1
  have qKB2 := KB.cell 2
  go_wp2_with fail
  refine (fm_Inverse_ok p _ n ys _ HP.out HT.out mB (by omega) HY.out hdet).mono ?_; rintro e w8 ⟨T, hT, aT, kT, rfl, oT, b8⟩
  clear qKF0 qKB0 qKB1 qKB2
  replace mA := mA.next b8
  replace mB := mB.next b8
  replace KA := KA.next b8
  replace KB := KB.next b8
  replace KF := KF.next b8
  replace B0 := B0.trans (b8.mono B0.size)
  clear b8
  have mT : Fm w8 (.agg #[.int .i64 n, .int .i64 n, .slice aT (tbv T).length kT]) n n (tbv T) := ⟨_, rfl, oT.sl⟩
  have lT := Lib.hid (tbv_length T)
  have HTI := Lib.hid hT
  clear oT hT hdet
  obtain ⟨w9, e9, KT, b9, hs9⟩ := boxes1 w8 63 [.int .i64 n, .int .i64 n, .slice aT (tbv T).length kT]
  clear hs9
  replace mA := mA.next b9
  replace mB := mB.next b9
  replace KA := KA.next b9
  replace KB := KB.next b9
  replace KF := KF.next b9
  replace mT := mT.next b9
  replace B0 := B0.trans (b9.mono B0.size)
  clear b9
  go_upto_region 8 with (fail)
  rw [← e9]
  clear e9
  obtain ⟨Q, eQ⟩ : ∃ Q, Q = mx p n n ys * mx p n n xs * T := ⟨_, rfl⟩
  have HQ := Lib.hid eQ; clear eQ
  go_cut [13] (fun v13 wx => ∃ (gQ : Nat) (aQ : Option Addr) (kQ : Nat), v13 = .pointer (some ⟨gQ, 0, none⟩) ∧ Blk 63 wx gQ [.int .i64 n, .int .i64 n, .slice aQ (tbv Q).length kQ] ∧ Fm wx (.agg #[.int .i64 n, .int .i64 n, .slice aQ (tbv Q).length kQ]) n n (tbv Q) ∧ Below w9.heap.size w9 wx)
  case first =>
   have bd := dw w9
   replace mA := mA.next bd
   replace mB := mB.next bd
   replace KA := KA.next bd
   replace KB := KB.next bd
   replace KF := KF.next bd
   replace mT := mT.next bd
   replace KT := KT.next bd
   clear B0 KF
   have zF0 := Lib.hid fun (w : World) (hS : Below (w9.drew).heap.size (w9.drew) w) => And.intro ((KA.at hS) 0) (And.intro ((KA.at hS) 1) (And.intro ((KA.at hS) 2) (And.intro ((KB.at hS) 0) (And.intro ((KB.at hS) 1) (And.intro ((KB.at hS) 2) (And.intro ((KT.at hS) 0) (And.intro ((KT.at hS) 1) ((KT.at hS) 2))))))))
   refine startL (S := (fun w' => Below (w9.drew).heap.size (w9.drew) w')) (by kernel_rfl) (Below.refl _ _) (fun hHeld => ?_)
   generalize w9.drew = wd at *
   refine tf 0 zF0.out ?_
   refine tf 1 zF0.out ?_
   refine tk 2 ?_
   refine tf 4 zF0.out ?_
   refine tk 5 ?_
   refine twoL 3 7 rfl rfl (by kernel_rfl) (by rfl) (by rfl) (fun K hK => ?_) (fun K hK => ?_)
   ·go_simp
    go_at_call 61
    (with_reducible refine (rf21_Mul p _ _ n n n ys xs _ HP.out (mB.next hHeld) (mA.next hHeld) (by omega) (by omega) (by omega) HY.out HX.out).mono ?_); rintro e w7 ⟨a7, k7, rfl, o7, b7⟩; obtain ⟨P1, eP1⟩ : ∃ P, P = mx p n n ys * mx p n n xs := ⟨_, rfl⟩; rw [← eP1] at o7 ⊢
    have EP1 := Lib.hid eP1; clear eP1
    have lP := Lib.hid (tbv_length P1)
    refine hK.out _ _ (hHeld.trans (b7.mono hHeld.size)) (fun hHeld => ?_)
    clear hK K
    try simp only [Act.put, zq1, zq2, zq3]
    refine twoL 6 7 rfl rfl (by kernel_rfl) (by rfl) (by rfl) (fun K hK => ?_) (fun K hK => ?_)
    ·have m7 : Fm w7 (.agg #[.int .i64 n, .int .i64 n, .slice a7 (tbv P1).length k7]) n n (tbv P1) := ⟨_, rfl, o7.sl⟩
     go_simp
     go_at_call 61
     (with_reducible refine (rf21_Mul p _ _ n n n (tbv P1) (tbv T) _ HP.out m7 (mT.next hHeld) (by omega) (by omega) (by omega) lP.out lT.out).mono ?_); rintro e w8 ⟨aQ, kQ, rfl, oQ, b8⟩; rw [mx_tbv, mx_tbv, EP1.out, ← HQ.out] at oQ; rw [mx_tbv, mx_tbv, EP1.out, ← HQ.out]
     refine hK.out _ _ (hHeld.trans (b8.mono hHeld.size)) (fun hHeld => ?_)
     clear hK K
     try simp only [Act.put, zq1, zq2, zq3]
     refine on 7 fun K hK => ?_
     go_simp
     have hd9 := hHeld
     obtain ⟨w9, e9, KZ, b9, -⟩ := boxes1 w8 63 [.int .i64 0, .int .i64 0, .slice none 0 0]
     rw [← e9]
     clear e9
     refine hK.out _ _ (hHeld.trans (b9.mono hHeld.size)) (fun hHeld => ?_)
     clear hK K
     try simp only [Act.put, zq1, zq2, zq3]
     have y0 := KZ.cell 0; have y1 := KZ.cell 1; have y2 := KZ.cell 2; have z0 := KZ.free 0; have z1 := KZ.free 1; have z2 := KZ.free 2
     refine on 8 fun K hK => ?_
     go_simp
     have he9 := hHeld
     refine hK.out _ _ (((hHeld.setCell (p := ⟨w8.heap.size, 0, none⟩) hd9.size (.int .i64 n)).setCell (p := ⟨w8.heap.size, 1, none⟩) hd9.size (.int .i64 n)).setCell (p := ⟨w8.heap.size, 2, none⟩) hd9.size (.slice aQ (tbv Q).length kQ)) (fun hHeld => ?_)
     clear hK K
     try simp only [Act.put, zq1, zq2, zq3]
     clear zF0; refine doneL (by kernel_rfl) ?_ _
     have K9 := ((KZ.set 0 (.int .i64 n)).set 1 (.int .i64 n)).set 2 (.slice aQ (tbv Q).length kQ)
     have o9 := (((oQ.next b9).off KZ 0 (.int .i64 n)).off (KZ.set 0 (.int .i64 n)) 1 (.int .i64 n)).off ((KZ.set 0 (.int .i64 n)).set 1 (.int .i64 n)) 2 (.slice aQ (tbv Q).length kQ)
     have BF := bd.trans (hHeld.mono bd.size)
     clear hHeld KZ b7 b8 b9 bd KA KB KT mA mB mT m7 o7 oQ y0 y1 y2 z0 z1 z2
     go_wp2_with fail
     go_meet
     exact ⟨_, aQ, kQ, rfl, K9, ⟨_, rfl, o9.sl⟩, BF⟩
    ·go_simp
     have hd9 := hHeld
     obtain ⟨w9, e9, KZ, b9, -⟩ := boxes1 w7 63 [.int .i64 0, .int .i64 0, .slice none 0 0]
     rw [← e9]
     clear e9
     refine hK.out _ _ (hHeld.trans (b9.mono hHeld.size)) (fun hHeld => ?_)
     clear hK K
     try simp only [Act.put, zq1, zq2, zq3]
     refine on 6 fun K hK => ?_
     have m7 : Fm w9 (.agg #[.int .i64 n, .int .i64 n, .slice a7 (tbv P1).length k7]) n n (tbv P1) := ⟨_, rfl, (o7.next b9).sl⟩
     go_simp
     go_at_call 61
     (with_reducible refine (rf21_Mul p _ _ n n n (tbv P1) (tbv T) _ HP.out m7 (mT.next hHeld) (by omega) (by omega) (by omega) lP.out lT.out).mono ?_); rintro e w8 ⟨aQ, kQ, rfl, oQ, b8⟩; rw [mx_tbv, mx_tbv, EP1.out, ← HQ.out] at oQ; rw [mx_tbv, mx_tbv, EP1.out, ← HQ.out]
     have KZ8 := KZ.next b8; have y0 := KZ8.cell 0; have y1 := KZ8.cell 1; have y2 := KZ8.cell 2; have z0 := KZ8.free 0; have z1 := KZ8.free 1; have z2 := KZ8.free 2
     refine hK.out _ _ (hHeld.trans (b8.mono hHeld.size)) (fun hHeld => ?_)
     clear hK K
     try simp only [Act.put, zq1, zq2, zq3]
     refine on 8 fun K hK => ?_
     go_simp
     have he9 := hHeld
     refine hK.out _ _ (((hHeld.setCell (p := ⟨w7.heap.size, 0, none⟩) b7.size (.int .i64 n)).setCell (p := ⟨w7.heap.size, 1, none⟩) b7.size (.int .i64 n)).setCell (p := ⟨w7.heap.size, 2, none⟩) b7.size (.slice aQ (tbv Q).length kQ)) (fun hHeld => ?_)
     clear hK K
     try simp only [Act.put, zq1, zq2, zq3]
     clear zF0; refine doneL (by kernel_rfl) ?_ _
     have K9 := ((KZ8.set 0 (.int .i64 n)).set 1 (.int .i64 n)).set 2 (.slice aQ (tbv Q).length kQ)
     have o9 := ((oQ.off KZ8 0 (.int .i64 n)).off (KZ8.set 0 (.int .i64 n)) 1 (.int .i64 n)).off ((KZ8.set 0 (.int .i64 n)).set 1 (.int .i64 n)) 2 (.slice aQ (tbv Q).length kQ)
     have BF := bd.trans (hHeld.mono bd.size)
     clear hHeld KZ b7 b8 b9 bd KA KB KT mA mB mT m7 o7 oQ y0 y1 y2 z0 z1 z2
     go_wp2_with fail
     go_meet
     exact ⟨_, aQ, kQ, rfl, K9, ⟨_, rfl, o9.sl⟩, BF⟩
   ·go_simp
    have hd9 := hHeld
    obtain ⟨w9, e9, KZ, b9, -⟩ := boxes1 wd 63 [.int .i64 0, .int .i64 0, .slice none 0 0]
    rw [← e9]
    clear e9
    refine hK.out _ _ (hHeld.trans (b9.mono hHeld.size)) (fun hHeld => ?_)
    clear hK K
    try simp only [Act.put, zq1, zq2, zq3]
    refine on 3 fun K hK => ?_
    go_simp
    go_at_call 61
    (with_reducible refine (rf21_Mul p _ _ n n n ys xs _ HP.out (mB.next hHeld) (mA.next hHeld) (by omega) (by omega) (by omega) HY.out HX.out).mono ?_); rintro e w7 ⟨a7, k7, rfl, o7, b7⟩; obtain ⟨P1, eP1⟩ : ∃ P, P = mx p n n ys * mx p n n xs := ⟨_, rfl⟩; rw [← eP1] at o7 ⊢
    have EP1 := Lib.hid eP1; clear eP1
    have lP := Lib.hid (tbv_length P1)
    have KZ7 := KZ.next b7
    refine hK.out _ _ (hHeld.trans (b7.mono hHeld.size)) (fun hHeld => ?_)
    clear hK K
    try simp only [Act.put, zq1, zq2, zq3]
    refine on 6 fun K hK => ?_
    have m7 : Fm w7 (.agg #[.int .i64 n, .int .i64 n, .slice a7 (tbv P1).length k7]) n n (tbv P1) := ⟨_, rfl, o7.sl⟩
    go_simp
    go_at_call 61
    (with_reducible refine (rf21_Mul p _ _ n n n (tbv P1) (tbv T) _ HP.out m7 (mT.next hHeld) (by omega) (by omega) (by omega) lP.out lT.out).mono ?_); rintro e w8 ⟨aQ, kQ, rfl, oQ, b8⟩; rw [mx_tbv, mx_tbv, EP1.out, ← HQ.out] at oQ; rw [mx_tbv, mx_tbv, EP1.out, ← HQ.out]
    have KZ8 := KZ7.next b8; have y0 := KZ8.cell 0; have y1 := KZ8.cell 1; have y2 := KZ8.cell 2; have z0 := KZ8.free 0; have z1 := KZ8.free 1; have z2 := KZ8.free 2
    refine hK.out _ _ (hHeld.trans (b8.mono hHeld.size)) (fun hHeld => ?_)
    clear hK K
    try simp only [Act.put, zq1, zq2, zq3]
    refine on 8 fun K hK => ?_
    go_simp
    have he9 := hHeld
    refine hK.out _ _ (((hHeld.setCell (p := ⟨wd.heap.size, 0, none⟩) (Nat.le_refl _) (.int .i64 n)).setCell (p := ⟨wd.heap.size, 1, none⟩) (Nat.le_refl _) (.int .i64 n)).setCell (p := ⟨wd.heap.size, 2, none⟩) (Nat.le_refl _) (.slice aQ (tbv Q).length kQ)) (fun hHeld => ?_)
    clear hK K
    try simp only [Act.put, zq1, zq2, zq3]
    clear zF0; refine doneL (by kernel_rfl) ?_ _
    have K9 := ((KZ8.set 0 (.int .i64 n)).set 1 (.int .i64 n)).set 2 (.slice aQ (tbv Q).length kQ)
    have o9 := ((oQ.off KZ8 0 (.int .i64 n)).off (KZ8.set 0 (.int .i64 n)) 1 (.int .i64 n)).off ((KZ8.set 0 (.int .i64 n)).set 1 (.int .i64 n)) 2 (.slice aQ (tbv Q).length kQ)
    have BF := bd.trans (hHeld.mono bd.size)
    clear hHeld KZ b7 b8 b9 bd KA KB KT mA mB mT m7 o7 oQ y0 y1 y2 z0 z1 z2
    go_wp2_with fail
    go_meet
    exact ⟨_, aQ, kQ, rfl, K9, ⟨_, rfl, o9.sl⟩, BF⟩
  case rest =>
   obtain ⟨gQ, aQ, kQ, rfl, KQ, mQ, bq⟩ := hcut
   replace mA := mA.next bq
   replace mB := mB.next bq
   replace KA := KA.next bq
   replace KB := KB.next bq
   replace KF := KF.next bq
   replace mT := mT.next bq
   replace KT := KT.next bq
   replace B0 := B0.trans (bq.mono B0.size)
   clear bq KT mT
   have lQ := Lib.hid (tbv_length Q)
   have hse : Eqv (XA (mx p n n xs)) (XA (mx p n n (tbv Q))) := sim_eqv (Z := mx p n n ys) HTI.out (by rw [mx_tbv, HQ.out, MT.mul_assoc, HTI.out.2, MT.mul_one])
   have HSE := Lib.hid hse; clear hse
   have qKF0 := KF.cell 0
   have qKA0 := KA.cell 0
   have qKA1 := KA.cell 1
   have qKA2 := KA.cell 2
   have qKQ0 := KQ.cell 0
   have qKQ1 := KQ.cell 1
   have qKQ2 := KQ.cell 2
   go_wp2_with fail
   refine (fb_Similar p _ _ n xs (tbv Q) _ HP.out HT.out mA mQ hn HX.out lQ.out).mono ?_; rintro e w10 ⟨W1, U1, V1, W2, U2, V2, X1, X2, hs1, hs2, (⟨-, G, hG, hGA, aG, kG, rfl, oG, b10⟩ | ⟨hno, -⟩)⟩
   rotate_left
   ·exact absurd (frM_same (smF_same HT.out HSE.out hs1 hs2)) hno
   clear qKF0 qKA0 qKA1 qKA2 qKQ0 qKQ1 qKQ2
   clear hs1 hs2
   replace mA := mA.next b10
   replace mB := mB.next b10
   replace KA := KA.next b10
   replace KB := KB.next b10
   replace KF := KF.next b10
   replace KQ := KQ.next b10
   replace mQ := mQ.next b10
   replace B0 := B0.trans (b10.mono B0.size)
   clear b10
   have hQ2 := Lib.hid (And.intro hG hGA)
   have mX : Fm w10 (.agg #[.int .i64 n, .int .i64 n, .slice aG (tbv G).length kG]) n n (tbv G) := ⟨_, rfl, oG.sl⟩
   clear hG hGA oG
   obtain ⟨w11, e11, KX, b11, hs11⟩ := boxes1 w10 63 [.int .i64 n, .int .i64 n, .slice aG (tbv G).length kG]
   clear hs11
   replace mA := mA.next b11
   replace mB := mB.next b11
   replace KA := KA.next b11
   replace KB := KB.next b11
   replace KF := KF.next b11
   replace KQ := KQ.next b11
   replace mQ := mQ.next b11
   replace mX := mX.next b11
   replace B0 := B0.trans (b11.mono B0.size)
   clear b11
   go_upto_region 10 with (fail)
   rw [← e11]
   clear e11
   have qKX0 := KX.cell 0
   have qKX1 := KX.cell 1
   have qKX2 := KX.cell 2
   have qKA0 := KA.cell 0
   have qKA1 := KA.cell 1
   have qKA2 := KA.cell 2
   have qKQ0 := KQ.cell 0
   have qKQ1 := KQ.cell 1
   have qKQ2 := KQ.cell 2
   go_wp2_with fail
   refine (law25_makes p _ _ _ n xs (tbv Q) G _ HP.out HT.out mX mA mQ hn HX.out lQ.out hQ2.out.1 hQ2.out.2).mono ?_; rintro e w12 ⟨rfl, b12⟩
   clear qKX0 qKX1 qKX2 qKA0 qKA1 qKA2 qKQ0 qKQ1 qKQ2
   replace mA := mA.next b12
   replace mB := mB.next b12
   replace KA := KA.next b12
   replace KB := KB.next b12
   replace KF := KF.next b12
   replace KQ := KQ.next b12
   replace mQ := mQ.next b12
   replace mX := mX.next b12
   replace KX := KX.next b12
   replace B0 := B0.trans (b12.mono B0.size)
   clear b12
   clear mA mB mX mQ KX KA KB KF KQ
   go_wp2
   go_ret
   exact ⟨rfl, B0⟩
theorem walk (x0 : Nat) (v : Value) (R C : Int) (xs : List Nat) (u : Value) (R2 C2 : Int) (ys : List Nat) (w : World) (mA : Fm w v R C xs) (mB : Fm w u R2 C2 ys) : Calls Try.prog 12 #[.int .u8 x0, v, u] w (LawOk w) := by
 by_cases hf : (R ≤ 4 ∧ C ≤ 4 ∧ xs.length ≤ 100)
 ·by_cases hg : (R2 ≤ 4 ∧ C2 ≤ 4 ∧ ys.length ≤ 100)
  ·by_cases hs : (Fd R C xs.length ∧ R = C)
   ·by_cases ht : (Fd R2 C2 ys.length ∧ R2 = C2)
    ·by_cases hne : R = R2
     ·subst hne
      obtain ⟨h1, rfl⟩ := hs
      obtain ⟨h2, h3⟩ := ht
      subst h3
      obtain ⟨r, c, e1, e2, h3, h4, h5⟩ := h1.nat
      obtain ⟨r2, c2, e3, e4, h6, h7, h8⟩ := h2.nat
      subst e1
      have e5 : c = r := by omega
      have e6 : r2 = r := by omega
      have e7 : c2 = r := by omega
      subst e5 e6 e7
      exact good x0 c2 v xs u ys w mA mB (by omega) h5 h8 hf hg
     ·exact not_side x0 v R C xs u R2 C2 ys w mA mB hf hg hs ht hne
    ·exact not_sqB x0 v R C xs u R2 C2 ys w mA mB hf hg hs ht
   ·exact not_sqA x0 v R C xs u R2 C2 ys w mA mB hf hg hs
  ·exact not_fewB x0 v R C xs u R2 C2 ys w mA mB hf hg
 ·exact not_fewA x0 v R C xs u R2 C2 ys w mA mB hf
set_option maxRecDepth 100000 in
theorem lifted (os : Os) (started : os.Started) (H : Type) (enc : TypeId × Value → H) :
  ReturnsInHanded {} Try.checked os 12 .any (Rows.frobSimilarSpec.pre6 enc Try.prog Try.f12 Rows.frobSimilarRow.domain false) (Rows.frobSimilarSpec.post enc Try.prog Try.f12 false true false false) := by
 refine returnsInHanded_of_change (C := Try.checked) own started (by kernel_rfl) Try.func12
  (ChangeSpec.witness6 (enc := enc) (C := Try.checked) false ⟨#[], #[.int .u8 0, .agg #[.int .i64 0, .int .i64 0, .slice none 0 0], .agg #[.int .i64 0, .int .i64 0, .slice none 0 0]], []⟩ 8 (by kernel_rfl) (by kernel_rfl) (by kernel_rfl) (by kernel_rfl)) ?_
 intro W base args ds gs before hval0 hW hcnd _
 have hval : ∀ (j : Nat) t v, Try.f12.params[j]? = some t → args[j]? = some v → Value.okWide Try.prog W .any base t v := hval0
 have hW' := hW
 obtain ⟨p, q, hA0, hV, rfl, hfz, hnd⟩ := hW
 have hA : DataW.TrodAll enc Try.prog W 0 (fun _ => true) true Try.f12.params.toList args.toList ds p := hA0
 rw [Try.params12] at hA hval
 obtain ⟨v0, vs0, d0, ds0, p0, q0, hargs, rfl, rfl, h0, r0⟩ := trodAll_cons hA
 obtain ⟨v1, vs1, d1, ds1, p1, q1, rfl, rfl, rfl, h1, r1⟩ := trodAll_cons r0
 obtain ⟨v2, vs2, d2, ds2, p2, q2, rfl, rfl, rfl, h2, r2⟩ := trodAll_cons r1
 obtain ⟨rfl, rfl, rfl⟩ := trodAll_nil r2
 obtain rfl : args = #[v0, v1, v2] := by cases args; simp_all
 obtain ⟨rfl, rfl⟩ := trodVars_none hV
 have k0 := h0
 have lt0 : ∀ x ∈ p0, x.block < W.heap.size := by obtain ⟨m, hm⟩ := k0; exact DataW.trod_lt m _ _ _ hm
 obtain ⟨i0, rfl, rfl, rfl, wi0⟩ := open_int Try.underlying5 (hval 0 5 v0 rfl rfl) h0
 obtain ⟨x0, rfl⟩ := Int.eq_ofNat_of_zero_le (wf_u8_bounds wi0).1
 have k1 := h1
 have lt1 : ∀ x ∈ p1, x.block < W.heap.size := by obtain ⟨m, hm⟩ := k1; exact DataW.trod_lt m _ _ _ hm
 obtain ⟨R1, C1, xs1, m1, rb1, cb1⟩ := open_fm (hval 1 63 v1 rfl rfl) h1
 have k2 := h2
 have lt2 : ∀ x ∈ p2, x.block < W.heap.size := by obtain ⟨m, hm⟩ := k2; exact DataW.trod_lt m _ _ _ hm
 obtain ⟨R2, C2, xs2, m2, rb2, cb2⟩ := open_fm (hval 2 63 v2 rfl rfl) h2
 clear hA0 hval0
 refine (walk x0 v1 R1 C1 xs1 v2 R2 C2 xs2 W  m1 m2).mono fun e W' ⟨he, bel⟩ => ?_
 subst he
 exact ⟨_, rfl, _, _, _, [], _, [], hW', trodAll_mk1 (shut_bool Try.underlying4 _), (trodAll_cons_mk (Below.trod laidOut (by kernel_rfl) (of_decide_eq_true (by kernel_rfl)) k0 bel lt0) (trodAll_cons_mk (Below.trod laidOut (by kernel_rfl) (of_decide_eq_true (by kernel_rfl)) k1 bel lt1) (trodAll_cons_mk (Below.trod laidOut (by kernel_rfl) (of_decide_eq_true (by kernel_rfl)) k2 bel lt2) trodAll_mk0))), rfl, bel.frame _, fun h => by cases h⟩
theorem over : Rows.frobSimilarRow.holds Try.pinned (OpenSpec.ofChange Rows.frobSimilarSpec) :=
 OpenClaim.holds_of_wide 12 Try.f12 rfl rfl rfl rfl rfl rfl rfl ⟨rfl, rfl, rfl, rfl, rfl⟩ rfl rfl rfl rfl rfl (by kernel_rfl) Try.func12 (by kernel_rfl)
  (of_decide_eq_true (by kernel_rfl)) (by unfold Func.isWrapper; first | (rw [if_pos (by decide +kernel)]; kernel_rfl) | (rw [if_neg (by decide +kernel)]; exact ⟨rfl, rfl⟩))
  (fun os started H enc _ => lifted os started H enc)
theorem proved : Rows.FrobSimilarSaid := over
#print axioms proved
end Go.Proofs.Ytkmfhabgempjiaa.frobSimilar
