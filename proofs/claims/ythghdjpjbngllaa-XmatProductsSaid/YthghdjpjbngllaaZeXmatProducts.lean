/- XmatProducts: for every number and two matrices of polynomials the law returns true: the determinant of a product is the product; its value is that of the values. No condition. -/
import Derived.Test.YthghdjpjbngllaaRows
import Derived.Test.YthghdjpjbngllaaZeXplain
namespace Go.Proofs.Ythghdjpjbngllaa.xmatProducts
open Go.ChangeShapes Go.WideShapes Go.ChangeAt Go.RowKit
open Go.ChangeMaps (open_string shut_string)

theorem own : ownKnob Try.prog.godebug = none := by kernel_rfl
theorem laidOut : laidOutB Try.prog = true := by kernel_rfl

set_option maxRecDepth 20000 in
set_option maxHeartbeats 4000000 in
theorem not_few1 (x0 : Nat) (v : Value) (R1 C1 : Int) (xs : List (List Nat)) (u : Value) (R2 C2 : Int) (ys : List (List Nat)) (w : World) (mA : Xm w v R1 C1 xs) (mB : Xm w u R2 C2 ys) (hf : ¬ Fwx 3 3 R1 C1 xs) :
    Calls Try.prog 9 #[.int .u8 x0, v, u] w (LawOk w) := by
  obtain ⟨aA, cA, rfl⟩ := mA.agg
  obtain ⟨aB, cB, rfl⟩ := mB.agg
  obtain ⟨wb, ew, KA, KB, B0, hsz⟩ := boxes2 w 24 24 [.int .i64 R1, .int .i64 C1, .slice aA xs.length cA] [.int .i64 R2, .int .i64 C2, .slice aB ys.length cB]
  clear hsz
  replace mA := mA.next B0
  replace mB := mB.next B0
  have HF := Lib.hid hf; clear hf
  go_enter Try.func9, Try.ntmps9
  go_upto_region 1 with (fail)
  rw [← ew]
  clear ew
  go_wp2_with fail
  refine (law23_awake _).mono ?_; rintro e w1 ⟨rfl, b1⟩
  replace mA := mA.next b1
  replace mB := mB.next b1
  replace KA := KA.next b1
  replace KB := KB.next b1
  replace B0 := B0.trans (b1.mono B0.size)
  clear b1
  have qKA0 := KA.cell 0
  have qKA1 := KA.cell 1
  have qKA2 := KA.cell 2
  go_wp2_with fail
  refine (rf23_Few _ R1 C1 3 3 xs _ mA false ⟨fun h => absurd h (by decide), fun h => absurd h HF.out⟩).mono ?_; rintro e w2 ⟨rfl, b2⟩
  clear qKA0 qKA1 qKA2
  replace mA := mA.next b2
  replace mB := mB.next b2
  replace KA := KA.next b2
  replace KB := KB.next b2
  replace B0 := B0.trans (b2.mono B0.size)
  clear b2
  clear mA mB
  go_wp2_with fail
  refine (law23_awake _).mono ?_; rintro e w3 ⟨rfl, b3⟩
  replace KA := KA.next b3
  replace B0 := B0.trans (b3.mono B0.size)
  clear b3
  go_wp2
  go_ret
  exact ⟨rfl, B0⟩

set_option maxRecDepth 20000 in
set_option maxHeartbeats 4000000 in
theorem not_few2 (x0 : Nat) (v : Value) (R1 C1 : Int) (xs : List (List Nat)) (u : Value) (R2 C2 : Int) (ys : List (List Nat)) (w : World) (mA : Xm w v R1 C1 xs) (mB : Xm w u R2 C2 ys) (hf : Fwx 3 3 R1 C1 xs) (hg : ¬ Fwx 3 3 R2 C2 ys) :
    Calls Try.prog 9 #[.int .u8 x0, v, u] w (LawOk w) := by
  obtain ⟨aA, cA, rfl⟩ := mA.agg
  obtain ⟨aB, cB, rfl⟩ := mB.agg
  obtain ⟨wb, ew, KA, KB, B0, hsz⟩ := boxes2 w 24 24 [.int .i64 R1, .int .i64 C1, .slice aA xs.length cA] [.int .i64 R2, .int .i64 C2, .slice aB ys.length cB]
  clear hsz
  replace mA := mA.next B0
  replace mB := mB.next B0
  have HF := Lib.hid hf; have HG := Lib.hid hg; clear hf hg
  go_enter Try.func9, Try.ntmps9
  go_upto_region 1 with (fail)
  rw [← ew]
  clear ew
  go_wp2_with fail
  refine (law23_awake _).mono ?_; rintro e w1 ⟨rfl, b1⟩
  replace mA := mA.next b1
  replace mB := mB.next b1
  replace KA := KA.next b1
  replace KB := KB.next b1
  replace B0 := B0.trans (b1.mono B0.size)
  clear b1
  have qKA0 := KA.cell 0
  have qKA1 := KA.cell 1
  have qKA2 := KA.cell 2
  go_wp2_with fail
  refine (rf23_Few _ R1 C1 3 3 xs _ mA true ⟨fun _ => HF.out, fun _ => rfl⟩).mono ?_; rintro e w2 ⟨rfl, b2⟩
  clear qKA0 qKA1 qKA2
  replace mA := mA.next b2
  replace mB := mB.next b2
  replace KA := KA.next b2
  replace KB := KB.next b2
  replace B0 := B0.trans (b2.mono B0.size)
  clear b2
  have qKB0 := KB.cell 0
  have qKB1 := KB.cell 1
  have qKB2 := KB.cell 2
  go_wp2_with fail
  refine (rf23_Few _ R2 C2 3 3 ys _ mB false ⟨fun h => absurd h (by decide), fun h => absurd h HG.out⟩).mono ?_; rintro e w3 ⟨rfl, b3⟩
  clear qKB0 qKB1 qKB2
  replace mA := mA.next b3
  replace mB := mB.next b3
  replace KA := KA.next b3
  replace KB := KB.next b3
  replace B0 := B0.trans (b3.mono B0.size)
  clear b3
  clear mA mB
  go_wp2_with fail
  refine (law23_awake _).mono ?_; rintro e w4 ⟨rfl, b4⟩
  replace KA := KA.next b4
  replace B0 := B0.trans (b4.mono B0.size)
  clear b4
  go_wp2
  go_ret
  exact ⟨rfl, B0⟩

set_option maxRecDepth 20000 in
set_option maxHeartbeats 4000000 in
theorem no1 (x0 : Nat) (v : Value) (R1 C1 : Int) (xs : List (List Nat)) (u : Value) (R2 C2 : Int) (ys : List (List Nat)) (w : World) (mA : Xm w v R1 C1 xs) (mB : Xm w u R2 C2 ys) (hf : Fwx 3 3 R1 C1 xs) (hg : Fwx 3 3 R2 C2 ys) (h1 : ¬ Fd R1 C1 xs.length) :
    Calls Try.prog 9 #[.int .u8 x0, v, u] w (LawOk w) := by
  obtain ⟨aA, cA, rfl⟩ := mA.agg
  obtain ⟨aB, cB, rfl⟩ := mB.agg
  obtain ⟨wb, ew, KA, KB, B0, hsz⟩ := boxes2 w 24 24 [.int .i64 R1, .int .i64 C1, .slice aA xs.length cA] [.int .i64 R2, .int .i64 C2, .slice aB ys.length cB]
  clear hsz
  replace mA := mA.next B0
  replace mB := mB.next B0
  have HF := Lib.hid hf; have HG := Lib.hid hg; clear hf hg
  go_enter Try.func9, Try.ntmps9
  go_upto_region 1 with (fail)
  rw [← ew]
  clear ew
  go_wp2_with fail
  refine (law23_awake _).mono ?_; rintro e w1 ⟨rfl, b1⟩
  replace mA := mA.next b1
  replace mB := mB.next b1
  replace KA := KA.next b1
  replace KB := KB.next b1
  replace B0 := B0.trans (b1.mono B0.size)
  clear b1
  have qKA0 := KA.cell 0
  have qKA1 := KA.cell 1
  have qKA2 := KA.cell 2
  go_wp2_with fail
  refine (rf23_Few _ R1 C1 3 3 xs _ mA true ⟨fun _ => HF.out, fun _ => rfl⟩).mono ?_; rintro e w2 ⟨rfl, b2⟩
  clear qKA0 qKA1 qKA2
  replace mA := mA.next b2
  replace mB := mB.next b2
  replace KA := KA.next b2
  replace KB := KB.next b2
  replace B0 := B0.trans (b2.mono B0.size)
  clear b2
  have qKB0 := KB.cell 0
  have qKB1 := KB.cell 1
  have qKB2 := KB.cell 2
  go_wp2_with fail
  refine (rf23_Few _ R2 C2 3 3 ys _ mB true ⟨fun _ => HG.out, fun _ => rfl⟩).mono ?_; rintro e w3 ⟨rfl, b3⟩
  clear qKB0 qKB1 qKB2
  replace mA := mA.next b3
  replace mB := mB.next b3
  replace KA := KA.next b3
  replace KB := KB.next b3
  replace B0 := B0.trans (b3.mono B0.size)
  clear b3
  have qKA0 := KA.cell 0
  have qKA1 := KA.cell 1
  have qKA2 := KA.cell 2
  go_wp2_with fail
  refine (rf23_Formed _ R1 C1 xs _ mA false (decide_eq_false h1).symm).mono ?_; rintro e w4 ⟨rfl, b4⟩
  clear qKA0 qKA1 qKA2
  replace mA := mA.next b4
  replace mB := mB.next b4
  replace KA := KA.next b4
  replace KB := KB.next b4
  replace B0 := B0.trans (b4.mono B0.size)
  clear b4
  clear mA mB
  go_wp2_with fail
  refine (law23_awake _).mono ?_; rintro e w5 ⟨rfl, b5⟩
  replace KA := KA.next b5
  replace B0 := B0.trans (b5.mono B0.size)
  clear b5
  go_wp2
  go_ret
  exact ⟨rfl, B0⟩

set_option maxRecDepth 20000 in
set_option maxHeartbeats 4000000 in
theorem no2 (x0 : Nat) (v : Value) (R1 C1 : Int) (xs : List (List Nat)) (u : Value) (R2 C2 : Int) (ys : List (List Nat)) (w : World) (mA : Xm w v R1 C1 xs) (mB : Xm w u R2 C2 ys) (hf : Fwx 3 3 R1 C1 xs) (hg : Fwx 3 3 R2 C2 ys) (h1 : Fd R1 C1 xs.length) (h2 : ¬ Fd R2 C2 ys.length) :
    Calls Try.prog 9 #[.int .u8 x0, v, u] w (LawOk w) := by
  obtain ⟨aA, cA, rfl⟩ := mA.agg
  obtain ⟨aB, cB, rfl⟩ := mB.agg
  obtain ⟨wb, ew, KA, KB, B0, hsz⟩ := boxes2 w 24 24 [.int .i64 R1, .int .i64 C1, .slice aA xs.length cA] [.int .i64 R2, .int .i64 C2, .slice aB ys.length cB]
  clear hsz
  replace mA := mA.next B0
  replace mB := mB.next B0
  have HF := Lib.hid hf; have HG := Lib.hid hg; clear hf hg
  go_enter Try.func9, Try.ntmps9
  go_upto_region 1 with (fail)
  rw [← ew]
  clear ew
  go_wp2_with fail
  refine (law23_awake _).mono ?_; rintro e w1 ⟨rfl, b1⟩
  replace mA := mA.next b1
  replace mB := mB.next b1
  replace KA := KA.next b1
  replace KB := KB.next b1
  replace B0 := B0.trans (b1.mono B0.size)
  clear b1
  have qKA0 := KA.cell 0
  have qKA1 := KA.cell 1
  have qKA2 := KA.cell 2
  go_wp2_with fail
  refine (rf23_Few _ R1 C1 3 3 xs _ mA true ⟨fun _ => HF.out, fun _ => rfl⟩).mono ?_; rintro e w2 ⟨rfl, b2⟩
  clear qKA0 qKA1 qKA2
  replace mA := mA.next b2
  replace mB := mB.next b2
  replace KA := KA.next b2
  replace KB := KB.next b2
  replace B0 := B0.trans (b2.mono B0.size)
  clear b2
  have qKB0 := KB.cell 0
  have qKB1 := KB.cell 1
  have qKB2 := KB.cell 2
  go_wp2_with fail
  refine (rf23_Few _ R2 C2 3 3 ys _ mB true ⟨fun _ => HG.out, fun _ => rfl⟩).mono ?_; rintro e w3 ⟨rfl, b3⟩
  clear qKB0 qKB1 qKB2
  replace mA := mA.next b3
  replace mB := mB.next b3
  replace KA := KA.next b3
  replace KB := KB.next b3
  replace B0 := B0.trans (b3.mono B0.size)
  clear b3
  have qKA0 := KA.cell 0
  have qKA1 := KA.cell 1
  have qKA2 := KA.cell 2
  go_wp2_with fail
  refine (rf23_Formed _ R1 C1 xs _ mA true (decide_eq_true h1).symm).mono ?_; rintro e w4 ⟨rfl, b4⟩
  clear qKA0 qKA1 qKA2
  replace mA := mA.next b4
  replace mB := mB.next b4
  replace KA := KA.next b4
  replace KB := KB.next b4
  replace B0 := B0.trans (b4.mono B0.size)
  clear b4
  have qKB0 := KB.cell 0
  have qKB1 := KB.cell 1
  have qKB2 := KB.cell 2
  go_wp2_with fail
  refine (rf23_Formed _ R2 C2 ys _ mB false (decide_eq_false h2).symm).mono ?_; rintro e w5 ⟨rfl, b5⟩
  clear qKB0 qKB1 qKB2
  replace mA := mA.next b5
  replace mB := mB.next b5
  replace KA := KA.next b5
  replace KB := KB.next b5
  replace B0 := B0.trans (b5.mono B0.size)
  clear b5
  clear mA mB
  go_wp2_with fail
  refine (law23_awake _).mono ?_; rintro e w6 ⟨rfl, b6⟩
  replace KA := KA.next b6
  replace B0 := B0.trans (b6.mono B0.size)
  clear b6
  go_wp2
  go_ret
  exact ⟨rfl, B0⟩

set_option maxRecDepth 20000 in
set_option maxHeartbeats 4000000 in
theorem no3 (x0 : Nat) (v : Value) (R1 C1 : Int) (xs : List (List Nat)) (u : Value) (R2 C2 : Int) (ys : List (List Nat)) (w : World) (mA : Xm w v R1 C1 xs) (mB : Xm w u R2 C2 ys) (hf : Fwx 3 3 R1 C1 xs) (hg : Fwx 3 3 R2 C2 ys) (h1 : Fd R1 C1 xs.length) (h2 : Fd R2 C2 ys.length) (h3 : R1 ≠ C1) :
    Calls Try.prog 9 #[.int .u8 x0, v, u] w (LawOk w) := by
  obtain ⟨aA, cA, rfl⟩ := mA.agg
  obtain ⟨aB, cB, rfl⟩ := mB.agg
  obtain ⟨wb, ew, KA, KB, B0, hsz⟩ := boxes2 w 24 24 [.int .i64 R1, .int .i64 C1, .slice aA xs.length cA] [.int .i64 R2, .int .i64 C2, .slice aB ys.length cB]
  clear hsz
  replace mA := mA.next B0
  replace mB := mB.next B0
  have HF := Lib.hid hf; have HG := Lib.hid hg; clear hf hg
  have H1 := Lib.hid h1; have H2 := Lib.hid h2; clear h1 h2
  have e1 : (R1 != C1) = true := by simpa using h3
  clear h3
  go_enter Try.func9, Try.ntmps9
  go_upto_region 1 with (fail)
  rw [← ew]
  clear ew
  go_wp2_with fail
  refine (law23_awake _).mono ?_; rintro e w1 ⟨rfl, b1⟩
  replace mA := mA.next b1
  replace mB := mB.next b1
  replace KA := KA.next b1
  replace KB := KB.next b1
  replace B0 := B0.trans (b1.mono B0.size)
  clear b1
  have qKA0 := KA.cell 0
  have qKA1 := KA.cell 1
  have qKA2 := KA.cell 2
  go_wp2_with fail
  refine (rf23_Few _ R1 C1 3 3 xs _ mA true ⟨fun _ => HF.out, fun _ => rfl⟩).mono ?_; rintro e w2 ⟨rfl, b2⟩
  clear qKA0 qKA1 qKA2
  replace mA := mA.next b2
  replace mB := mB.next b2
  replace KA := KA.next b2
  replace KB := KB.next b2
  replace B0 := B0.trans (b2.mono B0.size)
  clear b2
  have qKB0 := KB.cell 0
  have qKB1 := KB.cell 1
  have qKB2 := KB.cell 2
  go_wp2_with fail
  refine (rf23_Few _ R2 C2 3 3 ys _ mB true ⟨fun _ => HG.out, fun _ => rfl⟩).mono ?_; rintro e w3 ⟨rfl, b3⟩
  clear qKB0 qKB1 qKB2
  replace mA := mA.next b3
  replace mB := mB.next b3
  replace KA := KA.next b3
  replace KB := KB.next b3
  replace B0 := B0.trans (b3.mono B0.size)
  clear b3
  have qKA0 := KA.cell 0
  have qKA1 := KA.cell 1
  have qKA2 := KA.cell 2
  go_wp2_with fail
  refine (rf23_Formed _ R1 C1 xs _ mA true (decide_eq_true H1.out).symm).mono ?_; rintro e w4 ⟨rfl, b4⟩
  clear qKA0 qKA1 qKA2
  replace mA := mA.next b4
  replace mB := mB.next b4
  replace KA := KA.next b4
  replace KB := KB.next b4
  replace B0 := B0.trans (b4.mono B0.size)
  clear b4
  have qKB0 := KB.cell 0
  have qKB1 := KB.cell 1
  have qKB2 := KB.cell 2
  go_wp2_with fail
  refine (rf23_Formed _ R2 C2 ys _ mB true (decide_eq_true H2.out).symm).mono ?_; rintro e w5 ⟨rfl, b5⟩
  clear qKB0 qKB1 qKB2
  replace mA := mA.next b5
  replace mB := mB.next b5
  replace KA := KA.next b5
  replace KB := KB.next b5
  replace B0 := B0.trans (b5.mono B0.size)
  clear b5
  have qKA0 := KA.cell 0
  have qKA1 := KA.cell 1
  clear mA mB
  go_wp2_with fail
  refine (law23_awake _).mono ?_; rintro e w6 ⟨rfl, b6⟩
  clear qKA0 qKA1
  replace KA := KA.next b6
  replace B0 := B0.trans (b6.mono B0.size)
  clear b6
  go_wp2
  go_ret
  exact ⟨rfl, B0⟩

set_option maxRecDepth 20000 in
set_option maxHeartbeats 4000000 in
theorem no4 (x0 : Nat) (v : Value) (R1 C1 : Int) (xs : List (List Nat)) (u : Value) (R2 C2 : Int) (ys : List (List Nat)) (w : World) (mA : Xm w v R1 C1 xs) (mB : Xm w u R2 C2 ys) (hf : Fwx 3 3 R1 C1 xs) (hg : Fwx 3 3 R2 C2 ys) (h1 : Fd R1 C1 xs.length) (h2 : Fd R2 C2 ys.length) (h3 : R1 = C1) (h4 : R2 ≠ C2) :
    Calls Try.prog 9 #[.int .u8 x0, v, u] w (LawOk w) := by
  obtain ⟨aA, cA, rfl⟩ := mA.agg
  obtain ⟨aB, cB, rfl⟩ := mB.agg
  obtain ⟨wb, ew, KA, KB, B0, hsz⟩ := boxes2 w 24 24 [.int .i64 R1, .int .i64 C1, .slice aA xs.length cA] [.int .i64 R2, .int .i64 C2, .slice aB ys.length cB]
  clear hsz
  replace mA := mA.next B0
  replace mB := mB.next B0
  have HF := Lib.hid hf; have HG := Lib.hid hg; clear hf hg
  have H1 := Lib.hid h1; have H2 := Lib.hid h2; clear h1 h2
  have e1 : (R1 != C1) = false := by simpa using h3
  have e2 : (R2 != C2) = true := by simpa using h4
  clear h3 h4
  go_enter Try.func9, Try.ntmps9
  go_upto_region 1 with (fail)
  rw [← ew]
  clear ew
  go_wp2_with fail
  refine (law23_awake _).mono ?_; rintro e w1 ⟨rfl, b1⟩
  replace mA := mA.next b1
  replace mB := mB.next b1
  replace KA := KA.next b1
  replace KB := KB.next b1
  replace B0 := B0.trans (b1.mono B0.size)
  clear b1
  have qKA0 := KA.cell 0
  have qKA1 := KA.cell 1
  have qKA2 := KA.cell 2
  go_wp2_with fail
  refine (rf23_Few _ R1 C1 3 3 xs _ mA true ⟨fun _ => HF.out, fun _ => rfl⟩).mono ?_; rintro e w2 ⟨rfl, b2⟩
  clear qKA0 qKA1 qKA2
  replace mA := mA.next b2
  replace mB := mB.next b2
  replace KA := KA.next b2
  replace KB := KB.next b2
  replace B0 := B0.trans (b2.mono B0.size)
  clear b2
  have qKB0 := KB.cell 0
  have qKB1 := KB.cell 1
  have qKB2 := KB.cell 2
  go_wp2_with fail
  refine (rf23_Few _ R2 C2 3 3 ys _ mB true ⟨fun _ => HG.out, fun _ => rfl⟩).mono ?_; rintro e w3 ⟨rfl, b3⟩
  clear qKB0 qKB1 qKB2
  replace mA := mA.next b3
  replace mB := mB.next b3
  replace KA := KA.next b3
  replace KB := KB.next b3
  replace B0 := B0.trans (b3.mono B0.size)
  clear b3
  have qKA0 := KA.cell 0
  have qKA1 := KA.cell 1
  have qKA2 := KA.cell 2
  go_wp2_with fail
  refine (rf23_Formed _ R1 C1 xs _ mA true (decide_eq_true H1.out).symm).mono ?_; rintro e w4 ⟨rfl, b4⟩
  clear qKA0 qKA1 qKA2
  replace mA := mA.next b4
  replace mB := mB.next b4
  replace KA := KA.next b4
  replace KB := KB.next b4
  replace B0 := B0.trans (b4.mono B0.size)
  clear b4
  have qKB0 := KB.cell 0
  have qKB1 := KB.cell 1
  have qKB2 := KB.cell 2
  go_wp2_with fail
  refine (rf23_Formed _ R2 C2 ys _ mB true (decide_eq_true H2.out).symm).mono ?_; rintro e w5 ⟨rfl, b5⟩
  clear qKB0 qKB1 qKB2
  replace mA := mA.next b5
  replace mB := mB.next b5
  replace KA := KA.next b5
  replace KB := KB.next b5
  replace B0 := B0.trans (b5.mono B0.size)
  clear b5
  have qKA0 := KA.cell 0
  have qKA1 := KA.cell 1
  have qKB0 := KB.cell 0
  have qKB1 := KB.cell 1
  clear mA mB
  go_wp2_with fail
  refine (law23_awake _).mono ?_; rintro e w6 ⟨rfl, b6⟩
  clear qKA0 qKA1 qKB0 qKB1
  replace KA := KA.next b6
  replace B0 := B0.trans (b6.mono B0.size)
  clear b6
  go_wp2
  go_ret
  exact ⟨rfl, B0⟩

set_option maxRecDepth 20000 in
set_option maxHeartbeats 4000000 in
theorem no5 (x0 : Nat) (v : Value) (R1 C1 : Int) (xs : List (List Nat)) (u : Value) (R2 C2 : Int) (ys : List (List Nat)) (w : World) (mA : Xm w v R1 C1 xs) (mB : Xm w u R2 C2 ys) (hf : Fwx 3 3 R1 C1 xs) (hg : Fwx 3 3 R2 C2 ys) (h1 : Fd R1 C1 xs.length) (h2 : Fd R2 C2 ys.length) (h3 : R1 = C1) (h4 : R2 = C2) (h5 : R1 ≠ R2) :
    Calls Try.prog 9 #[.int .u8 x0, v, u] w (LawOk w) := by
  obtain ⟨aA, cA, rfl⟩ := mA.agg
  obtain ⟨aB, cB, rfl⟩ := mB.agg
  obtain ⟨wb, ew, KA, KB, B0, hsz⟩ := boxes2 w 24 24 [.int .i64 R1, .int .i64 C1, .slice aA xs.length cA] [.int .i64 R2, .int .i64 C2, .slice aB ys.length cB]
  clear hsz
  replace mA := mA.next B0
  replace mB := mB.next B0
  have HF := Lib.hid hf; have HG := Lib.hid hg; clear hf hg
  have H1 := Lib.hid h1; have H2 := Lib.hid h2; clear h1 h2
  have e1 : (R1 != C1) = false := by simpa using h3
  have e2 : (R2 != C2) = false := by simpa using h4
  have e3 : (R1 != R2) = true := by simpa using h5
  clear h3 h4 h5
  go_enter Try.func9, Try.ntmps9
  go_upto_region 1 with (fail)
  rw [← ew]
  clear ew
  go_wp2_with fail
  refine (law23_awake _).mono ?_; rintro e w1 ⟨rfl, b1⟩
  replace mA := mA.next b1
  replace mB := mB.next b1
  replace KA := KA.next b1
  replace KB := KB.next b1
  replace B0 := B0.trans (b1.mono B0.size)
  clear b1
  have qKA0 := KA.cell 0
  have qKA1 := KA.cell 1
  have qKA2 := KA.cell 2
  go_wp2_with fail
  refine (rf23_Few _ R1 C1 3 3 xs _ mA true ⟨fun _ => HF.out, fun _ => rfl⟩).mono ?_; rintro e w2 ⟨rfl, b2⟩
  clear qKA0 qKA1 qKA2
  replace mA := mA.next b2
  replace mB := mB.next b2
  replace KA := KA.next b2
  replace KB := KB.next b2
  replace B0 := B0.trans (b2.mono B0.size)
  clear b2
  have qKB0 := KB.cell 0
  have qKB1 := KB.cell 1
  have qKB2 := KB.cell 2
  go_wp2_with fail
  refine (rf23_Few _ R2 C2 3 3 ys _ mB true ⟨fun _ => HG.out, fun _ => rfl⟩).mono ?_; rintro e w3 ⟨rfl, b3⟩
  clear qKB0 qKB1 qKB2
  replace mA := mA.next b3
  replace mB := mB.next b3
  replace KA := KA.next b3
  replace KB := KB.next b3
  replace B0 := B0.trans (b3.mono B0.size)
  clear b3
  have qKA0 := KA.cell 0
  have qKA1 := KA.cell 1
  have qKA2 := KA.cell 2
  go_wp2_with fail
  refine (rf23_Formed _ R1 C1 xs _ mA true (decide_eq_true H1.out).symm).mono ?_; rintro e w4 ⟨rfl, b4⟩
  clear qKA0 qKA1 qKA2
  replace mA := mA.next b4
  replace mB := mB.next b4
  replace KA := KA.next b4
  replace KB := KB.next b4
  replace B0 := B0.trans (b4.mono B0.size)
  clear b4
  have qKB0 := KB.cell 0
  have qKB1 := KB.cell 1
  have qKB2 := KB.cell 2
  go_wp2_with fail
  refine (rf23_Formed _ R2 C2 ys _ mB true (decide_eq_true H2.out).symm).mono ?_; rintro e w5 ⟨rfl, b5⟩
  clear qKB0 qKB1 qKB2
  replace mA := mA.next b5
  replace mB := mB.next b5
  replace KA := KA.next b5
  replace KB := KB.next b5
  replace B0 := B0.trans (b5.mono B0.size)
  clear b5
  have qKA0 := KA.cell 0
  have qKA1 := KA.cell 1
  have qKB0 := KB.cell 0
  have qKB1 := KB.cell 1
  clear mA mB
  go_wp2_with fail
  refine (law23_awake _).mono ?_; rintro e w6 ⟨rfl, b6⟩
  clear qKA0 qKA1 qKB0 qKB1
  replace KA := KA.next b6
  replace B0 := B0.trans (b6.mono B0.size)
  clear b6
  go_wp2
  go_ret
  exact ⟨rfl, B0⟩

set_option maxRecDepth 20000 in
set_option maxHeartbeats 4000000 in
theorem good (x0 : Nat) (n : Nat) (v : Value) (xs : List (List Nat)) (u : Value) (ys : List (List Nat)) (w : World) (hx0 : x0 < 256) (mA : Xm w v n n xs) (mB : Xm w u n n ys) (hn : n ≤ 3) (hxA : xs.length = n * n) (hxB : ys.length = n * n) (hf : Fwx 3 3 n n xs) (hg : Fwx 3 3 n n ys) :
    Calls Try.prog 9 #[.int .u8 x0, v, u] w (LawOk w) := by
  obtain ⟨p, ep⟩ : ∃ p, p = Ps (x0 % 12) := ⟨_, rfl⟩
  have hp : FP p := by rw [ep]; exact Ps_FP (by omega)
  have ht : Trial p := by rw [ep]; exact Ps_trial (by omega)
  have cOf : ∀ w : World, Calls Try.prog 17 #[.int .u8 x0] w fun e w' => e = .returned (.agg #[.int .u64 (p : Nat)]) ∧ Below w.heap.size w w' := fun w => by rw [ep]; exact law9_Of x0 w
  have cP : ∀ w : World, Calls Try.prog 18 #[.int .u8 x0] w fun e w' => e = .returned (.int .u64 (p : Nat)) ∧ w = w' := fun w => by rw [ep]; exact ref8_P x0 w
  have hp2 := hp.1
  have hp3 := hp.2
  have HP := Lib.hid hp; have HT := Lib.hid ht; have COF := Lib.hid cOf; have CP := Lib.hid cP
  clear hp ht cOf cP ep
  obtain ⟨aA, cA, rfl⟩ := mA.agg
  obtain ⟨aB, cB, rfl⟩ := mB.agg
  obtain ⟨wb, ew, KA, KB, B0, hsz⟩ := boxes2 w 24 24 [.int .i64 n, .int .i64 n, .slice aA xs.length cA] [.int .i64 n, .int .i64 n, .slice aB ys.length cB]
  clear hsz
  replace mA := mA.next B0
  replace mB := mB.next B0
  have hy1 : IntKind.u64.wrap (x0 : Int) = (x0 : Int) := wrap_u64 _ (by omega)
  have hlA : ∀ j, j < xs.length → (xs.getD j []).length ≤ 3 := fun j hj => by have := hf.2.2.2 j hj; omega
  have hlB : ∀ j, j < ys.length → (ys.getD j []).length ≤ 3 := fun j hj => by have := hg.2.2.2 j hj; omega
  have HLA := Lib.hid hlA; have HLB := Lib.hid hlB; have HXA := Lib.hid hxA; have HXB := Lib.hid hxB; have HF := Lib.hid hf; have HG := Lib.hid hg
  have DLA := Lib.hid (show ∀ j, j < n * n → (xs.getD j []).length ≤ 3 from fun j hj => hlA j (by omega))
  have DLB := Lib.hid (show ∀ j, j < n * n → (ys.getD j []).length ≤ 3 from fun j hj => hlB j (by omega))
  clear hlA hlB hxA hxB hf hg
  have HFdA := Lib.hid (Fd.of (show n ≤ 64 by omega) (show n ≤ 64 by omega) HXA.out)
  have HFdB := Lib.hid (Fd.of (show n ≤ 64 by omega) (show n ≤ 64 by omega) HXB.out)
  have hnn : ((n : Int) != (n : Int)) = false := by simp
  have hb1 : 2 ^ n ≤ 8 := Nat.pow_le_pow_right (by decide) hn
  go_enter Try.func9, Try.ntmps9
  go_upto_region 1 with (fail)
  rw [← ew]
  clear ew
  go_wp2_with fail
  refine (law23_awake _).mono ?_; rintro e w1 ⟨rfl, b1⟩
  replace mA := mA.next b1
  replace mB := mB.next b1
  replace KA := KA.next b1
  replace KB := KB.next b1
  replace B0 := B0.trans (b1.mono B0.size)
  clear b1
  have qKA0 := KA.cell 0
  have qKA1 := KA.cell 1
  have qKA2 := KA.cell 2
  go_wp2_with fail
  refine (rf23_Few _ n n 3 3 xs _ mA true ⟨fun _ => HF.out, fun _ => rfl⟩).mono ?_; rintro e w2 ⟨rfl, b2⟩
  clear qKA0 qKA1 qKA2
  replace mA := mA.next b2
  replace mB := mB.next b2
  replace KA := KA.next b2
  replace KB := KB.next b2
  replace B0 := B0.trans (b2.mono B0.size)
  clear b2
  have qKB0 := KB.cell 0
  have qKB1 := KB.cell 1
  have qKB2 := KB.cell 2
  go_wp2_with fail
  refine (rf23_Few _ n n 3 3 ys _ mB true ⟨fun _ => HG.out, fun _ => rfl⟩).mono ?_; rintro e w3 ⟨rfl, b3⟩
  clear qKB0 qKB1 qKB2
  replace mA := mA.next b3
  replace mB := mB.next b3
  replace KA := KA.next b3
  replace KB := KB.next b3
  replace B0 := B0.trans (b3.mono B0.size)
  clear b3
  have qKA0 := KA.cell 0
  have qKA1 := KA.cell 1
  have qKA2 := KA.cell 2
  go_wp2_with fail
  refine (rf23_Formed _ n n xs _ mA true (decide_eq_true HFdA.out).symm).mono ?_; rintro e w4 ⟨rfl, b4⟩
  clear qKA0 qKA1 qKA2
  replace mA := mA.next b4
  replace mB := mB.next b4
  replace KA := KA.next b4
  replace KB := KB.next b4
  replace B0 := B0.trans (b4.mono B0.size)
  clear b4
  have qKB0 := KB.cell 0
  have qKB1 := KB.cell 1
  have qKB2 := KB.cell 2
  go_wp2_with fail
  refine (rf23_Formed _ n n ys _ mB true (decide_eq_true HFdB.out).symm).mono ?_; rintro e w5 ⟨rfl, b5⟩
  clear qKB0 qKB1 qKB2
  replace mA := mA.next b5
  replace mB := mB.next b5
  replace KA := KA.next b5
  replace KB := KB.next b5
  replace B0 := B0.trans (b5.mono B0.size)
  clear b5
  have qKA0 := KA.cell 0
  have qKA1 := KA.cell 1
  have qKB0 := KB.cell 0
  have qKB1 := KB.cell 1
  go_wp2_with fail
  refine (COF.out _).mono ?_; rintro e w6 ⟨rfl, b6⟩
  clear qKA0 qKA1 qKB0 qKB1
  replace mA := mA.next b6
  replace mB := mB.next b6
  replace KA := KA.next b6
  replace KB := KB.next b6
  replace B0 := B0.trans (b6.mono B0.size)
  clear b6
  obtain ⟨w7, e7, KF, b7, hs7⟩ := boxes1 w6 29 [.int .u64 p]
  clear hs7
  replace mA := mA.next b7
  replace mB := mB.next b7
  replace KA := KA.next b7
  replace KB := KB.next b7
  replace B0 := B0.trans (b7.mono B0.size)
  clear b7
  go_upto_region 4 with (fail)
  rw [← e7]
  clear e7
  have qKF0 := KF.cell 0
  have qKA0 := KA.cell 0
  have qKA1 := KA.cell 1
  have qKA2 := KA.cell 2
  have qKB0 := KB.cell 0
  have qKB1 := KB.cell 1
  have qKB2 := KB.cell 2
  go_wp2_with fail
  refine (xm_Mul p 6 3 _ _ n n n xs ys _ HP.out mA mB (by omega) (by omega) (by omega) HXA.out HXB.out (by omega) (by omega) HLA.out HLB.out (dotT p xs ys n n) (fun i k _ hk => dotT_at hk)).mono ?_; rintro e w8 ⟨a8, k8, us8, rfl, o8, b8⟩
  clear qKF0 qKA0 qKA1 qKA2 qKB0 qKB1 qKB2
  replace mA := mA.next b8
  replace mB := mB.next b8
  replace KA := KA.next b8
  replace KB := KB.next b8
  replace KF := KF.next b8
  replace B0 := B0.trans (b8.mono B0.size)
  clear b8
  obtain ⟨zsM, zlM, nsM, hzM⟩ := o8.ns HP.out
  have mM : Xm w8 (.agg #[.int .i64 n, .int .i64 n, .slice a8 (n * n) k8]) n n zsM := ⟨_, rfl, nsM⟩
  have ZLM := Lib.hid zlM; have ZM := Lib.hid hzM
  clear zlM nsM hzM o8
  obtain ⟨w9, e9, KM, b9, hs9⟩ := boxes1 w8 24 [.int .i64 n, .int .i64 n, .slice a8 (n * n) k8]
  clear hs9
  replace mA := mA.next b9
  replace mB := mB.next b9
  replace KA := KA.next b9
  replace KB := KB.next b9
  replace KF := KF.next b9
  replace mM := mM.next b9
  replace B0 := B0.trans (b9.mono B0.size)
  clear b9
  go_upto_region 5 with (fail)
  rw [← e9]
  clear e9
  have qKF0 := KF.cell 0
  have qKA0 := KA.cell 0
  have qKA1 := KA.cell 1
  have qKA2 := KA.cell 2
  go_wp2_with fail
  refine (xm_Det p n 3 _ xs _ HP.out HT.out mA (by omega) HXA.out DLA.out (by omega) (by omega)).mono ?_; rintro e w10 ⟨a10, c10, zx, rfl, o10, n10, v10, l10, b10⟩
  clear qKF0 qKA0 qKA1 qKA2
  replace mA := mA.next b10
  replace mB := mB.next b10
  replace KA := KA.next b10
  replace KB := KB.next b10
  replace KF := KF.next b10
  replace mM := mM.next b10
  replace KM := KM.next b10
  replace B0 := B0.trans (b10.mono B0.size)
  clear b10
  have Nx := Lib.hid (show Nrm p zx ∧ pl p zx = dn n (aT p n xs) ∧ zx.length ≤ 100 from ⟨n10, v10, by omega⟩)
  have sx := o10.sl
  clear n10 v10 l10 o10
  go_upto_region 6 with (fail)
  have qKF0 := KF.cell 0
  have qKB0 := KB.cell 0
  have qKB1 := KB.cell 1
  have qKB2 := KB.cell 2
  go_wp2_with fail
  refine (xm_Det p n 3 _ ys _ HP.out HT.out mB (by omega) HXB.out DLB.out (by omega) (by omega)).mono ?_; rintro e w11 ⟨a11, c11, zy, rfl, o11, n11, v11, l11, b11⟩
  clear qKF0 qKB0 qKB1 qKB2
  replace mA := mA.next b11
  replace mB := mB.next b11
  replace KA := KA.next b11
  replace KB := KB.next b11
  replace KF := KF.next b11
  replace mM := mM.next b11
  replace KM := KM.next b11
  replace sx := sx.next b11
  replace B0 := B0.trans (b11.mono B0.size)
  clear b11
  have Ny := Lib.hid (show Nrm p zy ∧ pl p zy = dn n (aT p n ys) ∧ zy.length ≤ 100 from ⟨n11, v11, by omega⟩)
  have sy := o11.sl
  clear n11 v11 l11 o11
  go_upto_region 7 with (fail)
  have hlM : ∀ j, j < n * n → (zsM.getD j []).length ≤ 6 := fun j hj => (ZM.out j hj).2.2
  have HLM := Lib.hid hlM; clear hlM
  have qKF0 := KF.cell 0
  have qKM0 := KM.cell 0
  have qKM1 := KM.cell 1
  have qKM2 := KM.cell 2
  go_wp2_with fail
  refine (xm_Det p n 6 _ zsM _ HP.out HT.out mM (by omega) ZLM.out HLM.out (by omega) (by omega)).mono ?_; rintro e w12 ⟨a12, c12, zz, rfl, o12, n12, v12, l12, b12⟩
  clear qKF0 qKM0 qKM1 qKM2
  replace mA := mA.next b12
  replace mB := mB.next b12
  replace KA := KA.next b12
  replace KB := KB.next b12
  replace KF := KF.next b12
  replace mM := mM.next b12
  replace KM := KM.next b12
  replace sx := sx.next b12
  replace sy := sy.next b12
  replace B0 := B0.trans (b12.mono B0.size)
  clear b12
  have Nz := Lib.hid (show Nrm p zz ∧ pl p zz = dn n (aT p n zsM) ∧ zz.length ≤ 100 from ⟨n12, v12, by omega⟩)
  have sz := o12.sl
  clear n12 v12 l12 o12
  go_upto_region 8 with (fail)
  have qKF0 := KF.cell 0
  have qKA0 := KA.cell 0
  have qKA1 := KA.cell 1
  have qKA2 := KA.cell 2
  go_wp2_with fail
  refine (xm_Eval p x0 _ n n xs _ HP.out mA (by omega) (by omega) HXA.out (fun j hj => by have := DLA.out j hj; omega)).mono ?_; rintro e w13 ⟨a13, k13, rfl, o13, b13⟩
  clear qKF0 qKA0 qKA1 qKA2
  replace mA := mA.next b13
  replace mB := mB.next b13
  replace KA := KA.next b13
  replace KB := KB.next b13
  replace KF := KF.next b13
  replace mM := mM.next b13
  replace KM := KM.next b13
  replace sx := sx.next b13
  replace sy := sy.next b13
  replace sz := sz.next b13
  replace B0 := B0.trans (b13.mono B0.size)
  clear b13
  obtain ⟨V1, eV1⟩ : ∃ V1, V1 = xev p x0 n n xs := ⟨_, rfl⟩
  rw [← eV1] at o13 ⊢
  have EV1 := Lib.hid eV1; clear eV1
  have mV : Fm w13 (.agg #[.int .i64 n, .int .i64 n, .slice a13 (tbv V1).length k13]) n n (tbv V1) := ⟨_, rfl, o13.sl⟩
  clear o13
  obtain ⟨w14, e14, KV, b14, hs14⟩ := boxes1 w13 42 [.int .i64 n, .int .i64 n, .slice a13 (tbv V1).length k13]
  clear hs14
  replace mA := mA.next b14
  replace mB := mB.next b14
  replace KA := KA.next b14
  replace KB := KB.next b14
  replace KF := KF.next b14
  replace mM := mM.next b14
  replace KM := KM.next b14
  replace sx := sx.next b14
  replace sy := sy.next b14
  replace sz := sz.next b14
  replace mV := mV.next b14
  replace B0 := B0.trans (b14.mono B0.size)
  clear b14
  go_upto_region 9 with (fail)
  rw [← e14]
  clear e14
  obtain ⟨d, ed⟩ : ∃ d, d = (dn n (mx p n n (tbv V1)).e : Zp p).val := ⟨_, rfl⟩
  have HD := Lib.hid ed
  have HEV := Lib.hid (show d = (evl p (Zp.of p x0) zx).val by
    rw [ed, mx_tbv, EV1.out, xev_det, evl_ev, Nx.out.2.1])
  clear ed
  have qKF0 := KF.cell 0
  have qKV0 := KV.cell 0
  have qKV1 := KV.cell 1
  have qKV2 := KV.cell 2
  go_wp2_with fail
  refine (fm_Det p _ n (tbv V1) _ HP.out HT.out mV (by omega) (tbv_length V1) d HD.out).mono ?_; rintro e w15 ⟨rfl, b15⟩
  clear qKF0 qKV0 qKV1 qKV2
  replace mA := mA.next b15
  replace mB := mB.next b15
  replace KA := KA.next b15
  replace KB := KB.next b15
  replace KF := KF.next b15
  replace mM := mM.next b15
  replace KM := KM.next b15
  replace sx := sx.next b15
  replace sy := sy.next b15
  replace sz := sz.next b15
  replace mV := mV.next b15
  replace KV := KV.next b15
  replace B0 := B0.trans (b15.mono B0.size)
  clear b15
  go_upto_region 10 with (fail)
  have qKF0 := KF.cell 0
  go_wp2_with fail
  refine (fp_Mul p _ _ zx zy _ HP.out sx sy (by have := Nx.out.2.2; omega) (by have := Ny.out.2.2; omega)).mono ?_; rintro e w16 ⟨r16, ws, rfl, o16, n16, v16, l16, b16⟩
  clear qKF0
  replace mA := mA.next b16
  replace mB := mB.next b16
  replace KA := KA.next b16
  replace KB := KB.next b16
  replace KF := KF.next b16
  replace mM := mM.next b16
  replace KM := KM.next b16
  replace sx := sx.next b16
  replace sy := sy.next b16
  replace sz := sz.next b16
  replace mV := mV.next b16
  replace KV := KV.next b16
  replace B0 := B0.trans (b16.mono B0.size)
  clear b16
  have NW := Lib.hid (show zz = ws ∧ ws.length ≤ 1000 from ⟨pl_inj HP.out.pos Nz.out.1 n16 (by rw [Nz.out.2.1, v16, Nx.out.2.1, Ny.out.2.1]; exact aT_mul fun i k hi hk => by rw [(ZM.out _ (at_lt rfl hi hk)).2.1, dotT_at hk]), by have := Nx.out.2.2; have := Ny.out.2.2; omega⟩)
  have sW := o16.sl
  clear n16 v16 l16 o16
  go_wp2_with fail
  refine (ref9_Same _ _ zz ws true _ sz sW (by have := Nz.out.2.2; omega) (by have := NW.out.2; omega) (decide_eq_true NW.out.1).symm).mono ?_; rintro e w17 ⟨rfl, q17⟩
  have b17 := q17.below w16.heap.size; clear q17
  replace mA := mA.next b17
  replace mB := mB.next b17
  replace KA := KA.next b17
  replace KB := KB.next b17
  replace KF := KF.next b17
  replace mM := mM.next b17
  replace KM := KM.next b17
  replace sx := sx.next b17
  replace sy := sy.next b17
  replace sz := sz.next b17
  replace mV := mV.next b17
  replace KV := KV.next b17
  replace sW := sW.next b17
  replace B0 := B0.trans (b17.mono B0.size)
  clear b17
  have qKF0 := KF.cell 0
  go_wp2_with fail
  refine (fp_Eval p x0 d _ zx _ HP.out sx (by have := Nx.out.2.2; omega) HEV.out).mono ?_; rintro e w18 ⟨rfl, b18⟩
  clear qKF0
  replace mA := mA.next b18
  replace mB := mB.next b18
  replace KA := KA.next b18
  replace KB := KB.next b18
  replace KF := KF.next b18
  replace mM := mM.next b18
  replace KM := KM.next b18
  replace sx := sx.next b18
  replace sy := sy.next b18
  replace sz := sz.next b18
  replace mV := mV.next b18
  replace KV := KV.next b18
  replace sW := sW.next b18
  replace B0 := B0.trans (b18.mono B0.size)
  clear b18
  have hdd : ((d : Int) == (d : Int)) = true := by simp
  go_wp2
  go_ret
  exact ⟨rfl, B0⟩

set_option maxHeartbeats 1000000 in
theorem walk (x0 : Nat) (v : Value) (R1 C1 : Int) (xs : List (List Nat)) (u : Value) (R2 C2 : Int) (ys : List (List Nat)) (w : World) (hx0 : x0 < 256) (mA : Xm w v R1 C1 xs) (mB : Xm w u R2 C2 ys) : Calls Try.prog 9 #[.int .u8 x0, v, u] w (LawOk w) := by
  by_cases hf : Fwx 3 3 R1 C1 xs
  · by_cases hg : Fwx 3 3 R2 C2 ys
    · by_cases hs : Fd R1 C1 xs.length
      · by_cases ht : Fd R2 C2 ys.length
        · by_cases h3 : R1 = C1
          · by_cases h4 : R2 = C2
            · by_cases h5 : R1 = R2
              · subst h3 h4 h5
                obtain ⟨r, m, e1, e2, k3, k4, k5⟩ := hs.nat
                obtain ⟨r2, m2, e3, e4, k6, k7, k8⟩ := ht.nat
                subst e1
                have a1 : m = r := by omega
                have a2 : r2 = r := by omega
                have a3 : m2 = r := by omega
                subst a1 a2 a3
                exact good x0 m2 v xs u ys w hx0 mA mB (by have := hf.1; omega) k5 k8 hf hg
              · exact no5 x0 v R1 C1 xs u R2 C2 ys w mA mB hf hg hs ht h3 h4 h5
            · exact no4 x0 v R1 C1 xs u R2 C2 ys w mA mB hf hg hs ht h3 h4
          · exact no3 x0 v R1 C1 xs u R2 C2 ys w mA mB hf hg hs ht h3
        · exact no2 x0 v R1 C1 xs u R2 C2 ys w mA mB hf hg hs ht
      · exact no1 x0 v R1 C1 xs u R2 C2 ys w mA mB hf hg hs
    · exact not_few2 x0 v R1 C1 xs u R2 C2 ys w mA mB hf hg
  · exact not_few1 x0 v R1 C1 xs u R2 C2 ys w mA mB hf

set_option maxRecDepth 100000 in
theorem lifted (os : Os) (started : os.Started) (H : Type) (enc : TypeId × Value → H) :
    ReturnsInHanded {} Try.checked os 9 .any (Rows.xmatProductsSpec.pre6 enc Try.prog Try.f9 Rows.xmatProductsRow.domain false) (Rows.xmatProductsSpec.post enc Try.prog Try.f9 false true false false) := by
  refine returnsInHanded_of_change (C := Try.checked) own started (by kernel_rfl) Try.func9
    (ChangeSpec.witness6 (enc := enc) (C := Try.checked) false ⟨#[], #[.int .u8 0, .agg #[.int .i64 0, .int .i64 0, .slice none 0 0], .agg #[.int .i64 0, .int .i64 0, .slice none 0 0]], []⟩ 8 (by kernel_rfl) (by kernel_rfl) (by kernel_rfl) (by kernel_rfl)) ?_
  intro W base args ds gs before hval0 hW hcnd _
  have hval : ∀ (j : Nat) t v, Try.f9.params[j]? = some t → args[j]? = some v → Value.okWide Try.prog W .any base t v := hval0
  have hW' := hW
  obtain ⟨p, q, hA0, hV, rfl, hfz, hnd⟩ := hW
  have hA : DataW.TrodAll enc Try.prog W 0 (fun _ => true) true Try.f9.params.toList args.toList ds p := hA0
  rw [Try.params9] at hA hval
  obtain ⟨v0, vs0, d0, ds0, p0, q0, hargs, rfl, rfl, h0, r0⟩ := trodAll_cons hA
  obtain ⟨v1, vs1, d1, ds1, p1, q1, rfl, rfl, rfl, h1, r1⟩ := trodAll_cons r0
  obtain ⟨v2, vs2, d2, ds2, p2, q2, rfl, rfl, rfl, h2, r2⟩ := trodAll_cons r1
  obtain ⟨rfl, rfl, rfl⟩ := trodAll_nil r2
  obtain rfl : args = #[v0, v1, v2] := by cases args; simp_all
  obtain ⟨rfl, rfl⟩ := trodVars_none hV
  have k0 := h0
  have lt0 : ∀ x ∈ p0, x.block < W.heap.size := by obtain ⟨m, hm⟩ := k0; exact DataW.trod_lt m _ _ _ hm
  obtain ⟨i0, rfl, rfl, rfl, wi0⟩ := open_int Try.underlying5 (hval 0 5 v0 rfl rfl) h0
  obtain ⟨x0, rfl⟩ := Int.eq_ofNat_of_zero_le (wf_u8_bounds wi0).1
  have k1 := h1
  have lt1 : ∀ x ∈ p1, x.block < W.heap.size := by obtain ⟨m, hm⟩ := k1; exact DataW.trod_lt m _ _ _ hm
  obtain ⟨R1, C1, xs1, m1, rb1, cb1⟩ := open_xm (hval 1 24 v1 rfl rfl) h1
  have k2 := h2
  have lt2 : ∀ x ∈ p2, x.block < W.heap.size := by obtain ⟨m, hm⟩ := k2; exact DataW.trod_lt m _ _ _ hm
  obtain ⟨R2, C2, xs2, m2, rb2, cb2⟩ := open_xm (hval 2 24 v2 rfl rfl) h2
  clear hA0 hval0
  refine (walk x0 v1 R1 C1 xs1 v2 R2 C2 xs2 W (by have := wf_u8_bounds wi0; omega) m1 m2).mono fun e W' ⟨he, bel⟩ => ?_
  subst he
  exact ⟨_, rfl, _, _, _, [], _, [], hW', trodAll_mk1 (shut_bool Try.underlying4 _), (trodAll_cons_mk (Below.trod laidOut (by kernel_rfl) (of_decide_eq_true (by kernel_rfl)) k0 bel lt0) (trodAll_cons_mk (Below.trod laidOut (by kernel_rfl) (of_decide_eq_true (by kernel_rfl)) k1 bel lt1) (trodAll_cons_mk (Below.trod laidOut (by kernel_rfl) (of_decide_eq_true (by kernel_rfl)) k2 bel lt2) trodAll_mk0))), rfl, bel.frame _, fun h => by cases h⟩

theorem over : Rows.xmatProductsRow.holds Try.pinned (OpenSpec.ofChange Rows.xmatProductsSpec) :=
  OpenClaim.holds_of_wide 9 Try.f9 rfl rfl rfl rfl rfl rfl rfl ⟨rfl, rfl, rfl, rfl, rfl⟩ rfl rfl rfl rfl rfl (by kernel_rfl) Try.func9 (by kernel_rfl)
    (of_decide_eq_true (by kernel_rfl)) (by unfold Func.isWrapper; first | (rw [if_pos (by decide +kernel)]; kernel_rfl) | (rw [if_neg (by decide +kernel)]; exact ⟨rfl, rfl⟩))
    (fun os started H enc _ => lifted os started H enc)

theorem proved : Rows.XmatProductsSaid := over
#print axioms proved
end Go.Proofs.Ythghdjpjbngllaa.xmatProducts
