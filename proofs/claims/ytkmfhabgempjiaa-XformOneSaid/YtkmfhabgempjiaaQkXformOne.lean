/- XformOne: for every number and two matrices of polynomials the law returns true: with rows turned by a product with a unimodular matrix both forms are the same. No condition. -/
import Derived.Test.YtkmfhabgempjiaaRows
import Derived.Test.YtkmfhabgempjiaaQkM15
namespace Go.Proofs.Ytkmfhabgempjiaa.xformOne
set_option maxHeartbeats 4000000
open Go.ChangeShapes Go.WideShapes Go.ChangeAt Go.RowKit
open Go.ChangeMaps (open_string shut_string)
theorem own : ownKnob Try.prog.godebug = none := by kernel_rfl
theorem laidOut : laidOutB Try.prog = true := by kernel_rfl
set_option maxRecDepth 20000 in
theorem not_fewA (x0 : Nat) (v : Value) (R C : Int) (xs : List (List Nat)) (u : Value) (R2 C2 : Int) (ys : List (List Nat)) (w : World) (mA : Xm w v R C xs) (mB : Xm w u R2 C2 ys) (hf : ¬ (Fwx 3 3 R C xs)) :
  Calls Try.prog 7 #[.int .u8 x0, v, u] w (LawOk w) := by
 obtain ⟨aA, cA, rfl⟩ := mA.agg
 obtain ⟨aB, cB, rfl⟩ := mB.agg
 obtain ⟨wb, ew, KA, KB, B0, hsz⟩ := boxes2 w 24 24 [.int .i64 R, .int .i64 C, .slice aA xs.length cA] [.int .i64 R2, .int .i64 C2, .slice aB ys.length cB]
 clear hsz
 replace mA := mA.next B0
 replace mB := mB.next B0
 have HF := Lib.hid hf; clear hf
 go_enter Try.func7, Try.ntmps7
 go_upto_region 1 with (fail)
 rw [← ew]
 clear ew
 go_wp2_with fail
 refine (law24_awake _).mono ?_; rintro e w1 ⟨rfl, b1⟩
 replace mA := mA.next b1
 replace mB := mB.next b1
 replace KA := KA.next b1
 replace KB := KB.next b1
 replace B0 := B0.trans (b1.mono B0.size)
 clear b1
 have qKA0 := KA.cell 0
 have qKA1 := KA.cell 1
 have qKA2 := KA.cell 2
 go_wp2_with fail
 refine (rf23_Few _ R C 3 3 xs _ mA false ⟨fun h => absurd h (by decide), fun h => absurd h HF.out⟩).mono ?_; rintro e w2 ⟨rfl, b2⟩
 clear qKA0 qKA1 qKA2
 replace mA := mA.next b2
 replace mB := mB.next b2
 replace KA := KA.next b2
 replace KB := KB.next b2
 replace B0 := B0.trans (b2.mono B0.size)
 clear b2
 clear mA mB
 go_wp2_with fail
 refine (law24_awake _).mono ?_; rintro e w3 ⟨rfl, b3⟩
 replace KA := KA.next b3
 replace KB := KB.next b3
 replace B0 := B0.trans (b3.mono B0.size)
 clear b3
 go_wp2
 go_ret
 exact ⟨rfl, B0⟩
set_option maxRecDepth 20000 in
theorem not_fewB (x0 : Nat) (v : Value) (R C : Int) (xs : List (List Nat)) (u : Value) (R2 C2 : Int) (ys : List (List Nat)) (w : World) (mA : Xm w v R C xs) (mB : Xm w u R2 C2 ys) (hf : (Fwx 3 3 R C xs)) (hg : ¬ (Fwx 3 3 R2 C2 ys)) :
  Calls Try.prog 7 #[.int .u8 x0, v, u] w (LawOk w) := by
 obtain ⟨aA, cA, rfl⟩ := mA.agg
 obtain ⟨aB, cB, rfl⟩ := mB.agg
 obtain ⟨wb, ew, KA, KB, B0, hsz⟩ := boxes2 w 24 24 [.int .i64 R, .int .i64 C, .slice aA xs.length cA] [.int .i64 R2, .int .i64 C2, .slice aB ys.length cB]
 clear hsz
 replace mA := mA.next B0
 replace mB := mB.next B0
 have HF := Lib.hid hf; have HG := Lib.hid hg; clear hf hg
 go_enter Try.func7, Try.ntmps7
 go_upto_region 1 with (fail)
 rw [← ew]
 clear ew
 go_wp2_with fail
 refine (law24_awake _).mono ?_; rintro e w1 ⟨rfl, b1⟩
 replace mA := mA.next b1
 replace mB := mB.next b1
 replace KA := KA.next b1
 replace KB := KB.next b1
 replace B0 := B0.trans (b1.mono B0.size)
 clear b1
 have qKA0 := KA.cell 0
 have qKA1 := KA.cell 1
 have qKA2 := KA.cell 2
 go_wp2_with fail
 refine (rf23_Few _ R C 3 3 xs _ mA true ⟨fun _ => HF.out, fun _ => rfl⟩).mono ?_; rintro e w2 ⟨rfl, b2⟩
 clear qKA0 qKA1 qKA2
 replace mA := mA.next b2
 replace mB := mB.next b2
 replace KA := KA.next b2
 replace KB := KB.next b2
 replace B0 := B0.trans (b2.mono B0.size)
 clear b2
 have qKB0 := KB.cell 0
 have qKB1 := KB.cell 1
 have qKB2 := KB.cell 2
 go_wp2_with fail
 refine (rf23_Few _ R2 C2 3 3 ys _ mB false ⟨fun h => absurd h (by decide), fun h => absurd h HG.out⟩).mono ?_; rintro e w3 ⟨rfl, b3⟩
 clear qKB0 qKB1 qKB2
 replace mA := mA.next b3
 replace mB := mB.next b3
 replace KA := KA.next b3
 replace KB := KB.next b3
 replace B0 := B0.trans (b3.mono B0.size)
 clear b3
 clear mA mB
 go_wp2_with fail
 refine (law24_awake _).mono ?_; rintro e w4 ⟨rfl, b4⟩
 replace KA := KA.next b4
 replace KB := KB.next b4
 replace B0 := B0.trans (b4.mono B0.size)
 clear b4
 go_wp2
 go_ret
 exact ⟨rfl, B0⟩
set_option maxRecDepth 20000 in
theorem not_fdA (x0 : Nat) (v : Value) (R C : Int) (xs : List (List Nat)) (u : Value) (R2 C2 : Int) (ys : List (List Nat)) (w : World) (mA : Xm w v R C xs) (mB : Xm w u R2 C2 ys) (hf : (Fwx 3 3 R C xs)) (hg : (Fwx 3 3 R2 C2 ys)) (hs : ¬ (Fd R C xs.length)) :
  Calls Try.prog 7 #[.int .u8 x0, v, u] w (LawOk w) := by
 obtain ⟨aA, cA, rfl⟩ := mA.agg
 obtain ⟨aB, cB, rfl⟩ := mB.agg
 obtain ⟨wb, ew, KA, KB, B0, hsz⟩ := boxes2 w 24 24 [.int .i64 R, .int .i64 C, .slice aA xs.length cA] [.int .i64 R2, .int .i64 C2, .slice aB ys.length cB]
 clear hsz
 replace mA := mA.next B0
 replace mB := mB.next B0
 have HF := Lib.hid hf; have HG := Lib.hid hg; have HS := Lib.hid hs; clear hf hg hs
 go_enter Try.func7, Try.ntmps7
 go_upto_region 1 with (fail)
 rw [← ew]
 clear ew
 go_wp2_with fail
 refine (law24_awake _).mono ?_; rintro e w1 ⟨rfl, b1⟩
 replace mA := mA.next b1
 replace mB := mB.next b1
 replace KA := KA.next b1
 replace KB := KB.next b1
 replace B0 := B0.trans (b1.mono B0.size)
 clear b1
 have qKA0 := KA.cell 0
 have qKA1 := KA.cell 1
 have qKA2 := KA.cell 2
 go_wp2_with fail
 refine (rf23_Few _ R C 3 3 xs _ mA true ⟨fun _ => HF.out, fun _ => rfl⟩).mono ?_; rintro e w2 ⟨rfl, b2⟩
 clear qKA0 qKA1 qKA2
 replace mA := mA.next b2
 replace mB := mB.next b2
 replace KA := KA.next b2
 replace KB := KB.next b2
 replace B0 := B0.trans (b2.mono B0.size)
 clear b2
 have qKB0 := KB.cell 0
 have qKB1 := KB.cell 1
 have qKB2 := KB.cell 2
 go_wp2_with fail
 refine (rf23_Few _ R2 C2 3 3 ys _ mB true ⟨fun _ => HG.out, fun _ => rfl⟩).mono ?_; rintro e w3 ⟨rfl, b3⟩
 clear qKB0 qKB1 qKB2
 replace mA := mA.next b3
 replace mB := mB.next b3
 replace KA := KA.next b3
 replace KB := KB.next b3
 replace B0 := B0.trans (b3.mono B0.size)
 clear b3
 have qKA0 := KA.cell 0
 have qKA1 := KA.cell 1
 have qKA2 := KA.cell 2
 go_wp2_with fail
 refine (rf23_Formed _ R C xs _ mA false (decide_eq_false HS.out).symm).mono ?_; rintro e w4 ⟨rfl, b4⟩
 clear qKA0 qKA1 qKA2
 replace mA := mA.next b4
 replace mB := mB.next b4
 replace KA := KA.next b4
 replace KB := KB.next b4
 replace B0 := B0.trans (b4.mono B0.size)
 clear b4
 clear mA mB
 go_wp2_with fail
 refine (law24_awake _).mono ?_; rintro e w5 ⟨rfl, b5⟩
 replace KA := KA.next b5
 replace KB := KB.next b5
 replace B0 := B0.trans (b5.mono B0.size)
 clear b5
 go_wp2
 go_ret
 exact ⟨rfl, B0⟩
set_option maxRecDepth 20000 in
theorem not_fdB (x0 : Nat) (v : Value) (R C : Int) (xs : List (List Nat)) (u : Value) (R2 C2 : Int) (ys : List (List Nat)) (w : World) (mA : Xm w v R C xs) (mB : Xm w u R2 C2 ys) (hf : (Fwx 3 3 R C xs)) (hg : (Fwx 3 3 R2 C2 ys)) (hs : (Fd R C xs.length)) (ht : ¬ (Fd R2 C2 ys.length)) :
  Calls Try.prog 7 #[.int .u8 x0, v, u] w (LawOk w) := by
 obtain ⟨aA, cA, rfl⟩ := mA.agg
 obtain ⟨aB, cB, rfl⟩ := mB.agg
 obtain ⟨wb, ew, KA, KB, B0, hsz⟩ := boxes2 w 24 24 [.int .i64 R, .int .i64 C, .slice aA xs.length cA] [.int .i64 R2, .int .i64 C2, .slice aB ys.length cB]
 clear hsz
 replace mA := mA.next B0
 replace mB := mB.next B0
 have HF := Lib.hid hf; have HG := Lib.hid hg; have HS := Lib.hid hs; have HT := Lib.hid ht; clear hf hg hs ht
 go_enter Try.func7, Try.ntmps7
 go_upto_region 1 with (fail)
 rw [← ew]
 clear ew
 go_wp2_with fail
 refine (law24_awake _).mono ?_; rintro e w1 ⟨rfl, b1⟩
 replace mA := mA.next b1
 replace mB := mB.next b1
 replace KA := KA.next b1
 replace KB := KB.next b1
 replace B0 := B0.trans (b1.mono B0.size)
 clear b1
 have qKA0 := KA.cell 0
 have qKA1 := KA.cell 1
 have qKA2 := KA.cell 2
 go_wp2_with fail
 refine (rf23_Few _ R C 3 3 xs _ mA true ⟨fun _ => HF.out, fun _ => rfl⟩).mono ?_; rintro e w2 ⟨rfl, b2⟩
 clear qKA0 qKA1 qKA2
 replace mA := mA.next b2
 replace mB := mB.next b2
 replace KA := KA.next b2
 replace KB := KB.next b2
 replace B0 := B0.trans (b2.mono B0.size)
 clear b2
 have qKB0 := KB.cell 0
 have qKB1 := KB.cell 1
 have qKB2 := KB.cell 2
 go_wp2_with fail
 refine (rf23_Few _ R2 C2 3 3 ys _ mB true ⟨fun _ => HG.out, fun _ => rfl⟩).mono ?_; rintro e w3 ⟨rfl, b3⟩
 clear qKB0 qKB1 qKB2
 replace mA := mA.next b3
 replace mB := mB.next b3
 replace KA := KA.next b3
 replace KB := KB.next b3
 replace B0 := B0.trans (b3.mono B0.size)
 clear b3
 have qKA0 := KA.cell 0
 have qKA1 := KA.cell 1
 have qKA2 := KA.cell 2
 go_wp2_with fail
 refine (rf23_Formed _ R C xs _ mA true (decide_eq_true HS.out).symm).mono ?_; rintro e w4 ⟨rfl, b4⟩
 clear qKA0 qKA1 qKA2
 replace mA := mA.next b4
 replace mB := mB.next b4
 replace KA := KA.next b4
 replace KB := KB.next b4
 replace B0 := B0.trans (b4.mono B0.size)
 clear b4
 have qKB0 := KB.cell 0
 have qKB1 := KB.cell 1
 have qKB2 := KB.cell 2
 go_wp2_with fail
 refine (rf23_Formed _ R2 C2 ys _ mB false (decide_eq_false HT.out).symm).mono ?_; rintro e w5 ⟨rfl, b5⟩
 clear qKB0 qKB1 qKB2
 replace mA := mA.next b5
 replace mB := mB.next b5
 replace KA := KA.next b5
 replace KB := KB.next b5
 replace B0 := B0.trans (b5.mono B0.size)
 clear b5
 clear mA mB
 go_wp2_with fail
 refine (law24_awake _).mono ?_; rintro e w6 ⟨rfl, b6⟩
 replace KA := KA.next b6
 replace KB := KB.next b6
 replace B0 := B0.trans (b6.mono B0.size)
 clear b6
 go_wp2
 go_ret
 exact ⟨rfl, B0⟩
set_option maxRecDepth 20000 in
theorem not_rows (x0 : Nat) (v : Value) (R C : Int) (xs : List (List Nat)) (u : Value) (R2 C2 : Int) (ys : List (List Nat)) (w : World) (mA : Xm w v R C xs) (mB : Xm w u R2 C2 ys) (hf : (Fwx 3 3 R C xs)) (hg : (Fwx 3 3 R2 C2 ys)) (hs : (Fd R C xs.length)) (ht : (Fd R2 C2 ys.length)) (hne : R ≠ R2) :
  Calls Try.prog 7 #[.int .u8 x0, v, u] w (LawOk w) := by
 obtain ⟨aA, cA, rfl⟩ := mA.agg
 obtain ⟨aB, cB, rfl⟩ := mB.agg
 obtain ⟨wb, ew, KA, KB, B0, hsz⟩ := boxes2 w 24 24 [.int .i64 R, .int .i64 C, .slice aA xs.length cA] [.int .i64 R2, .int .i64 C2, .slice aB ys.length cB]
 clear hsz
 replace mA := mA.next B0
 replace mB := mB.next B0
 have HF := Lib.hid hf; have HG := Lib.hid hg; have HS := Lib.hid hs; have HT := Lib.hid ht; have hrr : (R != R2) = true := by simpa using hne
 clear hf hg hs ht hne
 go_enter Try.func7, Try.ntmps7
 go_upto_region 1 with (fail)
 rw [← ew]
 clear ew
 go_wp2_with fail
 refine (law24_awake _).mono ?_; rintro e w1 ⟨rfl, b1⟩
 replace mA := mA.next b1
 replace mB := mB.next b1
 replace KA := KA.next b1
 replace KB := KB.next b1
 replace B0 := B0.trans (b1.mono B0.size)
 clear b1
 have qKA0 := KA.cell 0
 have qKA1 := KA.cell 1
 have qKA2 := KA.cell 2
 go_wp2_with fail
 refine (rf23_Few _ R C 3 3 xs _ mA true ⟨fun _ => HF.out, fun _ => rfl⟩).mono ?_; rintro e w2 ⟨rfl, b2⟩
 clear qKA0 qKA1 qKA2
 replace mA := mA.next b2
 replace mB := mB.next b2
 replace KA := KA.next b2
 replace KB := KB.next b2
 replace B0 := B0.trans (b2.mono B0.size)
 clear b2
 have qKB0 := KB.cell 0
 have qKB1 := KB.cell 1
 have qKB2 := KB.cell 2
 go_wp2_with fail
 refine (rf23_Few _ R2 C2 3 3 ys _ mB true ⟨fun _ => HG.out, fun _ => rfl⟩).mono ?_; rintro e w3 ⟨rfl, b3⟩
 clear qKB0 qKB1 qKB2
 replace mA := mA.next b3
 replace mB := mB.next b3
 replace KA := KA.next b3
 replace KB := KB.next b3
 replace B0 := B0.trans (b3.mono B0.size)
 clear b3
 have qKA0 := KA.cell 0
 have qKA1 := KA.cell 1
 have qKA2 := KA.cell 2
 go_wp2_with fail
 refine (rf23_Formed _ R C xs _ mA true (decide_eq_true HS.out).symm).mono ?_; rintro e w4 ⟨rfl, b4⟩
 clear qKA0 qKA1 qKA2
 replace mA := mA.next b4
 replace mB := mB.next b4
 replace KA := KA.next b4
 replace KB := KB.next b4
 replace B0 := B0.trans (b4.mono B0.size)
 clear b4
 have qKB0 := KB.cell 0
 have qKB1 := KB.cell 1
 have qKB2 := KB.cell 2
 go_wp2_with fail
 refine (rf23_Formed _ R2 C2 ys _ mB true (decide_eq_true HT.out).symm).mono ?_; rintro e w5 ⟨rfl, b5⟩
 clear qKB0 qKB1 qKB2
 replace mA := mA.next b5
 replace mB := mB.next b5
 replace KA := KA.next b5
 replace KB := KB.next b5
 replace B0 := B0.trans (b5.mono B0.size)
 clear b5
 have qKA0 := KA.cell 0
 have qKB0 := KB.cell 0
 clear mA mB
 go_wp2_with fail
 refine (law24_awake _).mono ?_; rintro e w6 ⟨rfl, b6⟩
 clear qKA0 qKB0
 replace KA := KA.next b6
 replace KB := KB.next b6
 replace B0 := B0.trans (b6.mono B0.size)
 clear b6
 go_wp2
 go_ret
 exact ⟨rfl, B0⟩
set_option maxRecDepth 20000 in
theorem good (x0 : Nat) (n m l : Nat) (v : Value) (xs : List (List Nat)) (u : Value) (ys : List (List Nat)) (w : World) (mA : Xm w v n m xs) (mB : Xm w u n l ys) (hn : n ≤ 3) (hm : m ≤ 3) (hl : l ≤ 3) (hx : xs.length = n * m) (hy : ys.length = n * l) (hf : Fwx 3 3 n m xs) (hg : Fwx 3 3 n l ys) :
  Calls Try.prog 7 #[.int .u8 x0, v, u] w (LawOk w) := by
 obtain ⟨p, ep⟩ : ∃ p, p = Ps (x0 % 12) := ⟨_, rfl⟩
 have hp : FP p := by rw [ep]; exact Ps_FP (by omega)
 have ht : Trial p := by rw [ep]; exact Ps_trial (by omega)
 have cOf : ∀ w : World, Calls Try.prog 17 #[.int .u8 x0] w fun e w' => e = .returned (.agg #[.int .u64 (p : Nat)]) ∧ Below w.heap.size w w' := fun w => by rw [ep]; exact law9_Of x0 w
 have cP : ∀ w : World, Calls Try.prog 18 #[.int .u8 x0] w fun e w' => e = .returned (.int .u64 (p : Nat)) ∧ w = w' := fun w => by rw [ep]; exact ref8_P x0 w
 have hp2 := hp.1
 have hp3 := hp.2
 have HP := Lib.hid hp; have HT := Lib.hid ht; have COF := Lib.hid cOf; have CP := Lib.hid cP
 clear hp ht cOf cP ep
 obtain ⟨aA, cA, rfl⟩ := mA.agg
 obtain ⟨aB, cB, rfl⟩ := mB.agg
 obtain ⟨wb, ew, KA, KB, B0, hsz⟩ := boxes2 w 24 24 [.int .i64 n, .int .i64 m, .slice aA xs.length cA] [.int .i64 n, .int .i64 l, .slice aB ys.length cB]
 clear hsz
 replace mA := mA.next B0
 replace mB := mB.next B0
 have HF := Lib.hid hf; have HG := Lib.hid hg; have HX := Lib.hid hx; have HY := Lib.hid hy
 have HLX := Lib.hid (show ∀ j, j < n * m → (xs.getD j []).length ≤ 3 from fun j hj => by have := hf.2.2.2 j (by omega); omega)
 have HLY := Lib.hid (show ∀ j, j < n * l → (ys.getD j []).length ≤ 3 from fun j hj => by have := hg.2.2.2 j (by omega); omega)
 clear hf hg hx hy
 have HFd := Lib.hid (Fd.of (show n ≤ 64 by omega) (show m ≤ 64 by omega) HX.out)
 have HGd := Lib.hid (Fd.of (show n ≤ 64 by omega) (show l ≤ 64 by omega) HY.out)
 have hnn : ((n : Int) != (n : Int)) = false := by simp
 have hnm9 : n * m ≤ 9 := Nat.mul_le_mul hn hm
 have HBD := Lib.hid (show 2 ^ hbd n n ≤ 64 from hbd3 hn)
 have HDX := Lib.hid (show ∀ i k, i < n → k < m → (aT p m xs i k).dlt 3 from fun i k hi hk j hj => pl_dlt p _ j (by have := HLX.out (i * m + k) (at_lt rfl hi hk); omega))
 have HDY := Lib.hid (show ∀ i k, i < n → k < l → (aT p l ys i k).dlt 3 from fun i k hi hk j hj => pl_dlt p _ j (by have := HLY.out (i * l + k) (at_lt rfl hi hk); omega))
 go_enter Try.func7, Try.ntmps7
 go_upto_region 1 with (fail)
 rw [← ew]
 clear ew
 go_wp2_with fail
 refine (law24_awake _).mono ?_; rintro e w1 ⟨rfl, b1⟩
 replace mA := mA.next b1
 replace mB := mB.next b1
 replace KA := KA.next b1
 replace KB := KB.next b1
 replace B0 := B0.trans (b1.mono B0.size)
 clear b1
 have qKA0 := KA.cell 0
 have qKA1 := KA.cell 1
 have qKA2 := KA.cell 2
 go_wp2_with fail
 refine (rf23_Few _ n m 3 3 xs _ mA true ⟨fun _ => HF.out, fun _ => rfl⟩).mono ?_; rintro e w2 ⟨rfl, b2⟩
 clear qKA0 qKA1 qKA2
 replace mA := mA.next b2
 replace mB := mB.next b2
 replace KA := KA.next b2
 replace KB := KB.next b2
 replace B0 := B0.trans (b2.mono B0.size)
 clear b2
 have qKB0 := KB.cell 0
 have qKB1 := KB.cell 1
 have qKB2 := KB.cell 2
 go_wp2_with fail
 refine (rf23_Few _ n l 3 3 ys _ mB true ⟨fun _ => HG.out, fun _ => rfl⟩).mono ?_; rintro e w3 ⟨rfl, b3⟩
 clear qKB0 qKB1 qKB2
 replace mA := mA.next b3
 replace mB := mB.next b3
 replace KA := KA.next b3
 replace KB := KB.next b3
 replace B0 := B0.trans (b3.mono B0.size)
 clear b3
 have qKA0 := KA.cell 0
 have qKA1 := KA.cell 1
 have qKA2 := KA.cell 2
 go_wp2_with fail
 refine (rf23_Formed _ n m xs _ mA true (decide_eq_true HFd.out).symm).mono ?_; rintro e w4 ⟨rfl, b4⟩
 clear qKA0 qKA1 qKA2
 replace mA := mA.next b4
 replace mB := mB.next b4
 replace KA := KA.next b4
 replace KB := KB.next b4
 replace B0 := B0.trans (b4.mono B0.size)
 clear b4
 have qKB0 := KB.cell 0
 have qKB1 := KB.cell 1
 have qKB2 := KB.cell 2
 go_wp2_with fail
 refine (rf23_Formed _ n l ys _ mB true (decide_eq_true HGd.out).symm).mono ?_; rintro e w5 ⟨rfl, b5⟩
 clear qKB0 qKB1 qKB2
 replace mA := mA.next b5
 replace mB := mB.next b5
 replace KA := KA.next b5
 replace KB := KB.next b5
 replace B0 := B0.trans (b5.mono B0.size)
 clear b5
 have qKA0 := KA.cell 0
 have qKB0 := KB.cell 0
 go_wp2_with fail
 refine (COF.out _).mono ?_; rintro e w6 ⟨rfl, b6⟩
 clear qKA0 qKB0
 replace mA := mA.next b6
 replace mB := mB.next b6
 replace KA := KA.next b6
 replace KB := KB.next b6
 replace B0 := B0.trans (b6.mono B0.size)
 clear b6
 obtain ⟨w7, e7, KF, b7, hs7⟩ := boxes1 w6 29 [.int .u64 p]
 clear hs7
 replace mA := mA.next b7
 replace mB := mB.next b7
 replace KA := KA.next b7
 replace KB := KB.next b7
 replace B0 := B0.trans (b7.mono B0.size)
 clear b7
 go_upto_region 4 with (fail)
 rw [← e7]
 clear e7
 have qKF0 := KF.cell 0
 have qKB0 := KB.cell 0
 have qKB1 := KB.cell 1
 have qKB2 := KB.cell 2
 go_wp2_with fail
 refine (xf_Hermite p _ n l 3 ys _ HP.out HT.out mB (by omega) (by omega) HY.out HLY.out (by omega) (by have := HBD.out; omega)).mono ?_; rintro e w8 ⟨V0, P0, top0, hFo, aD, kD, usD, aU, kU, usU, rfl, -, QU, b8⟩
 clear qKF0 qKB0 qKB1 qKB2
 replace mA := mA.next b8
 replace mB := mB.next b8
 replace KA := KA.next b8
 replace KB := KB.next b8
 replace KF := KF.next b8
 replace B0 := B0.trans (b8.mono B0.size)
 clear b8
 obtain ⟨zsU, zlU, nsU, hzU⟩ := QU.ns HP.out
 have mU : Xm w8 (.agg #[.int .i64 n, .int .i64 n, .slice aU (n * n) kU]) n n zsU := ⟨_, rfl, nsU⟩
 have ZLU := Lib.hid zlU; have ZU := Lib.hid hzU
 have HUU := Lib.hid (show ∀ i k, i < n → k < n → aT p n zsU i k = V0 i (l + k) from fun i k hi hk => rd_off hzU hi hk)
 have hul := foi_u HT.out hn hl HDY.out hFo
 obtain ⟨⟨T0, hT0⟩, -⟩ := her_split hFo.rq
 have HUI := Lib.hid (show Inv (MT.of n n (aT p n zsU)) T0 from by
  rw [show MT.of n n (aT p n zsU) = MT.of n n fun i k => V0 i (l + k) from MT.of_congr fun i k hi hk => HUU.out i k hi hk]; exact hT0)
 have HUL := Lib.hid (show ∀ i k, i < n → k < n → (aT p n zsU i k).dlt 11 from fun i k hi hk => by rw [HUU.out i k hi hk]; exact hul i k hi hk)
 have HUN := Lib.hid (show ∀ j, j < zsU.length → (zsU.getD j []).length ≤ 11 from fun j hj => by
  rw [zlU] at hj
  obtain ⟨h1, h2, h3⟩ := jdm hj
  have h4 := HUL.out _ _ h1 h2
  rw [← aT_at zsU hj] at h4
  exact nrm_len HP.out.pos (hzU j hj).1 h4)
 clear hul hT0 hFo QU zlU nsU hzU HUU
 obtain ⟨w9, e9, KD, KU, b9, hs9⟩ := boxes2 w8 24 24 [.int .i64 n, .int .i64 l, .slice aD (n * l) kD] [.int .i64 n, .int .i64 n, .slice aU (n * n) kU]
 clear hs9
 replace mA := mA.next b9
 replace mB := mB.next b9
 replace KA := KA.next b9
 replace KB := KB.next b9
 replace KF := KF.next b9
 replace mU := mU.next b9
 replace B0 := B0.trans (b9.mono B0.size)
 clear b9
 clear KD
 clear KB
 clear mB
 go_upto_region 5 with (fail)
 rw [← e9]
 clear e9
 have qKF0 := KF.cell 0
 have qKU0 := KU.cell 0
 have qKU1 := KU.cell 1
 have qKU2 := KU.cell 2
 have qKA0 := KA.cell 0
 have qKA1 := KA.cell 1
 have qKA2 := KA.cell 2
 go_wp2_with fail
 refine (xm_Mul p 22 11 _ _ n n m zsU xs _ HP.out mU mA (by omega) (by omega) (by omega) ZLU.out HX.out (by omega) (by omega) HUN.out (fun j hj => by have := HLX.out j (by rw [HX.out] at hj; exact hj); omega) (dotT p zsU xs n m) (fun i k _ hk => dotT_at hk)).mono ?_; rintro e w10 ⟨a10, k10, us10, rfl, o10, b10⟩
 clear qKF0 qKU0 qKU1 qKU2 qKA0 qKA1 qKA2
 replace mA := mA.next b10
 replace KA := KA.next b10
 replace KF := KF.next b10
 replace mU := mU.next b10
 replace KU := KU.next b10
 replace B0 := B0.trans (b10.mono B0.size)
 clear b10
 obtain ⟨zsC, zlC, nsC, hzC⟩ := o10.ns HP.out
 have mC : Xm w10 (.agg #[.int .i64 n, .int .i64 m, .slice a10 (n * m) k10]) n m zsC := ⟨_, rfl, nsC⟩
 have ZLC := Lib.hid zlC; have ZC := Lib.hid hzC
 clear zlC nsC hzC o10
 obtain ⟨w11, e11, KC, b11, hs11⟩ := boxes1 w10 24 [.int .i64 n, .int .i64 m, .slice a10 (n * m) k10]
 clear hs11
 replace mA := mA.next b11
 replace KA := KA.next b11
 replace KF := KF.next b11
 replace mU := mU.next b11
 replace KU := KU.next b11
 replace mC := mC.next b11
 replace B0 := B0.trans (b11.mono B0.size)
 clear b11
 have HCP := Lib.hid (show ∀ i k, i < n → k < m → aT p m zsC i k = sm n fun s => aT p n zsU i s * aT p m xs s k from fun i k hi hk => by
  show pl p (zsC.getD (i * m + k) []) = _
  rw [(ZC.out (i * m + k) (at_lt rfl hi hk)).2.1, dotT_at hk]; rfl)
 have hcl := prod_len HCP.out HUL.out HDX.out
 have HCN := Lib.hid (show ∀ j, j < n * m → (zsC.getD j []).length ≤ 13 from fun j hj => by
  obtain ⟨h1, h2, h3⟩ := jdm hj
  have h4 := hcl _ _ h1 h2
  rw [← aT_at zsC hj] at h4
  exact nrm_len HP.out.pos (ZC.out j hj).1 h4)
 have HCD := Lib.hid (prod_det HT.out HUI.out HCP.out HDX.out)
 clear hcl
 clear KU
 clear mU
 go_upto_region 6 with (fail)
 rw [← e11]
 clear e11
 have qKF0 := KF.cell 0
 have qKA0 := KA.cell 0
 have qKA1 := KA.cell 1
 have qKA2 := KA.cell 2
 go_wp2_with fail
 refine (xf_Hermite p _ n m 3 xs _ HP.out HT.out mA (by omega) (by omega) HX.out HLX.out (by omega) (by have := HBD.out; omega)).mono ?_; rintro e w12 ⟨VH, PH, topH, hFoH, aH, kH, usH, aD, kD, usD, rfl, QH, -, b12⟩
 clear qKF0 qKA0 qKA1 qKA2
 replace mA := mA.next b12
 replace KA := KA.next b12
 replace KF := KF.next b12
 replace mC := mC.next b12
 replace KC := KC.next b12
 replace B0 := B0.trans (b12.mono B0.size)
 clear b12
 obtain ⟨zsH, zlH, nsH, hzH⟩ := QH.ns HP.out
 have mH : Xm w12 (.agg #[.int .i64 n, .int .i64 m, .slice aH (n * m) kH]) n m zsH := ⟨_, rfl, nsH⟩
 have ZLH := Lib.hid zlH; have ZH := Lib.hid hzH
 have HIH := Lib.hid (And.intro hFoH.her hFoH.rq)
 have HEH := Lib.hid (show ∀ j, j < n * m → pl p (zsH.getD j []) = VH (j / m) (j % m) from fun j hj => by rw [(hzH j hj).2.1, Nat.zero_add])
 have HNH := Lib.hid (show ∀ j, j < n * m → (zsH.getD j []).length ≤ 1000000 from fun j hj => Nat.le_trans (hzH j hj).2.2 (by have := HBD.out; omega))
 clear hFoH QH zlH nsH hzH ZH
 obtain ⟨w13, e13, KH, KD, b13, hs13⟩ := boxes2 w12 24 24 [.int .i64 n, .int .i64 m, .slice aH (n * m) kH] [.int .i64 n, .int .i64 n, .slice aD (n * n) kD]
 clear hs13
 replace mA := mA.next b13
 replace KA := KA.next b13
 replace KF := KF.next b13
 replace mC := mC.next b13
 replace KC := KC.next b13
 replace mH := mH.next b13
 replace B0 := B0.trans (b13.mono B0.size)
 clear b13
 clear KD
 go_upto_region 7 with (fail)
 rw [← e13]
 clear e13
 have qKF0 := KF.cell 0
 have qKC0 := KC.cell 0
 have qKC1 := KC.cell 1
 have qKC2 := KC.cell 2
 go_wp2_with fail
 refine (xf_Hermite p _ n m 13 zsC _ HP.out HT.out mC (by omega) (by omega) ZLC.out HCN.out (by omega) (by have := HBD.out; omega)).mono ?_; rintro e w14 ⟨VG, PG, topG, hFoG, aG, kG, usG, aD, kD, usD, rfl, QG, -, b14⟩
 clear qKF0 qKC0 qKC1 qKC2
 replace mA := mA.next b14
 replace KA := KA.next b14
 replace KF := KF.next b14
 replace mC := mC.next b14
 replace KC := KC.next b14
 replace mH := mH.next b14
 replace KH := KH.next b14
 replace B0 := B0.trans (b14.mono B0.size)
 clear b14
 obtain ⟨zsG, zlG, nsG, hzG⟩ := QG.ns HP.out
 have mG : Xm w14 (.agg #[.int .i64 n, .int .i64 m, .slice aG (n * m) kG]) n m zsG := ⟨_, rfl, nsG⟩
 have ZLG := Lib.hid zlG; have ZG := Lib.hid hzG
 have HIG := Lib.hid (And.intro hFoG.her hFoG.rq)
 have HEG := Lib.hid (show ∀ j, j < n * m → pl p (zsG.getD j []) = VG (j / m) (j % m) from fun j hj => by rw [(hzG j hj).2.1, Nat.zero_add])
 have HNG := Lib.hid (show ∀ j, j < n * m → (zsG.getD j []).length ≤ 1000000 from fun j hj => Nat.le_trans (hzG j hj).2.2 (by have := HBD.out; omega))
 clear hFoG QG zlG nsG hzG ZG
 obtain ⟨w15, e15, KG, KD, b15, hs15⟩ := boxes2 w14 24 24 [.int .i64 n, .int .i64 m, .slice aG (n * m) kG] [.int .i64 n, .int .i64 n, .slice aD (n * n) kD]
 clear hs15
 replace mA := mA.next b15
 replace KA := KA.next b15
 replace KF := KF.next b15
 replace mC := mC.next b15
 replace KC := KC.next b15
 replace mH := mH.next b15
 replace KH := KH.next b15
 replace mG := mG.next b15
 replace B0 := B0.trans (b15.mono B0.size)
 clear b15
 clear KD
 go_upto_region 8 with (fail)
 rw [← e15]
 clear e15
 have qKF0 := KF.cell 0
 have qKA0 := KA.cell 0
 have qKA1 := KA.cell 1
 have qKA2 := KA.cell 2
 go_wp2_with fail
 refine (xf_Smith33 p _ n m xs _ HP.out HT.out mA hn hm HX.out HLX.out).mono ?_; rintro e w16 ⟨tS, WS, US, VS, htrS, htcS, hSRS, hSIS, hzzS, aS, kS, usS, aD, kD, usD, aE, kE, usE, rfl, QS, -, -, b16⟩
 clear qKF0 qKA0 qKA1 qKA2
 replace mA := mA.next b16
 replace KA := KA.next b16
 replace KF := KF.next b16
 replace mC := mC.next b16
 replace KC := KC.next b16
 replace mH := mH.next b16
 replace KH := KH.next b16
 replace mG := mG.next b16
 replace KG := KG.next b16
 replace B0 := B0.trans (b16.mono B0.size)
 clear b16
 obtain ⟨zsS, zlS, nsS, hzS⟩ := QS.ns HP.out
 have mS : Xm w16 (.agg #[.int .i64 n, .int .i64 m, .slice aS (n * m) kS]) n m zsS := ⟨_, rfl, nsS⟩
 have ZLS := Lib.hid zlS; have ZS := Lib.hid hzS
 have HSS := Lib.hid (And.intro hSRS (And.intro hSIS (And.intro htrS (And.intro htcS hzzS))))
 have HES := Lib.hid (show ∀ j, j < n * m → pl p (zsS.getD j []) = WS (j / m) (j % m) from fun j hj => by rw [(hzS j hj).2.1, Nat.zero_add])
 have HNS := Lib.hid (show ∀ j, j < n * m → (zsS.getD j []).length ≤ 1000000 from fun j hj => Nat.le_trans (hzS j hj).2.2 (by omega))
 clear hSRS hSIS htrS htcS hzzS QS zlS nsS hzS ZS
 obtain ⟨w17, e17, KS, KD, KE, b17, hs17⟩ := boxes3 w16 24 24 24 [.int .i64 n, .int .i64 m, .slice aS (n * m) kS] [.int .i64 n, .int .i64 n, .slice aD (n * n) kD] [.int .i64 m, .int .i64 m, .slice aE (m * m) kE]
 clear hs17
 replace mA := mA.next b17
 replace KA := KA.next b17
 replace KF := KF.next b17
 replace mC := mC.next b17
 replace KC := KC.next b17
 replace mH := mH.next b17
 replace KH := KH.next b17
 replace mG := mG.next b17
 replace KG := KG.next b17
 replace mS := mS.next b17
 replace B0 := B0.trans (b17.mono B0.size)
 clear b17
 clear KD
 clear KE
 go_upto_region 9 with (fail)
 rw [← e17]
 clear e17
 have qKF0 := KF.cell 0
 have qKC0 := KC.cell 0
 have qKC1 := KC.cell 1
 have qKC2 := KC.cell 2
 go_wp2_with fail
 refine (xf_SmithC p _ n m zsC _ HP.out HT.out mC hn hm ZLC.out HCN.out HCD.out).mono ?_; rintro e w18 ⟨tR, WR, UR, VR, htrR, htcR, hSRR, hSIR, hzzR, aR, kR, usR, aD, kD, usD, aE, kE, usE, rfl, QR, -, -, b18⟩
 clear qKF0 qKC0 qKC1 qKC2
 replace mA := mA.next b18
 replace KA := KA.next b18
 replace KF := KF.next b18
 replace mC := mC.next b18
 replace KC := KC.next b18
 replace mH := mH.next b18
 replace KH := KH.next b18
 replace mG := mG.next b18
 replace KG := KG.next b18
 replace mS := mS.next b18
 replace KS := KS.next b18
 replace B0 := B0.trans (b18.mono B0.size)
 clear b18
 obtain ⟨zsR, zlR, nsR, hzR⟩ := QR.ns HP.out
 have mR : Xm w18 (.agg #[.int .i64 n, .int .i64 m, .slice aR (n * m) kR]) n m zsR := ⟨_, rfl, nsR⟩
 have ZLR := Lib.hid zlR; have ZR := Lib.hid hzR
 have HSR := Lib.hid (And.intro hSRR (And.intro hSIR (And.intro htrR (And.intro htcR hzzR))))
 have HER := Lib.hid (show ∀ j, j < n * m → pl p (zsR.getD j []) = WR (j / m) (j % m) from fun j hj => by rw [(hzR j hj).2.1, Nat.zero_add])
 have HNR := Lib.hid (show ∀ j, j < n * m → (zsR.getD j []).length ≤ 1000000 from fun j hj => Nat.le_trans (hzR j hj).2.2 (by omega))
 clear hSRR hSIR htrR htcR hzzR QR zlR nsR hzR ZR
 obtain ⟨w19, e19, KR, KD, KE, b19, hs19⟩ := boxes3 w18 24 24 24 [.int .i64 n, .int .i64 m, .slice aR (n * m) kR] [.int .i64 n, .int .i64 n, .slice aD (n * n) kD] [.int .i64 m, .int .i64 m, .slice aE (m * m) kE]
 clear hs19
 replace mA := mA.next b19
 replace KA := KA.next b19
 replace KF := KF.next b19
 replace mC := mC.next b19
 replace KC := KC.next b19
 replace mH := mH.next b19
 replace KH := KH.next b19
 replace mG := mG.next b19
 replace KG := KG.next b19
 replace mS := mS.next b19
 replace KS := KS.next b19
 replace mR := mR.next b19
 replace B0 := B0.trans (b19.mono B0.size)
 clear b19
 clear KD
 clear KE
 go_upto_region 10 with (fail)
 rw [← e19]
 clear e19
 have hsH : ∀ j, j < zsH.length → nl p (zsH.getD j []) = nl p (zsG.getD j []) := fun j hj => by
  rw [ZLH.out] at hj
  obtain ⟨h1, h2, h3⟩ := jdm hj
  refine nl_same HP.out ?_
  rw [HEH.out j hj, HEG.out j hj]
  exact her_same HT.out HUI.out HCP.out HIH.out.1 HIH.out.2 HIG.out.1 HIG.out.2 _ _ h1 h2
 have HS2H := Lib.hid hsH; clear hsH
 have hsS : ∀ j, j < zsS.length → nl p (zsS.getD j []) = nl p (zsR.getD j []) := fun j hj => by
  rw [ZLS.out] at hj
  obtain ⟨h1, h2, h3⟩ := jdm hj
  refine nl_same HP.out ?_
  rw [HES.out j hj, HER.out j hj]
  exact smr_same HT.out HUI.out HCP.out HSS.out.1 HSR.out.1 HSS.out.2.1 HSR.out.2.1 HSS.out.2.2.1 HSS.out.2.2.2.1 HSR.out.2.2.1 HSR.out.2.2.2.1 HSS.out.2.2.2.2 HSR.out.2.2.2.2 _ _ h1 h2
 have HS2S := Lib.hid hsS; clear hsS
 have qKF0 := KF.cell 0
 have qKH0 := KH.cell 0
 have qKH1 := KH.cell 1
 have qKH2 := KH.cell 2
 have qKG0 := KG.cell 0
 have qKG1 := KG.cell 1
 have qKG2 := KG.cell 2
 go_wp2_with fail
 refine (xm_Same p _ _ n m n m zsH zsG _ HP.out mH mG (by rw [ZLH.out, ZLG.out, ← HX.out]; exact ⟨HFd.out, HFd.out, rfl, rfl⟩) (by rw [ZLH.out, ZLG.out]) (by rw [ZLH.out]; omega) (fun j hj => HNH.out j (by rw [ZLH.out] at hj; exact hj)) (fun j hj => HNG.out j (by rw [ZLH.out] at hj; exact hj)) true ⟨fun _ => HS2H.out, fun _ => rfl⟩).mono ?_; rintro e w20 ⟨rfl, b20⟩
 clear qKF0 qKH0 qKH1 qKH2 qKG0 qKG1 qKG2
 replace mA := mA.next b20
 replace KA := KA.next b20
 replace KF := KF.next b20
 replace mC := mC.next b20
 replace KC := KC.next b20
 replace mH := mH.next b20
 replace KH := KH.next b20
 replace mG := mG.next b20
 replace KG := KG.next b20
 replace mS := mS.next b20
 replace KS := KS.next b20
 replace mR := mR.next b20
 replace KR := KR.next b20
 replace B0 := B0.trans (b20.mono B0.size)
 clear b20
 have qKF0 := KF.cell 0
 have qKS0 := KS.cell 0
 have qKS1 := KS.cell 1
 have qKS2 := KS.cell 2
 have qKR0 := KR.cell 0
 have qKR1 := KR.cell 1
 have qKR2 := KR.cell 2
 go_wp2_with fail
 refine (xm_Same p _ _ n m n m zsS zsR _ HP.out mS mR (by rw [ZLS.out, ZLR.out, ← HX.out]; exact ⟨HFd.out, HFd.out, rfl, rfl⟩) (by rw [ZLS.out, ZLR.out]) (by rw [ZLS.out]; omega) (fun j hj => HNS.out j (by rw [ZLS.out] at hj; exact hj)) (fun j hj => HNR.out j (by rw [ZLS.out] at hj; exact hj)) true ⟨fun _ => HS2S.out, fun _ => rfl⟩).mono ?_; rintro e w21 ⟨rfl, b21⟩
 clear qKF0 qKS0 qKS1 qKS2 qKR0 qKR1 qKR2
 replace mA := mA.next b21
 replace KA := KA.next b21
 replace KF := KF.next b21
 replace mC := mC.next b21
 replace KC := KC.next b21
 replace mH := mH.next b21
 replace KH := KH.next b21
 replace mG := mG.next b21
 replace KG := KG.next b21
 replace mS := mS.next b21
 replace KS := KS.next b21
 replace mR := mR.next b21
 replace KR := KR.next b21
 replace B0 := B0.trans (b21.mono B0.size)
 clear b21
 clear mA
 clear KA
 clear KF
 clear mC
 clear KC
 clear mH
 clear KH
 clear mG
 clear KG
 clear mS
 clear KS
 clear mR
 clear KR
 go_wp2
 go_ret
 exact ⟨rfl, B0⟩
theorem walk (x0 : Nat) (v : Value) (R C : Int) (xs : List (List Nat)) (u : Value) (R2 C2 : Int) (ys : List (List Nat)) (w : World) (mA : Xm w v R C xs) (mB : Xm w u R2 C2 ys) : Calls Try.prog 7 #[.int .u8 x0, v, u] w (LawOk w) := by
 by_cases hf : (Fwx 3 3 R C xs)
 ·by_cases hg : (Fwx 3 3 R2 C2 ys)
  ·by_cases hs : (Fd R C xs.length)
   ·by_cases ht : (Fd R2 C2 ys.length)
    ·by_cases hne : R = R2
     ·subst hne
      obtain ⟨r, c, e1, e2, h3, h4, h5⟩ := hs.nat
      obtain ⟨r2, c2, e3, e4, h6, h7, h8⟩ := ht.nat
      subst e1
      have e6 : r2 = r := by omega
      subst e6 e2 e4
      exact good x0 r2 c c2 v xs u ys w mA mB (by have := hf.1; omega) (by have := hf.2.1; omega) (by have := hg.2.1; omega) h5 h8 hf hg
     ·exact not_rows x0 v R C xs u R2 C2 ys w mA mB hf hg hs ht hne
    ·exact not_fdB x0 v R C xs u R2 C2 ys w mA mB hf hg hs ht
   ·exact not_fdA x0 v R C xs u R2 C2 ys w mA mB hf hg hs
  ·exact not_fewB x0 v R C xs u R2 C2 ys w mA mB hf hg
 ·exact not_fewA x0 v R C xs u R2 C2 ys w mA mB hf
set_option maxRecDepth 100000 in
theorem lifted (os : Os) (started : os.Started) (H : Type) (enc : TypeId × Value → H) :
  ReturnsInHanded {} Try.checked os 7 .any (Rows.xformOneSpec.pre6 enc Try.prog Try.f7 Rows.xformOneRow.domain false) (Rows.xformOneSpec.post enc Try.prog Try.f7 false true false false) := by
 refine returnsInHanded_of_change (C := Try.checked) own started (by kernel_rfl) Try.func7
  (ChangeSpec.witness6 (enc := enc) (C := Try.checked) false ⟨#[], #[.int .u8 0, .agg #[.int .i64 0, .int .i64 0, .slice none 0 0], .agg #[.int .i64 0, .int .i64 0, .slice none 0 0]], []⟩ 8 (by kernel_rfl) (by kernel_rfl) (by kernel_rfl) (by kernel_rfl)) ?_
 intro W base args ds gs before hval0 hW hcnd _
 have hval : ∀ (j : Nat) t v, Try.f7.params[j]? = some t → args[j]? = some v → Value.okWide Try.prog W .any base t v := hval0
 have hW' := hW
 obtain ⟨p, q, hA0, hV, rfl, hfz, hnd⟩ := hW
 have hA : DataW.TrodAll enc Try.prog W 0 (fun _ => true) true Try.f7.params.toList args.toList ds p := hA0
 rw [Try.params7] at hA hval
 obtain ⟨v0, vs0, d0, ds0, p0, q0, hargs, rfl, rfl, h0, r0⟩ := trodAll_cons hA
 obtain ⟨v1, vs1, d1, ds1, p1, q1, rfl, rfl, rfl, h1, r1⟩ := trodAll_cons r0
 obtain ⟨v2, vs2, d2, ds2, p2, q2, rfl, rfl, rfl, h2, r2⟩ := trodAll_cons r1
 obtain ⟨rfl, rfl, rfl⟩ := trodAll_nil r2
 obtain rfl : args = #[v0, v1, v2] := by cases args; simp_all
 obtain ⟨rfl, rfl⟩ := trodVars_none hV
 have k0 := h0
 have lt0 : ∀ x ∈ p0, x.block < W.heap.size := by obtain ⟨m, hm⟩ := k0; exact DataW.trod_lt m _ _ _ hm
 obtain ⟨i0, rfl, rfl, rfl, wi0⟩ := open_int Try.underlying5 (hval 0 5 v0 rfl rfl) h0
 obtain ⟨x0, rfl⟩ := Int.eq_ofNat_of_zero_le (wf_u8_bounds wi0).1
 have k1 := h1
 have lt1 : ∀ x ∈ p1, x.block < W.heap.size := by obtain ⟨m, hm⟩ := k1; exact DataW.trod_lt m _ _ _ hm
 obtain ⟨R1, C1, xs1, m1, rb1, cb1⟩ := open_xm (hval 1 24 v1 rfl rfl) h1
 have k2 := h2
 have lt2 : ∀ x ∈ p2, x.block < W.heap.size := by obtain ⟨m, hm⟩ := k2; exact DataW.trod_lt m _ _ _ hm
 obtain ⟨R2, C2, xs2, m2, rb2, cb2⟩ := open_xm (hval 2 24 v2 rfl rfl) h2
 clear hA0 hval0
 refine (walk x0 v1 R1 C1 xs1 v2 R2 C2 xs2 W  m1 m2).mono fun e W' ⟨he, bel⟩ => ?_
 subst he
 exact ⟨_, rfl, _, _, _, [], _, [], hW', trodAll_mk1 (shut_bool Try.underlying4 _), (trodAll_cons_mk (Below.trod laidOut (by kernel_rfl) (of_decide_eq_true (by kernel_rfl)) k0 bel lt0) (trodAll_cons_mk (Below.trod laidOut (by kernel_rfl) (of_decide_eq_true (by kernel_rfl)) k1 bel lt1) (trodAll_cons_mk (Below.trod laidOut (by kernel_rfl) (of_decide_eq_true (by kernel_rfl)) k2 bel lt2) trodAll_mk0))), rfl, bel.frame _, fun h => by cases h⟩
theorem over : Rows.xformOneRow.holds Try.pinned (OpenSpec.ofChange Rows.xformOneSpec) :=
 OpenClaim.holds_of_wide 7 Try.f7 rfl rfl rfl rfl rfl rfl rfl ⟨rfl, rfl, rfl, rfl, rfl⟩ rfl rfl rfl rfl rfl (by kernel_rfl) Try.func7 (by kernel_rfl)
  (of_decide_eq_true (by kernel_rfl)) (by unfold Func.isWrapper; first | (rw [if_pos (by decide +kernel)]; kernel_rfl) | (rw [if_neg (by decide +kernel)]; exact ⟨rfl, rfl⟩))
  (fun os started H enc _ => lifted os started H enc)
theorem proved : Rows.XformOneSaid := over
#print axioms proved
end Go.Proofs.Ytkmfhabgempjiaa.xformOne
