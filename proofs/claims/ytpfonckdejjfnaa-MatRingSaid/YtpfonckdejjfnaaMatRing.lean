/- MatRing: whatever the three matrices, the law returns true: products go together, and with sums and transposes. No condition. -/
import Derived.Test.YtpfonckdejjfnaaRows
import Derived.Test.YtpfonckdejjfnaaZany
namespace Go.Proofs.Ytpfonckdejjfnaa.matRing
open Go.ChangeShapes Go.WideShapes Go.ChangeAt Go.RowKit
open Go.ChangeMaps (open_string shut_string)

theorem own : ownKnob Try.prog.godebug = none := by kernel_rfl
theorem laidOut : laidOutB Try.prog = true := by kernel_rfl


set_option maxRecDepth 20000 in
set_option maxHeartbeats 2000000 in
theorem not_few1 (a b c : Value) (R1 C1 R2 C2 R3 C3 : Int) (ps qs ts : List (Bool × List Nat)) (w : World) (mA : Mw w a R1 C1 ps) (mB : Mw w b R2 C2 qs) (mC : Mw w c R3 C3 ts) (few1 : ¬ Fx R1 C1 ps 4 2) :
    Calls Try.prog 5 #[a, b, c] w (LawOk w) := by
  obtain ⟨ao, ca, rfl⟩ := mA.agg
  obtain ⟨bo, cb, rfl⟩ := mB.agg
  obtain ⟨co, cc, rfl⟩ := mC.agg
  obtain ⟨wb, ew, KA, KB, KC, B0, hsz⟩ := boxes2 w 24 24 24 [.int .i64 R1, .int .i64 C1, .slice ao ps.length ca] [.int .i64 R2, .int .i64 C2, .slice bo qs.length cb] [.int .i64 R3, .int .i64 C3, .slice co ts.length cc]
  clear hsz
  have FEW1 := Lib.hid few1; clear few1
  replace mA := mA.next B0
  replace mB := mB.next B0
  replace mC := mC.next B0
  go_enter Try.func5, Try.ntmps5
  go_upto_region 1 with (fail)
  rw [← ew]
  clear ew
  go_wp2_with fail
  refine (law11_awake _).mono ?_; rintro e w1 ⟨rfl, b1⟩
  replace mA := mA.next b1
  replace mB := mB.next b1
  replace mC := mC.next b1
  replace KA := KA.next b1
  replace KB := KB.next b1
  replace KC := KC.next b1
  replace B0 := B0.trans (b1.mono B0.size)
  clear b1
  have qKA0 := KA.cell 0
  have qKA1 := KA.cell 1
  have qKA2 := KA.cell 2
  go_wp2_with fail
  refine (ref11_Few42 _ R1 C1 ps false ⟨fun h => (by cases h), fun h => absurd h FEW1.out⟩ _ mA).mono ?_; rintro e w2 ⟨rfl, b2⟩
  clear qKA0 qKA1 qKA2
  replace mA := mA.next b2
  replace mB := mB.next b2
  replace mC := mC.next b2
  replace KA := KA.next b2
  replace KB := KB.next b2
  replace KC := KC.next b2
  replace B0 := B0.trans (b2.mono B0.size)
  clear b2
  clear mA mB mC
  go_wp2_with fail
  refine (law11_awake _).mono ?_; rintro e w3 ⟨rfl, b3⟩
  replace KA := KA.next b3
  replace KB := KB.next b3
  replace KC := KC.next b3
  replace B0 := B0.trans (b3.mono B0.size)
  clear b3
  go_wp2
  go_ret
  exact ⟨rfl, B0⟩

set_option maxRecDepth 20000 in
set_option maxHeartbeats 2000000 in
theorem not_few2 (a b c : Value) (R1 C1 R2 C2 R3 C3 : Int) (ps qs ts : List (Bool × List Nat)) (w : World) (mA : Mw w a R1 C1 ps) (mB : Mw w b R2 C2 qs) (mC : Mw w c R3 C3 ts) (few1 : Fx R1 C1 ps 4 2) (few2 : ¬ Fx R2 C2 qs 4 2) :
    Calls Try.prog 5 #[a, b, c] w (LawOk w) := by
  obtain ⟨ao, ca, rfl⟩ := mA.agg
  obtain ⟨bo, cb, rfl⟩ := mB.agg
  obtain ⟨co, cc, rfl⟩ := mC.agg
  obtain ⟨wb, ew, KA, KB, KC, B0, hsz⟩ := boxes2 w 24 24 24 [.int .i64 R1, .int .i64 C1, .slice ao ps.length ca] [.int .i64 R2, .int .i64 C2, .slice bo qs.length cb] [.int .i64 R3, .int .i64 C3, .slice co ts.length cc]
  clear hsz
  have FEW1 := Lib.hid few1; clear few1
  have FEW2 := Lib.hid few2; clear few2
  replace mA := mA.next B0
  replace mB := mB.next B0
  replace mC := mC.next B0
  go_enter Try.func5, Try.ntmps5
  go_upto_region 1 with (fail)
  rw [← ew]
  clear ew
  go_wp2_with fail
  refine (law11_awake _).mono ?_; rintro e w1 ⟨rfl, b1⟩
  replace mA := mA.next b1
  replace mB := mB.next b1
  replace mC := mC.next b1
  replace KA := KA.next b1
  replace KB := KB.next b1
  replace KC := KC.next b1
  replace B0 := B0.trans (b1.mono B0.size)
  clear b1
  have qKA0 := KA.cell 0
  have qKA1 := KA.cell 1
  have qKA2 := KA.cell 2
  go_wp2_with fail
  refine (ref11_Few42 _ R1 C1 ps true ⟨fun _ => FEW1.out, fun _ => rfl⟩ _ mA).mono ?_; rintro e w2 ⟨rfl, b2⟩
  clear qKA0 qKA1 qKA2
  replace mA := mA.next b2
  replace mB := mB.next b2
  replace mC := mC.next b2
  replace KA := KA.next b2
  replace KB := KB.next b2
  replace KC := KC.next b2
  replace B0 := B0.trans (b2.mono B0.size)
  clear b2
  have qKB0 := KB.cell 0
  have qKB1 := KB.cell 1
  have qKB2 := KB.cell 2
  go_wp2_with fail
  refine (ref11_Few42 _ R2 C2 qs false ⟨fun h => (by cases h), fun h => absurd h FEW2.out⟩ _ mB).mono ?_; rintro e w3 ⟨rfl, b3⟩
  clear qKB0 qKB1 qKB2
  replace mA := mA.next b3
  replace mB := mB.next b3
  replace mC := mC.next b3
  replace KA := KA.next b3
  replace KB := KB.next b3
  replace KC := KC.next b3
  replace B0 := B0.trans (b3.mono B0.size)
  clear b3
  clear mA mB mC
  go_wp2_with fail
  refine (law11_awake _).mono ?_; rintro e w4 ⟨rfl, b4⟩
  replace KA := KA.next b4
  replace KB := KB.next b4
  replace KC := KC.next b4
  replace B0 := B0.trans (b4.mono B0.size)
  clear b4
  go_wp2
  go_ret
  exact ⟨rfl, B0⟩

set_option maxRecDepth 20000 in
set_option maxHeartbeats 2000000 in
theorem not_few3 (a b c : Value) (R1 C1 R2 C2 R3 C3 : Int) (ps qs ts : List (Bool × List Nat)) (w : World) (mA : Mw w a R1 C1 ps) (mB : Mw w b R2 C2 qs) (mC : Mw w c R3 C3 ts) (few1 : Fx R1 C1 ps 4 2) (few2 : Fx R2 C2 qs 4 2) (few3 : ¬ Fx R3 C3 ts 4 2) :
    Calls Try.prog 5 #[a, b, c] w (LawOk w) := by
  obtain ⟨ao, ca, rfl⟩ := mA.agg
  obtain ⟨bo, cb, rfl⟩ := mB.agg
  obtain ⟨co, cc, rfl⟩ := mC.agg
  obtain ⟨wb, ew, KA, KB, KC, B0, hsz⟩ := boxes2 w 24 24 24 [.int .i64 R1, .int .i64 C1, .slice ao ps.length ca] [.int .i64 R2, .int .i64 C2, .slice bo qs.length cb] [.int .i64 R3, .int .i64 C3, .slice co ts.length cc]
  clear hsz
  have FEW1 := Lib.hid few1; clear few1
  have FEW2 := Lib.hid few2; clear few2
  have FEW3 := Lib.hid few3; clear few3
  replace mA := mA.next B0
  replace mB := mB.next B0
  replace mC := mC.next B0
  go_enter Try.func5, Try.ntmps5
  go_upto_region 1 with (fail)
  rw [← ew]
  clear ew
  go_wp2_with fail
  refine (law11_awake _).mono ?_; rintro e w1 ⟨rfl, b1⟩
  replace mA := mA.next b1
  replace mB := mB.next b1
  replace mC := mC.next b1
  replace KA := KA.next b1
  replace KB := KB.next b1
  replace KC := KC.next b1
  replace B0 := B0.trans (b1.mono B0.size)
  clear b1
  have qKA0 := KA.cell 0
  have qKA1 := KA.cell 1
  have qKA2 := KA.cell 2
  go_wp2_with fail
  refine (ref11_Few42 _ R1 C1 ps true ⟨fun _ => FEW1.out, fun _ => rfl⟩ _ mA).mono ?_; rintro e w2 ⟨rfl, b2⟩
  clear qKA0 qKA1 qKA2
  replace mA := mA.next b2
  replace mB := mB.next b2
  replace mC := mC.next b2
  replace KA := KA.next b2
  replace KB := KB.next b2
  replace KC := KC.next b2
  replace B0 := B0.trans (b2.mono B0.size)
  clear b2
  have qKB0 := KB.cell 0
  have qKB1 := KB.cell 1
  have qKB2 := KB.cell 2
  go_wp2_with fail
  refine (ref11_Few42 _ R2 C2 qs true ⟨fun _ => FEW2.out, fun _ => rfl⟩ _ mB).mono ?_; rintro e w3 ⟨rfl, b3⟩
  clear qKB0 qKB1 qKB2
  replace mA := mA.next b3
  replace mB := mB.next b3
  replace mC := mC.next b3
  replace KA := KA.next b3
  replace KB := KB.next b3
  replace KC := KC.next b3
  replace B0 := B0.trans (b3.mono B0.size)
  clear b3
  have qKC0 := KC.cell 0
  have qKC1 := KC.cell 1
  have qKC2 := KC.cell 2
  go_wp2_with fail
  refine (ref11_Few42 _ R3 C3 ts false ⟨fun h => (by cases h), fun h => absurd h FEW3.out⟩ _ mC).mono ?_; rintro e w4 ⟨rfl, b4⟩
  clear qKC0 qKC1 qKC2
  replace mA := mA.next b4
  replace mB := mB.next b4
  replace mC := mC.next b4
  replace KA := KA.next b4
  replace KB := KB.next b4
  replace KC := KC.next b4
  replace B0 := B0.trans (b4.mono B0.size)
  clear b4
  clear mA mB mC
  go_wp2_with fail
  refine (law11_awake _).mono ?_; rintro e w5 ⟨rfl, b5⟩
  replace KA := KA.next b5
  replace KB := KB.next b5
  replace KC := KC.next b5
  replace B0 := B0.trans (b5.mono B0.size)
  clear b5
  go_wp2
  go_ret
  exact ⟨rfl, B0⟩

set_option maxRecDepth 20000 in
set_option maxHeartbeats 4000000 in
theorem walk_nnn (a b c : Value) (R1 C1 R2 C2 R3 C3 : Int) (ps qs ts : List (Bool × List Nat)) (xs ys zs : List Int) (w : World) (mA : Mw w a R1 C1 ps) (mB : Mw w b R2 C2 qs) (mC : Mw w c R3 C3 ts)
    (few1 : Fx R1 C1 ps 4 2) (few2 : Fx R2 C2 qs 4 2) (few3 : Fx R3 C3 ts 4 2) (hA : Mt w a R1 C1 xs 2) (hB : Mt w b R2 C2 ys 2) (hC : Mt w c R3 C3 zs 2) (hne : ¬ (Fm R1 C1 xs.length ∧ Fm R2 C2 ys.length ∧ (C1 : Int) = (R2 : Int))) (hni : ¬ Al R2 C2 R3 C3 ys.length zs.length) :
    Calls Try.prog 5 #[a, b, c] w (LawOk w) := by
  obtain ⟨ao, ca, rfl⟩ := mA.agg
  obtain ⟨bo, cb, rfl⟩ := mB.agg
  obtain ⟨co, cc, rfl⟩ := mC.agg
  obtain ⟨wb, ew, KA, KB, KC, B0, hsz⟩ := boxes2 w 24 24 24 [.int .i64 R1, .int .i64 C1, .slice ao ps.length ca] [.int .i64 R2, .int .i64 C2, .slice bo qs.length cb] [.int .i64 R3, .int .i64 C3, .slice co ts.length cc]
  clear hsz
  have HNE := Lib.hid hne; clear hne
  have HNI := Lib.hid hni; clear hni
  have FEW1 := Lib.hid few1; clear few1
  have FEW2 := Lib.hid few2; clear few2
  have FEW3 := Lib.hid few3; clear few3
  replace mA := mA.next B0
  replace mB := mB.next B0
  replace mC := mC.next B0
  replace hA := hA.next B0
  replace hB := hB.next B0
  replace hC := hC.next B0
  go_enter Try.func5, Try.ntmps5
  go_upto_region 1 with (fail)
  rw [← ew]
  clear ew
  go_wp2_with fail
  refine (law11_awake _).mono ?_; rintro e w1 ⟨rfl, b1⟩
  replace mA := mA.next b1
  replace mB := mB.next b1
  replace mC := mC.next b1
  replace hA := hA.next b1
  replace hB := hB.next b1
  replace hC := hC.next b1
  replace KA := KA.next b1
  replace KB := KB.next b1
  replace KC := KC.next b1
  replace B0 := B0.trans (b1.mono B0.size)
  clear b1
  have qKA0 := KA.cell 0
  have qKA1 := KA.cell 1
  have qKA2 := KA.cell 2
  go_wp2_with fail
  refine (ref11_Few42 _ R1 C1 ps true ⟨fun _ => FEW1.out, fun _ => rfl⟩ _ mA).mono ?_; rintro e w2 ⟨rfl, b2⟩
  clear qKA0 qKA1 qKA2
  replace mA := mA.next b2
  replace mB := mB.next b2
  replace mC := mC.next b2
  replace hA := hA.next b2
  replace hB := hB.next b2
  replace hC := hC.next b2
  replace KA := KA.next b2
  replace KB := KB.next b2
  replace KC := KC.next b2
  replace B0 := B0.trans (b2.mono B0.size)
  clear b2
  have qKB0 := KB.cell 0
  have qKB1 := KB.cell 1
  have qKB2 := KB.cell 2
  go_wp2_with fail
  refine (ref11_Few42 _ R2 C2 qs true ⟨fun _ => FEW2.out, fun _ => rfl⟩ _ mB).mono ?_; rintro e w3 ⟨rfl, b3⟩
  clear qKB0 qKB1 qKB2
  replace mA := mA.next b3
  replace mB := mB.next b3
  replace mC := mC.next b3
  replace hA := hA.next b3
  replace hB := hB.next b3
  replace hC := hC.next b3
  replace KA := KA.next b3
  replace KB := KB.next b3
  replace KC := KC.next b3
  replace B0 := B0.trans (b3.mono B0.size)
  clear b3
  have qKC0 := KC.cell 0
  have qKC1 := KC.cell 1
  have qKC2 := KC.cell 2
  go_wp2_with fail
  refine (ref11_Few42 _ R3 C3 ts true ⟨fun _ => FEW3.out, fun _ => rfl⟩ _ mC).mono ?_; rintro e w4 ⟨rfl, b4⟩
  clear qKC0 qKC1 qKC2
  replace mA := mA.next b4
  replace mB := mB.next b4
  replace mC := mC.next b4
  replace hA := hA.next b4
  replace hB := hB.next b4
  replace hC := hC.next b4
  replace KA := KA.next b4
  replace KB := KB.next b4
  replace KC := KC.next b4
  replace B0 := B0.trans (b4.mono B0.size)
  clear b4
  clear mA mB mC
  have qKA0 := KA.cell 0
  have qKA1 := KA.cell 1
  have qKA2 := KA.cell 2
  have qKB0 := KB.cell 0
  have qKB1 := KB.cell 1
  have qKB2 := KB.cell 2
  go_wp2_with fail
  refine (zmat_Mul_bad _ _ R1 C1 R2 C2 xs ys (2) (2) _ hA hB HNE.out).mono ?_; rintro e w5 ⟨v5, rfl, h5, b5⟩
  clear qKA0 qKA1 qKA2 qKB0 qKB1 qKB2
  replace hA := hA.next b5
  replace hB := hB.next b5
  replace hC := hC.next b5
  replace KA := KA.next b5
  replace KB := KB.next b5
  replace KC := KC.next b5
  replace B0 := B0.trans (b5.mono B0.size)
  clear b5
  obtain ⟨a5, k5, rfl⟩ := h5.agg
  obtain ⟨w6, e6, K5, b6, hs6⟩ := boxes1 w5 24 [.int .i64 0, .int .i64 0, .slice a5 0 k5]
  clear hs6
  replace hA := hA.next b6
  replace hB := hB.next b6
  replace hC := hC.next b6
  replace KA := KA.next b6
  replace KB := KB.next b6
  replace KC := KC.next b6
  replace h5 := h5.next b6
  replace B0 := B0.trans (b6.mono B0.size)
  clear b6
  go_upto_region 4 with (fail)
  rw [← e6]
  clear e6
  have qK50 := K5.cell 0
  have qK51 := K5.cell 1
  have qK52 := K5.cell 2
  have qKC0 := KC.cell 0
  have qKC1 := KC.cell 1
  have qKC2 := KC.cell 2
  go_wp2_with fail
  refine (zmat_Mul_any _ _ 0 0 R3 C3 ([] : List Int) zs (0) (2) _ h5.mt hC (by omega) (by omega) (by omega)).mono ?_; rintro e w7 ⟨v7, r7, c7, zs7, ec7, rfl, h7, b7, hr7, hc7, hl7⟩
  clear qK50 qK51 qK52 qKC0 qKC1 qKC2
  replace hA := hA.next b7
  replace hB := hB.next b7
  replace hC := hC.next b7
  replace KA := KA.next b7
  replace KB := KB.next b7
  replace KC := KC.next b7
  replace h5 := h5.next b7
  replace K5 := K5.next b7
  replace B0 := B0.trans (b7.mono B0.size)
  clear b7
  have HL7 := Lib.hid hl7; clear hl7
  obtain ⟨a7, k7, rfl⟩ := h7.agg
  obtain ⟨w8, e8, K7, b8, hs8⟩ := boxes1 w7 24 [.int .i64 r7, .int .i64 c7, .slice a7 zs7.length k7]
  clear hs8
  replace hA := hA.next b8
  replace hB := hB.next b8
  replace hC := hC.next b8
  replace KA := KA.next b8
  replace KB := KB.next b8
  replace KC := KC.next b8
  replace h5 := h5.next b8
  replace K5 := K5.next b8
  replace h7 := h7.next b8
  replace B0 := B0.trans (b8.mono B0.size)
  clear b8
  go_upto_region 5 with (fail)
  rw [← e8]
  clear e8
  have qKB0 := KB.cell 0
  have qKB1 := KB.cell 1
  have qKB2 := KB.cell 2
  have qKC0 := KC.cell 0
  have qKC1 := KC.cell 1
  have qKC2 := KC.cell 2
  go_wp2_with fail
  refine (zmat_Mul_any _ _ R2 C2 R3 C3 ys zs (2) (2) _ hB hC FEW2.out.2.1 (by omega) (by omega)).mono ?_; rintro e w9 ⟨v9, r9, c9, zs9, ec9, rfl, h9, b9, hr9, hc9, hl9⟩
  clear qKB0 qKB1 qKB2 qKC0 qKC1 qKC2
  replace hA := hA.next b9
  replace hB := hB.next b9
  replace hC := hC.next b9
  replace KA := KA.next b9
  replace KB := KB.next b9
  replace KC := KC.next b9
  replace h5 := h5.next b9
  replace K5 := K5.next b9
  replace h7 := h7.next b9
  replace K7 := K7.next b9
  replace B0 := B0.trans (b9.mono B0.size)
  clear b9
  have HL9 := Lib.hid hl9; clear hl9
  obtain ⟨a9, k9, rfl⟩ := h9.agg
  obtain ⟨w10, e10, K9, b10, hs10⟩ := boxes1 w9 24 [.int .i64 r9, .int .i64 c9, .slice a9 zs9.length k9]
  clear hs10
  replace hA := hA.next b10
  replace hB := hB.next b10
  replace hC := hC.next b10
  replace KA := KA.next b10
  replace KB := KB.next b10
  replace KC := KC.next b10
  replace h5 := h5.next b10
  replace K5 := K5.next b10
  replace h7 := h7.next b10
  replace K7 := K7.next b10
  replace h9 := h9.next b10
  replace B0 := B0.trans (b10.mono B0.size)
  clear b10
  go_upto_region 6 with (fail)
  rw [← e10]
  clear e10
  have qKA0 := KA.cell 0
  have qKA1 := KA.cell 1
  have qKA2 := KA.cell 2
  have qK90 := K9.cell 0
  have qK91 := K9.cell 1
  have qK92 := K9.cell 2
  go_wp2_with fail
  refine (zmat_Mul_any _ _ R1 C1 r9 c9 xs zs9 (2) (4 * (2 + 2 + 1)) _ hA h9.mt FEW1.out.2.1 (by omega) (by omega)).mono ?_; rintro e w11 ⟨v11, r11, c11, zs11, ec11, rfl, h11, b11, hr11, hc11, hl11⟩
  clear qKA0 qKA1 qKA2 qK90 qK91 qK92
  replace hA := hA.next b11
  replace hB := hB.next b11
  replace hC := hC.next b11
  replace KA := KA.next b11
  replace KB := KB.next b11
  replace KC := KC.next b11
  replace h5 := h5.next b11
  replace K5 := K5.next b11
  replace h7 := h7.next b11
  replace K7 := K7.next b11
  replace h9 := h9.next b11
  replace K9 := K9.next b11
  replace B0 := B0.trans (b11.mono B0.size)
  clear b11
  have HL11 := Lib.hid hl11; clear hl11
  obtain ⟨a11, k11, rfl⟩ := h11.agg
  obtain ⟨w12, e12, K11, b12, hs12⟩ := boxes1 w11 24 [.int .i64 r11, .int .i64 c11, .slice a11 zs11.length k11]
  clear hs12
  replace hA := hA.next b12
  replace hB := hB.next b12
  replace hC := hC.next b12
  replace KA := KA.next b12
  replace KB := KB.next b12
  replace KC := KC.next b12
  replace h5 := h5.next b12
  replace K5 := K5.next b12
  replace h7 := h7.next b12
  replace K7 := K7.next b12
  replace h9 := h9.next b12
  replace K9 := K9.next b12
  replace h11 := h11.next b12
  replace B0 := B0.trans (b12.mono B0.size)
  clear b12
  go_upto_region 7 with (fail)
  rw [← e12]
  clear e12
  go_upto_region 9 with (fail)
  have qKB0 := KB.cell 0
  have qKB1 := KB.cell 1
  have qKB2 := KB.cell 2
  have qKC0 := KC.cell 0
  have qKC1 := KC.cell 1
  have qKC2 := KC.cell 2
  go_wp2_with fail
  refine (zmat_Add_bad _ _ R2 C2 R3 C3 ys zs (2) (2) _ hB hC HNI.out).mono ?_; rintro e w13 ⟨v13, rfl, h13, b13⟩
  clear qKB0 qKB1 qKB2 qKC0 qKC1 qKC2
  replace hA := hA.next b13
  replace hB := hB.next b13
  replace hC := hC.next b13
  replace KA := KA.next b13
  replace KB := KB.next b13
  replace KC := KC.next b13
  replace h5 := h5.next b13
  replace K5 := K5.next b13
  replace h7 := h7.next b13
  replace K7 := K7.next b13
  replace h9 := h9.next b13
  replace K9 := K9.next b13
  replace h11 := h11.next b13
  replace K11 := K11.next b13
  replace B0 := B0.trans (b13.mono B0.size)
  clear b13
  obtain ⟨a13, k13, rfl⟩ := h13.agg
  obtain ⟨w14, e14, K13, b14, hs14⟩ := boxes1 w13 24 [.int .i64 0, .int .i64 0, .slice a13 0 k13]
  clear hs14
  replace hA := hA.next b14
  replace hB := hB.next b14
  replace hC := hC.next b14
  replace KA := KA.next b14
  replace KB := KB.next b14
  replace KC := KC.next b14
  replace h5 := h5.next b14
  replace K5 := K5.next b14
  replace h7 := h7.next b14
  replace K7 := K7.next b14
  replace h9 := h9.next b14
  replace K9 := K9.next b14
  replace h11 := h11.next b14
  replace K11 := K11.next b14
  replace h13 := h13.next b14
  replace B0 := B0.trans (b14.mono B0.size)
  clear b14
  go_upto_region 10 with (fail)
  rw [← e14]
  clear e14
  have qKA0 := KA.cell 0
  have qKA1 := KA.cell 1
  have qKA2 := KA.cell 2
  have qK130 := K13.cell 0
  have qK131 := K13.cell 1
  have qK132 := K13.cell 2
  go_wp2_with fail
  refine (zmat_Mul_any _ _ R1 C1 0 0 xs ([] : List Int) (2) (0) _ hA h13.mt FEW1.out.2.1 (by omega) (by omega)).mono ?_; rintro e w15 ⟨v15, r15, c15, zs15, ec15, rfl, h15, b15, hr15, hc15, hl15⟩
  clear qKA0 qKA1 qKA2 qK130 qK131 qK132
  replace hA := hA.next b15
  replace hB := hB.next b15
  replace hC := hC.next b15
  replace KA := KA.next b15
  replace KB := KB.next b15
  replace KC := KC.next b15
  replace h5 := h5.next b15
  replace K5 := K5.next b15
  replace h7 := h7.next b15
  replace K7 := K7.next b15
  replace h9 := h9.next b15
  replace K9 := K9.next b15
  replace h11 := h11.next b15
  replace K11 := K11.next b15
  replace h13 := h13.next b15
  replace K13 := K13.next b15
  replace B0 := B0.trans (b15.mono B0.size)
  clear b15
  have HL15 := Lib.hid hl15; clear hl15
  obtain ⟨a15, k15, rfl⟩ := h15.agg
  obtain ⟨w16, e16, K15, b16, hs16⟩ := boxes1 w15 24 [.int .i64 r15, .int .i64 c15, .slice a15 zs15.length k15]
  clear hs16
  replace hA := hA.next b16
  replace hB := hB.next b16
  replace hC := hC.next b16
  replace KA := KA.next b16
  replace KB := KB.next b16
  replace KC := KC.next b16
  replace h5 := h5.next b16
  replace K5 := K5.next b16
  replace h7 := h7.next b16
  replace K7 := K7.next b16
  replace h9 := h9.next b16
  replace K9 := K9.next b16
  replace h11 := h11.next b16
  replace K11 := K11.next b16
  replace h13 := h13.next b16
  replace K13 := K13.next b16
  replace h15 := h15.next b16
  replace B0 := B0.trans (b16.mono B0.size)
  clear b16
  go_upto_region 11 with (fail)
  rw [← e16]
  clear e16
  have qKA0 := KA.cell 0
  have qKA1 := KA.cell 1
  have qKA2 := KA.cell 2
  have qKC0 := KC.cell 0
  have qKC1 := KC.cell 1
  have qKC2 := KC.cell 2
  go_wp2_with fail
  refine (zmat_Mul_any _ _ R1 C1 R3 C3 xs zs (2) (2) _ hA hC FEW1.out.2.1 (by omega) (by omega)).mono ?_; rintro e w17 ⟨v17, r17, c17, zs17, ec17, rfl, h17, b17, hr17, hc17, hl17⟩
  clear qKA0 qKA1 qKA2 qKC0 qKC1 qKC2
  replace hA := hA.next b17
  replace hB := hB.next b17
  replace hC := hC.next b17
  replace KA := KA.next b17
  replace KB := KB.next b17
  replace KC := KC.next b17
  replace h5 := h5.next b17
  replace K5 := K5.next b17
  replace h7 := h7.next b17
  replace K7 := K7.next b17
  replace h9 := h9.next b17
  replace K9 := K9.next b17
  replace h11 := h11.next b17
  replace K11 := K11.next b17
  replace h13 := h13.next b17
  replace K13 := K13.next b17
  replace h15 := h15.next b17
  replace K15 := K15.next b17
  replace B0 := B0.trans (b17.mono B0.size)
  clear b17
  have HL17 := Lib.hid hl17; clear hl17
  obtain ⟨a17, k17, rfl⟩ := h17.agg
  obtain ⟨w18, e18, K17, b18, hs18⟩ := boxes1 w17 24 [.int .i64 r17, .int .i64 c17, .slice a17 zs17.length k17]
  clear hs18
  replace hA := hA.next b18
  replace hB := hB.next b18
  replace hC := hC.next b18
  replace KA := KA.next b18
  replace KB := KB.next b18
  replace KC := KC.next b18
  replace h5 := h5.next b18
  replace K5 := K5.next b18
  replace h7 := h7.next b18
  replace K7 := K7.next b18
  replace h9 := h9.next b18
  replace K9 := K9.next b18
  replace h11 := h11.next b18
  replace K11 := K11.next b18
  replace h13 := h13.next b18
  replace K13 := K13.next b18
  replace h15 := h15.next b18
  replace K15 := K15.next b18
  replace h17 := h17.next b18
  replace B0 := B0.trans (b18.mono B0.size)
  clear b18
  go_upto_region 12 with (fail)
  rw [← e18]
  clear e18
  have qK50 := K5.cell 0
  have qK51 := K5.cell 1
  have qK52 := K5.cell 2
  have qK170 := K17.cell 0
  have qK171 := K17.cell 1
  have qK172 := K17.cell 2
  go_wp2_with fail
  refine (zmat_Add_any _ _ 0 0 r17 c17 ([] : List Int) zs17 (0) (4 * (2 + 2 + 1)) _ h5.mt h17.mt (by omega) (by omega)).mono ?_; rintro e w19 ⟨v19, r19, c19, zs19, ec19, rfl, h19, b19, hr19, hc19, hl19⟩
  clear qK50 qK51 qK52 qK170 qK171 qK172
  replace hA := hA.next b19
  replace hB := hB.next b19
  replace hC := hC.next b19
  replace KA := KA.next b19
  replace KB := KB.next b19
  replace KC := KC.next b19
  replace h5 := h5.next b19
  replace K5 := K5.next b19
  replace h7 := h7.next b19
  replace K7 := K7.next b19
  replace h9 := h9.next b19
  replace K9 := K9.next b19
  replace h11 := h11.next b19
  replace K11 := K11.next b19
  replace h13 := h13.next b19
  replace K13 := K13.next b19
  replace h15 := h15.next b19
  replace K15 := K15.next b19
  replace h17 := h17.next b19
  replace K17 := K17.next b19
  replace B0 := B0.trans (b19.mono B0.size)
  clear b19
  have HL19 := Lib.hid hl19; clear hl19
  obtain ⟨a19, k19, rfl⟩ := h19.agg
  obtain ⟨w20, e20, K19, b20, hs20⟩ := boxes1 w19 24 [.int .i64 r19, .int .i64 c19, .slice a19 zs19.length k19]
  clear hs20
  replace hA := hA.next b20
  replace hB := hB.next b20
  replace hC := hC.next b20
  replace KA := KA.next b20
  replace KB := KB.next b20
  replace KC := KC.next b20
  replace h5 := h5.next b20
  replace K5 := K5.next b20
  replace h7 := h7.next b20
  replace K7 := K7.next b20
  replace h9 := h9.next b20
  replace K9 := K9.next b20
  replace h11 := h11.next b20
  replace K11 := K11.next b20
  replace h13 := h13.next b20
  replace K13 := K13.next b20
  replace h15 := h15.next b20
  replace K15 := K15.next b20
  replace h17 := h17.next b20
  replace K17 := K17.next b20
  replace h19 := h19.next b20
  replace B0 := B0.trans (b20.mono B0.size)
  clear b20
  go_upto_region 13 with (fail)
  rw [← e20]
  clear e20
  go_wp2
  go_ret
  exact ⟨rfl, B0⟩

set_option maxRecDepth 20000 in
set_option maxHeartbeats 4000000 in
theorem walk_nny (a b c : Value) (R1 C1 : Int) (m k : Nat) (ps qs ts : List (Bool × List Nat)) (xs ys zs : List Int) (w : World) (mA : Mw w a R1 C1 ps) (mB : Mw w b m k qs) (mC : Mw w c m k ts)
    (few1 : Fx R1 C1 ps 4 2) (few2 : Fx m k qs 4 2) (few3 : Fx m k ts 4 2) (hA : Mt w a R1 C1 xs 2) (hB : Mt w b m k ys 2) (hC : Mt w c m k zs 2) (hm : m ≤ 64) (hk : k ≤ 64) (hY : ys.length = m * k) (hZ : zs.length = m * k) (hne : ¬ (Fm R1 C1 xs.length ∧ Fm m k ys.length ∧ (C1 : Int) = (m : Int))) :
    Calls Try.prog 5 #[a, b, c] w (LawOk w) := by
  obtain ⟨ao, ca, rfl⟩ := mA.agg
  obtain ⟨bo, cb, rfl⟩ := mB.agg
  obtain ⟨co, cc, rfl⟩ := mC.agg
  obtain ⟨wb, ew, KA, KB, KC, B0, hsz⟩ := boxes2 w 24 24 24 [.int .i64 R1, .int .i64 C1, .slice ao ps.length ca] [.int .i64 m, .int .i64 k, .slice bo qs.length cb] [.int .i64 m, .int .i64 k, .slice co ts.length cc]
  clear hsz
  have HY := Lib.hid hY; clear hY
  have HZ := Lib.hid hZ; clear hZ
  have HNE := Lib.hid hne; clear hne
  have FEW1 := Lib.hid few1; clear few1
  have FEW2 := Lib.hid few2; clear few2
  have FEW3 := Lib.hid few3; clear few3
  replace mA := mA.next B0
  replace mB := mB.next B0
  replace mC := mC.next B0
  replace hA := hA.next B0
  replace hB := hB.next B0
  replace hC := hC.next B0
  go_enter Try.func5, Try.ntmps5
  go_upto_region 1 with (fail)
  rw [← ew]
  clear ew
  go_wp2_with fail
  refine (law11_awake _).mono ?_; rintro e w1 ⟨rfl, b1⟩
  replace mA := mA.next b1
  replace mB := mB.next b1
  replace mC := mC.next b1
  replace hA := hA.next b1
  replace hB := hB.next b1
  replace hC := hC.next b1
  replace KA := KA.next b1
  replace KB := KB.next b1
  replace KC := KC.next b1
  replace B0 := B0.trans (b1.mono B0.size)
  clear b1
  have qKA0 := KA.cell 0
  have qKA1 := KA.cell 1
  have qKA2 := KA.cell 2
  go_wp2_with fail
  refine (ref11_Few42 _ R1 C1 ps true ⟨fun _ => FEW1.out, fun _ => rfl⟩ _ mA).mono ?_; rintro e w2 ⟨rfl, b2⟩
  clear qKA0 qKA1 qKA2
  replace mA := mA.next b2
  replace mB := mB.next b2
  replace mC := mC.next b2
  replace hA := hA.next b2
  replace hB := hB.next b2
  replace hC := hC.next b2
  replace KA := KA.next b2
  replace KB := KB.next b2
  replace KC := KC.next b2
  replace B0 := B0.trans (b2.mono B0.size)
  clear b2
  have qKB0 := KB.cell 0
  have qKB1 := KB.cell 1
  have qKB2 := KB.cell 2
  go_wp2_with fail
  refine (ref11_Few42 _ m k qs true ⟨fun _ => FEW2.out, fun _ => rfl⟩ _ mB).mono ?_; rintro e w3 ⟨rfl, b3⟩
  clear qKB0 qKB1 qKB2
  replace mA := mA.next b3
  replace mB := mB.next b3
  replace mC := mC.next b3
  replace hA := hA.next b3
  replace hB := hB.next b3
  replace hC := hC.next b3
  replace KA := KA.next b3
  replace KB := KB.next b3
  replace KC := KC.next b3
  replace B0 := B0.trans (b3.mono B0.size)
  clear b3
  have qKC0 := KC.cell 0
  have qKC1 := KC.cell 1
  have qKC2 := KC.cell 2
  go_wp2_with fail
  refine (ref11_Few42 _ m k ts true ⟨fun _ => FEW3.out, fun _ => rfl⟩ _ mC).mono ?_; rintro e w4 ⟨rfl, b4⟩
  clear qKC0 qKC1 qKC2
  replace mA := mA.next b4
  replace mB := mB.next b4
  replace mC := mC.next b4
  replace hA := hA.next b4
  replace hB := hB.next b4
  replace hC := hC.next b4
  replace KA := KA.next b4
  replace KB := KB.next b4
  replace KC := KC.next b4
  replace B0 := B0.trans (b4.mono B0.size)
  clear b4
  clear mA mB mC
  have qKA0 := KA.cell 0
  have qKA1 := KA.cell 1
  have qKA2 := KA.cell 2
  have qKB0 := KB.cell 0
  have qKB1 := KB.cell 1
  have qKB2 := KB.cell 2
  go_wp2_with fail
  refine (zmat_Mul_bad _ _ R1 C1 m k xs ys (2) (2) _ hA hB HNE.out).mono ?_; rintro e w5 ⟨v5, rfl, h5, b5⟩
  clear qKA0 qKA1 qKA2 qKB0 qKB1 qKB2
  replace hA := hA.next b5
  replace hB := hB.next b5
  replace hC := hC.next b5
  replace KA := KA.next b5
  replace KB := KB.next b5
  replace KC := KC.next b5
  replace B0 := B0.trans (b5.mono B0.size)
  clear b5
  obtain ⟨a5, k5, rfl⟩ := h5.agg
  obtain ⟨w6, e6, K5, b6, hs6⟩ := boxes1 w5 24 [.int .i64 0, .int .i64 0, .slice a5 0 k5]
  clear hs6
  replace hA := hA.next b6
  replace hB := hB.next b6
  replace hC := hC.next b6
  replace KA := KA.next b6
  replace KB := KB.next b6
  replace KC := KC.next b6
  replace h5 := h5.next b6
  replace B0 := B0.trans (b6.mono B0.size)
  clear b6
  go_upto_region 4 with (fail)
  rw [← e6]
  clear e6
  have qK50 := K5.cell 0
  have qK51 := K5.cell 1
  have qK52 := K5.cell 2
  have qKC0 := KC.cell 0
  have qKC1 := KC.cell 1
  have qKC2 := KC.cell 2
  go_wp2_with fail
  refine (zmat_Mul_any _ _ 0 0 m k ([] : List Int) zs (0) (2) _ h5.mt hC (by omega) (by omega) (by omega)).mono ?_; rintro e w7 ⟨v7, r7, c7, zs7, ec7, rfl, h7, b7, hr7, hc7, hl7⟩
  clear qK50 qK51 qK52 qKC0 qKC1 qKC2
  replace hA := hA.next b7
  replace hB := hB.next b7
  replace hC := hC.next b7
  replace KA := KA.next b7
  replace KB := KB.next b7
  replace KC := KC.next b7
  replace h5 := h5.next b7
  replace K5 := K5.next b7
  replace B0 := B0.trans (b7.mono B0.size)
  clear b7
  have HL7 := Lib.hid hl7; clear hl7
  obtain ⟨a7, k7, rfl⟩ := h7.agg
  obtain ⟨w8, e8, K7, b8, hs8⟩ := boxes1 w7 24 [.int .i64 r7, .int .i64 c7, .slice a7 zs7.length k7]
  clear hs8
  replace hA := hA.next b8
  replace hB := hB.next b8
  replace hC := hC.next b8
  replace KA := KA.next b8
  replace KB := KB.next b8
  replace KC := KC.next b8
  replace h5 := h5.next b8
  replace K5 := K5.next b8
  replace h7 := h7.next b8
  replace B0 := B0.trans (b8.mono B0.size)
  clear b8
  go_upto_region 5 with (fail)
  rw [← e8]
  clear e8
  have qKB0 := KB.cell 0
  have qKB1 := KB.cell 1
  have qKB2 := KB.cell 2
  have qKC0 := KC.cell 0
  have qKC1 := KC.cell 1
  have qKC2 := KC.cell 2
  go_wp2_with fail
  refine (zmat_Mul_any _ _ m k m k ys zs (2) (2) _ hB hC FEW2.out.2.1 (by omega) (by omega)).mono ?_; rintro e w9 ⟨v9, r9, c9, zs9, ec9, rfl, h9, b9, hr9, hc9, hl9⟩
  clear qKB0 qKB1 qKB2 qKC0 qKC1 qKC2
  replace hA := hA.next b9
  replace hB := hB.next b9
  replace hC := hC.next b9
  replace KA := KA.next b9
  replace KB := KB.next b9
  replace KC := KC.next b9
  replace h5 := h5.next b9
  replace K5 := K5.next b9
  replace h7 := h7.next b9
  replace K7 := K7.next b9
  replace B0 := B0.trans (b9.mono B0.size)
  clear b9
  have HL9 := Lib.hid hl9; clear hl9
  obtain ⟨a9, k9, rfl⟩ := h9.agg
  obtain ⟨w10, e10, K9, b10, hs10⟩ := boxes1 w9 24 [.int .i64 r9, .int .i64 c9, .slice a9 zs9.length k9]
  clear hs10
  replace hA := hA.next b10
  replace hB := hB.next b10
  replace hC := hC.next b10
  replace KA := KA.next b10
  replace KB := KB.next b10
  replace KC := KC.next b10
  replace h5 := h5.next b10
  replace K5 := K5.next b10
  replace h7 := h7.next b10
  replace K7 := K7.next b10
  replace h9 := h9.next b10
  replace B0 := B0.trans (b10.mono B0.size)
  clear b10
  go_upto_region 6 with (fail)
  rw [← e10]
  clear e10
  have qKA0 := KA.cell 0
  have qKA1 := KA.cell 1
  have qKA2 := KA.cell 2
  have qK90 := K9.cell 0
  have qK91 := K9.cell 1
  have qK92 := K9.cell 2
  go_wp2_with fail
  refine (zmat_Mul_any _ _ R1 C1 r9 c9 xs zs9 (2) (4 * (2 + 2 + 1)) _ hA h9.mt FEW1.out.2.1 (by omega) (by omega)).mono ?_; rintro e w11 ⟨v11, r11, c11, zs11, ec11, rfl, h11, b11, hr11, hc11, hl11⟩
  clear qKA0 qKA1 qKA2 qK90 qK91 qK92
  replace hA := hA.next b11
  replace hB := hB.next b11
  replace hC := hC.next b11
  replace KA := KA.next b11
  replace KB := KB.next b11
  replace KC := KC.next b11
  replace h5 := h5.next b11
  replace K5 := K5.next b11
  replace h7 := h7.next b11
  replace K7 := K7.next b11
  replace h9 := h9.next b11
  replace K9 := K9.next b11
  replace B0 := B0.trans (b11.mono B0.size)
  clear b11
  have HL11 := Lib.hid hl11; clear hl11
  obtain ⟨a11, k11, rfl⟩ := h11.agg
  obtain ⟨w12, e12, K11, b12, hs12⟩ := boxes1 w11 24 [.int .i64 r11, .int .i64 c11, .slice a11 zs11.length k11]
  clear hs12
  replace hA := hA.next b12
  replace hB := hB.next b12
  replace hC := hC.next b12
  replace KA := KA.next b12
  replace KB := KB.next b12
  replace KC := KC.next b12
  replace h5 := h5.next b12
  replace K5 := K5.next b12
  replace h7 := h7.next b12
  replace K7 := K7.next b12
  replace h9 := h9.next b12
  replace K9 := K9.next b12
  replace h11 := h11.next b12
  replace B0 := B0.trans (b12.mono B0.size)
  clear b12
  go_upto_region 7 with (fail)
  rw [← e12]
  clear e12
  go_upto_region 9 with (fail)
  have qKB0 := KB.cell 0
  have qKB1 := KB.cell 1
  have qKB2 := KB.cell 2
  have qKC0 := KC.cell 0
  have qKC1 := KC.cell 1
  have qKC2 := KC.cell 2
  go_wp2_with fail
  refine (zmat_Add _ _ m k ys zs (2) (2) _ hB hC hm hk HY.out HZ.out (by omega) (by omega)).mono ?_; rintro e w13 ⟨v13, rfl, h13, b13⟩
  clear qKB0 qKB1 qKB2 qKC0 qKC1 qKC2
  replace hA := hA.next b13
  replace hB := hB.next b13
  replace hC := hC.next b13
  replace KA := KA.next b13
  replace KB := KB.next b13
  replace KC := KC.next b13
  replace h5 := h5.next b13
  replace K5 := K5.next b13
  replace h7 := h7.next b13
  replace K7 := K7.next b13
  replace h9 := h9.next b13
  replace K9 := K9.next b13
  replace h11 := h11.next b13
  replace K11 := K11.next b13
  replace B0 := B0.trans (b13.mono B0.size)
  clear b13
  obtain ⟨s, es⟩ : ∃ zz, zz = addL m k ys zs := ⟨_, rfl⟩
  have ES := Lib.hid es
  unfold addL at es
  rw [← es] at h13
  clear es
  have LS := Lib.hid (show s.length = m * k from by rw [ES.out]; exact addL_length _ _ _ _)
  obtain ⟨a13, k13, rfl⟩ := h13.agg
  obtain ⟨w14, e14, K13, b14, hs14⟩ := boxes1 w13 24 [.int .i64 m, .int .i64 k, .slice a13 s.length k13]
  clear hs14
  replace hA := hA.next b14
  replace hB := hB.next b14
  replace hC := hC.next b14
  replace KA := KA.next b14
  replace KB := KB.next b14
  replace KC := KC.next b14
  replace h5 := h5.next b14
  replace K5 := K5.next b14
  replace h7 := h7.next b14
  replace K7 := K7.next b14
  replace h9 := h9.next b14
  replace K9 := K9.next b14
  replace h11 := h11.next b14
  replace K11 := K11.next b14
  replace h13 := h13.next b14
  replace B0 := B0.trans (b14.mono B0.size)
  clear b14
  go_upto_region 10 with (fail)
  rw [← e14]
  clear e14
  have qKA0 := KA.cell 0
  have qKA1 := KA.cell 1
  have qKA2 := KA.cell 2
  have qK130 := K13.cell 0
  have qK131 := K13.cell 1
  have qK132 := K13.cell 2
  go_wp2_with fail
  refine (zmat_Mul_any _ _ R1 C1 m k xs s (2) (2 + 2 + 1) _ hA h13.mt FEW1.out.2.1 (by omega) (by omega)).mono ?_; rintro e w15 ⟨v15, r15, c15, zs15, ec15, rfl, h15, b15, hr15, hc15, hl15⟩
  clear qKA0 qKA1 qKA2 qK130 qK131 qK132
  replace hA := hA.next b15
  replace hB := hB.next b15
  replace hC := hC.next b15
  replace KA := KA.next b15
  replace KB := KB.next b15
  replace KC := KC.next b15
  replace h5 := h5.next b15
  replace K5 := K5.next b15
  replace h7 := h7.next b15
  replace K7 := K7.next b15
  replace h9 := h9.next b15
  replace K9 := K9.next b15
  replace h11 := h11.next b15
  replace K11 := K11.next b15
  replace h13 := h13.next b15
  replace K13 := K13.next b15
  replace B0 := B0.trans (b15.mono B0.size)
  clear b15
  have HL15 := Lib.hid hl15; clear hl15
  obtain ⟨a15, k15, rfl⟩ := h15.agg
  obtain ⟨w16, e16, K15, b16, hs16⟩ := boxes1 w15 24 [.int .i64 r15, .int .i64 c15, .slice a15 zs15.length k15]
  clear hs16
  replace hA := hA.next b16
  replace hB := hB.next b16
  replace hC := hC.next b16
  replace KA := KA.next b16
  replace KB := KB.next b16
  replace KC := KC.next b16
  replace h5 := h5.next b16
  replace K5 := K5.next b16
  replace h7 := h7.next b16
  replace K7 := K7.next b16
  replace h9 := h9.next b16
  replace K9 := K9.next b16
  replace h11 := h11.next b16
  replace K11 := K11.next b16
  replace h13 := h13.next b16
  replace K13 := K13.next b16
  replace h15 := h15.next b16
  replace B0 := B0.trans (b16.mono B0.size)
  clear b16
  go_upto_region 11 with (fail)
  rw [← e16]
  clear e16
  have qKA0 := KA.cell 0
  have qKA1 := KA.cell 1
  have qKA2 := KA.cell 2
  have qKC0 := KC.cell 0
  have qKC1 := KC.cell 1
  have qKC2 := KC.cell 2
  go_wp2_with fail
  refine (zmat_Mul_any _ _ R1 C1 m k xs zs (2) (2) _ hA hC FEW1.out.2.1 (by omega) (by omega)).mono ?_; rintro e w17 ⟨v17, r17, c17, zs17, ec17, rfl, h17, b17, hr17, hc17, hl17⟩
  clear qKA0 qKA1 qKA2 qKC0 qKC1 qKC2
  replace hA := hA.next b17
  replace hB := hB.next b17
  replace hC := hC.next b17
  replace KA := KA.next b17
  replace KB := KB.next b17
  replace KC := KC.next b17
  replace h5 := h5.next b17
  replace K5 := K5.next b17
  replace h7 := h7.next b17
  replace K7 := K7.next b17
  replace h9 := h9.next b17
  replace K9 := K9.next b17
  replace h11 := h11.next b17
  replace K11 := K11.next b17
  replace h13 := h13.next b17
  replace K13 := K13.next b17
  replace h15 := h15.next b17
  replace K15 := K15.next b17
  replace B0 := B0.trans (b17.mono B0.size)
  clear b17
  have HL17 := Lib.hid hl17; clear hl17
  obtain ⟨a17, k17, rfl⟩ := h17.agg
  obtain ⟨w18, e18, K17, b18, hs18⟩ := boxes1 w17 24 [.int .i64 r17, .int .i64 c17, .slice a17 zs17.length k17]
  clear hs18
  replace hA := hA.next b18
  replace hB := hB.next b18
  replace hC := hC.next b18
  replace KA := KA.next b18
  replace KB := KB.next b18
  replace KC := KC.next b18
  replace h5 := h5.next b18
  replace K5 := K5.next b18
  replace h7 := h7.next b18
  replace K7 := K7.next b18
  replace h9 := h9.next b18
  replace K9 := K9.next b18
  replace h11 := h11.next b18
  replace K11 := K11.next b18
  replace h13 := h13.next b18
  replace K13 := K13.next b18
  replace h15 := h15.next b18
  replace K15 := K15.next b18
  replace h17 := h17.next b18
  replace B0 := B0.trans (b18.mono B0.size)
  clear b18
  go_upto_region 12 with (fail)
  rw [← e18]
  clear e18
  have qK50 := K5.cell 0
  have qK51 := K5.cell 1
  have qK52 := K5.cell 2
  have qK170 := K17.cell 0
  have qK171 := K17.cell 1
  have qK172 := K17.cell 2
  go_wp2_with fail
  refine (zmat_Add_any _ _ 0 0 r17 c17 ([] : List Int) zs17 (0) (4 * (2 + 2 + 1)) _ h5.mt h17.mt (by omega) (by omega)).mono ?_; rintro e w19 ⟨v19, r19, c19, zs19, ec19, rfl, h19, b19, hr19, hc19, hl19⟩
  clear qK50 qK51 qK52 qK170 qK171 qK172
  replace hA := hA.next b19
  replace hB := hB.next b19
  replace hC := hC.next b19
  replace KA := KA.next b19
  replace KB := KB.next b19
  replace KC := KC.next b19
  replace h5 := h5.next b19
  replace K5 := K5.next b19
  replace h7 := h7.next b19
  replace K7 := K7.next b19
  replace h9 := h9.next b19
  replace K9 := K9.next b19
  replace h11 := h11.next b19
  replace K11 := K11.next b19
  replace h13 := h13.next b19
  replace K13 := K13.next b19
  replace h15 := h15.next b19
  replace K15 := K15.next b19
  replace h17 := h17.next b19
  replace K17 := K17.next b19
  replace B0 := B0.trans (b19.mono B0.size)
  clear b19
  have HL19 := Lib.hid hl19; clear hl19
  obtain ⟨a19, k19, rfl⟩ := h19.agg
  obtain ⟨w20, e20, K19, b20, hs20⟩ := boxes1 w19 24 [.int .i64 r19, .int .i64 c19, .slice a19 zs19.length k19]
  clear hs20
  replace hA := hA.next b20
  replace hB := hB.next b20
  replace hC := hC.next b20
  replace KA := KA.next b20
  replace KB := KB.next b20
  replace KC := KC.next b20
  replace h5 := h5.next b20
  replace K5 := K5.next b20
  replace h7 := h7.next b20
  replace K7 := K7.next b20
  replace h9 := h9.next b20
  replace K9 := K9.next b20
  replace h11 := h11.next b20
  replace K11 := K11.next b20
  replace h13 := h13.next b20
  replace K13 := K13.next b20
  replace h15 := h15.next b20
  replace K15 := K15.next b20
  replace h17 := h17.next b20
  replace K17 := K17.next b20
  replace h19 := h19.next b20
  replace B0 := B0.trans (b20.mono B0.size)
  clear b20
  go_upto_region 13 with (fail)
  rw [← e20]
  clear e20
  go_wp2
  go_ret
  exact ⟨rfl, B0⟩

set_option maxRecDepth 20000 in
set_option maxHeartbeats 4000000 in
theorem walk_ynn (a b c : Value) (R3 C3 : Int) (r m k : Nat) (ps qs ts : List (Bool × List Nat)) (xs ys zs : List Int) (w : World) (mA : Mw w a r m ps) (mB : Mw w b m k qs) (mC : Mw w c R3 C3 ts)
    (few1 : Fx r m ps 4 2) (few2 : Fx m k qs 4 2) (few3 : Fx R3 C3 ts 4 2) (hA : Mt w a r m xs 2) (hB : Mt w b m k ys 2) (hC : Mt w c R3 C3 zs 2) (hr : r ≤ 64) (hm : m ≤ 64) (hk : k ≤ 64) (hX : xs.length = r * m) (hY : ys.length = m * k) (hng : ¬ (Fm m k ys.length ∧ Fm R3 C3 zs.length ∧ (k : Int) = (R3 : Int))) (hni : ¬ Al m k R3 C3 ys.length zs.length) :
    Calls Try.prog 5 #[a, b, c] w (LawOk w) := by
  obtain ⟨ao, ca, rfl⟩ := mA.agg
  obtain ⟨bo, cb, rfl⟩ := mB.agg
  obtain ⟨co, cc, rfl⟩ := mC.agg
  obtain ⟨wb, ew, KA, KB, KC, B0, hsz⟩ := boxes2 w 24 24 24 [.int .i64 r, .int .i64 m, .slice ao ps.length ca] [.int .i64 m, .int .i64 k, .slice bo qs.length cb] [.int .i64 R3, .int .i64 C3, .slice co ts.length cc]
  clear hsz
  have HX := Lib.hid hX; clear hX
  have HY := Lib.hid hY; clear hY
  have HNG := Lib.hid hng; clear hng
  have HNI := Lib.hid hni; clear hni
  have FEW1 := Lib.hid few1; clear few1
  have FEW2 := Lib.hid few2; clear few2
  have FEW3 := Lib.hid few3; clear few3
  replace mA := mA.next B0
  replace mB := mB.next B0
  replace mC := mC.next B0
  replace hA := hA.next B0
  replace hB := hB.next B0
  replace hC := hC.next B0
  go_enter Try.func5, Try.ntmps5
  go_upto_region 1 with (fail)
  rw [← ew]
  clear ew
  go_wp2_with fail
  refine (law11_awake _).mono ?_; rintro e w1 ⟨rfl, b1⟩
  replace mA := mA.next b1
  replace mB := mB.next b1
  replace mC := mC.next b1
  replace hA := hA.next b1
  replace hB := hB.next b1
  replace hC := hC.next b1
  replace KA := KA.next b1
  replace KB := KB.next b1
  replace KC := KC.next b1
  replace B0 := B0.trans (b1.mono B0.size)
  clear b1
  have qKA0 := KA.cell 0
  have qKA1 := KA.cell 1
  have qKA2 := KA.cell 2
  go_wp2_with fail
  refine (ref11_Few42 _ r m ps true ⟨fun _ => FEW1.out, fun _ => rfl⟩ _ mA).mono ?_; rintro e w2 ⟨rfl, b2⟩
  clear qKA0 qKA1 qKA2
  replace mA := mA.next b2
  replace mB := mB.next b2
  replace mC := mC.next b2
  replace hA := hA.next b2
  replace hB := hB.next b2
  replace hC := hC.next b2
  replace KA := KA.next b2
  replace KB := KB.next b2
  replace KC := KC.next b2
  replace B0 := B0.trans (b2.mono B0.size)
  clear b2
  have qKB0 := KB.cell 0
  have qKB1 := KB.cell 1
  have qKB2 := KB.cell 2
  go_wp2_with fail
  refine (ref11_Few42 _ m k qs true ⟨fun _ => FEW2.out, fun _ => rfl⟩ _ mB).mono ?_; rintro e w3 ⟨rfl, b3⟩
  clear qKB0 qKB1 qKB2
  replace mA := mA.next b3
  replace mB := mB.next b3
  replace mC := mC.next b3
  replace hA := hA.next b3
  replace hB := hB.next b3
  replace hC := hC.next b3
  replace KA := KA.next b3
  replace KB := KB.next b3
  replace KC := KC.next b3
  replace B0 := B0.trans (b3.mono B0.size)
  clear b3
  have qKC0 := KC.cell 0
  have qKC1 := KC.cell 1
  have qKC2 := KC.cell 2
  go_wp2_with fail
  refine (ref11_Few42 _ R3 C3 ts true ⟨fun _ => FEW3.out, fun _ => rfl⟩ _ mC).mono ?_; rintro e w4 ⟨rfl, b4⟩
  clear qKC0 qKC1 qKC2
  replace mA := mA.next b4
  replace mB := mB.next b4
  replace mC := mC.next b4
  replace hA := hA.next b4
  replace hB := hB.next b4
  replace hC := hC.next b4
  replace KA := KA.next b4
  replace KB := KB.next b4
  replace KC := KC.next b4
  replace B0 := B0.trans (b4.mono B0.size)
  clear b4
  clear mA mB mC
  have qKA0 := KA.cell 0
  have qKA1 := KA.cell 1
  have qKA2 := KA.cell 2
  have qKB0 := KB.cell 0
  have qKB1 := KB.cell 1
  have qKB2 := KB.cell 2
  go_wp2_with fail
  refine (zmat_Mul _ _ r m k xs ys (2) (2) _ hA hB hr hm hk HX.out HY.out (by omega) (by omega)).mono ?_; rintro e w5 ⟨v5, rfl, h5, b5⟩
  clear qKA0 qKA1 qKA2 qKB0 qKB1 qKB2
  replace hA := hA.next b5
  replace hB := hB.next b5
  replace hC := hC.next b5
  replace KA := KA.next b5
  replace KB := KB.next b5
  replace KC := KC.next b5
  replace B0 := B0.trans (b5.mono B0.size)
  clear b5
  obtain ⟨ab, eab⟩ : ∃ zz, zz = mulL r m k xs ys := ⟨_, rfl⟩
  have EAB := Lib.hid eab
  unfold mulL at eab
  rw [← eab] at h5
  clear eab
  have LAB := Lib.hid (show ab.length = r * k from by rw [EAB.out]; exact mulL_length _ _ _ _ _)
  replace h5 := h5.mono (Nat.mul_le_mul_right _ (show m ≤ 4 by have := FEW1.out.2.1; omega))
  obtain ⟨a5, k5, rfl⟩ := h5.agg
  obtain ⟨w6, e6, K5, b6, hs6⟩ := boxes1 w5 24 [.int .i64 r, .int .i64 k, .slice a5 ab.length k5]
  clear hs6
  replace hA := hA.next b6
  replace hB := hB.next b6
  replace hC := hC.next b6
  replace KA := KA.next b6
  replace KB := KB.next b6
  replace KC := KC.next b6
  replace h5 := h5.next b6
  replace B0 := B0.trans (b6.mono B0.size)
  clear b6
  go_upto_region 4 with (fail)
  rw [← e6]
  clear e6
  have qK50 := K5.cell 0
  have qK51 := K5.cell 1
  have qK52 := K5.cell 2
  have qKC0 := KC.cell 0
  have qKC1 := KC.cell 1
  have qKC2 := KC.cell 2
  go_wp2_with fail
  refine (zmat_Mul_any _ _ r k R3 C3 ab zs (4 * (2 + 2 + 1)) (2) _ h5.mt hC (by have := (show k ≤ 4 by have := FEW2.out.2.1; omega); omega) (by omega) (by omega)).mono ?_; rintro e w7 ⟨v7, r7, c7, zs7, ec7, rfl, h7, b7, hr7, hc7, hl7⟩
  clear qK50 qK51 qK52 qKC0 qKC1 qKC2
  replace hA := hA.next b7
  replace hB := hB.next b7
  replace hC := hC.next b7
  replace KA := KA.next b7
  replace KB := KB.next b7
  replace KC := KC.next b7
  replace h5 := h5.next b7
  replace K5 := K5.next b7
  replace B0 := B0.trans (b7.mono B0.size)
  clear b7
  have HL7 := Lib.hid hl7; clear hl7
  obtain ⟨a7, k7, rfl⟩ := h7.agg
  obtain ⟨w8, e8, K7, b8, hs8⟩ := boxes1 w7 24 [.int .i64 r7, .int .i64 c7, .slice a7 zs7.length k7]
  clear hs8
  replace hA := hA.next b8
  replace hB := hB.next b8
  replace hC := hC.next b8
  replace KA := KA.next b8
  replace KB := KB.next b8
  replace KC := KC.next b8
  replace h5 := h5.next b8
  replace K5 := K5.next b8
  replace h7 := h7.next b8
  replace B0 := B0.trans (b8.mono B0.size)
  clear b8
  go_upto_region 5 with (fail)
  rw [← e8]
  clear e8
  have qKB0 := KB.cell 0
  have qKB1 := KB.cell 1
  have qKB2 := KB.cell 2
  have qKC0 := KC.cell 0
  have qKC1 := KC.cell 1
  have qKC2 := KC.cell 2
  go_wp2_with fail
  refine (zmat_Mul_bad _ _ m k R3 C3 ys zs (2) (2) _ hB hC HNG.out).mono ?_; rintro e w9 ⟨v9, rfl, h9, b9⟩
  clear qKB0 qKB1 qKB2 qKC0 qKC1 qKC2
  replace hA := hA.next b9
  replace hB := hB.next b9
  replace hC := hC.next b9
  replace KA := KA.next b9
  replace KB := KB.next b9
  replace KC := KC.next b9
  replace h5 := h5.next b9
  replace K5 := K5.next b9
  replace h7 := h7.next b9
  replace K7 := K7.next b9
  replace B0 := B0.trans (b9.mono B0.size)
  clear b9
  obtain ⟨a9, k9, rfl⟩ := h9.agg
  obtain ⟨w10, e10, K9, b10, hs10⟩ := boxes1 w9 24 [.int .i64 0, .int .i64 0, .slice a9 0 k9]
  clear hs10
  replace hA := hA.next b10
  replace hB := hB.next b10
  replace hC := hC.next b10
  replace KA := KA.next b10
  replace KB := KB.next b10
  replace KC := KC.next b10
  replace h5 := h5.next b10
  replace K5 := K5.next b10
  replace h7 := h7.next b10
  replace K7 := K7.next b10
  replace h9 := h9.next b10
  replace B0 := B0.trans (b10.mono B0.size)
  clear b10
  go_upto_region 6 with (fail)
  rw [← e10]
  clear e10
  have qKA0 := KA.cell 0
  have qKA1 := KA.cell 1
  have qKA2 := KA.cell 2
  have qK90 := K9.cell 0
  have qK91 := K9.cell 1
  have qK92 := K9.cell 2
  go_wp2_with fail
  refine (zmat_Mul_any _ _ r m 0 0 xs ([] : List Int) (2) (0) _ hA h9.mt FEW1.out.2.1 (by omega) (by omega)).mono ?_; rintro e w11 ⟨v11, r11, c11, zs11, ec11, rfl, h11, b11, hr11, hc11, hl11⟩
  clear qKA0 qKA1 qKA2 qK90 qK91 qK92
  replace hA := hA.next b11
  replace hB := hB.next b11
  replace hC := hC.next b11
  replace KA := KA.next b11
  replace KB := KB.next b11
  replace KC := KC.next b11
  replace h5 := h5.next b11
  replace K5 := K5.next b11
  replace h7 := h7.next b11
  replace K7 := K7.next b11
  replace h9 := h9.next b11
  replace K9 := K9.next b11
  replace B0 := B0.trans (b11.mono B0.size)
  clear b11
  have HL11 := Lib.hid hl11; clear hl11
  obtain ⟨a11, k11, rfl⟩ := h11.agg
  obtain ⟨w12, e12, K11, b12, hs12⟩ := boxes1 w11 24 [.int .i64 r11, .int .i64 c11, .slice a11 zs11.length k11]
  clear hs12
  replace hA := hA.next b12
  replace hB := hB.next b12
  replace hC := hC.next b12
  replace KA := KA.next b12
  replace KB := KB.next b12
  replace KC := KC.next b12
  replace h5 := h5.next b12
  replace K5 := K5.next b12
  replace h7 := h7.next b12
  replace K7 := K7.next b12
  replace h9 := h9.next b12
  replace K9 := K9.next b12
  replace h11 := h11.next b12
  replace B0 := B0.trans (b12.mono B0.size)
  clear b12
  go_upto_region 7 with (fail)
  rw [← e12]
  clear e12
  go_upto_region 9 with (fail)
  have qKB0 := KB.cell 0
  have qKB1 := KB.cell 1
  have qKB2 := KB.cell 2
  have qKC0 := KC.cell 0
  have qKC1 := KC.cell 1
  have qKC2 := KC.cell 2
  go_wp2_with fail
  refine (zmat_Add_bad _ _ m k R3 C3 ys zs (2) (2) _ hB hC HNI.out).mono ?_; rintro e w13 ⟨v13, rfl, h13, b13⟩
  clear qKB0 qKB1 qKB2 qKC0 qKC1 qKC2
  replace hA := hA.next b13
  replace hB := hB.next b13
  replace hC := hC.next b13
  replace KA := KA.next b13
  replace KB := KB.next b13
  replace KC := KC.next b13
  replace h5 := h5.next b13
  replace K5 := K5.next b13
  replace h7 := h7.next b13
  replace K7 := K7.next b13
  replace h9 := h9.next b13
  replace K9 := K9.next b13
  replace h11 := h11.next b13
  replace K11 := K11.next b13
  replace B0 := B0.trans (b13.mono B0.size)
  clear b13
  obtain ⟨a13, k13, rfl⟩ := h13.agg
  obtain ⟨w14, e14, K13, b14, hs14⟩ := boxes1 w13 24 [.int .i64 0, .int .i64 0, .slice a13 0 k13]
  clear hs14
  replace hA := hA.next b14
  replace hB := hB.next b14
  replace hC := hC.next b14
  replace KA := KA.next b14
  replace KB := KB.next b14
  replace KC := KC.next b14
  replace h5 := h5.next b14
  replace K5 := K5.next b14
  replace h7 := h7.next b14
  replace K7 := K7.next b14
  replace h9 := h9.next b14
  replace K9 := K9.next b14
  replace h11 := h11.next b14
  replace K11 := K11.next b14
  replace h13 := h13.next b14
  replace B0 := B0.trans (b14.mono B0.size)
  clear b14
  go_upto_region 10 with (fail)
  rw [← e14]
  clear e14
  have qKA0 := KA.cell 0
  have qKA1 := KA.cell 1
  have qKA2 := KA.cell 2
  have qK130 := K13.cell 0
  have qK131 := K13.cell 1
  have qK132 := K13.cell 2
  go_wp2_with fail
  refine (zmat_Mul_any _ _ r m 0 0 xs ([] : List Int) (2) (0) _ hA h13.mt FEW1.out.2.1 (by omega) (by omega)).mono ?_; rintro e w15 ⟨v15, r15, c15, zs15, ec15, rfl, h15, b15, hr15, hc15, hl15⟩
  clear qKA0 qKA1 qKA2 qK130 qK131 qK132
  replace hA := hA.next b15
  replace hB := hB.next b15
  replace hC := hC.next b15
  replace KA := KA.next b15
  replace KB := KB.next b15
  replace KC := KC.next b15
  replace h5 := h5.next b15
  replace K5 := K5.next b15
  replace h7 := h7.next b15
  replace K7 := K7.next b15
  replace h9 := h9.next b15
  replace K9 := K9.next b15
  replace h11 := h11.next b15
  replace K11 := K11.next b15
  replace h13 := h13.next b15
  replace K13 := K13.next b15
  replace B0 := B0.trans (b15.mono B0.size)
  clear b15
  have HL15 := Lib.hid hl15; clear hl15
  obtain ⟨a15, k15, rfl⟩ := h15.agg
  obtain ⟨w16, e16, K15, b16, hs16⟩ := boxes1 w15 24 [.int .i64 r15, .int .i64 c15, .slice a15 zs15.length k15]
  clear hs16
  replace hA := hA.next b16
  replace hB := hB.next b16
  replace hC := hC.next b16
  replace KA := KA.next b16
  replace KB := KB.next b16
  replace KC := KC.next b16
  replace h5 := h5.next b16
  replace K5 := K5.next b16
  replace h7 := h7.next b16
  replace K7 := K7.next b16
  replace h9 := h9.next b16
  replace K9 := K9.next b16
  replace h11 := h11.next b16
  replace K11 := K11.next b16
  replace h13 := h13.next b16
  replace K13 := K13.next b16
  replace h15 := h15.next b16
  replace B0 := B0.trans (b16.mono B0.size)
  clear b16
  go_upto_region 11 with (fail)
  rw [← e16]
  clear e16
  have qKA0 := KA.cell 0
  have qKA1 := KA.cell 1
  have qKA2 := KA.cell 2
  have qKC0 := KC.cell 0
  have qKC1 := KC.cell 1
  have qKC2 := KC.cell 2
  go_wp2_with fail
  refine (zmat_Mul_any _ _ r m R3 C3 xs zs (2) (2) _ hA hC FEW1.out.2.1 (by omega) (by omega)).mono ?_; rintro e w17 ⟨v17, r17, c17, zs17, ec17, rfl, h17, b17, hr17, hc17, hl17⟩
  clear qKA0 qKA1 qKA2 qKC0 qKC1 qKC2
  replace hA := hA.next b17
  replace hB := hB.next b17
  replace hC := hC.next b17
  replace KA := KA.next b17
  replace KB := KB.next b17
  replace KC := KC.next b17
  replace h5 := h5.next b17
  replace K5 := K5.next b17
  replace h7 := h7.next b17
  replace K7 := K7.next b17
  replace h9 := h9.next b17
  replace K9 := K9.next b17
  replace h11 := h11.next b17
  replace K11 := K11.next b17
  replace h13 := h13.next b17
  replace K13 := K13.next b17
  replace h15 := h15.next b17
  replace K15 := K15.next b17
  replace B0 := B0.trans (b17.mono B0.size)
  clear b17
  have HL17 := Lib.hid hl17; clear hl17
  obtain ⟨a17, k17, rfl⟩ := h17.agg
  obtain ⟨w18, e18, K17, b18, hs18⟩ := boxes1 w17 24 [.int .i64 r17, .int .i64 c17, .slice a17 zs17.length k17]
  clear hs18
  replace hA := hA.next b18
  replace hB := hB.next b18
  replace hC := hC.next b18
  replace KA := KA.next b18
  replace KB := KB.next b18
  replace KC := KC.next b18
  replace h5 := h5.next b18
  replace K5 := K5.next b18
  replace h7 := h7.next b18
  replace K7 := K7.next b18
  replace h9 := h9.next b18
  replace K9 := K9.next b18
  replace h11 := h11.next b18
  replace K11 := K11.next b18
  replace h13 := h13.next b18
  replace K13 := K13.next b18
  replace h15 := h15.next b18
  replace K15 := K15.next b18
  replace h17 := h17.next b18
  replace B0 := B0.trans (b18.mono B0.size)
  clear b18
  go_upto_region 12 with (fail)
  rw [← e18]
  clear e18
  have qK50 := K5.cell 0
  have qK51 := K5.cell 1
  have qK52 := K5.cell 2
  have qK170 := K17.cell 0
  have qK171 := K17.cell 1
  have qK172 := K17.cell 2
  go_wp2_with fail
  refine (zmat_Add_any _ _ r k r17 c17 ab zs17 (4 * (2 + 2 + 1)) (4 * (2 + 2 + 1)) _ h5.mt h17.mt (by omega) (by omega)).mono ?_; rintro e w19 ⟨v19, r19, c19, zs19, ec19, rfl, h19, b19, hr19, hc19, hl19⟩
  clear qK50 qK51 qK52 qK170 qK171 qK172
  replace hA := hA.next b19
  replace hB := hB.next b19
  replace hC := hC.next b19
  replace KA := KA.next b19
  replace KB := KB.next b19
  replace KC := KC.next b19
  replace h5 := h5.next b19
  replace K5 := K5.next b19
  replace h7 := h7.next b19
  replace K7 := K7.next b19
  replace h9 := h9.next b19
  replace K9 := K9.next b19
  replace h11 := h11.next b19
  replace K11 := K11.next b19
  replace h13 := h13.next b19
  replace K13 := K13.next b19
  replace h15 := h15.next b19
  replace K15 := K15.next b19
  replace h17 := h17.next b19
  replace K17 := K17.next b19
  replace B0 := B0.trans (b19.mono B0.size)
  clear b19
  have HL19 := Lib.hid hl19; clear hl19
  obtain ⟨a19, k19, rfl⟩ := h19.agg
  obtain ⟨w20, e20, K19, b20, hs20⟩ := boxes1 w19 24 [.int .i64 r19, .int .i64 c19, .slice a19 zs19.length k19]
  clear hs20
  replace hA := hA.next b20
  replace hB := hB.next b20
  replace hC := hC.next b20
  replace KA := KA.next b20
  replace KB := KB.next b20
  replace KC := KC.next b20
  replace h5 := h5.next b20
  replace K5 := K5.next b20
  replace h7 := h7.next b20
  replace K7 := K7.next b20
  replace h9 := h9.next b20
  replace K9 := K9.next b20
  replace h11 := h11.next b20
  replace K11 := K11.next b20
  replace h13 := h13.next b20
  replace K13 := K13.next b20
  replace h15 := h15.next b20
  replace K15 := K15.next b20
  replace h17 := h17.next b20
  replace K17 := K17.next b20
  replace h19 := h19.next b20
  replace B0 := B0.trans (b20.mono B0.size)
  clear b20
  go_upto_region 13 with (fail)
  rw [← e20]
  clear e20
  go_upto_region 17 with (fail)
  have qK50 := K5.cell 0
  have qK51 := K5.cell 1
  have qK52 := K5.cell 2
  go_wp2_with fail
  refine (zmat_Transpose _ r k ab (4 * (2 + 2 + 1)) _ h5.mt hr hk LAB.out (by omega)).mono ?_; rintro e w21 ⟨v21, rfl, h21, b21⟩
  clear qK50 qK51 qK52
  replace hA := hA.next b21
  replace hB := hB.next b21
  replace hC := hC.next b21
  replace KA := KA.next b21
  replace KB := KB.next b21
  replace KC := KC.next b21
  replace h5 := h5.next b21
  replace K5 := K5.next b21
  replace h7 := h7.next b21
  replace K7 := K7.next b21
  replace h9 := h9.next b21
  replace K9 := K9.next b21
  replace h11 := h11.next b21
  replace K11 := K11.next b21
  replace h13 := h13.next b21
  replace K13 := K13.next b21
  replace h15 := h15.next b21
  replace K15 := K15.next b21
  replace h17 := h17.next b21
  replace K17 := K17.next b21
  replace h19 := h19.next b21
  replace K19 := K19.next b21
  replace B0 := B0.trans (b21.mono B0.size)
  clear b21
  obtain ⟨tt, ett⟩ : ∃ zz, zz = trL r k ab := ⟨_, rfl⟩
  have ETT := Lib.hid ett
  unfold trL at ett
  rw [← ett] at h21
  clear ett
  have LTT := Lib.hid (show tt.length = k * r from by rw [ETT.out]; exact trL_length _ _ _)
  obtain ⟨a21, k21, rfl⟩ := h21.agg
  obtain ⟨w22, e22, K21, b22, hs22⟩ := boxes1 w21 24 [.int .i64 k, .int .i64 r, .slice a21 tt.length k21]
  clear hs22
  replace hA := hA.next b22
  replace hB := hB.next b22
  replace hC := hC.next b22
  replace KA := KA.next b22
  replace KB := KB.next b22
  replace KC := KC.next b22
  replace h5 := h5.next b22
  replace K5 := K5.next b22
  replace h7 := h7.next b22
  replace K7 := K7.next b22
  replace h9 := h9.next b22
  replace K9 := K9.next b22
  replace h11 := h11.next b22
  replace K11 := K11.next b22
  replace h13 := h13.next b22
  replace K13 := K13.next b22
  replace h15 := h15.next b22
  replace K15 := K15.next b22
  replace h17 := h17.next b22
  replace K17 := K17.next b22
  replace h19 := h19.next b22
  replace K19 := K19.next b22
  replace h21 := h21.next b22
  replace B0 := B0.trans (b22.mono B0.size)
  clear b22
  go_upto_region 18 with (fail)
  rw [← e22]
  clear e22
  have qKA0 := KA.cell 0
  have qKA1 := KA.cell 1
  have qKA2 := KA.cell 2
  go_wp2_with fail
  refine (zmat_Transpose _ r m xs (2) _ hA hr hm HX.out (by omega)).mono ?_; rintro e w23 ⟨v23, rfl, h23, b23⟩
  clear qKA0 qKA1 qKA2
  replace hA := hA.next b23
  replace hB := hB.next b23
  replace hC := hC.next b23
  replace KA := KA.next b23
  replace KB := KB.next b23
  replace KC := KC.next b23
  replace h5 := h5.next b23
  replace K5 := K5.next b23
  replace h7 := h7.next b23
  replace K7 := K7.next b23
  replace h9 := h9.next b23
  replace K9 := K9.next b23
  replace h11 := h11.next b23
  replace K11 := K11.next b23
  replace h13 := h13.next b23
  replace K13 := K13.next b23
  replace h15 := h15.next b23
  replace K15 := K15.next b23
  replace h17 := h17.next b23
  replace K17 := K17.next b23
  replace h19 := h19.next b23
  replace K19 := K19.next b23
  replace h21 := h21.next b23
  replace K21 := K21.next b23
  replace B0 := B0.trans (b23.mono B0.size)
  clear b23
  obtain ⟨u, eu⟩ : ∃ zz, zz = trL r m xs := ⟨_, rfl⟩
  have EU := Lib.hid eu
  unfold trL at eu
  rw [← eu] at h23
  clear eu
  have LU := Lib.hid (show u.length = m * r from by rw [EU.out]; exact trL_length _ _ _)
  obtain ⟨a23, k23, rfl⟩ := h23.agg
  obtain ⟨w24, e24, K23, b24, hs24⟩ := boxes1 w23 24 [.int .i64 m, .int .i64 r, .slice a23 u.length k23]
  clear hs24
  replace hA := hA.next b24
  replace hB := hB.next b24
  replace hC := hC.next b24
  replace KA := KA.next b24
  replace KB := KB.next b24
  replace KC := KC.next b24
  replace h5 := h5.next b24
  replace K5 := K5.next b24
  replace h7 := h7.next b24
  replace K7 := K7.next b24
  replace h9 := h9.next b24
  replace K9 := K9.next b24
  replace h11 := h11.next b24
  replace K11 := K11.next b24
  replace h13 := h13.next b24
  replace K13 := K13.next b24
  replace h15 := h15.next b24
  replace K15 := K15.next b24
  replace h17 := h17.next b24
  replace K17 := K17.next b24
  replace h19 := h19.next b24
  replace K19 := K19.next b24
  replace h21 := h21.next b24
  replace K21 := K21.next b24
  replace h23 := h23.next b24
  replace B0 := B0.trans (b24.mono B0.size)
  clear b24
  go_upto_region 19 with (fail)
  rw [← e24]
  clear e24
  have qKB0 := KB.cell 0
  have qKB1 := KB.cell 1
  have qKB2 := KB.cell 2
  go_wp2_with fail
  refine (zmat_Transpose _ m k ys (2) _ hB hm hk HY.out (by omega)).mono ?_; rintro e w25 ⟨v25, rfl, h25, b25⟩
  clear qKB0 qKB1 qKB2
  replace hA := hA.next b25
  replace hB := hB.next b25
  replace hC := hC.next b25
  replace KA := KA.next b25
  replace KB := KB.next b25
  replace KC := KC.next b25
  replace h5 := h5.next b25
  replace K5 := K5.next b25
  replace h7 := h7.next b25
  replace K7 := K7.next b25
  replace h9 := h9.next b25
  replace K9 := K9.next b25
  replace h11 := h11.next b25
  replace K11 := K11.next b25
  replace h13 := h13.next b25
  replace K13 := K13.next b25
  replace h15 := h15.next b25
  replace K15 := K15.next b25
  replace h17 := h17.next b25
  replace K17 := K17.next b25
  replace h19 := h19.next b25
  replace K19 := K19.next b25
  replace h21 := h21.next b25
  replace K21 := K21.next b25
  replace h23 := h23.next b25
  replace K23 := K23.next b25
  replace B0 := B0.trans (b25.mono B0.size)
  clear b25
  obtain ⟨v, ev⟩ : ∃ zz, zz = trL m k ys := ⟨_, rfl⟩
  have EV := Lib.hid ev
  unfold trL at ev
  rw [← ev] at h25
  clear ev
  have LV := Lib.hid (show v.length = k * m from by rw [EV.out]; exact trL_length _ _ _)
  obtain ⟨a25, k25, rfl⟩ := h25.agg
  obtain ⟨w26, e26, K25, b26, hs26⟩ := boxes1 w25 24 [.int .i64 k, .int .i64 m, .slice a25 v.length k25]
  clear hs26
  replace hA := hA.next b26
  replace hB := hB.next b26
  replace hC := hC.next b26
  replace KA := KA.next b26
  replace KB := KB.next b26
  replace KC := KC.next b26
  replace h5 := h5.next b26
  replace K5 := K5.next b26
  replace h7 := h7.next b26
  replace K7 := K7.next b26
  replace h9 := h9.next b26
  replace K9 := K9.next b26
  replace h11 := h11.next b26
  replace K11 := K11.next b26
  replace h13 := h13.next b26
  replace K13 := K13.next b26
  replace h15 := h15.next b26
  replace K15 := K15.next b26
  replace h17 := h17.next b26
  replace K17 := K17.next b26
  replace h19 := h19.next b26
  replace K19 := K19.next b26
  replace h21 := h21.next b26
  replace K21 := K21.next b26
  replace h23 := h23.next b26
  replace K23 := K23.next b26
  replace h25 := h25.next b26
  replace B0 := B0.trans (b26.mono B0.size)
  clear b26
  go_upto_region 20 with (fail)
  rw [← e26]
  clear e26
  have qK250 := K25.cell 0
  have qK251 := K25.cell 1
  have qK252 := K25.cell 2
  have qK230 := K23.cell 0
  have qK231 := K23.cell 1
  have qK232 := K23.cell 2
  go_wp2_with fail
  refine (zmat_Mul _ _ k m r v u (2) (2) _ h25.mt h23.mt hk hm hr LV.out LU.out (by omega) (by omega)).mono ?_; rintro e w27 ⟨v27, rfl, h27, b27⟩
  clear qK250 qK251 qK252 qK230 qK231 qK232
  replace hA := hA.next b27
  replace hB := hB.next b27
  replace hC := hC.next b27
  replace KA := KA.next b27
  replace KB := KB.next b27
  replace KC := KC.next b27
  replace h5 := h5.next b27
  replace K5 := K5.next b27
  replace h7 := h7.next b27
  replace K7 := K7.next b27
  replace h9 := h9.next b27
  replace K9 := K9.next b27
  replace h11 := h11.next b27
  replace K11 := K11.next b27
  replace h13 := h13.next b27
  replace K13 := K13.next b27
  replace h15 := h15.next b27
  replace K15 := K15.next b27
  replace h17 := h17.next b27
  replace K17 := K17.next b27
  replace h19 := h19.next b27
  replace K19 := K19.next b27
  replace h21 := h21.next b27
  replace K21 := K21.next b27
  replace h23 := h23.next b27
  replace K23 := K23.next b27
  replace h25 := h25.next b27
  replace K25 := K25.next b27
  replace B0 := B0.trans (b27.mono B0.size)
  clear b27
  obtain ⟨ww, eww⟩ : ∃ zz, zz = mulL k m r v u := ⟨_, rfl⟩
  have EWW := Lib.hid eww
  unfold mulL at eww
  rw [← eww] at h27
  clear eww
  have LWW := Lib.hid (show ww.length = k * r from by rw [EWW.out]; exact mulL_length _ _ _ _ _)
  replace h27 := h27.mono (Nat.mul_le_mul_right _ (show m ≤ 4 by have := FEW1.out.2.1; omega))
  obtain ⟨a27, k27, rfl⟩ := h27.agg
  obtain ⟨w28, e28, K27, b28, hs28⟩ := boxes1 w27 24 [.int .i64 k, .int .i64 r, .slice a27 ww.length k27]
  clear hs28
  replace hA := hA.next b28
  replace hB := hB.next b28
  replace hC := hC.next b28
  replace KA := KA.next b28
  replace KB := KB.next b28
  replace KC := KC.next b28
  replace h5 := h5.next b28
  replace K5 := K5.next b28
  replace h7 := h7.next b28
  replace K7 := K7.next b28
  replace h9 := h9.next b28
  replace K9 := K9.next b28
  replace h11 := h11.next b28
  replace K11 := K11.next b28
  replace h13 := h13.next b28
  replace K13 := K13.next b28
  replace h15 := h15.next b28
  replace K15 := K15.next b28
  replace h17 := h17.next b28
  replace K17 := K17.next b28
  replace h19 := h19.next b28
  replace K19 := K19.next b28
  replace h21 := h21.next b28
  replace K21 := K21.next b28
  replace h23 := h23.next b28
  replace K23 := K23.next b28
  replace h25 := h25.next b28
  replace K25 := K25.next b28
  replace h27 := h27.next b28
  replace B0 := B0.trans (b28.mono B0.size)
  clear b28
  go_upto_region 21 with (fail)
  rw [← e28]
  clear e28
  have qK210 := K21.cell 0
  have qK211 := K21.cell 1
  have qK212 := K21.cell 2
  have qK270 := K27.cell 0
  have qK271 := K27.cell 1
  have qK272 := K27.cell 2
  go_wp2_with fail
  refine (zmat_Same _ _ k r k r tt ww (4 * (2 + 2 + 1)) (4 * (2 + 2 + 1)) _ h21.mt h27.mt (by omega) (by omega) true ⟨fun _ => ⟨⟨Fm.of hk hr LTT.out, Fm.of hk hr LWW.out, rfl, rfl⟩, by rw [ETT.out, EWW.out, EU.out, EV.out, EAB.out]; exact trL_mul _ _ _ _ _⟩, fun _ => rfl⟩).mono ?_; rintro e w29 ⟨rfl, b29⟩
  clear qK210 qK211 qK212 qK270 qK271 qK272
  replace hA := hA.next b29
  replace hB := hB.next b29
  replace hC := hC.next b29
  replace KA := KA.next b29
  replace KB := KB.next b29
  replace KC := KC.next b29
  replace h5 := h5.next b29
  replace K5 := K5.next b29
  replace h7 := h7.next b29
  replace K7 := K7.next b29
  replace h9 := h9.next b29
  replace K9 := K9.next b29
  replace h11 := h11.next b29
  replace K11 := K11.next b29
  replace h13 := h13.next b29
  replace K13 := K13.next b29
  replace h15 := h15.next b29
  replace K15 := K15.next b29
  replace h17 := h17.next b29
  replace K17 := K17.next b29
  replace h19 := h19.next b29
  replace K19 := K19.next b29
  replace h21 := h21.next b29
  replace K21 := K21.next b29
  replace h23 := h23.next b29
  replace K23 := K23.next b29
  replace h25 := h25.next b29
  replace K25 := K25.next b29
  replace h27 := h27.next b29
  replace K27 := K27.next b29
  replace B0 := B0.trans (b29.mono B0.size)
  clear b29
  go_wp2
  go_ret
  exact ⟨rfl, B0⟩

set_option maxRecDepth 20000 in
set_option maxHeartbeats 4000000 in
theorem walk_yny (a b c : Value) (r m k : Nat) (ps qs ts : List (Bool × List Nat)) (xs ys zs : List Int) (w : World) (mA : Mw w a r m ps) (mB : Mw w b m k qs) (mC : Mw w c m k ts)
    (few1 : Fx r m ps 4 2) (few2 : Fx m k qs 4 2) (few3 : Fx m k ts 4 2) (hA : Mt w a r m xs 2) (hB : Mt w b m k ys 2) (hC : Mt w c m k zs 2) (hr : r ≤ 64) (hm : m ≤ 64) (hk : k ≤ 64) (hX : xs.length = r * m) (hY : ys.length = m * k) (hZ : zs.length = m * k) (hng : ¬ (Fm m k ys.length ∧ Fm m k zs.length ∧ (k : Int) = (m : Int))) :
    Calls Try.prog 5 #[a, b, c] w (LawOk w) := by
  obtain ⟨ao, ca, rfl⟩ := mA.agg
  obtain ⟨bo, cb, rfl⟩ := mB.agg
  obtain ⟨co, cc, rfl⟩ := mC.agg
  obtain ⟨wb, ew, KA, KB, KC, B0, hsz⟩ := boxes2 w 24 24 24 [.int .i64 r, .int .i64 m, .slice ao ps.length ca] [.int .i64 m, .int .i64 k, .slice bo qs.length cb] [.int .i64 m, .int .i64 k, .slice co ts.length cc]
  clear hsz
  have HX := Lib.hid hX; clear hX
  have HY := Lib.hid hY; clear hY
  have HZ := Lib.hid hZ; clear hZ
  have HNG := Lib.hid hng; clear hng
  have FEW1 := Lib.hid few1; clear few1
  have FEW2 := Lib.hid few2; clear few2
  have FEW3 := Lib.hid few3; clear few3
  replace mA := mA.next B0
  replace mB := mB.next B0
  replace mC := mC.next B0
  replace hA := hA.next B0
  replace hB := hB.next B0
  replace hC := hC.next B0
  go_enter Try.func5, Try.ntmps5
  go_upto_region 1 with (fail)
  rw [← ew]
  clear ew
  go_wp2_with fail
  refine (law11_awake _).mono ?_; rintro e w1 ⟨rfl, b1⟩
  replace mA := mA.next b1
  replace mB := mB.next b1
  replace mC := mC.next b1
  replace hA := hA.next b1
  replace hB := hB.next b1
  replace hC := hC.next b1
  replace KA := KA.next b1
  replace KB := KB.next b1
  replace KC := KC.next b1
  replace B0 := B0.trans (b1.mono B0.size)
  clear b1
  have qKA0 := KA.cell 0
  have qKA1 := KA.cell 1
  have qKA2 := KA.cell 2
  go_wp2_with fail
  refine (ref11_Few42 _ r m ps true ⟨fun _ => FEW1.out, fun _ => rfl⟩ _ mA).mono ?_; rintro e w2 ⟨rfl, b2⟩
  clear qKA0 qKA1 qKA2
  replace mA := mA.next b2
  replace mB := mB.next b2
  replace mC := mC.next b2
  replace hA := hA.next b2
  replace hB := hB.next b2
  replace hC := hC.next b2
  replace KA := KA.next b2
  replace KB := KB.next b2
  replace KC := KC.next b2
  replace B0 := B0.trans (b2.mono B0.size)
  clear b2
  have qKB0 := KB.cell 0
  have qKB1 := KB.cell 1
  have qKB2 := KB.cell 2
  go_wp2_with fail
  refine (ref11_Few42 _ m k qs true ⟨fun _ => FEW2.out, fun _ => rfl⟩ _ mB).mono ?_; rintro e w3 ⟨rfl, b3⟩
  clear qKB0 qKB1 qKB2
  replace mA := mA.next b3
  replace mB := mB.next b3
  replace mC := mC.next b3
  replace hA := hA.next b3
  replace hB := hB.next b3
  replace hC := hC.next b3
  replace KA := KA.next b3
  replace KB := KB.next b3
  replace KC := KC.next b3
  replace B0 := B0.trans (b3.mono B0.size)
  clear b3
  have qKC0 := KC.cell 0
  have qKC1 := KC.cell 1
  have qKC2 := KC.cell 2
  go_wp2_with fail
  refine (ref11_Few42 _ m k ts true ⟨fun _ => FEW3.out, fun _ => rfl⟩ _ mC).mono ?_; rintro e w4 ⟨rfl, b4⟩
  clear qKC0 qKC1 qKC2
  replace mA := mA.next b4
  replace mB := mB.next b4
  replace mC := mC.next b4
  replace hA := hA.next b4
  replace hB := hB.next b4
  replace hC := hC.next b4
  replace KA := KA.next b4
  replace KB := KB.next b4
  replace KC := KC.next b4
  replace B0 := B0.trans (b4.mono B0.size)
  clear b4
  clear mA mB mC
  have qKA0 := KA.cell 0
  have qKA1 := KA.cell 1
  have qKA2 := KA.cell 2
  have qKB0 := KB.cell 0
  have qKB1 := KB.cell 1
  have qKB2 := KB.cell 2
  go_wp2_with fail
  refine (zmat_Mul _ _ r m k xs ys (2) (2) _ hA hB hr hm hk HX.out HY.out (by omega) (by omega)).mono ?_; rintro e w5 ⟨v5, rfl, h5, b5⟩
  clear qKA0 qKA1 qKA2 qKB0 qKB1 qKB2
  replace hA := hA.next b5
  replace hB := hB.next b5
  replace hC := hC.next b5
  replace KA := KA.next b5
  replace KB := KB.next b5
  replace KC := KC.next b5
  replace B0 := B0.trans (b5.mono B0.size)
  clear b5
  obtain ⟨ab, eab⟩ : ∃ zz, zz = mulL r m k xs ys := ⟨_, rfl⟩
  have EAB := Lib.hid eab
  unfold mulL at eab
  rw [← eab] at h5
  clear eab
  have LAB := Lib.hid (show ab.length = r * k from by rw [EAB.out]; exact mulL_length _ _ _ _ _)
  replace h5 := h5.mono (Nat.mul_le_mul_right _ (show m ≤ 4 by have := FEW1.out.2.1; omega))
  obtain ⟨a5, k5, rfl⟩ := h5.agg
  obtain ⟨w6, e6, K5, b6, hs6⟩ := boxes1 w5 24 [.int .i64 r, .int .i64 k, .slice a5 ab.length k5]
  clear hs6
  replace hA := hA.next b6
  replace hB := hB.next b6
  replace hC := hC.next b6
  replace KA := KA.next b6
  replace KB := KB.next b6
  replace KC := KC.next b6
  replace h5 := h5.next b6
  replace B0 := B0.trans (b6.mono B0.size)
  clear b6
  go_upto_region 4 with (fail)
  rw [← e6]
  clear e6
  have qK50 := K5.cell 0
  have qK51 := K5.cell 1
  have qK52 := K5.cell 2
  have qKC0 := KC.cell 0
  have qKC1 := KC.cell 1
  have qKC2 := KC.cell 2
  go_wp2_with fail
  refine (zmat_Mul_any _ _ r k m k ab zs (4 * (2 + 2 + 1)) (2) _ h5.mt hC (by have := (show k ≤ 4 by have := FEW2.out.2.1; omega); omega) (by omega) (by omega)).mono ?_; rintro e w7 ⟨v7, r7, c7, zs7, ec7, rfl, h7, b7, hr7, hc7, hl7⟩
  clear qK50 qK51 qK52 qKC0 qKC1 qKC2
  replace hA := hA.next b7
  replace hB := hB.next b7
  replace hC := hC.next b7
  replace KA := KA.next b7
  replace KB := KB.next b7
  replace KC := KC.next b7
  replace h5 := h5.next b7
  replace K5 := K5.next b7
  replace B0 := B0.trans (b7.mono B0.size)
  clear b7
  have HL7 := Lib.hid hl7; clear hl7
  obtain ⟨a7, k7, rfl⟩ := h7.agg
  obtain ⟨w8, e8, K7, b8, hs8⟩ := boxes1 w7 24 [.int .i64 r7, .int .i64 c7, .slice a7 zs7.length k7]
  clear hs8
  replace hA := hA.next b8
  replace hB := hB.next b8
  replace hC := hC.next b8
  replace KA := KA.next b8
  replace KB := KB.next b8
  replace KC := KC.next b8
  replace h5 := h5.next b8
  replace K5 := K5.next b8
  replace h7 := h7.next b8
  replace B0 := B0.trans (b8.mono B0.size)
  clear b8
  go_upto_region 5 with (fail)
  rw [← e8]
  clear e8
  have qKB0 := KB.cell 0
  have qKB1 := KB.cell 1
  have qKB2 := KB.cell 2
  have qKC0 := KC.cell 0
  have qKC1 := KC.cell 1
  have qKC2 := KC.cell 2
  go_wp2_with fail
  refine (zmat_Mul_bad _ _ m k m k ys zs (2) (2) _ hB hC HNG.out).mono ?_; rintro e w9 ⟨v9, rfl, h9, b9⟩
  clear qKB0 qKB1 qKB2 qKC0 qKC1 qKC2
  replace hA := hA.next b9
  replace hB := hB.next b9
  replace hC := hC.next b9
  replace KA := KA.next b9
  replace KB := KB.next b9
  replace KC := KC.next b9
  replace h5 := h5.next b9
  replace K5 := K5.next b9
  replace h7 := h7.next b9
  replace K7 := K7.next b9
  replace B0 := B0.trans (b9.mono B0.size)
  clear b9
  obtain ⟨a9, k9, rfl⟩ := h9.agg
  obtain ⟨w10, e10, K9, b10, hs10⟩ := boxes1 w9 24 [.int .i64 0, .int .i64 0, .slice a9 0 k9]
  clear hs10
  replace hA := hA.next b10
  replace hB := hB.next b10
  replace hC := hC.next b10
  replace KA := KA.next b10
  replace KB := KB.next b10
  replace KC := KC.next b10
  replace h5 := h5.next b10
  replace K5 := K5.next b10
  replace h7 := h7.next b10
  replace K7 := K7.next b10
  replace h9 := h9.next b10
  replace B0 := B0.trans (b10.mono B0.size)
  clear b10
  go_upto_region 6 with (fail)
  rw [← e10]
  clear e10
  have qKA0 := KA.cell 0
  have qKA1 := KA.cell 1
  have qKA2 := KA.cell 2
  have qK90 := K9.cell 0
  have qK91 := K9.cell 1
  have qK92 := K9.cell 2
  go_wp2_with fail
  refine (zmat_Mul_any _ _ r m 0 0 xs ([] : List Int) (2) (0) _ hA h9.mt FEW1.out.2.1 (by omega) (by omega)).mono ?_; rintro e w11 ⟨v11, r11, c11, zs11, ec11, rfl, h11, b11, hr11, hc11, hl11⟩
  clear qKA0 qKA1 qKA2 qK90 qK91 qK92
  replace hA := hA.next b11
  replace hB := hB.next b11
  replace hC := hC.next b11
  replace KA := KA.next b11
  replace KB := KB.next b11
  replace KC := KC.next b11
  replace h5 := h5.next b11
  replace K5 := K5.next b11
  replace h7 := h7.next b11
  replace K7 := K7.next b11
  replace h9 := h9.next b11
  replace K9 := K9.next b11
  replace B0 := B0.trans (b11.mono B0.size)
  clear b11
  have HL11 := Lib.hid hl11; clear hl11
  obtain ⟨a11, k11, rfl⟩ := h11.agg
  obtain ⟨w12, e12, K11, b12, hs12⟩ := boxes1 w11 24 [.int .i64 r11, .int .i64 c11, .slice a11 zs11.length k11]
  clear hs12
  replace hA := hA.next b12
  replace hB := hB.next b12
  replace hC := hC.next b12
  replace KA := KA.next b12
  replace KB := KB.next b12
  replace KC := KC.next b12
  replace h5 := h5.next b12
  replace K5 := K5.next b12
  replace h7 := h7.next b12
  replace K7 := K7.next b12
  replace h9 := h9.next b12
  replace K9 := K9.next b12
  replace h11 := h11.next b12
  replace B0 := B0.trans (b12.mono B0.size)
  clear b12
  go_upto_region 7 with (fail)
  rw [← e12]
  clear e12
  go_upto_region 9 with (fail)
  have qKB0 := KB.cell 0
  have qKB1 := KB.cell 1
  have qKB2 := KB.cell 2
  have qKC0 := KC.cell 0
  have qKC1 := KC.cell 1
  have qKC2 := KC.cell 2
  go_wp2_with fail
  refine (zmat_Add _ _ m k ys zs (2) (2) _ hB hC hm hk HY.out HZ.out (by omega) (by omega)).mono ?_; rintro e w13 ⟨v13, rfl, h13, b13⟩
  clear qKB0 qKB1 qKB2 qKC0 qKC1 qKC2
  replace hA := hA.next b13
  replace hB := hB.next b13
  replace hC := hC.next b13
  replace KA := KA.next b13
  replace KB := KB.next b13
  replace KC := KC.next b13
  replace h5 := h5.next b13
  replace K5 := K5.next b13
  replace h7 := h7.next b13
  replace K7 := K7.next b13
  replace h9 := h9.next b13
  replace K9 := K9.next b13
  replace h11 := h11.next b13
  replace K11 := K11.next b13
  replace B0 := B0.trans (b13.mono B0.size)
  clear b13
  obtain ⟨s, es⟩ : ∃ zz, zz = addL m k ys zs := ⟨_, rfl⟩
  have ES := Lib.hid es
  unfold addL at es
  rw [← es] at h13
  clear es
  have LS := Lib.hid (show s.length = m * k from by rw [ES.out]; exact addL_length _ _ _ _)
  obtain ⟨a13, k13, rfl⟩ := h13.agg
  obtain ⟨w14, e14, K13, b14, hs14⟩ := boxes1 w13 24 [.int .i64 m, .int .i64 k, .slice a13 s.length k13]
  clear hs14
  replace hA := hA.next b14
  replace hB := hB.next b14
  replace hC := hC.next b14
  replace KA := KA.next b14
  replace KB := KB.next b14
  replace KC := KC.next b14
  replace h5 := h5.next b14
  replace K5 := K5.next b14
  replace h7 := h7.next b14
  replace K7 := K7.next b14
  replace h9 := h9.next b14
  replace K9 := K9.next b14
  replace h11 := h11.next b14
  replace K11 := K11.next b14
  replace h13 := h13.next b14
  replace B0 := B0.trans (b14.mono B0.size)
  clear b14
  go_upto_region 10 with (fail)
  rw [← e14]
  clear e14
  have qKA0 := KA.cell 0
  have qKA1 := KA.cell 1
  have qKA2 := KA.cell 2
  have qK130 := K13.cell 0
  have qK131 := K13.cell 1
  have qK132 := K13.cell 2
  go_wp2_with fail
  refine (zmat_Mul _ _ r m k xs s (2) (2 + 2 + 1) _ hA h13.mt hr hm hk HX.out LS.out (by omega) (by omega)).mono ?_; rintro e w15 ⟨v15, rfl, h15, b15⟩
  clear qKA0 qKA1 qKA2 qK130 qK131 qK132
  replace hA := hA.next b15
  replace hB := hB.next b15
  replace hC := hC.next b15
  replace KA := KA.next b15
  replace KB := KB.next b15
  replace KC := KC.next b15
  replace h5 := h5.next b15
  replace K5 := K5.next b15
  replace h7 := h7.next b15
  replace K7 := K7.next b15
  replace h9 := h9.next b15
  replace K9 := K9.next b15
  replace h11 := h11.next b15
  replace K11 := K11.next b15
  replace h13 := h13.next b15
  replace K13 := K13.next b15
  replace B0 := B0.trans (b15.mono B0.size)
  clear b15
  obtain ⟨p, ep⟩ : ∃ zz, zz = mulL r m k xs s := ⟨_, rfl⟩
  have EP := Lib.hid ep
  unfold mulL at ep
  rw [← ep] at h15
  clear ep
  have LP := Lib.hid (show p.length = r * k from by rw [EP.out]; exact mulL_length _ _ _ _ _)
  replace h15 := h15.mono (Nat.mul_le_mul_right _ (show m ≤ 4 by have := FEW1.out.2.1; omega))
  obtain ⟨a15, k15, rfl⟩ := h15.agg
  obtain ⟨w16, e16, K15, b16, hs16⟩ := boxes1 w15 24 [.int .i64 r, .int .i64 k, .slice a15 p.length k15]
  clear hs16
  replace hA := hA.next b16
  replace hB := hB.next b16
  replace hC := hC.next b16
  replace KA := KA.next b16
  replace KB := KB.next b16
  replace KC := KC.next b16
  replace h5 := h5.next b16
  replace K5 := K5.next b16
  replace h7 := h7.next b16
  replace K7 := K7.next b16
  replace h9 := h9.next b16
  replace K9 := K9.next b16
  replace h11 := h11.next b16
  replace K11 := K11.next b16
  replace h13 := h13.next b16
  replace K13 := K13.next b16
  replace h15 := h15.next b16
  replace B0 := B0.trans (b16.mono B0.size)
  clear b16
  go_upto_region 11 with (fail)
  rw [← e16]
  clear e16
  have qKA0 := KA.cell 0
  have qKA1 := KA.cell 1
  have qKA2 := KA.cell 2
  have qKC0 := KC.cell 0
  have qKC1 := KC.cell 1
  have qKC2 := KC.cell 2
  go_wp2_with fail
  refine (zmat_Mul _ _ r m k xs zs (2) (2) _ hA hC hr hm hk HX.out HZ.out (by omega) (by omega)).mono ?_; rintro e w17 ⟨v17, rfl, h17, b17⟩
  clear qKA0 qKA1 qKA2 qKC0 qKC1 qKC2
  replace hA := hA.next b17
  replace hB := hB.next b17
  replace hC := hC.next b17
  replace KA := KA.next b17
  replace KB := KB.next b17
  replace KC := KC.next b17
  replace h5 := h5.next b17
  replace K5 := K5.next b17
  replace h7 := h7.next b17
  replace K7 := K7.next b17
  replace h9 := h9.next b17
  replace K9 := K9.next b17
  replace h11 := h11.next b17
  replace K11 := K11.next b17
  replace h13 := h13.next b17
  replace K13 := K13.next b17
  replace h15 := h15.next b17
  replace K15 := K15.next b17
  replace B0 := B0.trans (b17.mono B0.size)
  clear b17
  obtain ⟨ac, eac⟩ : ∃ zz, zz = mulL r m k xs zs := ⟨_, rfl⟩
  have EAC := Lib.hid eac
  unfold mulL at eac
  rw [← eac] at h17
  clear eac
  have LAC := Lib.hid (show ac.length = r * k from by rw [EAC.out]; exact mulL_length _ _ _ _ _)
  replace h17 := h17.mono (Nat.mul_le_mul_right _ (show m ≤ 4 by have := FEW1.out.2.1; omega))
  obtain ⟨a17, k17, rfl⟩ := h17.agg
  obtain ⟨w18, e18, K17, b18, hs18⟩ := boxes1 w17 24 [.int .i64 r, .int .i64 k, .slice a17 ac.length k17]
  clear hs18
  replace hA := hA.next b18
  replace hB := hB.next b18
  replace hC := hC.next b18
  replace KA := KA.next b18
  replace KB := KB.next b18
  replace KC := KC.next b18
  replace h5 := h5.next b18
  replace K5 := K5.next b18
  replace h7 := h7.next b18
  replace K7 := K7.next b18
  replace h9 := h9.next b18
  replace K9 := K9.next b18
  replace h11 := h11.next b18
  replace K11 := K11.next b18
  replace h13 := h13.next b18
  replace K13 := K13.next b18
  replace h15 := h15.next b18
  replace K15 := K15.next b18
  replace h17 := h17.next b18
  replace B0 := B0.trans (b18.mono B0.size)
  clear b18
  go_upto_region 12 with (fail)
  rw [← e18]
  clear e18
  have qK50 := K5.cell 0
  have qK51 := K5.cell 1
  have qK52 := K5.cell 2
  have qK170 := K17.cell 0
  have qK171 := K17.cell 1
  have qK172 := K17.cell 2
  go_wp2_with fail
  refine (zmat_Add _ _ r k ab ac (4 * (2 + 2 + 1)) (4 * (2 + 2 + 1)) _ h5.mt h17.mt hr hk LAB.out LAC.out (by omega) (by omega)).mono ?_; rintro e w19 ⟨v19, rfl, h19, b19⟩
  clear qK50 qK51 qK52 qK170 qK171 qK172
  replace hA := hA.next b19
  replace hB := hB.next b19
  replace hC := hC.next b19
  replace KA := KA.next b19
  replace KB := KB.next b19
  replace KC := KC.next b19
  replace h5 := h5.next b19
  replace K5 := K5.next b19
  replace h7 := h7.next b19
  replace K7 := K7.next b19
  replace h9 := h9.next b19
  replace K9 := K9.next b19
  replace h11 := h11.next b19
  replace K11 := K11.next b19
  replace h13 := h13.next b19
  replace K13 := K13.next b19
  replace h15 := h15.next b19
  replace K15 := K15.next b19
  replace h17 := h17.next b19
  replace K17 := K17.next b19
  replace B0 := B0.trans (b19.mono B0.size)
  clear b19
  obtain ⟨q, eq⟩ : ∃ zz, zz = addL r k ab ac := ⟨_, rfl⟩
  have EQ := Lib.hid eq
  unfold addL at eq
  rw [← eq] at h19
  clear eq
  have LQ := Lib.hid (show q.length = r * k from by rw [EQ.out]; exact addL_length _ _ _ _)
  obtain ⟨a19, k19, rfl⟩ := h19.agg
  obtain ⟨w20, e20, K19, b20, hs20⟩ := boxes1 w19 24 [.int .i64 r, .int .i64 k, .slice a19 q.length k19]
  clear hs20
  replace hA := hA.next b20
  replace hB := hB.next b20
  replace hC := hC.next b20
  replace KA := KA.next b20
  replace KB := KB.next b20
  replace KC := KC.next b20
  replace h5 := h5.next b20
  replace K5 := K5.next b20
  replace h7 := h7.next b20
  replace K7 := K7.next b20
  replace h9 := h9.next b20
  replace K9 := K9.next b20
  replace h11 := h11.next b20
  replace K11 := K11.next b20
  replace h13 := h13.next b20
  replace K13 := K13.next b20
  replace h15 := h15.next b20
  replace K15 := K15.next b20
  replace h17 := h17.next b20
  replace K17 := K17.next b20
  replace h19 := h19.next b20
  replace B0 := B0.trans (b20.mono B0.size)
  clear b20
  go_upto_region 13 with (fail)
  rw [← e20]
  clear e20
  have qK150 := K15.cell 0
  have qK151 := K15.cell 1
  have qK152 := K15.cell 2
  have qK190 := K19.cell 0
  have qK191 := K19.cell 1
  have qK192 := K19.cell 2
  go_wp2_with fail
  refine (zmat_Same _ _ r k r k p q (4 * (2 + 2 + 2 + 1 + 1)) (4 * (2 + 2 + 1) + 4 * (2 + 2 + 1) + 1) _ h15.mt h19.mt (by omega) (by omega) true ⟨fun _ => ⟨⟨Fm.of hr hk LP.out, Fm.of hr hk LQ.out, rfl, rfl⟩, by rw [EP.out, EQ.out, EAB.out, EAC.out, ES.out]; exact mulL_add _ _ _ _ _ _⟩, fun _ => rfl⟩).mono ?_; rintro e w21 ⟨rfl, b21⟩
  clear qK150 qK151 qK152 qK190 qK191 qK192
  replace hA := hA.next b21
  replace hB := hB.next b21
  replace hC := hC.next b21
  replace KA := KA.next b21
  replace KB := KB.next b21
  replace KC := KC.next b21
  replace h5 := h5.next b21
  replace K5 := K5.next b21
  replace h7 := h7.next b21
  replace K7 := K7.next b21
  replace h9 := h9.next b21
  replace K9 := K9.next b21
  replace h11 := h11.next b21
  replace K11 := K11.next b21
  replace h13 := h13.next b21
  replace K13 := K13.next b21
  replace h15 := h15.next b21
  replace K15 := K15.next b21
  replace h17 := h17.next b21
  replace K17 := K17.next b21
  replace h19 := h19.next b21
  replace K19 := K19.next b21
  replace B0 := B0.trans (b21.mono B0.size)
  clear b21
  go_upto_region 17 with (fail)
  have qK50 := K5.cell 0
  have qK51 := K5.cell 1
  have qK52 := K5.cell 2
  go_wp2_with fail
  refine (zmat_Transpose _ r k ab (4 * (2 + 2 + 1)) _ h5.mt hr hk LAB.out (by omega)).mono ?_; rintro e w22 ⟨v22, rfl, h22, b22⟩
  clear qK50 qK51 qK52
  replace hA := hA.next b22
  replace hB := hB.next b22
  replace hC := hC.next b22
  replace KA := KA.next b22
  replace KB := KB.next b22
  replace KC := KC.next b22
  replace h5 := h5.next b22
  replace K5 := K5.next b22
  replace h7 := h7.next b22
  replace K7 := K7.next b22
  replace h9 := h9.next b22
  replace K9 := K9.next b22
  replace h11 := h11.next b22
  replace K11 := K11.next b22
  replace h13 := h13.next b22
  replace K13 := K13.next b22
  replace h15 := h15.next b22
  replace K15 := K15.next b22
  replace h17 := h17.next b22
  replace K17 := K17.next b22
  replace h19 := h19.next b22
  replace K19 := K19.next b22
  replace B0 := B0.trans (b22.mono B0.size)
  clear b22
  obtain ⟨tt, ett⟩ : ∃ zz, zz = trL r k ab := ⟨_, rfl⟩
  have ETT := Lib.hid ett
  unfold trL at ett
  rw [← ett] at h22
  clear ett
  have LTT := Lib.hid (show tt.length = k * r from by rw [ETT.out]; exact trL_length _ _ _)
  obtain ⟨a22, k22, rfl⟩ := h22.agg
  obtain ⟨w23, e23, K22, b23, hs23⟩ := boxes1 w22 24 [.int .i64 k, .int .i64 r, .slice a22 tt.length k22]
  clear hs23
  replace hA := hA.next b23
  replace hB := hB.next b23
  replace hC := hC.next b23
  replace KA := KA.next b23
  replace KB := KB.next b23
  replace KC := KC.next b23
  replace h5 := h5.next b23
  replace K5 := K5.next b23
  replace h7 := h7.next b23
  replace K7 := K7.next b23
  replace h9 := h9.next b23
  replace K9 := K9.next b23
  replace h11 := h11.next b23
  replace K11 := K11.next b23
  replace h13 := h13.next b23
  replace K13 := K13.next b23
  replace h15 := h15.next b23
  replace K15 := K15.next b23
  replace h17 := h17.next b23
  replace K17 := K17.next b23
  replace h19 := h19.next b23
  replace K19 := K19.next b23
  replace h22 := h22.next b23
  replace B0 := B0.trans (b23.mono B0.size)
  clear b23
  go_upto_region 18 with (fail)
  rw [← e23]
  clear e23
  have qKA0 := KA.cell 0
  have qKA1 := KA.cell 1
  have qKA2 := KA.cell 2
  go_wp2_with fail
  refine (zmat_Transpose _ r m xs (2) _ hA hr hm HX.out (by omega)).mono ?_; rintro e w24 ⟨v24, rfl, h24, b24⟩
  clear qKA0 qKA1 qKA2
  replace hA := hA.next b24
  replace hB := hB.next b24
  replace hC := hC.next b24
  replace KA := KA.next b24
  replace KB := KB.next b24
  replace KC := KC.next b24
  replace h5 := h5.next b24
  replace K5 := K5.next b24
  replace h7 := h7.next b24
  replace K7 := K7.next b24
  replace h9 := h9.next b24
  replace K9 := K9.next b24
  replace h11 := h11.next b24
  replace K11 := K11.next b24
  replace h13 := h13.next b24
  replace K13 := K13.next b24
  replace h15 := h15.next b24
  replace K15 := K15.next b24
  replace h17 := h17.next b24
  replace K17 := K17.next b24
  replace h19 := h19.next b24
  replace K19 := K19.next b24
  replace h22 := h22.next b24
  replace K22 := K22.next b24
  replace B0 := B0.trans (b24.mono B0.size)
  clear b24
  obtain ⟨u, eu⟩ : ∃ zz, zz = trL r m xs := ⟨_, rfl⟩
  have EU := Lib.hid eu
  unfold trL at eu
  rw [← eu] at h24
  clear eu
  have LU := Lib.hid (show u.length = m * r from by rw [EU.out]; exact trL_length _ _ _)
  obtain ⟨a24, k24, rfl⟩ := h24.agg
  obtain ⟨w25, e25, K24, b25, hs25⟩ := boxes1 w24 24 [.int .i64 m, .int .i64 r, .slice a24 u.length k24]
  clear hs25
  replace hA := hA.next b25
  replace hB := hB.next b25
  replace hC := hC.next b25
  replace KA := KA.next b25
  replace KB := KB.next b25
  replace KC := KC.next b25
  replace h5 := h5.next b25
  replace K5 := K5.next b25
  replace h7 := h7.next b25
  replace K7 := K7.next b25
  replace h9 := h9.next b25
  replace K9 := K9.next b25
  replace h11 := h11.next b25
  replace K11 := K11.next b25
  replace h13 := h13.next b25
  replace K13 := K13.next b25
  replace h15 := h15.next b25
  replace K15 := K15.next b25
  replace h17 := h17.next b25
  replace K17 := K17.next b25
  replace h19 := h19.next b25
  replace K19 := K19.next b25
  replace h22 := h22.next b25
  replace K22 := K22.next b25
  replace h24 := h24.next b25
  replace B0 := B0.trans (b25.mono B0.size)
  clear b25
  go_upto_region 19 with (fail)
  rw [← e25]
  clear e25
  have qKB0 := KB.cell 0
  have qKB1 := KB.cell 1
  have qKB2 := KB.cell 2
  go_wp2_with fail
  refine (zmat_Transpose _ m k ys (2) _ hB hm hk HY.out (by omega)).mono ?_; rintro e w26 ⟨v26, rfl, h26, b26⟩
  clear qKB0 qKB1 qKB2
  replace hA := hA.next b26
  replace hB := hB.next b26
  replace hC := hC.next b26
  replace KA := KA.next b26
  replace KB := KB.next b26
  replace KC := KC.next b26
  replace h5 := h5.next b26
  replace K5 := K5.next b26
  replace h7 := h7.next b26
  replace K7 := K7.next b26
  replace h9 := h9.next b26
  replace K9 := K9.next b26
  replace h11 := h11.next b26
  replace K11 := K11.next b26
  replace h13 := h13.next b26
  replace K13 := K13.next b26
  replace h15 := h15.next b26
  replace K15 := K15.next b26
  replace h17 := h17.next b26
  replace K17 := K17.next b26
  replace h19 := h19.next b26
  replace K19 := K19.next b26
  replace h22 := h22.next b26
  replace K22 := K22.next b26
  replace h24 := h24.next b26
  replace K24 := K24.next b26
  replace B0 := B0.trans (b26.mono B0.size)
  clear b26
  obtain ⟨v, ev⟩ : ∃ zz, zz = trL m k ys := ⟨_, rfl⟩
  have EV := Lib.hid ev
  unfold trL at ev
  rw [← ev] at h26
  clear ev
  have LV := Lib.hid (show v.length = k * m from by rw [EV.out]; exact trL_length _ _ _)
  obtain ⟨a26, k26, rfl⟩ := h26.agg
  obtain ⟨w27, e27, K26, b27, hs27⟩ := boxes1 w26 24 [.int .i64 k, .int .i64 m, .slice a26 v.length k26]
  clear hs27
  replace hA := hA.next b27
  replace hB := hB.next b27
  replace hC := hC.next b27
  replace KA := KA.next b27
  replace KB := KB.next b27
  replace KC := KC.next b27
  replace h5 := h5.next b27
  replace K5 := K5.next b27
  replace h7 := h7.next b27
  replace K7 := K7.next b27
  replace h9 := h9.next b27
  replace K9 := K9.next b27
  replace h11 := h11.next b27
  replace K11 := K11.next b27
  replace h13 := h13.next b27
  replace K13 := K13.next b27
  replace h15 := h15.next b27
  replace K15 := K15.next b27
  replace h17 := h17.next b27
  replace K17 := K17.next b27
  replace h19 := h19.next b27
  replace K19 := K19.next b27
  replace h22 := h22.next b27
  replace K22 := K22.next b27
  replace h24 := h24.next b27
  replace K24 := K24.next b27
  replace h26 := h26.next b27
  replace B0 := B0.trans (b27.mono B0.size)
  clear b27
  go_upto_region 20 with (fail)
  rw [← e27]
  clear e27
  have qK260 := K26.cell 0
  have qK261 := K26.cell 1
  have qK262 := K26.cell 2
  have qK240 := K24.cell 0
  have qK241 := K24.cell 1
  have qK242 := K24.cell 2
  go_wp2_with fail
  refine (zmat_Mul _ _ k m r v u (2) (2) _ h26.mt h24.mt hk hm hr LV.out LU.out (by omega) (by omega)).mono ?_; rintro e w28 ⟨v28, rfl, h28, b28⟩
  clear qK260 qK261 qK262 qK240 qK241 qK242
  replace hA := hA.next b28
  replace hB := hB.next b28
  replace hC := hC.next b28
  replace KA := KA.next b28
  replace KB := KB.next b28
  replace KC := KC.next b28
  replace h5 := h5.next b28
  replace K5 := K5.next b28
  replace h7 := h7.next b28
  replace K7 := K7.next b28
  replace h9 := h9.next b28
  replace K9 := K9.next b28
  replace h11 := h11.next b28
  replace K11 := K11.next b28
  replace h13 := h13.next b28
  replace K13 := K13.next b28
  replace h15 := h15.next b28
  replace K15 := K15.next b28
  replace h17 := h17.next b28
  replace K17 := K17.next b28
  replace h19 := h19.next b28
  replace K19 := K19.next b28
  replace h22 := h22.next b28
  replace K22 := K22.next b28
  replace h24 := h24.next b28
  replace K24 := K24.next b28
  replace h26 := h26.next b28
  replace K26 := K26.next b28
  replace B0 := B0.trans (b28.mono B0.size)
  clear b28
  obtain ⟨ww, eww⟩ : ∃ zz, zz = mulL k m r v u := ⟨_, rfl⟩
  have EWW := Lib.hid eww
  unfold mulL at eww
  rw [← eww] at h28
  clear eww
  have LWW := Lib.hid (show ww.length = k * r from by rw [EWW.out]; exact mulL_length _ _ _ _ _)
  replace h28 := h28.mono (Nat.mul_le_mul_right _ (show m ≤ 4 by have := FEW1.out.2.1; omega))
  obtain ⟨a28, k28, rfl⟩ := h28.agg
  obtain ⟨w29, e29, K28, b29, hs29⟩ := boxes1 w28 24 [.int .i64 k, .int .i64 r, .slice a28 ww.length k28]
  clear hs29
  replace hA := hA.next b29
  replace hB := hB.next b29
  replace hC := hC.next b29
  replace KA := KA.next b29
  replace KB := KB.next b29
  replace KC := KC.next b29
  replace h5 := h5.next b29
  replace K5 := K5.next b29
  replace h7 := h7.next b29
  replace K7 := K7.next b29
  replace h9 := h9.next b29
  replace K9 := K9.next b29
  replace h11 := h11.next b29
  replace K11 := K11.next b29
  replace h13 := h13.next b29
  replace K13 := K13.next b29
  replace h15 := h15.next b29
  replace K15 := K15.next b29
  replace h17 := h17.next b29
  replace K17 := K17.next b29
  replace h19 := h19.next b29
  replace K19 := K19.next b29
  replace h22 := h22.next b29
  replace K22 := K22.next b29
  replace h24 := h24.next b29
  replace K24 := K24.next b29
  replace h26 := h26.next b29
  replace K26 := K26.next b29
  replace h28 := h28.next b29
  replace B0 := B0.trans (b29.mono B0.size)
  clear b29
  go_upto_region 21 with (fail)
  rw [← e29]
  clear e29
  have qK220 := K22.cell 0
  have qK221 := K22.cell 1
  have qK222 := K22.cell 2
  have qK280 := K28.cell 0
  have qK281 := K28.cell 1
  have qK282 := K28.cell 2
  go_wp2_with fail
  refine (zmat_Same _ _ k r k r tt ww (4 * (2 + 2 + 1)) (4 * (2 + 2 + 1)) _ h22.mt h28.mt (by omega) (by omega) true ⟨fun _ => ⟨⟨Fm.of hk hr LTT.out, Fm.of hk hr LWW.out, rfl, rfl⟩, by rw [ETT.out, EWW.out, EU.out, EV.out, EAB.out]; exact trL_mul _ _ _ _ _⟩, fun _ => rfl⟩).mono ?_; rintro e w30 ⟨rfl, b30⟩
  clear qK220 qK221 qK222 qK280 qK281 qK282
  replace hA := hA.next b30
  replace hB := hB.next b30
  replace hC := hC.next b30
  replace KA := KA.next b30
  replace KB := KB.next b30
  replace KC := KC.next b30
  replace h5 := h5.next b30
  replace K5 := K5.next b30
  replace h7 := h7.next b30
  replace K7 := K7.next b30
  replace h9 := h9.next b30
  replace K9 := K9.next b30
  replace h11 := h11.next b30
  replace K11 := K11.next b30
  replace h13 := h13.next b30
  replace K13 := K13.next b30
  replace h15 := h15.next b30
  replace K15 := K15.next b30
  replace h17 := h17.next b30
  replace K17 := K17.next b30
  replace h19 := h19.next b30
  replace K19 := K19.next b30
  replace h22 := h22.next b30
  replace K22 := K22.next b30
  replace h24 := h24.next b30
  replace K24 := K24.next b30
  replace h26 := h26.next b30
  replace K26 := K26.next b30
  replace h28 := h28.next b30
  replace K28 := K28.next b30
  replace B0 := B0.trans (b30.mono B0.size)
  clear b30
  go_wp2
  go_ret
  exact ⟨rfl, B0⟩

set_option maxRecDepth 20000 in
set_option maxHeartbeats 4000000 in
theorem walk_yyn (a b c : Value) (r m k n : Nat) (ps qs ts : List (Bool × List Nat)) (xs ys zs : List Int) (w : World) (mA : Mw w a r m ps) (mB : Mw w b m k qs) (mC : Mw w c k n ts)
    (few1 : Fx r m ps 4 2) (few2 : Fx m k qs 4 2) (few3 : Fx k n ts 4 2) (hA : Mt w a r m xs 2) (hB : Mt w b m k ys 2) (hC : Mt w c k n zs 2) (hr : r ≤ 64) (hm : m ≤ 64) (hk : k ≤ 64) (hn : n ≤ 64) (hX : xs.length = r * m) (hY : ys.length = m * k) (hZ : zs.length = k * n) (hni : ¬ Al m k k n ys.length zs.length) :
    Calls Try.prog 5 #[a, b, c] w (LawOk w) := by
  obtain ⟨ao, ca, rfl⟩ := mA.agg
  obtain ⟨bo, cb, rfl⟩ := mB.agg
  obtain ⟨co, cc, rfl⟩ := mC.agg
  obtain ⟨wb, ew, KA, KB, KC, B0, hsz⟩ := boxes2 w 24 24 24 [.int .i64 r, .int .i64 m, .slice ao ps.length ca] [.int .i64 m, .int .i64 k, .slice bo qs.length cb] [.int .i64 k, .int .i64 n, .slice co ts.length cc]
  clear hsz
  have HX := Lib.hid hX; clear hX
  have HY := Lib.hid hY; clear hY
  have HZ := Lib.hid hZ; clear hZ
  have HNI := Lib.hid hni; clear hni
  have FEW1 := Lib.hid few1; clear few1
  have FEW2 := Lib.hid few2; clear few2
  have FEW3 := Lib.hid few3; clear few3
  replace mA := mA.next B0
  replace mB := mB.next B0
  replace mC := mC.next B0
  replace hA := hA.next B0
  replace hB := hB.next B0
  replace hC := hC.next B0
  go_enter Try.func5, Try.ntmps5
  go_upto_region 1 with (fail)
  rw [← ew]
  clear ew
  go_wp2_with fail
  refine (law11_awake _).mono ?_; rintro e w1 ⟨rfl, b1⟩
  replace mA := mA.next b1
  replace mB := mB.next b1
  replace mC := mC.next b1
  replace hA := hA.next b1
  replace hB := hB.next b1
  replace hC := hC.next b1
  replace KA := KA.next b1
  replace KB := KB.next b1
  replace KC := KC.next b1
  replace B0 := B0.trans (b1.mono B0.size)
  clear b1
  have qKA0 := KA.cell 0
  have qKA1 := KA.cell 1
  have qKA2 := KA.cell 2
  go_wp2_with fail
  refine (ref11_Few42 _ r m ps true ⟨fun _ => FEW1.out, fun _ => rfl⟩ _ mA).mono ?_; rintro e w2 ⟨rfl, b2⟩
  clear qKA0 qKA1 qKA2
  replace mA := mA.next b2
  replace mB := mB.next b2
  replace mC := mC.next b2
  replace hA := hA.next b2
  replace hB := hB.next b2
  replace hC := hC.next b2
  replace KA := KA.next b2
  replace KB := KB.next b2
  replace KC := KC.next b2
  replace B0 := B0.trans (b2.mono B0.size)
  clear b2
  have qKB0 := KB.cell 0
  have qKB1 := KB.cell 1
  have qKB2 := KB.cell 2
  go_wp2_with fail
  refine (ref11_Few42 _ m k qs true ⟨fun _ => FEW2.out, fun _ => rfl⟩ _ mB).mono ?_; rintro e w3 ⟨rfl, b3⟩
  clear qKB0 qKB1 qKB2
  replace mA := mA.next b3
  replace mB := mB.next b3
  replace mC := mC.next b3
  replace hA := hA.next b3
  replace hB := hB.next b3
  replace hC := hC.next b3
  replace KA := KA.next b3
  replace KB := KB.next b3
  replace KC := KC.next b3
  replace B0 := B0.trans (b3.mono B0.size)
  clear b3
  have qKC0 := KC.cell 0
  have qKC1 := KC.cell 1
  have qKC2 := KC.cell 2
  go_wp2_with fail
  refine (ref11_Few42 _ k n ts true ⟨fun _ => FEW3.out, fun _ => rfl⟩ _ mC).mono ?_; rintro e w4 ⟨rfl, b4⟩
  clear qKC0 qKC1 qKC2
  replace mA := mA.next b4
  replace mB := mB.next b4
  replace mC := mC.next b4
  replace hA := hA.next b4
  replace hB := hB.next b4
  replace hC := hC.next b4
  replace KA := KA.next b4
  replace KB := KB.next b4
  replace KC := KC.next b4
  replace B0 := B0.trans (b4.mono B0.size)
  clear b4
  clear mA mB mC
  have qKA0 := KA.cell 0
  have qKA1 := KA.cell 1
  have qKA2 := KA.cell 2
  have qKB0 := KB.cell 0
  have qKB1 := KB.cell 1
  have qKB2 := KB.cell 2
  go_wp2_with fail
  refine (zmat_Mul _ _ r m k xs ys (2) (2) _ hA hB hr hm hk HX.out HY.out (by omega) (by omega)).mono ?_; rintro e w5 ⟨v5, rfl, h5, b5⟩
  clear qKA0 qKA1 qKA2 qKB0 qKB1 qKB2
  replace hA := hA.next b5
  replace hB := hB.next b5
  replace hC := hC.next b5
  replace KA := KA.next b5
  replace KB := KB.next b5
  replace KC := KC.next b5
  replace B0 := B0.trans (b5.mono B0.size)
  clear b5
  obtain ⟨ab, eab⟩ : ∃ zz, zz = mulL r m k xs ys := ⟨_, rfl⟩
  have EAB := Lib.hid eab
  unfold mulL at eab
  rw [← eab] at h5
  clear eab
  have LAB := Lib.hid (show ab.length = r * k from by rw [EAB.out]; exact mulL_length _ _ _ _ _)
  replace h5 := h5.mono (Nat.mul_le_mul_right _ (show m ≤ 4 by have := FEW1.out.2.1; omega))
  obtain ⟨a5, k5, rfl⟩ := h5.agg
  obtain ⟨w6, e6, K5, b6, hs6⟩ := boxes1 w5 24 [.int .i64 r, .int .i64 k, .slice a5 ab.length k5]
  clear hs6
  replace hA := hA.next b6
  replace hB := hB.next b6
  replace hC := hC.next b6
  replace KA := KA.next b6
  replace KB := KB.next b6
  replace KC := KC.next b6
  replace h5 := h5.next b6
  replace B0 := B0.trans (b6.mono B0.size)
  clear b6
  go_upto_region 4 with (fail)
  rw [← e6]
  clear e6
  have qK50 := K5.cell 0
  have qK51 := K5.cell 1
  have qK52 := K5.cell 2
  have qKC0 := KC.cell 0
  have qKC1 := KC.cell 1
  have qKC2 := KC.cell 2
  go_wp2_with fail
  refine (zmat_Mul _ _ r k n ab zs (4 * (2 + 2 + 1)) (2) _ h5.mt hC hr hk hn LAB.out HZ.out (by omega) (by omega)).mono ?_; rintro e w7 ⟨v7, rfl, h7, b7⟩
  clear qK50 qK51 qK52 qKC0 qKC1 qKC2
  replace hA := hA.next b7
  replace hB := hB.next b7
  replace hC := hC.next b7
  replace KA := KA.next b7
  replace KB := KB.next b7
  replace KC := KC.next b7
  replace h5 := h5.next b7
  replace K5 := K5.next b7
  replace B0 := B0.trans (b7.mono B0.size)
  clear b7
  obtain ⟨x, ex⟩ : ∃ zz, zz = mulL r k n ab zs := ⟨_, rfl⟩
  have EX := Lib.hid ex
  unfold mulL at ex
  rw [← ex] at h7
  clear ex
  have LX := Lib.hid (show x.length = r * n from by rw [EX.out]; exact mulL_length _ _ _ _ _)
  replace h7 := h7.mono (Nat.mul_le_mul_right _ (show k ≤ 4 by have := FEW2.out.2.1; omega))
  obtain ⟨a7, k7, rfl⟩ := h7.agg
  obtain ⟨w8, e8, K7, b8, hs8⟩ := boxes1 w7 24 [.int .i64 r, .int .i64 n, .slice a7 x.length k7]
  clear hs8
  replace hA := hA.next b8
  replace hB := hB.next b8
  replace hC := hC.next b8
  replace KA := KA.next b8
  replace KB := KB.next b8
  replace KC := KC.next b8
  replace h5 := h5.next b8
  replace K5 := K5.next b8
  replace h7 := h7.next b8
  replace B0 := B0.trans (b8.mono B0.size)
  clear b8
  go_upto_region 5 with (fail)
  rw [← e8]
  clear e8
  have qKB0 := KB.cell 0
  have qKB1 := KB.cell 1
  have qKB2 := KB.cell 2
  have qKC0 := KC.cell 0
  have qKC1 := KC.cell 1
  have qKC2 := KC.cell 2
  go_wp2_with fail
  refine (zmat_Mul _ _ m k n ys zs (2) (2) _ hB hC hm hk hn HY.out HZ.out (by omega) (by omega)).mono ?_; rintro e w9 ⟨v9, rfl, h9, b9⟩
  clear qKB0 qKB1 qKB2 qKC0 qKC1 qKC2
  replace hA := hA.next b9
  replace hB := hB.next b9
  replace hC := hC.next b9
  replace KA := KA.next b9
  replace KB := KB.next b9
  replace KC := KC.next b9
  replace h5 := h5.next b9
  replace K5 := K5.next b9
  replace h7 := h7.next b9
  replace K7 := K7.next b9
  replace B0 := B0.trans (b9.mono B0.size)
  clear b9
  obtain ⟨bc, ebc⟩ : ∃ zz, zz = mulL m k n ys zs := ⟨_, rfl⟩
  have EBC := Lib.hid ebc
  unfold mulL at ebc
  rw [← ebc] at h9
  clear ebc
  have LBC := Lib.hid (show bc.length = m * n from by rw [EBC.out]; exact mulL_length _ _ _ _ _)
  replace h9 := h9.mono (Nat.mul_le_mul_right _ (show k ≤ 4 by have := FEW2.out.2.1; omega))
  obtain ⟨a9, k9, rfl⟩ := h9.agg
  obtain ⟨w10, e10, K9, b10, hs10⟩ := boxes1 w9 24 [.int .i64 m, .int .i64 n, .slice a9 bc.length k9]
  clear hs10
  replace hA := hA.next b10
  replace hB := hB.next b10
  replace hC := hC.next b10
  replace KA := KA.next b10
  replace KB := KB.next b10
  replace KC := KC.next b10
  replace h5 := h5.next b10
  replace K5 := K5.next b10
  replace h7 := h7.next b10
  replace K7 := K7.next b10
  replace h9 := h9.next b10
  replace B0 := B0.trans (b10.mono B0.size)
  clear b10
  go_upto_region 6 with (fail)
  rw [← e10]
  clear e10
  have qKA0 := KA.cell 0
  have qKA1 := KA.cell 1
  have qKA2 := KA.cell 2
  have qK90 := K9.cell 0
  have qK91 := K9.cell 1
  have qK92 := K9.cell 2
  go_wp2_with fail
  refine (zmat_Mul _ _ r m n xs bc (2) (4 * (2 + 2 + 1)) _ hA h9.mt hr hm hn HX.out LBC.out (by omega) (by omega)).mono ?_; rintro e w11 ⟨v11, rfl, h11, b11⟩
  clear qKA0 qKA1 qKA2 qK90 qK91 qK92
  replace hA := hA.next b11
  replace hB := hB.next b11
  replace hC := hC.next b11
  replace KA := KA.next b11
  replace KB := KB.next b11
  replace KC := KC.next b11
  replace h5 := h5.next b11
  replace K5 := K5.next b11
  replace h7 := h7.next b11
  replace K7 := K7.next b11
  replace h9 := h9.next b11
  replace K9 := K9.next b11
  replace B0 := B0.trans (b11.mono B0.size)
  clear b11
  obtain ⟨y, ey⟩ : ∃ zz, zz = mulL r m n xs bc := ⟨_, rfl⟩
  have EY := Lib.hid ey
  unfold mulL at ey
  rw [← ey] at h11
  clear ey
  have LY := Lib.hid (show y.length = r * n from by rw [EY.out]; exact mulL_length _ _ _ _ _)
  replace h11 := h11.mono (Nat.mul_le_mul_right _ (show m ≤ 4 by have := FEW1.out.2.1; omega))
  obtain ⟨a11, k11, rfl⟩ := h11.agg
  obtain ⟨w12, e12, K11, b12, hs12⟩ := boxes1 w11 24 [.int .i64 r, .int .i64 n, .slice a11 y.length k11]
  clear hs12
  replace hA := hA.next b12
  replace hB := hB.next b12
  replace hC := hC.next b12
  replace KA := KA.next b12
  replace KB := KB.next b12
  replace KC := KC.next b12
  replace h5 := h5.next b12
  replace K5 := K5.next b12
  replace h7 := h7.next b12
  replace K7 := K7.next b12
  replace h9 := h9.next b12
  replace K9 := K9.next b12
  replace h11 := h11.next b12
  replace B0 := B0.trans (b12.mono B0.size)
  clear b12
  go_upto_region 7 with (fail)
  rw [← e12]
  clear e12
  have qK70 := K7.cell 0
  have qK71 := K7.cell 1
  have qK72 := K7.cell 2
  have qK110 := K11.cell 0
  have qK111 := K11.cell 1
  have qK112 := K11.cell 2
  go_wp2_with fail
  refine (zmat_Same _ _ r n r n x y (4 * (4 * (2 + 2 + 1) + 2 + 1)) (4 * (2 + 4 * (2 + 2 + 1) + 1)) _ h7.mt h11.mt (by omega) (by omega) true ⟨fun _ => ⟨⟨Fm.of hr hn LX.out, Fm.of hr hn LY.out, rfl, rfl⟩, by rw [EX.out, EY.out, EAB.out, EBC.out]; exact mulL_assoc _ _ _ _ _ _ _⟩, fun _ => rfl⟩).mono ?_; rintro e w13 ⟨rfl, b13⟩
  clear qK70 qK71 qK72 qK110 qK111 qK112
  replace hA := hA.next b13
  replace hB := hB.next b13
  replace hC := hC.next b13
  replace KA := KA.next b13
  replace KB := KB.next b13
  replace KC := KC.next b13
  replace h5 := h5.next b13
  replace K5 := K5.next b13
  replace h7 := h7.next b13
  replace K7 := K7.next b13
  replace h9 := h9.next b13
  replace K9 := K9.next b13
  replace h11 := h11.next b13
  replace K11 := K11.next b13
  replace B0 := B0.trans (b13.mono B0.size)
  clear b13
  go_upto_region 9 with (fail)
  have qKB0 := KB.cell 0
  have qKB1 := KB.cell 1
  have qKB2 := KB.cell 2
  have qKC0 := KC.cell 0
  have qKC1 := KC.cell 1
  have qKC2 := KC.cell 2
  go_wp2_with fail
  refine (zmat_Add_bad _ _ m k k n ys zs (2) (2) _ hB hC HNI.out).mono ?_; rintro e w14 ⟨v14, rfl, h14, b14⟩
  clear qKB0 qKB1 qKB2 qKC0 qKC1 qKC2
  replace hA := hA.next b14
  replace hB := hB.next b14
  replace hC := hC.next b14
  replace KA := KA.next b14
  replace KB := KB.next b14
  replace KC := KC.next b14
  replace h5 := h5.next b14
  replace K5 := K5.next b14
  replace h7 := h7.next b14
  replace K7 := K7.next b14
  replace h9 := h9.next b14
  replace K9 := K9.next b14
  replace h11 := h11.next b14
  replace K11 := K11.next b14
  replace B0 := B0.trans (b14.mono B0.size)
  clear b14
  obtain ⟨a14, k14, rfl⟩ := h14.agg
  obtain ⟨w15, e15, K14, b15, hs15⟩ := boxes1 w14 24 [.int .i64 0, .int .i64 0, .slice a14 0 k14]
  clear hs15
  replace hA := hA.next b15
  replace hB := hB.next b15
  replace hC := hC.next b15
  replace KA := KA.next b15
  replace KB := KB.next b15
  replace KC := KC.next b15
  replace h5 := h5.next b15
  replace K5 := K5.next b15
  replace h7 := h7.next b15
  replace K7 := K7.next b15
  replace h9 := h9.next b15
  replace K9 := K9.next b15
  replace h11 := h11.next b15
  replace K11 := K11.next b15
  replace h14 := h14.next b15
  replace B0 := B0.trans (b15.mono B0.size)
  clear b15
  go_upto_region 10 with (fail)
  rw [← e15]
  clear e15
  have qKA0 := KA.cell 0
  have qKA1 := KA.cell 1
  have qKA2 := KA.cell 2
  have qK140 := K14.cell 0
  have qK141 := K14.cell 1
  have qK142 := K14.cell 2
  go_wp2_with fail
  refine (zmat_Mul_any _ _ r m 0 0 xs ([] : List Int) (2) (0) _ hA h14.mt FEW1.out.2.1 (by omega) (by omega)).mono ?_; rintro e w16 ⟨v16, r16, c16, zs16, ec16, rfl, h16, b16, hr16, hc16, hl16⟩
  clear qKA0 qKA1 qKA2 qK140 qK141 qK142
  replace hA := hA.next b16
  replace hB := hB.next b16
  replace hC := hC.next b16
  replace KA := KA.next b16
  replace KB := KB.next b16
  replace KC := KC.next b16
  replace h5 := h5.next b16
  replace K5 := K5.next b16
  replace h7 := h7.next b16
  replace K7 := K7.next b16
  replace h9 := h9.next b16
  replace K9 := K9.next b16
  replace h11 := h11.next b16
  replace K11 := K11.next b16
  replace h14 := h14.next b16
  replace K14 := K14.next b16
  replace B0 := B0.trans (b16.mono B0.size)
  clear b16
  have HL16 := Lib.hid hl16; clear hl16
  obtain ⟨a16, k16, rfl⟩ := h16.agg
  obtain ⟨w17, e17, K16, b17, hs17⟩ := boxes1 w16 24 [.int .i64 r16, .int .i64 c16, .slice a16 zs16.length k16]
  clear hs17
  replace hA := hA.next b17
  replace hB := hB.next b17
  replace hC := hC.next b17
  replace KA := KA.next b17
  replace KB := KB.next b17
  replace KC := KC.next b17
  replace h5 := h5.next b17
  replace K5 := K5.next b17
  replace h7 := h7.next b17
  replace K7 := K7.next b17
  replace h9 := h9.next b17
  replace K9 := K9.next b17
  replace h11 := h11.next b17
  replace K11 := K11.next b17
  replace h14 := h14.next b17
  replace K14 := K14.next b17
  replace h16 := h16.next b17
  replace B0 := B0.trans (b17.mono B0.size)
  clear b17
  go_upto_region 11 with (fail)
  rw [← e17]
  clear e17
  have qKA0 := KA.cell 0
  have qKA1 := KA.cell 1
  have qKA2 := KA.cell 2
  have qKC0 := KC.cell 0
  have qKC1 := KC.cell 1
  have qKC2 := KC.cell 2
  go_wp2_with fail
  refine (zmat_Mul_any _ _ r m k n xs zs (2) (2) _ hA hC FEW1.out.2.1 (by omega) (by omega)).mono ?_; rintro e w18 ⟨v18, r18, c18, zs18, ec18, rfl, h18, b18, hr18, hc18, hl18⟩
  clear qKA0 qKA1 qKA2 qKC0 qKC1 qKC2
  replace hA := hA.next b18
  replace hB := hB.next b18
  replace hC := hC.next b18
  replace KA := KA.next b18
  replace KB := KB.next b18
  replace KC := KC.next b18
  replace h5 := h5.next b18
  replace K5 := K5.next b18
  replace h7 := h7.next b18
  replace K7 := K7.next b18
  replace h9 := h9.next b18
  replace K9 := K9.next b18
  replace h11 := h11.next b18
  replace K11 := K11.next b18
  replace h14 := h14.next b18
  replace K14 := K14.next b18
  replace h16 := h16.next b18
  replace K16 := K16.next b18
  replace B0 := B0.trans (b18.mono B0.size)
  clear b18
  have HL18 := Lib.hid hl18; clear hl18
  obtain ⟨a18, k18, rfl⟩ := h18.agg
  obtain ⟨w19, e19, K18, b19, hs19⟩ := boxes1 w18 24 [.int .i64 r18, .int .i64 c18, .slice a18 zs18.length k18]
  clear hs19
  replace hA := hA.next b19
  replace hB := hB.next b19
  replace hC := hC.next b19
  replace KA := KA.next b19
  replace KB := KB.next b19
  replace KC := KC.next b19
  replace h5 := h5.next b19
  replace K5 := K5.next b19
  replace h7 := h7.next b19
  replace K7 := K7.next b19
  replace h9 := h9.next b19
  replace K9 := K9.next b19
  replace h11 := h11.next b19
  replace K11 := K11.next b19
  replace h14 := h14.next b19
  replace K14 := K14.next b19
  replace h16 := h16.next b19
  replace K16 := K16.next b19
  replace h18 := h18.next b19
  replace B0 := B0.trans (b19.mono B0.size)
  clear b19
  go_upto_region 12 with (fail)
  rw [← e19]
  clear e19
  have qK50 := K5.cell 0
  have qK51 := K5.cell 1
  have qK52 := K5.cell 2
  have qK180 := K18.cell 0
  have qK181 := K18.cell 1
  have qK182 := K18.cell 2
  go_wp2_with fail
  refine (zmat_Add_any _ _ r k r18 c18 ab zs18 (4 * (2 + 2 + 1)) (4 * (2 + 2 + 1)) _ h5.mt h18.mt (by omega) (by omega)).mono ?_; rintro e w20 ⟨v20, r20, c20, zs20, ec20, rfl, h20, b20, hr20, hc20, hl20⟩
  clear qK50 qK51 qK52 qK180 qK181 qK182
  replace hA := hA.next b20
  replace hB := hB.next b20
  replace hC := hC.next b20
  replace KA := KA.next b20
  replace KB := KB.next b20
  replace KC := KC.next b20
  replace h5 := h5.next b20
  replace K5 := K5.next b20
  replace h7 := h7.next b20
  replace K7 := K7.next b20
  replace h9 := h9.next b20
  replace K9 := K9.next b20
  replace h11 := h11.next b20
  replace K11 := K11.next b20
  replace h14 := h14.next b20
  replace K14 := K14.next b20
  replace h16 := h16.next b20
  replace K16 := K16.next b20
  replace h18 := h18.next b20
  replace K18 := K18.next b20
  replace B0 := B0.trans (b20.mono B0.size)
  clear b20
  have HL20 := Lib.hid hl20; clear hl20
  obtain ⟨a20, k20, rfl⟩ := h20.agg
  obtain ⟨w21, e21, K20, b21, hs21⟩ := boxes1 w20 24 [.int .i64 r20, .int .i64 c20, .slice a20 zs20.length k20]
  clear hs21
  replace hA := hA.next b21
  replace hB := hB.next b21
  replace hC := hC.next b21
  replace KA := KA.next b21
  replace KB := KB.next b21
  replace KC := KC.next b21
  replace h5 := h5.next b21
  replace K5 := K5.next b21
  replace h7 := h7.next b21
  replace K7 := K7.next b21
  replace h9 := h9.next b21
  replace K9 := K9.next b21
  replace h11 := h11.next b21
  replace K11 := K11.next b21
  replace h14 := h14.next b21
  replace K14 := K14.next b21
  replace h16 := h16.next b21
  replace K16 := K16.next b21
  replace h18 := h18.next b21
  replace K18 := K18.next b21
  replace h20 := h20.next b21
  replace B0 := B0.trans (b21.mono B0.size)
  clear b21
  go_upto_region 13 with (fail)
  rw [← e21]
  clear e21
  go_upto_region 17 with (fail)
  have qK50 := K5.cell 0
  have qK51 := K5.cell 1
  have qK52 := K5.cell 2
  go_wp2_with fail
  refine (zmat_Transpose _ r k ab (4 * (2 + 2 + 1)) _ h5.mt hr hk LAB.out (by omega)).mono ?_; rintro e w22 ⟨v22, rfl, h22, b22⟩
  clear qK50 qK51 qK52
  replace hA := hA.next b22
  replace hB := hB.next b22
  replace hC := hC.next b22
  replace KA := KA.next b22
  replace KB := KB.next b22
  replace KC := KC.next b22
  replace h5 := h5.next b22
  replace K5 := K5.next b22
  replace h7 := h7.next b22
  replace K7 := K7.next b22
  replace h9 := h9.next b22
  replace K9 := K9.next b22
  replace h11 := h11.next b22
  replace K11 := K11.next b22
  replace h14 := h14.next b22
  replace K14 := K14.next b22
  replace h16 := h16.next b22
  replace K16 := K16.next b22
  replace h18 := h18.next b22
  replace K18 := K18.next b22
  replace h20 := h20.next b22
  replace K20 := K20.next b22
  replace B0 := B0.trans (b22.mono B0.size)
  clear b22
  obtain ⟨tt, ett⟩ : ∃ zz, zz = trL r k ab := ⟨_, rfl⟩
  have ETT := Lib.hid ett
  unfold trL at ett
  rw [← ett] at h22
  clear ett
  have LTT := Lib.hid (show tt.length = k * r from by rw [ETT.out]; exact trL_length _ _ _)
  obtain ⟨a22, k22, rfl⟩ := h22.agg
  obtain ⟨w23, e23, K22, b23, hs23⟩ := boxes1 w22 24 [.int .i64 k, .int .i64 r, .slice a22 tt.length k22]
  clear hs23
  replace hA := hA.next b23
  replace hB := hB.next b23
  replace hC := hC.next b23
  replace KA := KA.next b23
  replace KB := KB.next b23
  replace KC := KC.next b23
  replace h5 := h5.next b23
  replace K5 := K5.next b23
  replace h7 := h7.next b23
  replace K7 := K7.next b23
  replace h9 := h9.next b23
  replace K9 := K9.next b23
  replace h11 := h11.next b23
  replace K11 := K11.next b23
  replace h14 := h14.next b23
  replace K14 := K14.next b23
  replace h16 := h16.next b23
  replace K16 := K16.next b23
  replace h18 := h18.next b23
  replace K18 := K18.next b23
  replace h20 := h20.next b23
  replace K20 := K20.next b23
  replace h22 := h22.next b23
  replace B0 := B0.trans (b23.mono B0.size)
  clear b23
  go_upto_region 18 with (fail)
  rw [← e23]
  clear e23
  have qKA0 := KA.cell 0
  have qKA1 := KA.cell 1
  have qKA2 := KA.cell 2
  go_wp2_with fail
  refine (zmat_Transpose _ r m xs (2) _ hA hr hm HX.out (by omega)).mono ?_; rintro e w24 ⟨v24, rfl, h24, b24⟩
  clear qKA0 qKA1 qKA2
  replace hA := hA.next b24
  replace hB := hB.next b24
  replace hC := hC.next b24
  replace KA := KA.next b24
  replace KB := KB.next b24
  replace KC := KC.next b24
  replace h5 := h5.next b24
  replace K5 := K5.next b24
  replace h7 := h7.next b24
  replace K7 := K7.next b24
  replace h9 := h9.next b24
  replace K9 := K9.next b24
  replace h11 := h11.next b24
  replace K11 := K11.next b24
  replace h14 := h14.next b24
  replace K14 := K14.next b24
  replace h16 := h16.next b24
  replace K16 := K16.next b24
  replace h18 := h18.next b24
  replace K18 := K18.next b24
  replace h20 := h20.next b24
  replace K20 := K20.next b24
  replace h22 := h22.next b24
  replace K22 := K22.next b24
  replace B0 := B0.trans (b24.mono B0.size)
  clear b24
  obtain ⟨u, eu⟩ : ∃ zz, zz = trL r m xs := ⟨_, rfl⟩
  have EU := Lib.hid eu
  unfold trL at eu
  rw [← eu] at h24
  clear eu
  have LU := Lib.hid (show u.length = m * r from by rw [EU.out]; exact trL_length _ _ _)
  obtain ⟨a24, k24, rfl⟩ := h24.agg
  obtain ⟨w25, e25, K24, b25, hs25⟩ := boxes1 w24 24 [.int .i64 m, .int .i64 r, .slice a24 u.length k24]
  clear hs25
  replace hA := hA.next b25
  replace hB := hB.next b25
  replace hC := hC.next b25
  replace KA := KA.next b25
  replace KB := KB.next b25
  replace KC := KC.next b25
  replace h5 := h5.next b25
  replace K5 := K5.next b25
  replace h7 := h7.next b25
  replace K7 := K7.next b25
  replace h9 := h9.next b25
  replace K9 := K9.next b25
  replace h11 := h11.next b25
  replace K11 := K11.next b25
  replace h14 := h14.next b25
  replace K14 := K14.next b25
  replace h16 := h16.next b25
  replace K16 := K16.next b25
  replace h18 := h18.next b25
  replace K18 := K18.next b25
  replace h20 := h20.next b25
  replace K20 := K20.next b25
  replace h22 := h22.next b25
  replace K22 := K22.next b25
  replace h24 := h24.next b25
  replace B0 := B0.trans (b25.mono B0.size)
  clear b25
  go_upto_region 19 with (fail)
  rw [← e25]
  clear e25
  have qKB0 := KB.cell 0
  have qKB1 := KB.cell 1
  have qKB2 := KB.cell 2
  go_wp2_with fail
  refine (zmat_Transpose _ m k ys (2) _ hB hm hk HY.out (by omega)).mono ?_; rintro e w26 ⟨v26, rfl, h26, b26⟩
  clear qKB0 qKB1 qKB2
  replace hA := hA.next b26
  replace hB := hB.next b26
  replace hC := hC.next b26
  replace KA := KA.next b26
  replace KB := KB.next b26
  replace KC := KC.next b26
  replace h5 := h5.next b26
  replace K5 := K5.next b26
  replace h7 := h7.next b26
  replace K7 := K7.next b26
  replace h9 := h9.next b26
  replace K9 := K9.next b26
  replace h11 := h11.next b26
  replace K11 := K11.next b26
  replace h14 := h14.next b26
  replace K14 := K14.next b26
  replace h16 := h16.next b26
  replace K16 := K16.next b26
  replace h18 := h18.next b26
  replace K18 := K18.next b26
  replace h20 := h20.next b26
  replace K20 := K20.next b26
  replace h22 := h22.next b26
  replace K22 := K22.next b26
  replace h24 := h24.next b26
  replace K24 := K24.next b26
  replace B0 := B0.trans (b26.mono B0.size)
  clear b26
  obtain ⟨v, ev⟩ : ∃ zz, zz = trL m k ys := ⟨_, rfl⟩
  have EV := Lib.hid ev
  unfold trL at ev
  rw [← ev] at h26
  clear ev
  have LV := Lib.hid (show v.length = k * m from by rw [EV.out]; exact trL_length _ _ _)
  obtain ⟨a26, k26, rfl⟩ := h26.agg
  obtain ⟨w27, e27, K26, b27, hs27⟩ := boxes1 w26 24 [.int .i64 k, .int .i64 m, .slice a26 v.length k26]
  clear hs27
  replace hA := hA.next b27
  replace hB := hB.next b27
  replace hC := hC.next b27
  replace KA := KA.next b27
  replace KB := KB.next b27
  replace KC := KC.next b27
  replace h5 := h5.next b27
  replace K5 := K5.next b27
  replace h7 := h7.next b27
  replace K7 := K7.next b27
  replace h9 := h9.next b27
  replace K9 := K9.next b27
  replace h11 := h11.next b27
  replace K11 := K11.next b27
  replace h14 := h14.next b27
  replace K14 := K14.next b27
  replace h16 := h16.next b27
  replace K16 := K16.next b27
  replace h18 := h18.next b27
  replace K18 := K18.next b27
  replace h20 := h20.next b27
  replace K20 := K20.next b27
  replace h22 := h22.next b27
  replace K22 := K22.next b27
  replace h24 := h24.next b27
  replace K24 := K24.next b27
  replace h26 := h26.next b27
  replace B0 := B0.trans (b27.mono B0.size)
  clear b27
  go_upto_region 20 with (fail)
  rw [← e27]
  clear e27
  have qK260 := K26.cell 0
  have qK261 := K26.cell 1
  have qK262 := K26.cell 2
  have qK240 := K24.cell 0
  have qK241 := K24.cell 1
  have qK242 := K24.cell 2
  go_wp2_with fail
  refine (zmat_Mul _ _ k m r v u (2) (2) _ h26.mt h24.mt hk hm hr LV.out LU.out (by omega) (by omega)).mono ?_; rintro e w28 ⟨v28, rfl, h28, b28⟩
  clear qK260 qK261 qK262 qK240 qK241 qK242
  replace hA := hA.next b28
  replace hB := hB.next b28
  replace hC := hC.next b28
  replace KA := KA.next b28
  replace KB := KB.next b28
  replace KC := KC.next b28
  replace h5 := h5.next b28
  replace K5 := K5.next b28
  replace h7 := h7.next b28
  replace K7 := K7.next b28
  replace h9 := h9.next b28
  replace K9 := K9.next b28
  replace h11 := h11.next b28
  replace K11 := K11.next b28
  replace h14 := h14.next b28
  replace K14 := K14.next b28
  replace h16 := h16.next b28
  replace K16 := K16.next b28
  replace h18 := h18.next b28
  replace K18 := K18.next b28
  replace h20 := h20.next b28
  replace K20 := K20.next b28
  replace h22 := h22.next b28
  replace K22 := K22.next b28
  replace h24 := h24.next b28
  replace K24 := K24.next b28
  replace h26 := h26.next b28
  replace K26 := K26.next b28
  replace B0 := B0.trans (b28.mono B0.size)
  clear b28
  obtain ⟨ww, eww⟩ : ∃ zz, zz = mulL k m r v u := ⟨_, rfl⟩
  have EWW := Lib.hid eww
  unfold mulL at eww
  rw [← eww] at h28
  clear eww
  have LWW := Lib.hid (show ww.length = k * r from by rw [EWW.out]; exact mulL_length _ _ _ _ _)
  replace h28 := h28.mono (Nat.mul_le_mul_right _ (show m ≤ 4 by have := FEW1.out.2.1; omega))
  obtain ⟨a28, k28, rfl⟩ := h28.agg
  obtain ⟨w29, e29, K28, b29, hs29⟩ := boxes1 w28 24 [.int .i64 k, .int .i64 r, .slice a28 ww.length k28]
  clear hs29
  replace hA := hA.next b29
  replace hB := hB.next b29
  replace hC := hC.next b29
  replace KA := KA.next b29
  replace KB := KB.next b29
  replace KC := KC.next b29
  replace h5 := h5.next b29
  replace K5 := K5.next b29
  replace h7 := h7.next b29
  replace K7 := K7.next b29
  replace h9 := h9.next b29
  replace K9 := K9.next b29
  replace h11 := h11.next b29
  replace K11 := K11.next b29
  replace h14 := h14.next b29
  replace K14 := K14.next b29
  replace h16 := h16.next b29
  replace K16 := K16.next b29
  replace h18 := h18.next b29
  replace K18 := K18.next b29
  replace h20 := h20.next b29
  replace K20 := K20.next b29
  replace h22 := h22.next b29
  replace K22 := K22.next b29
  replace h24 := h24.next b29
  replace K24 := K24.next b29
  replace h26 := h26.next b29
  replace K26 := K26.next b29
  replace h28 := h28.next b29
  replace B0 := B0.trans (b29.mono B0.size)
  clear b29
  go_upto_region 21 with (fail)
  rw [← e29]
  clear e29
  have qK220 := K22.cell 0
  have qK221 := K22.cell 1
  have qK222 := K22.cell 2
  have qK280 := K28.cell 0
  have qK281 := K28.cell 1
  have qK282 := K28.cell 2
  go_wp2_with fail
  refine (zmat_Same _ _ k r k r tt ww (4 * (2 + 2 + 1)) (4 * (2 + 2 + 1)) _ h22.mt h28.mt (by omega) (by omega) true ⟨fun _ => ⟨⟨Fm.of hk hr LTT.out, Fm.of hk hr LWW.out, rfl, rfl⟩, by rw [ETT.out, EWW.out, EU.out, EV.out, EAB.out]; exact trL_mul _ _ _ _ _⟩, fun _ => rfl⟩).mono ?_; rintro e w30 ⟨rfl, b30⟩
  clear qK220 qK221 qK222 qK280 qK281 qK282
  replace hA := hA.next b30
  replace hB := hB.next b30
  replace hC := hC.next b30
  replace KA := KA.next b30
  replace KB := KB.next b30
  replace KC := KC.next b30
  replace h5 := h5.next b30
  replace K5 := K5.next b30
  replace h7 := h7.next b30
  replace K7 := K7.next b30
  replace h9 := h9.next b30
  replace K9 := K9.next b30
  replace h11 := h11.next b30
  replace K11 := K11.next b30
  replace h14 := h14.next b30
  replace K14 := K14.next b30
  replace h16 := h16.next b30
  replace K16 := K16.next b30
  replace h18 := h18.next b30
  replace K18 := K18.next b30
  replace h20 := h20.next b30
  replace K20 := K20.next b30
  replace h22 := h22.next b30
  replace K22 := K22.next b30
  replace h24 := h24.next b30
  replace K24 := K24.next b30
  replace h26 := h26.next b30
  replace K26 := K26.next b30
  replace h28 := h28.next b30
  replace K28 := K28.next b30
  replace B0 := B0.trans (b30.mono B0.size)
  clear b30
  go_wp2
  go_ret
  exact ⟨rfl, B0⟩

set_option maxRecDepth 20000 in
set_option maxHeartbeats 4000000 in
theorem walk_yyy (a b c : Value) (r m : Nat) (ps qs ts : List (Bool × List Nat)) (xs ys zs : List Int) (w : World) (mA : Mw w a r m ps) (mB : Mw w b m m qs) (mC : Mw w c m m ts)
    (few1 : Fx r m ps 4 2) (few2 : Fx m m qs 4 2) (few3 : Fx m m ts 4 2) (hA : Mt w a r m xs 2) (hB : Mt w b m m ys 2) (hC : Mt w c m m zs 2) (hr : r ≤ 64) (hm : m ≤ 64) (hX : xs.length = r * m) (hY : ys.length = m * m) (hZ : zs.length = m * m) :
    Calls Try.prog 5 #[a, b, c] w (LawOk w) := by
  obtain ⟨ao, ca, rfl⟩ := mA.agg
  obtain ⟨bo, cb, rfl⟩ := mB.agg
  obtain ⟨co, cc, rfl⟩ := mC.agg
  obtain ⟨wb, ew, KA, KB, KC, B0, hsz⟩ := boxes2 w 24 24 24 [.int .i64 r, .int .i64 m, .slice ao ps.length ca] [.int .i64 m, .int .i64 m, .slice bo qs.length cb] [.int .i64 m, .int .i64 m, .slice co ts.length cc]
  clear hsz
  have HX := Lib.hid hX; clear hX
  have HY := Lib.hid hY; clear hY
  have HZ := Lib.hid hZ; clear hZ
  have FEW1 := Lib.hid few1; clear few1
  have FEW2 := Lib.hid few2; clear few2
  have FEW3 := Lib.hid few3; clear few3
  replace mA := mA.next B0
  replace mB := mB.next B0
  replace mC := mC.next B0
  replace hA := hA.next B0
  replace hB := hB.next B0
  replace hC := hC.next B0
  go_enter Try.func5, Try.ntmps5
  go_upto_region 1 with (fail)
  rw [← ew]
  clear ew
  go_wp2_with fail
  refine (law11_awake _).mono ?_; rintro e w1 ⟨rfl, b1⟩
  replace mA := mA.next b1
  replace mB := mB.next b1
  replace mC := mC.next b1
  replace hA := hA.next b1
  replace hB := hB.next b1
  replace hC := hC.next b1
  replace KA := KA.next b1
  replace KB := KB.next b1
  replace KC := KC.next b1
  replace B0 := B0.trans (b1.mono B0.size)
  clear b1
  have qKA0 := KA.cell 0
  have qKA1 := KA.cell 1
  have qKA2 := KA.cell 2
  go_wp2_with fail
  refine (ref11_Few42 _ r m ps true ⟨fun _ => FEW1.out, fun _ => rfl⟩ _ mA).mono ?_; rintro e w2 ⟨rfl, b2⟩
  clear qKA0 qKA1 qKA2
  replace mA := mA.next b2
  replace mB := mB.next b2
  replace mC := mC.next b2
  replace hA := hA.next b2
  replace hB := hB.next b2
  replace hC := hC.next b2
  replace KA := KA.next b2
  replace KB := KB.next b2
  replace KC := KC.next b2
  replace B0 := B0.trans (b2.mono B0.size)
  clear b2
  have qKB0 := KB.cell 0
  have qKB1 := KB.cell 1
  have qKB2 := KB.cell 2
  go_wp2_with fail
  refine (ref11_Few42 _ m m qs true ⟨fun _ => FEW2.out, fun _ => rfl⟩ _ mB).mono ?_; rintro e w3 ⟨rfl, b3⟩
  clear qKB0 qKB1 qKB2
  replace mA := mA.next b3
  replace mB := mB.next b3
  replace mC := mC.next b3
  replace hA := hA.next b3
  replace hB := hB.next b3
  replace hC := hC.next b3
  replace KA := KA.next b3
  replace KB := KB.next b3
  replace KC := KC.next b3
  replace B0 := B0.trans (b3.mono B0.size)
  clear b3
  have qKC0 := KC.cell 0
  have qKC1 := KC.cell 1
  have qKC2 := KC.cell 2
  go_wp2_with fail
  refine (ref11_Few42 _ m m ts true ⟨fun _ => FEW3.out, fun _ => rfl⟩ _ mC).mono ?_; rintro e w4 ⟨rfl, b4⟩
  clear qKC0 qKC1 qKC2
  replace mA := mA.next b4
  replace mB := mB.next b4
  replace mC := mC.next b4
  replace hA := hA.next b4
  replace hB := hB.next b4
  replace hC := hC.next b4
  replace KA := KA.next b4
  replace KB := KB.next b4
  replace KC := KC.next b4
  replace B0 := B0.trans (b4.mono B0.size)
  clear b4
  clear mA mB mC
  have qKA0 := KA.cell 0
  have qKA1 := KA.cell 1
  have qKA2 := KA.cell 2
  have qKB0 := KB.cell 0
  have qKB1 := KB.cell 1
  have qKB2 := KB.cell 2
  go_wp2_with fail
  refine (zmat_Mul _ _ r m m xs ys (2) (2) _ hA hB hr hm hm HX.out HY.out (by omega) (by omega)).mono ?_; rintro e w5 ⟨v5, rfl, h5, b5⟩
  clear qKA0 qKA1 qKA2 qKB0 qKB1 qKB2
  replace hA := hA.next b5
  replace hB := hB.next b5
  replace hC := hC.next b5
  replace KA := KA.next b5
  replace KB := KB.next b5
  replace KC := KC.next b5
  replace B0 := B0.trans (b5.mono B0.size)
  clear b5
  obtain ⟨ab, eab⟩ : ∃ zz, zz = mulL r m m xs ys := ⟨_, rfl⟩
  have EAB := Lib.hid eab
  unfold mulL at eab
  rw [← eab] at h5
  clear eab
  have LAB := Lib.hid (show ab.length = r * m from by rw [EAB.out]; exact mulL_length _ _ _ _ _)
  replace h5 := h5.mono (Nat.mul_le_mul_right _ (show m ≤ 4 by have := FEW1.out.2.1; omega))
  obtain ⟨a5, k5, rfl⟩ := h5.agg
  obtain ⟨w6, e6, K5, b6, hs6⟩ := boxes1 w5 24 [.int .i64 r, .int .i64 m, .slice a5 ab.length k5]
  clear hs6
  replace hA := hA.next b6
  replace hB := hB.next b6
  replace hC := hC.next b6
  replace KA := KA.next b6
  replace KB := KB.next b6
  replace KC := KC.next b6
  replace h5 := h5.next b6
  replace B0 := B0.trans (b6.mono B0.size)
  clear b6
  go_upto_region 4 with (fail)
  rw [← e6]
  clear e6
  have qK50 := K5.cell 0
  have qK51 := K5.cell 1
  have qK52 := K5.cell 2
  have qKC0 := KC.cell 0
  have qKC1 := KC.cell 1
  have qKC2 := KC.cell 2
  go_wp2_with fail
  refine (zmat_Mul _ _ r m m ab zs (4 * (2 + 2 + 1)) (2) _ h5.mt hC hr hm hm LAB.out HZ.out (by omega) (by omega)).mono ?_; rintro e w7 ⟨v7, rfl, h7, b7⟩
  clear qK50 qK51 qK52 qKC0 qKC1 qKC2
  replace hA := hA.next b7
  replace hB := hB.next b7
  replace hC := hC.next b7
  replace KA := KA.next b7
  replace KB := KB.next b7
  replace KC := KC.next b7
  replace h5 := h5.next b7
  replace K5 := K5.next b7
  replace B0 := B0.trans (b7.mono B0.size)
  clear b7
  obtain ⟨x, ex⟩ : ∃ zz, zz = mulL r m m ab zs := ⟨_, rfl⟩
  have EX := Lib.hid ex
  unfold mulL at ex
  rw [← ex] at h7
  clear ex
  have LX := Lib.hid (show x.length = r * m from by rw [EX.out]; exact mulL_length _ _ _ _ _)
  replace h7 := h7.mono (Nat.mul_le_mul_right _ (show m ≤ 4 by have := FEW2.out.2.1; omega))
  obtain ⟨a7, k7, rfl⟩ := h7.agg
  obtain ⟨w8, e8, K7, b8, hs8⟩ := boxes1 w7 24 [.int .i64 r, .int .i64 m, .slice a7 x.length k7]
  clear hs8
  replace hA := hA.next b8
  replace hB := hB.next b8
  replace hC := hC.next b8
  replace KA := KA.next b8
  replace KB := KB.next b8
  replace KC := KC.next b8
  replace h5 := h5.next b8
  replace K5 := K5.next b8
  replace h7 := h7.next b8
  replace B0 := B0.trans (b8.mono B0.size)
  clear b8
  go_upto_region 5 with (fail)
  rw [← e8]
  clear e8
  have qKB0 := KB.cell 0
  have qKB1 := KB.cell 1
  have qKB2 := KB.cell 2
  have qKC0 := KC.cell 0
  have qKC1 := KC.cell 1
  have qKC2 := KC.cell 2
  go_wp2_with fail
  refine (zmat_Mul _ _ m m m ys zs (2) (2) _ hB hC hm hm hm HY.out HZ.out (by omega) (by omega)).mono ?_; rintro e w9 ⟨v9, rfl, h9, b9⟩
  clear qKB0 qKB1 qKB2 qKC0 qKC1 qKC2
  replace hA := hA.next b9
  replace hB := hB.next b9
  replace hC := hC.next b9
  replace KA := KA.next b9
  replace KB := KB.next b9
  replace KC := KC.next b9
  replace h5 := h5.next b9
  replace K5 := K5.next b9
  replace h7 := h7.next b9
  replace K7 := K7.next b9
  replace B0 := B0.trans (b9.mono B0.size)
  clear b9
  obtain ⟨bc, ebc⟩ : ∃ zz, zz = mulL m m m ys zs := ⟨_, rfl⟩
  have EBC := Lib.hid ebc
  unfold mulL at ebc
  rw [← ebc] at h9
  clear ebc
  have LBC := Lib.hid (show bc.length = m * m from by rw [EBC.out]; exact mulL_length _ _ _ _ _)
  replace h9 := h9.mono (Nat.mul_le_mul_right _ (show m ≤ 4 by have := FEW2.out.2.1; omega))
  obtain ⟨a9, k9, rfl⟩ := h9.agg
  obtain ⟨w10, e10, K9, b10, hs10⟩ := boxes1 w9 24 [.int .i64 m, .int .i64 m, .slice a9 bc.length k9]
  clear hs10
  replace hA := hA.next b10
  replace hB := hB.next b10
  replace hC := hC.next b10
  replace KA := KA.next b10
  replace KB := KB.next b10
  replace KC := KC.next b10
  replace h5 := h5.next b10
  replace K5 := K5.next b10
  replace h7 := h7.next b10
  replace K7 := K7.next b10
  replace h9 := h9.next b10
  replace B0 := B0.trans (b10.mono B0.size)
  clear b10
  go_upto_region 6 with (fail)
  rw [← e10]
  clear e10
  have qKA0 := KA.cell 0
  have qKA1 := KA.cell 1
  have qKA2 := KA.cell 2
  have qK90 := K9.cell 0
  have qK91 := K9.cell 1
  have qK92 := K9.cell 2
  go_wp2_with fail
  refine (zmat_Mul _ _ r m m xs bc (2) (4 * (2 + 2 + 1)) _ hA h9.mt hr hm hm HX.out LBC.out (by omega) (by omega)).mono ?_; rintro e w11 ⟨v11, rfl, h11, b11⟩
  clear qKA0 qKA1 qKA2 qK90 qK91 qK92
  replace hA := hA.next b11
  replace hB := hB.next b11
  replace hC := hC.next b11
  replace KA := KA.next b11
  replace KB := KB.next b11
  replace KC := KC.next b11
  replace h5 := h5.next b11
  replace K5 := K5.next b11
  replace h7 := h7.next b11
  replace K7 := K7.next b11
  replace h9 := h9.next b11
  replace K9 := K9.next b11
  replace B0 := B0.trans (b11.mono B0.size)
  clear b11
  obtain ⟨y, ey⟩ : ∃ zz, zz = mulL r m m xs bc := ⟨_, rfl⟩
  have EY := Lib.hid ey
  unfold mulL at ey
  rw [← ey] at h11
  clear ey
  have LY := Lib.hid (show y.length = r * m from by rw [EY.out]; exact mulL_length _ _ _ _ _)
  replace h11 := h11.mono (Nat.mul_le_mul_right _ (show m ≤ 4 by have := FEW1.out.2.1; omega))
  obtain ⟨a11, k11, rfl⟩ := h11.agg
  obtain ⟨w12, e12, K11, b12, hs12⟩ := boxes1 w11 24 [.int .i64 r, .int .i64 m, .slice a11 y.length k11]
  clear hs12
  replace hA := hA.next b12
  replace hB := hB.next b12
  replace hC := hC.next b12
  replace KA := KA.next b12
  replace KB := KB.next b12
  replace KC := KC.next b12
  replace h5 := h5.next b12
  replace K5 := K5.next b12
  replace h7 := h7.next b12
  replace K7 := K7.next b12
  replace h9 := h9.next b12
  replace K9 := K9.next b12
  replace h11 := h11.next b12
  replace B0 := B0.trans (b12.mono B0.size)
  clear b12
  go_upto_region 7 with (fail)
  rw [← e12]
  clear e12
  have qK70 := K7.cell 0
  have qK71 := K7.cell 1
  have qK72 := K7.cell 2
  have qK110 := K11.cell 0
  have qK111 := K11.cell 1
  have qK112 := K11.cell 2
  go_wp2_with fail
  refine (zmat_Same _ _ r m r m x y (4 * (4 * (2 + 2 + 1) + 2 + 1)) (4 * (2 + 4 * (2 + 2 + 1) + 1)) _ h7.mt h11.mt (by omega) (by omega) true ⟨fun _ => ⟨⟨Fm.of hr hm LX.out, Fm.of hr hm LY.out, rfl, rfl⟩, by rw [EX.out, EY.out, EAB.out, EBC.out]; exact mulL_assoc _ _ _ _ _ _ _⟩, fun _ => rfl⟩).mono ?_; rintro e w13 ⟨rfl, b13⟩
  clear qK70 qK71 qK72 qK110 qK111 qK112
  replace hA := hA.next b13
  replace hB := hB.next b13
  replace hC := hC.next b13
  replace KA := KA.next b13
  replace KB := KB.next b13
  replace KC := KC.next b13
  replace h5 := h5.next b13
  replace K5 := K5.next b13
  replace h7 := h7.next b13
  replace K7 := K7.next b13
  replace h9 := h9.next b13
  replace K9 := K9.next b13
  replace h11 := h11.next b13
  replace K11 := K11.next b13
  replace B0 := B0.trans (b13.mono B0.size)
  clear b13
  go_upto_region 9 with (fail)
  have qKB0 := KB.cell 0
  have qKB1 := KB.cell 1
  have qKB2 := KB.cell 2
  have qKC0 := KC.cell 0
  have qKC1 := KC.cell 1
  have qKC2 := KC.cell 2
  go_wp2_with fail
  refine (zmat_Add _ _ m m ys zs (2) (2) _ hB hC hm hm HY.out HZ.out (by omega) (by omega)).mono ?_; rintro e w14 ⟨v14, rfl, h14, b14⟩
  clear qKB0 qKB1 qKB2 qKC0 qKC1 qKC2
  replace hA := hA.next b14
  replace hB := hB.next b14
  replace hC := hC.next b14
  replace KA := KA.next b14
  replace KB := KB.next b14
  replace KC := KC.next b14
  replace h5 := h5.next b14
  replace K5 := K5.next b14
  replace h7 := h7.next b14
  replace K7 := K7.next b14
  replace h9 := h9.next b14
  replace K9 := K9.next b14
  replace h11 := h11.next b14
  replace K11 := K11.next b14
  replace B0 := B0.trans (b14.mono B0.size)
  clear b14
  obtain ⟨s, es⟩ : ∃ zz, zz = addL m m ys zs := ⟨_, rfl⟩
  have ES := Lib.hid es
  unfold addL at es
  rw [← es] at h14
  clear es
  have LS := Lib.hid (show s.length = m * m from by rw [ES.out]; exact addL_length _ _ _ _)
  obtain ⟨a14, k14, rfl⟩ := h14.agg
  obtain ⟨w15, e15, K14, b15, hs15⟩ := boxes1 w14 24 [.int .i64 m, .int .i64 m, .slice a14 s.length k14]
  clear hs15
  replace hA := hA.next b15
  replace hB := hB.next b15
  replace hC := hC.next b15
  replace KA := KA.next b15
  replace KB := KB.next b15
  replace KC := KC.next b15
  replace h5 := h5.next b15
  replace K5 := K5.next b15
  replace h7 := h7.next b15
  replace K7 := K7.next b15
  replace h9 := h9.next b15
  replace K9 := K9.next b15
  replace h11 := h11.next b15
  replace K11 := K11.next b15
  replace h14 := h14.next b15
  replace B0 := B0.trans (b15.mono B0.size)
  clear b15
  go_upto_region 10 with (fail)
  rw [← e15]
  clear e15
  have qKA0 := KA.cell 0
  have qKA1 := KA.cell 1
  have qKA2 := KA.cell 2
  have qK140 := K14.cell 0
  have qK141 := K14.cell 1
  have qK142 := K14.cell 2
  go_wp2_with fail
  refine (zmat_Mul _ _ r m m xs s (2) (2 + 2 + 1) _ hA h14.mt hr hm hm HX.out LS.out (by omega) (by omega)).mono ?_; rintro e w16 ⟨v16, rfl, h16, b16⟩
  clear qKA0 qKA1 qKA2 qK140 qK141 qK142
  replace hA := hA.next b16
  replace hB := hB.next b16
  replace hC := hC.next b16
  replace KA := KA.next b16
  replace KB := KB.next b16
  replace KC := KC.next b16
  replace h5 := h5.next b16
  replace K5 := K5.next b16
  replace h7 := h7.next b16
  replace K7 := K7.next b16
  replace h9 := h9.next b16
  replace K9 := K9.next b16
  replace h11 := h11.next b16
  replace K11 := K11.next b16
  replace h14 := h14.next b16
  replace K14 := K14.next b16
  replace B0 := B0.trans (b16.mono B0.size)
  clear b16
  obtain ⟨p, ep⟩ : ∃ zz, zz = mulL r m m xs s := ⟨_, rfl⟩
  have EP := Lib.hid ep
  unfold mulL at ep
  rw [← ep] at h16
  clear ep
  have LP := Lib.hid (show p.length = r * m from by rw [EP.out]; exact mulL_length _ _ _ _ _)
  replace h16 := h16.mono (Nat.mul_le_mul_right _ (show m ≤ 4 by have := FEW1.out.2.1; omega))
  obtain ⟨a16, k16, rfl⟩ := h16.agg
  obtain ⟨w17, e17, K16, b17, hs17⟩ := boxes1 w16 24 [.int .i64 r, .int .i64 m, .slice a16 p.length k16]
  clear hs17
  replace hA := hA.next b17
  replace hB := hB.next b17
  replace hC := hC.next b17
  replace KA := KA.next b17
  replace KB := KB.next b17
  replace KC := KC.next b17
  replace h5 := h5.next b17
  replace K5 := K5.next b17
  replace h7 := h7.next b17
  replace K7 := K7.next b17
  replace h9 := h9.next b17
  replace K9 := K9.next b17
  replace h11 := h11.next b17
  replace K11 := K11.next b17
  replace h14 := h14.next b17
  replace K14 := K14.next b17
  replace h16 := h16.next b17
  replace B0 := B0.trans (b17.mono B0.size)
  clear b17
  go_upto_region 11 with (fail)
  rw [← e17]
  clear e17
  have qKA0 := KA.cell 0
  have qKA1 := KA.cell 1
  have qKA2 := KA.cell 2
  have qKC0 := KC.cell 0
  have qKC1 := KC.cell 1
  have qKC2 := KC.cell 2
  go_wp2_with fail
  refine (zmat_Mul _ _ r m m xs zs (2) (2) _ hA hC hr hm hm HX.out HZ.out (by omega) (by omega)).mono ?_; rintro e w18 ⟨v18, rfl, h18, b18⟩
  clear qKA0 qKA1 qKA2 qKC0 qKC1 qKC2
  replace hA := hA.next b18
  replace hB := hB.next b18
  replace hC := hC.next b18
  replace KA := KA.next b18
  replace KB := KB.next b18
  replace KC := KC.next b18
  replace h5 := h5.next b18
  replace K5 := K5.next b18
  replace h7 := h7.next b18
  replace K7 := K7.next b18
  replace h9 := h9.next b18
  replace K9 := K9.next b18
  replace h11 := h11.next b18
  replace K11 := K11.next b18
  replace h14 := h14.next b18
  replace K14 := K14.next b18
  replace h16 := h16.next b18
  replace K16 := K16.next b18
  replace B0 := B0.trans (b18.mono B0.size)
  clear b18
  obtain ⟨ac, eac⟩ : ∃ zz, zz = mulL r m m xs zs := ⟨_, rfl⟩
  have EAC := Lib.hid eac
  unfold mulL at eac
  rw [← eac] at h18
  clear eac
  have LAC := Lib.hid (show ac.length = r * m from by rw [EAC.out]; exact mulL_length _ _ _ _ _)
  replace h18 := h18.mono (Nat.mul_le_mul_right _ (show m ≤ 4 by have := FEW1.out.2.1; omega))
  obtain ⟨a18, k18, rfl⟩ := h18.agg
  obtain ⟨w19, e19, K18, b19, hs19⟩ := boxes1 w18 24 [.int .i64 r, .int .i64 m, .slice a18 ac.length k18]
  clear hs19
  replace hA := hA.next b19
  replace hB := hB.next b19
  replace hC := hC.next b19
  replace KA := KA.next b19
  replace KB := KB.next b19
  replace KC := KC.next b19
  replace h5 := h5.next b19
  replace K5 := K5.next b19
  replace h7 := h7.next b19
  replace K7 := K7.next b19
  replace h9 := h9.next b19
  replace K9 := K9.next b19
  replace h11 := h11.next b19
  replace K11 := K11.next b19
  replace h14 := h14.next b19
  replace K14 := K14.next b19
  replace h16 := h16.next b19
  replace K16 := K16.next b19
  replace h18 := h18.next b19
  replace B0 := B0.trans (b19.mono B0.size)
  clear b19
  go_upto_region 12 with (fail)
  rw [← e19]
  clear e19
  have qK50 := K5.cell 0
  have qK51 := K5.cell 1
  have qK52 := K5.cell 2
  have qK180 := K18.cell 0
  have qK181 := K18.cell 1
  have qK182 := K18.cell 2
  go_wp2_with fail
  refine (zmat_Add _ _ r m ab ac (4 * (2 + 2 + 1)) (4 * (2 + 2 + 1)) _ h5.mt h18.mt hr hm LAB.out LAC.out (by omega) (by omega)).mono ?_; rintro e w20 ⟨v20, rfl, h20, b20⟩
  clear qK50 qK51 qK52 qK180 qK181 qK182
  replace hA := hA.next b20
  replace hB := hB.next b20
  replace hC := hC.next b20
  replace KA := KA.next b20
  replace KB := KB.next b20
  replace KC := KC.next b20
  replace h5 := h5.next b20
  replace K5 := K5.next b20
  replace h7 := h7.next b20
  replace K7 := K7.next b20
  replace h9 := h9.next b20
  replace K9 := K9.next b20
  replace h11 := h11.next b20
  replace K11 := K11.next b20
  replace h14 := h14.next b20
  replace K14 := K14.next b20
  replace h16 := h16.next b20
  replace K16 := K16.next b20
  replace h18 := h18.next b20
  replace K18 := K18.next b20
  replace B0 := B0.trans (b20.mono B0.size)
  clear b20
  obtain ⟨q, eq⟩ : ∃ zz, zz = addL r m ab ac := ⟨_, rfl⟩
  have EQ := Lib.hid eq
  unfold addL at eq
  rw [← eq] at h20
  clear eq
  have LQ := Lib.hid (show q.length = r * m from by rw [EQ.out]; exact addL_length _ _ _ _)
  obtain ⟨a20, k20, rfl⟩ := h20.agg
  obtain ⟨w21, e21, K20, b21, hs21⟩ := boxes1 w20 24 [.int .i64 r, .int .i64 m, .slice a20 q.length k20]
  clear hs21
  replace hA := hA.next b21
  replace hB := hB.next b21
  replace hC := hC.next b21
  replace KA := KA.next b21
  replace KB := KB.next b21
  replace KC := KC.next b21
  replace h5 := h5.next b21
  replace K5 := K5.next b21
  replace h7 := h7.next b21
  replace K7 := K7.next b21
  replace h9 := h9.next b21
  replace K9 := K9.next b21
  replace h11 := h11.next b21
  replace K11 := K11.next b21
  replace h14 := h14.next b21
  replace K14 := K14.next b21
  replace h16 := h16.next b21
  replace K16 := K16.next b21
  replace h18 := h18.next b21
  replace K18 := K18.next b21
  replace h20 := h20.next b21
  replace B0 := B0.trans (b21.mono B0.size)
  clear b21
  go_upto_region 13 with (fail)
  rw [← e21]
  clear e21
  have qK160 := K16.cell 0
  have qK161 := K16.cell 1
  have qK162 := K16.cell 2
  have qK200 := K20.cell 0
  have qK201 := K20.cell 1
  have qK202 := K20.cell 2
  go_wp2_with fail
  refine (zmat_Same _ _ r m r m p q (4 * (2 + 2 + 2 + 1 + 1)) (4 * (2 + 2 + 1) + 4 * (2 + 2 + 1) + 1) _ h16.mt h20.mt (by omega) (by omega) true ⟨fun _ => ⟨⟨Fm.of hr hm LP.out, Fm.of hr hm LQ.out, rfl, rfl⟩, by rw [EP.out, EQ.out, EAB.out, EAC.out, ES.out]; exact mulL_add _ _ _ _ _ _⟩, fun _ => rfl⟩).mono ?_; rintro e w22 ⟨rfl, b22⟩
  clear qK160 qK161 qK162 qK200 qK201 qK202
  replace hA := hA.next b22
  replace hB := hB.next b22
  replace hC := hC.next b22
  replace KA := KA.next b22
  replace KB := KB.next b22
  replace KC := KC.next b22
  replace h5 := h5.next b22
  replace K5 := K5.next b22
  replace h7 := h7.next b22
  replace K7 := K7.next b22
  replace h9 := h9.next b22
  replace K9 := K9.next b22
  replace h11 := h11.next b22
  replace K11 := K11.next b22
  replace h14 := h14.next b22
  replace K14 := K14.next b22
  replace h16 := h16.next b22
  replace K16 := K16.next b22
  replace h18 := h18.next b22
  replace K18 := K18.next b22
  replace h20 := h20.next b22
  replace K20 := K20.next b22
  replace B0 := B0.trans (b22.mono B0.size)
  clear b22
  go_upto_region 17 with (fail)
  have qK50 := K5.cell 0
  have qK51 := K5.cell 1
  have qK52 := K5.cell 2
  go_wp2_with fail
  refine (zmat_Transpose _ r m ab (4 * (2 + 2 + 1)) _ h5.mt hr hm LAB.out (by omega)).mono ?_; rintro e w23 ⟨v23, rfl, h23, b23⟩
  clear qK50 qK51 qK52
  replace hA := hA.next b23
  replace hB := hB.next b23
  replace hC := hC.next b23
  replace KA := KA.next b23
  replace KB := KB.next b23
  replace KC := KC.next b23
  replace h5 := h5.next b23
  replace K5 := K5.next b23
  replace h7 := h7.next b23
  replace K7 := K7.next b23
  replace h9 := h9.next b23
  replace K9 := K9.next b23
  replace h11 := h11.next b23
  replace K11 := K11.next b23
  replace h14 := h14.next b23
  replace K14 := K14.next b23
  replace h16 := h16.next b23
  replace K16 := K16.next b23
  replace h18 := h18.next b23
  replace K18 := K18.next b23
  replace h20 := h20.next b23
  replace K20 := K20.next b23
  replace B0 := B0.trans (b23.mono B0.size)
  clear b23
  obtain ⟨tt, ett⟩ : ∃ zz, zz = trL r m ab := ⟨_, rfl⟩
  have ETT := Lib.hid ett
  unfold trL at ett
  rw [← ett] at h23
  clear ett
  have LTT := Lib.hid (show tt.length = m * r from by rw [ETT.out]; exact trL_length _ _ _)
  obtain ⟨a23, k23, rfl⟩ := h23.agg
  obtain ⟨w24, e24, K23, b24, hs24⟩ := boxes1 w23 24 [.int .i64 m, .int .i64 r, .slice a23 tt.length k23]
  clear hs24
  replace hA := hA.next b24
  replace hB := hB.next b24
  replace hC := hC.next b24
  replace KA := KA.next b24
  replace KB := KB.next b24
  replace KC := KC.next b24
  replace h5 := h5.next b24
  replace K5 := K5.next b24
  replace h7 := h7.next b24
  replace K7 := K7.next b24
  replace h9 := h9.next b24
  replace K9 := K9.next b24
  replace h11 := h11.next b24
  replace K11 := K11.next b24
  replace h14 := h14.next b24
  replace K14 := K14.next b24
  replace h16 := h16.next b24
  replace K16 := K16.next b24
  replace h18 := h18.next b24
  replace K18 := K18.next b24
  replace h20 := h20.next b24
  replace K20 := K20.next b24
  replace h23 := h23.next b24
  replace B0 := B0.trans (b24.mono B0.size)
  clear b24
  go_upto_region 18 with (fail)
  rw [← e24]
  clear e24
  have qKA0 := KA.cell 0
  have qKA1 := KA.cell 1
  have qKA2 := KA.cell 2
  go_wp2_with fail
  refine (zmat_Transpose _ r m xs (2) _ hA hr hm HX.out (by omega)).mono ?_; rintro e w25 ⟨v25, rfl, h25, b25⟩
  clear qKA0 qKA1 qKA2
  replace hA := hA.next b25
  replace hB := hB.next b25
  replace hC := hC.next b25
  replace KA := KA.next b25
  replace KB := KB.next b25
  replace KC := KC.next b25
  replace h5 := h5.next b25
  replace K5 := K5.next b25
  replace h7 := h7.next b25
  replace K7 := K7.next b25
  replace h9 := h9.next b25
  replace K9 := K9.next b25
  replace h11 := h11.next b25
  replace K11 := K11.next b25
  replace h14 := h14.next b25
  replace K14 := K14.next b25
  replace h16 := h16.next b25
  replace K16 := K16.next b25
  replace h18 := h18.next b25
  replace K18 := K18.next b25
  replace h20 := h20.next b25
  replace K20 := K20.next b25
  replace h23 := h23.next b25
  replace K23 := K23.next b25
  replace B0 := B0.trans (b25.mono B0.size)
  clear b25
  obtain ⟨u, eu⟩ : ∃ zz, zz = trL r m xs := ⟨_, rfl⟩
  have EU := Lib.hid eu
  unfold trL at eu
  rw [← eu] at h25
  clear eu
  have LU := Lib.hid (show u.length = m * r from by rw [EU.out]; exact trL_length _ _ _)
  obtain ⟨a25, k25, rfl⟩ := h25.agg
  obtain ⟨w26, e26, K25, b26, hs26⟩ := boxes1 w25 24 [.int .i64 m, .int .i64 r, .slice a25 u.length k25]
  clear hs26
  replace hA := hA.next b26
  replace hB := hB.next b26
  replace hC := hC.next b26
  replace KA := KA.next b26
  replace KB := KB.next b26
  replace KC := KC.next b26
  replace h5 := h5.next b26
  replace K5 := K5.next b26
  replace h7 := h7.next b26
  replace K7 := K7.next b26
  replace h9 := h9.next b26
  replace K9 := K9.next b26
  replace h11 := h11.next b26
  replace K11 := K11.next b26
  replace h14 := h14.next b26
  replace K14 := K14.next b26
  replace h16 := h16.next b26
  replace K16 := K16.next b26
  replace h18 := h18.next b26
  replace K18 := K18.next b26
  replace h20 := h20.next b26
  replace K20 := K20.next b26
  replace h23 := h23.next b26
  replace K23 := K23.next b26
  replace h25 := h25.next b26
  replace B0 := B0.trans (b26.mono B0.size)
  clear b26
  go_upto_region 19 with (fail)
  rw [← e26]
  clear e26
  have qKB0 := KB.cell 0
  have qKB1 := KB.cell 1
  have qKB2 := KB.cell 2
  go_wp2_with fail
  refine (zmat_Transpose _ m m ys (2) _ hB hm hm HY.out (by omega)).mono ?_; rintro e w27 ⟨v27, rfl, h27, b27⟩
  clear qKB0 qKB1 qKB2
  replace hA := hA.next b27
  replace hB := hB.next b27
  replace hC := hC.next b27
  replace KA := KA.next b27
  replace KB := KB.next b27
  replace KC := KC.next b27
  replace h5 := h5.next b27
  replace K5 := K5.next b27
  replace h7 := h7.next b27
  replace K7 := K7.next b27
  replace h9 := h9.next b27
  replace K9 := K9.next b27
  replace h11 := h11.next b27
  replace K11 := K11.next b27
  replace h14 := h14.next b27
  replace K14 := K14.next b27
  replace h16 := h16.next b27
  replace K16 := K16.next b27
  replace h18 := h18.next b27
  replace K18 := K18.next b27
  replace h20 := h20.next b27
  replace K20 := K20.next b27
  replace h23 := h23.next b27
  replace K23 := K23.next b27
  replace h25 := h25.next b27
  replace K25 := K25.next b27
  replace B0 := B0.trans (b27.mono B0.size)
  clear b27
  obtain ⟨v, ev⟩ : ∃ zz, zz = trL m m ys := ⟨_, rfl⟩
  have EV := Lib.hid ev
  unfold trL at ev
  rw [← ev] at h27
  clear ev
  have LV := Lib.hid (show v.length = m * m from by rw [EV.out]; exact trL_length _ _ _)
  obtain ⟨a27, k27, rfl⟩ := h27.agg
  obtain ⟨w28, e28, K27, b28, hs28⟩ := boxes1 w27 24 [.int .i64 m, .int .i64 m, .slice a27 v.length k27]
  clear hs28
  replace hA := hA.next b28
  replace hB := hB.next b28
  replace hC := hC.next b28
  replace KA := KA.next b28
  replace KB := KB.next b28
  replace KC := KC.next b28
  replace h5 := h5.next b28
  replace K5 := K5.next b28
  replace h7 := h7.next b28
  replace K7 := K7.next b28
  replace h9 := h9.next b28
  replace K9 := K9.next b28
  replace h11 := h11.next b28
  replace K11 := K11.next b28
  replace h14 := h14.next b28
  replace K14 := K14.next b28
  replace h16 := h16.next b28
  replace K16 := K16.next b28
  replace h18 := h18.next b28
  replace K18 := K18.next b28
  replace h20 := h20.next b28
  replace K20 := K20.next b28
  replace h23 := h23.next b28
  replace K23 := K23.next b28
  replace h25 := h25.next b28
  replace K25 := K25.next b28
  replace h27 := h27.next b28
  replace B0 := B0.trans (b28.mono B0.size)
  clear b28
  go_upto_region 20 with (fail)
  rw [← e28]
  clear e28
  have qK270 := K27.cell 0
  have qK271 := K27.cell 1
  have qK272 := K27.cell 2
  have qK250 := K25.cell 0
  have qK251 := K25.cell 1
  have qK252 := K25.cell 2
  go_wp2_with fail
  refine (zmat_Mul _ _ m m r v u (2) (2) _ h27.mt h25.mt hm hm hr LV.out LU.out (by omega) (by omega)).mono ?_; rintro e w29 ⟨v29, rfl, h29, b29⟩
  clear qK270 qK271 qK272 qK250 qK251 qK252
  replace hA := hA.next b29
  replace hB := hB.next b29
  replace hC := hC.next b29
  replace KA := KA.next b29
  replace KB := KB.next b29
  replace KC := KC.next b29
  replace h5 := h5.next b29
  replace K5 := K5.next b29
  replace h7 := h7.next b29
  replace K7 := K7.next b29
  replace h9 := h9.next b29
  replace K9 := K9.next b29
  replace h11 := h11.next b29
  replace K11 := K11.next b29
  replace h14 := h14.next b29
  replace K14 := K14.next b29
  replace h16 := h16.next b29
  replace K16 := K16.next b29
  replace h18 := h18.next b29
  replace K18 := K18.next b29
  replace h20 := h20.next b29
  replace K20 := K20.next b29
  replace h23 := h23.next b29
  replace K23 := K23.next b29
  replace h25 := h25.next b29
  replace K25 := K25.next b29
  replace h27 := h27.next b29
  replace K27 := K27.next b29
  replace B0 := B0.trans (b29.mono B0.size)
  clear b29
  obtain ⟨ww, eww⟩ : ∃ zz, zz = mulL m m r v u := ⟨_, rfl⟩
  have EWW := Lib.hid eww
  unfold mulL at eww
  rw [← eww] at h29
  clear eww
  have LWW := Lib.hid (show ww.length = m * r from by rw [EWW.out]; exact mulL_length _ _ _ _ _)
  replace h29 := h29.mono (Nat.mul_le_mul_right _ (show m ≤ 4 by have := FEW1.out.2.1; omega))
  obtain ⟨a29, k29, rfl⟩ := h29.agg
  obtain ⟨w30, e30, K29, b30, hs30⟩ := boxes1 w29 24 [.int .i64 m, .int .i64 r, .slice a29 ww.length k29]
  clear hs30
  replace hA := hA.next b30
  replace hB := hB.next b30
  replace hC := hC.next b30
  replace KA := KA.next b30
  replace KB := KB.next b30
  replace KC := KC.next b30
  replace h5 := h5.next b30
  replace K5 := K5.next b30
  replace h7 := h7.next b30
  replace K7 := K7.next b30
  replace h9 := h9.next b30
  replace K9 := K9.next b30
  replace h11 := h11.next b30
  replace K11 := K11.next b30
  replace h14 := h14.next b30
  replace K14 := K14.next b30
  replace h16 := h16.next b30
  replace K16 := K16.next b30
  replace h18 := h18.next b30
  replace K18 := K18.next b30
  replace h20 := h20.next b30
  replace K20 := K20.next b30
  replace h23 := h23.next b30
  replace K23 := K23.next b30
  replace h25 := h25.next b30
  replace K25 := K25.next b30
  replace h27 := h27.next b30
  replace K27 := K27.next b30
  replace h29 := h29.next b30
  replace B0 := B0.trans (b30.mono B0.size)
  clear b30
  go_upto_region 21 with (fail)
  rw [← e30]
  clear e30
  have qK230 := K23.cell 0
  have qK231 := K23.cell 1
  have qK232 := K23.cell 2
  have qK290 := K29.cell 0
  have qK291 := K29.cell 1
  have qK292 := K29.cell 2
  go_wp2_with fail
  refine (zmat_Same _ _ m r m r tt ww (4 * (2 + 2 + 1)) (4 * (2 + 2 + 1)) _ h23.mt h29.mt (by omega) (by omega) true ⟨fun _ => ⟨⟨Fm.of hm hr LTT.out, Fm.of hm hr LWW.out, rfl, rfl⟩, by rw [ETT.out, EWW.out, EU.out, EV.out, EAB.out]; exact trL_mul _ _ _ _ _⟩, fun _ => rfl⟩).mono ?_; rintro e w31 ⟨rfl, b31⟩
  clear qK230 qK231 qK232 qK290 qK291 qK292
  replace hA := hA.next b31
  replace hB := hB.next b31
  replace hC := hC.next b31
  replace KA := KA.next b31
  replace KB := KB.next b31
  replace KC := KC.next b31
  replace h5 := h5.next b31
  replace K5 := K5.next b31
  replace h7 := h7.next b31
  replace K7 := K7.next b31
  replace h9 := h9.next b31
  replace K9 := K9.next b31
  replace h11 := h11.next b31
  replace K11 := K11.next b31
  replace h14 := h14.next b31
  replace K14 := K14.next b31
  replace h16 := h16.next b31
  replace K16 := K16.next b31
  replace h18 := h18.next b31
  replace K18 := K18.next b31
  replace h20 := h20.next b31
  replace K20 := K20.next b31
  replace h23 := h23.next b31
  replace K23 := K23.next b31
  replace h25 := h25.next b31
  replace K25 := K25.next b31
  replace h27 := h27.next b31
  replace K27 := K27.next b31
  replace h29 := h29.next b31
  replace K29 := K29.next b31
  replace B0 := B0.trans (b31.mono B0.size)
  clear b31
  go_wp2
  go_ret
  exact ⟨rfl, B0⟩

theorem walk (a : Value) (R1 C1 : Int) (ps : List (Bool × List Nat)) (b : Value) (R2 C2 : Int) (qs : List (Bool × List Nat)) (c : Value) (R3 C3 : Int) (ts : List (Bool × List Nat)) (w : World) (mA : Mw w a R1 C1 ps) (mB : Mw w b R2 C2 qs) (mC : Mw w c R3 C3 ts) :
    Calls Try.prog 5 #[a, b, c] w (LawOk w) := by
  by_cases f1 : Fx R1 C1 ps 4 2
  rotate_left
  · exact not_few1 a b c R1 C1 R2 C2 R3 C3 ps qs ts w mA mB mC f1
  by_cases f2 : Fx R2 C2 qs 4 2
  rotate_left
  · exact not_few2 a b c R1 C1 R2 C2 R3 C3 ps qs ts w mA mB mC f1 f2
  by_cases f3 : Fx R3 C3 ts 4 2
  rotate_left
  · exact not_few3 a b c R1 C1 R2 C2 R3 C3 ps qs ts w mA mB mC f1 f2 f3
  have hA := mA.mt (L := 2) f1.2.2.all
  have hB := mB.mt (L := 2) f2.2.2.all
  have hC := mC.mt (L := 2) f3.2.2.all
  by_cases he : Fm R1 C1 (ps.map pv).length ∧ Fm R2 C2 (qs.map pv).length ∧ C1 = R2
  · obtain ⟨h1, h2, rfl⟩ := he
    obtain ⟨r, m, rfl, rfl, hr, hm, hx⟩ := h1.nat
    obtain ⟨m', k, e, rfl, -, hk, hy⟩ := h2.nat
    obtain rfl : m = m' := by omega
    by_cases hg : Fm m k (qs.map pv).length ∧ Fm R3 C3 (ts.map pv).length ∧ (k : Int) = R3
    · obtain ⟨-, h3, h4⟩ := hg
      obtain ⟨k', n, e2, rfl, -, hn, hz⟩ := h3.nat
      subst e2
      obtain rfl : k = k' := by omega
      by_cases hi : Al m k k n (qs.map pv).length (ts.map pv).length
      · obtain ⟨-, -, h5, h6⟩ := hi
        obtain rfl : m = k := by omega
        obtain rfl : m = n := by omega
        exact walk_yyy a b c r m ps qs ts _ _ _ w mA mB mC f1 f2 f3 hA hB hC hr hm hx hy hz
      · exact walk_yyn a b c r m k n ps qs ts _ _ _ w mA mB mC f1 f2 f3 hA hB hC hr hm hk hn hx hy hz hi
    · by_cases hi : Al m k R3 C3 (qs.map pv).length (ts.map pv).length
      · obtain ⟨-, h3, rfl, rfl⟩ := hi
        obtain ⟨m', k', e2, e3, -, -, hz⟩ := h3.nat
        obtain rfl : m = m' := by omega
        obtain rfl : k = k' := by omega
        exact walk_yny a b c r m k ps qs ts _ _ _ w mA mB mC f1 f2 f3 hA hB hC hr hm hk hx hy hz hg
      · exact walk_ynn a b c R3 C3 r m k ps qs ts _ _ _ w mA mB mC f1 f2 f3 hA hB hC hr hm hk hx hy hg hi
  · by_cases hi : Al R2 C2 R3 C3 (qs.map pv).length (ts.map pv).length
    · obtain ⟨h2, h3, rfl, rfl⟩ := hi
      obtain ⟨m, k, rfl, rfl, hm, hk, hy⟩ := h2.nat
      obtain ⟨m', k', e2, e3, -, -, hz⟩ := h3.nat
      obtain rfl : m = m' := by omega
      obtain rfl : k = k' := by omega
      exact walk_nny a b c R1 C1 m k ps qs ts _ _ _ w mA mB mC f1 f2 f3 hA hB hC hm hk hy hz he
    · exact walk_nnn a b c R1 C1 R2 C2 R3 C3 ps qs ts _ _ _ w mA mB mC f1 f2 f3 hA hB hC he hi


set_option maxRecDepth 100000 in
theorem lifted (os : Os) (started : os.Started) (H : Type) (enc : TypeId × Value → H) :
    ReturnsInHanded {} Try.checked os 5 .any (Rows.matRingSpec.pre6 enc Try.prog Try.f5 Rows.matRingRow.domain false) (Rows.matRingSpec.post enc Try.prog Try.f5 false true false false) := by
  refine returnsInHanded_of_change (C := Try.checked) own started (by kernel_rfl) Try.func5
    (ChangeSpec.witness6 (enc := enc) (C := Try.checked) false ⟨#[], #[.agg #[.int .i64 0, .int .i64 0, .slice none 0 0], .agg #[.int .i64 0, .int .i64 0, .slice none 0 0], .agg #[.int .i64 0, .int .i64 0, .slice none 0 0]], []⟩ 8 (by kernel_rfl) (by kernel_rfl) (by kernel_rfl) (by kernel_rfl)) ?_
  intro W base args ds gs before hval0 hW hcnd _
  have hval : ∀ (j : Nat) t v, Try.f5.params[j]? = some t → args[j]? = some v → Value.okWide Try.prog W .any base t v := hval0
  have hW' := hW
  obtain ⟨p, q, hA0, hV, rfl, hfz, hnd⟩ := hW
  have hA : DataW.TrodAll enc Try.prog W 0 (fun _ => true) true Try.f5.params.toList args.toList ds p := hA0
  rw [Try.params5] at hA hval
  obtain ⟨v0, vs0, d0, ds0, p0, q0, hargs, rfl, rfl, h0, r0⟩ := trodAll_cons hA
  obtain ⟨v1, vs1, d1, ds1, p1, q1, rfl, rfl, rfl, h1, r1⟩ := trodAll_cons r0
  obtain ⟨v2, vs2, d2, ds2, p2, q2, rfl, rfl, rfl, h2, r2⟩ := trodAll_cons r1
  obtain ⟨rfl, rfl, rfl⟩ := trodAll_nil r2
  obtain rfl : args = #[v0, v1, v2] := by cases args; simp_all
  obtain ⟨rfl, rfl⟩ := trodVars_none hV
  have k0 := h0
  have lt0 : ∀ x ∈ p0, x.block < W.heap.size := by obtain ⟨m, hm⟩ := k0; exact DataW.trod_lt m _ _ _ hm
  obtain ⟨R0, C0, ps0, m0, rb0, cb0⟩ := open_mat (hval 0 24 v0 rfl rfl) h0
  have k1 := h1
  have lt1 : ∀ x ∈ p1, x.block < W.heap.size := by obtain ⟨m, hm⟩ := k1; exact DataW.trod_lt m _ _ _ hm
  obtain ⟨R1, C1, ps1, m1, rb1, cb1⟩ := open_mat (hval 1 24 v1 rfl rfl) h1
  have k2 := h2
  have lt2 : ∀ x ∈ p2, x.block < W.heap.size := by obtain ⟨m, hm⟩ := k2; exact DataW.trod_lt m _ _ _ hm
  obtain ⟨R2, C2, ps2, m2, rb2, cb2⟩ := open_mat (hval 2 24 v2 rfl rfl) h2
  clear hA0 hval0
  refine (walk v0 R0 C0 ps0 v1 R1 C1 ps1 v2 R2 C2 ps2 W m0 m1 m2).mono fun e W' ⟨he, bel⟩ => ?_
  subst he
  exact ⟨_, rfl, _, _, _, [], _, [], hW', trodAll_mk1 (shut_bool Try.underlying4 _), (trodAll_cons_mk (Below.trod laidOut (by kernel_rfl) (of_decide_eq_true (by kernel_rfl)) k0 bel lt0) (trodAll_cons_mk (Below.trod laidOut (by kernel_rfl) (of_decide_eq_true (by kernel_rfl)) k1 bel lt1) (trodAll_cons_mk (Below.trod laidOut (by kernel_rfl) (of_decide_eq_true (by kernel_rfl)) k2 bel lt2) trodAll_mk0))), rfl, bel.frame _, fun h => by cases h⟩

theorem over : Rows.matRingRow.holds Try.pinned (OpenSpec.ofChange Rows.matRingSpec) :=
  OpenClaim.holds_of_wide 5 Try.f5 rfl rfl rfl rfl rfl rfl rfl ⟨rfl, rfl, rfl, rfl, rfl⟩ rfl rfl rfl rfl rfl (by kernel_rfl) Try.func5 (by kernel_rfl)
    (of_decide_eq_true (by kernel_rfl)) (by unfold Func.isWrapper; first | (rw [if_pos (by decide +kernel)]; kernel_rfl) | (rw [if_neg (by decide +kernel)]; exact ⟨rfl, rfl⟩))
    (fun os started H enc _ => lifted os started H enc)

theorem proved : Rows.MatRingSaid := over
#print axioms proved
end Go.Proofs.Ytpfonckdejjfnaa.matRing
