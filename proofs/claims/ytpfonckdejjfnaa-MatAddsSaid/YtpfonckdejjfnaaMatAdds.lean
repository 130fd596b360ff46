/- MatAdds: whatever the two matrices, formed or not, and the number, the law returns true: the sum, the difference and the multiple are those that the chapter says, or none. No condition. -/
import Derived.Test.YtpfonckdejjfnaaRows
import Derived.Test.YtpfonckdejjfnaaZthree
namespace Go.Proofs.Ytpfonckdejjfnaa.matAdds
open Go.ChangeShapes Go.WideShapes Go.ChangeAt Go.RowKit
open Go.ChangeMaps (open_string shut_string)

theorem own : ownKnob Try.prog.godebug = none := by kernel_rfl
theorem laidOut : laidOutB Try.prog = true := by kernel_rfl


/-- The first values of a function. -/
def pre (f : Nat → Int) (n : Nat) : List Int := (List.range n).map f
theorem pre_length (f : Nat → Int) (n : Nat) : (pre f n).length = n := by simp [pre]
theorem pre_succ (f : Nat → Int) (n : Nat) : pre f (n + 1) = pre f n ++ [f n] := by simp [pre, List.range_succ]
theorem tab_pre (f : Nat → Int) (c n : Nat) : tab c (fun i k => f (i * c + k)) n = pre f n := by
  unfold tab pre
  refine List.map_congr_left fun j _ => ?_
  have := Nat.div_add_mod j c
  rw [Nat.mul_comm] at this
  simp only [this]

set_option maxRecDepth 20000 in
set_option maxHeartbeats 2000000 in
theorem not_few (a b : Value) (R1 C1 R2 C2 : Int) (ps qs : List (Bool × List Nat)) (sc : Bool) (uc : Value) (us : List Nat) (w : World) (mA : Mw w a R1 C1 ps) (mB : Mw w b R2 C2 qs) (hu : Sl .u64 w uc us) (hfew : ¬ (Fx R1 C1 ps 6 3 ∧ Fx R2 C2 qs 6 3)) :
    Calls Try.prog 4 #[a, b, .agg #[.bool sc, uc]] w (LawOk w) := by
  obtain ⟨ao, ca, rfl⟩ := mA.agg
  obtain ⟨bo, cb, rfl⟩ := mB.agg
  obtain ⟨co, bc, oc, cc, rfl, hccap, hccs⟩ := hu
  have hu : Sl .u64 w (.slice co us.length cc) us := ⟨co, bc, oc, cc, rfl, hccap, hccs⟩
  clear hccap hccs
  obtain ⟨wb, ew, KA, KB, KC, B0, hsz⟩ := boxes2 w 24 24 36 [.int .i64 R1, .int .i64 C1, .slice ao ps.length ca] [.int .i64 R2, .int .i64 C2, .slice bo qs.length cb] [.bool sc, .slice co us.length cc]
  clear hsz
  clear hu
  replace mA := mA.next B0
  replace mB := mB.next B0
  have FEW := Lib.hid hfew; clear hfew
  go_enter Try.func4, Try.ntmps4
  go_upto_region 1 with (fail)
  rw [← ew]
  clear ew
  go_wp2_with fail
  refine (law11_awake _).mono ?_; rintro e w1 ⟨rfl, b1⟩
  replace mA := mA.next b1
  replace mB := mB.next b1
  replace KA := KA.next b1
  replace KB := KB.next b1
  replace KC := KC.next b1
  replace B0 := B0.trans (b1.mono B0.size)
  clear b1
  have qKA0 := KA.cell 0
  have qKA1 := KA.cell 1
  have qKA2 := KA.cell 2
  have qKB0 := KB.cell 0
  have qKB1 := KB.cell 1
  have qKB2 := KB.cell 2
  go_wp2_with fail
  refine (law11_few _ _ _ _ _ _ _ _ false ⟨fun h => (by cases h), fun h => absurd h FEW.out⟩ _ mA mB).mono ?_; rintro e w2 ⟨rfl, b2⟩
  clear qKA0 qKA1 qKA2 qKB0 qKB1 qKB2
  replace mA := mA.next b2
  replace mB := mB.next b2
  replace KA := KA.next b2
  replace KB := KB.next b2
  replace KC := KC.next b2
  replace B0 := B0.trans (b2.mono B0.size)
  clear b2
  clear FEW mA mB
  go_wp2_with fail
  refine (law11_awake _).mono ?_; rintro e w3 ⟨rfl, b3⟩
  replace KA := KA.next b3
  replace KB := KB.next b3
  replace KC := KC.next b3
  replace B0 := B0.trans (b3.mono B0.size)
  clear b3
  go_wp2
  go_ret
  exact ⟨rfl, B0⟩

set_option maxRecDepth 20000 in
set_option maxHeartbeats 2000000 in
theorem long (a b : Value) (R1 C1 R2 C2 : Int) (ps qs : List (Bool × List Nat)) (sc : Bool) (uc : Value) (us : List Nat) (w : World) (mA : Mw w a R1 C1 ps) (mB : Mw w b R2 C2 qs) (hu : Sl .u64 w uc us) (hfew : Fx R1 C1 ps 6 3 ∧ Fx R2 C2 qs 6 3) (hlong : 3 < us.length) :
    Calls Try.prog 4 #[a, b, .agg #[.bool sc, uc]] w (LawOk w) := by
  obtain ⟨ao, ca, rfl⟩ := mA.agg
  obtain ⟨bo, cb, rfl⟩ := mB.agg
  obtain ⟨co, bc, oc, cc, rfl, hccap, hccs⟩ := hu
  have hu : Sl .u64 w (.slice co us.length cc) us := ⟨co, bc, oc, cc, rfl, hccap, hccs⟩
  clear hccap hccs
  obtain ⟨wb, ew, KA, KB, KC, B0, hsz⟩ := boxes2 w 24 24 36 [.int .i64 R1, .int .i64 C1, .slice ao ps.length ca] [.int .i64 R2, .int .i64 C2, .slice bo qs.length cb] [.bool sc, .slice co us.length cc]
  clear hsz
  clear hu
  have hl3 : decide (((us.length : Nat) : Int) > 3) = true := decide_eq_true (by omega)
  replace mA := mA.next B0
  replace mB := mB.next B0
  have FEW := Lib.hid hfew; clear hfew
  go_enter Try.func4, Try.ntmps4
  go_upto_region 1 with (fail)
  rw [← ew]
  clear ew
  go_wp2_with fail
  refine (law11_awake _).mono ?_; rintro e w1 ⟨rfl, b1⟩
  replace mA := mA.next b1
  replace mB := mB.next b1
  replace KA := KA.next b1
  replace KB := KB.next b1
  replace KC := KC.next b1
  replace B0 := B0.trans (b1.mono B0.size)
  clear b1
  have qKA0 := KA.cell 0
  have qKA1 := KA.cell 1
  have qKA2 := KA.cell 2
  have qKB0 := KB.cell 0
  have qKB1 := KB.cell 1
  have qKB2 := KB.cell 2
  go_wp2_with fail
  refine (law11_few _ _ _ _ _ _ _ _ true ⟨fun _ => FEW.out, fun _ => rfl⟩ _ mA mB).mono ?_; rintro e w2 ⟨rfl, b2⟩
  clear qKA0 qKA1 qKA2 qKB0 qKB1 qKB2
  replace mA := mA.next b2
  replace mB := mB.next b2
  replace KA := KA.next b2
  replace KB := KB.next b2
  replace KC := KC.next b2
  replace B0 := B0.trans (b2.mono B0.size)
  clear b2
  have qKC1 := KC.cell 1
  clear FEW mA mB
  go_wp2_with fail
  refine (law11_awake _).mono ?_; rintro e w3 ⟨rfl, b3⟩
  clear qKC1
  replace KA := KA.next b3
  replace KB := KB.next b3
  replace KC := KC.next b3
  replace B0 := B0.trans (b3.mono B0.size)
  clear b3
  go_wp2
  go_ret
  exact ⟨rfl, B0⟩

set_option maxRecDepth 20000 in
set_option maxHeartbeats 2000000 in
theorem not_formed (a b : Value) (R1 C1 R2 C2 : Int) (ps qs : List (Bool × List Nat)) (xs ys : List Int) (sc : Bool) (uc : Value) (us : List Nat) (w : World) (mA : Mw w a R1 C1 ps) (mB : Mw w b R2 C2 qs) (hu : Sl .u64 w uc us) (hwu : wf W64 us) (hfew : Fx R1 C1 ps 6 3 ∧ Fx R2 C2 qs 6 3) (hshort : us.length ≤ 3) (y : Int) (hy : y = sg sc (nv W64 us)) (hA : Mt w a R1 C1 xs 3) (hf : ¬ Fm R1 C1 xs.length) (hB : Mt w b R2 C2 ys 3) :
    Calls Try.prog 4 #[a, b, .agg #[.bool sc, uc]] w (LawOk w) := by
  obtain ⟨ao, ca, rfl⟩ := mA.agg
  obtain ⟨bo, cb, rfl⟩ := mB.agg
  obtain ⟨co, bc, oc, cc, rfl, hccap, hccs⟩ := hu
  have hu : Sl .u64 w (.slice co us.length cc) us := ⟨co, bc, oc, cc, rfl, hccap, hccs⟩
  clear hccap hccs
  obtain ⟨wb, ew, KA, KB, KC, B0, hsz⟩ := boxes2 w 24 24 36 [.int .i64 R1, .int .i64 C1, .slice ao ps.length ca] [.int .i64 R2, .int .i64 C2, .slice bo qs.length cb] [.bool sc, .slice co us.length cc]
  clear hsz
  have hC : Iv w (.agg #[.bool sc, .slice co us.length cc]) y 3 := ⟨sc, _, us, rfl, hu, hwu, hshort, hy⟩
  clear hu hwu hy
  replace mA := mA.next B0
  replace mB := mB.next B0
  replace hA := hA.next B0
  replace hB := hB.next B0
  replace hC := hC.next B0
  have FEW := Lib.hid hfew; clear hfew
  go_enter Try.func4, Try.ntmps4
  go_upto_region 1 with (fail)
  rw [← ew]
  clear ew
  go_wp2_with fail
  refine (law11_awake _).mono ?_; rintro e w1 ⟨rfl, b1⟩
  replace mA := mA.next b1
  replace mB := mB.next b1
  replace hA := hA.next b1
  replace hB := hB.next b1
  replace hC := hC.next b1
  replace KA := KA.next b1
  replace KB := KB.next b1
  replace KC := KC.next b1
  replace B0 := B0.trans (b1.mono B0.size)
  clear b1
  have qKA0 := KA.cell 0
  have qKA1 := KA.cell 1
  have qKA2 := KA.cell 2
  have qKB0 := KB.cell 0
  have qKB1 := KB.cell 1
  have qKB2 := KB.cell 2
  go_wp2_with fail
  refine (law11_few _ _ _ _ _ _ _ _ true ⟨fun _ => FEW.out, fun _ => rfl⟩ _ mA mB).mono ?_; rintro e w2 ⟨rfl, b2⟩
  clear qKA0 qKA1 qKA2 qKB0 qKB1 qKB2
  replace mA := mA.next b2
  replace mB := mB.next b2
  replace hA := hA.next b2
  replace hB := hB.next b2
  replace hC := hC.next b2
  replace KA := KA.next b2
  replace KB := KB.next b2
  replace KC := KC.next b2
  replace B0 := B0.trans (b2.mono B0.size)
  clear b2
  have qKC1 := KC.cell 1
  clear FEW mA mB
  have qKA0 := KA.cell 0
  have qKA1 := KA.cell 1
  have qKA2 := KA.cell 2
  have qKB0 := KB.cell 0
  have qKB1 := KB.cell 1
  have qKB2 := KB.cell 2
  go_wp2_with fail
  refine (zmat_Add_bad _ _ R1 C1 R2 C2 xs ys 3 3 _ hA hB (fun h => hf h.1)).mono ?_; rintro e w3 ⟨v3, rfl, h3, b3⟩
  clear qKC1 qKA0 qKA1 qKA2 qKB0 qKB1 qKB2
  replace hA := hA.next b3
  replace hB := hB.next b3
  replace hC := hC.next b3
  replace KA := KA.next b3
  replace KB := KB.next b3
  replace KC := KC.next b3
  replace B0 := B0.trans (b3.mono B0.size)
  clear b3
  obtain ⟨a3, k3, rfl⟩ := h3.agg
  obtain ⟨w4, e4, K3, b4, hs4⟩ := boxes1 w3 24 [.int .i64 0, .int .i64 0, .slice a3 0 k3]
  clear hs4
  replace hA := hA.next b4
  replace hB := hB.next b4
  replace hC := hC.next b4
  replace KA := KA.next b4
  replace KB := KB.next b4
  replace KC := KC.next b4
  replace h3 := h3.next b4
  replace B0 := B0.trans (b4.mono B0.size)
  clear b4
  go_upto_region 4 with (fail)
  rw [← e4]
  clear e4
  have qKA0 := KA.cell 0
  have qKA1 := KA.cell 1
  have qKA2 := KA.cell 2
  have qKB0 := KB.cell 0
  have qKB1 := KB.cell 1
  have qKB2 := KB.cell 2
  go_wp2_with fail
  refine (zmat_Sub_bad _ _ R1 C1 R2 C2 xs ys 3 3 _ hA hB (fun h => hf h.1)).mono ?_; rintro e w5 ⟨v5, rfl, h5, b5⟩
  clear qKA0 qKA1 qKA2 qKB0 qKB1 qKB2
  replace hA := hA.next b5
  replace hB := hB.next b5
  replace hC := hC.next b5
  replace KA := KA.next b5
  replace KB := KB.next b5
  replace KC := KC.next b5
  replace h3 := h3.next b5
  replace K3 := K3.next b5
  replace B0 := B0.trans (b5.mono B0.size)
  clear b5
  obtain ⟨a5, k5, rfl⟩ := h5.agg
  obtain ⟨w6, e6, K5, b6, hs6⟩ := boxes1 w5 24 [.int .i64 0, .int .i64 0, .slice a5 0 k5]
  clear hs6
  replace hA := hA.next b6
  replace hB := hB.next b6
  replace hC := hC.next b6
  replace KA := KA.next b6
  replace KB := KB.next b6
  replace KC := KC.next b6
  replace h3 := h3.next b6
  replace K3 := K3.next b6
  replace h5 := h5.next b6
  replace B0 := B0.trans (b6.mono B0.size)
  clear b6
  go_upto_region 5 with (fail)
  rw [← e6]
  clear e6
  have qKA0 := KA.cell 0
  have qKA1 := KA.cell 1
  have qKA2 := KA.cell 2
  have qKC0 := KC.cell 0
  have qKC1 := KC.cell 1
  go_wp2_with fail
  refine (zmat_Scale_bad _ _ R1 C1 xs y 3 3 _ hA hC hf).mono ?_; rintro e w7 ⟨v7, rfl, h7, b7⟩
  clear qKA0 qKA1 qKA2 qKC0 qKC1
  replace hA := hA.next b7
  replace hB := hB.next b7
  replace hC := hC.next b7
  replace KA := KA.next b7
  replace KB := KB.next b7
  replace KC := KC.next b7
  replace h3 := h3.next b7
  replace K3 := K3.next b7
  replace h5 := h5.next b7
  replace K5 := K5.next b7
  replace B0 := B0.trans (b7.mono B0.size)
  clear b7
  obtain ⟨a7, k7, rfl⟩ := h7.agg
  obtain ⟨w8, e8, K7, b8, hs8⟩ := boxes1 w7 24 [.int .i64 0, .int .i64 0, .slice a7 0 k7]
  clear hs8
  replace hA := hA.next b8
  replace hB := hB.next b8
  replace hC := hC.next b8
  replace KA := KA.next b8
  replace KB := KB.next b8
  replace KC := KC.next b8
  replace h3 := h3.next b8
  replace K3 := K3.next b8
  replace h5 := h5.next b8
  replace K5 := K5.next b8
  replace h7 := h7.next b8
  replace B0 := B0.trans (b8.mono B0.size)
  clear b8
  go_upto_region 6 with (fail)
  rw [← e8]
  clear e8
  have qKA0 := KA.cell 0
  have qKA1 := KA.cell 1
  have qKA2 := KA.cell 2
  go_wp2_with fail
  refine (ref11_Formed_no _ R1 C1 xs 3 _ hA hf).mono ?_; rintro e w9 ⟨rfl, b9⟩
  clear qKA0 qKA1 qKA2
  replace hA := hA.next b9
  replace hB := hB.next b9
  replace hC := hC.next b9
  replace KA := KA.next b9
  replace KB := KB.next b9
  replace KC := KC.next b9
  replace h3 := h3.next b9
  replace K3 := K3.next b9
  replace h5 := h5.next b9
  replace K5 := K5.next b9
  replace h7 := h7.next b9
  replace K7 := K7.next b9
  replace B0 := B0.trans (b9.mono B0.size)
  clear b9
  have qK30 := K3.cell 0
  have qK31 := K3.cell 1
  have qK32 := K3.cell 2
  go_wp2_with fail
  refine (ref11_None a3 k3 _).mono ?_; rintro e w10 ⟨rfl, b10⟩
  clear qK30 qK31 qK32
  replace hA := hA.next b10
  replace hB := hB.next b10
  replace hC := hC.next b10
  replace KA := KA.next b10
  replace KB := KB.next b10
  replace KC := KC.next b10
  replace h3 := h3.next b10
  replace K3 := K3.next b10
  replace h5 := h5.next b10
  replace K5 := K5.next b10
  replace h7 := h7.next b10
  replace K7 := K7.next b10
  replace B0 := B0.trans (b10.mono B0.size)
  clear b10
  have qK50 := K5.cell 0
  have qK51 := K5.cell 1
  have qK52 := K5.cell 2
  go_wp2_with fail
  refine (ref11_None a5 k5 _).mono ?_; rintro e w11 ⟨rfl, b11⟩
  clear qK50 qK51 qK52
  replace hA := hA.next b11
  replace hB := hB.next b11
  replace hC := hC.next b11
  replace KA := KA.next b11
  replace KB := KB.next b11
  replace KC := KC.next b11
  replace h3 := h3.next b11
  replace K3 := K3.next b11
  replace h5 := h5.next b11
  replace K5 := K5.next b11
  replace h7 := h7.next b11
  replace K7 := K7.next b11
  replace B0 := B0.trans (b11.mono B0.size)
  clear b11
  have qK70 := K7.cell 0
  have qK71 := K7.cell 1
  have qK72 := K7.cell 2
  go_wp2_with fail
  refine (ref11_None a7 k7 _).mono ?_; rintro e w12 ⟨rfl, b12⟩
  clear qK70 qK71 qK72
  replace hA := hA.next b12
  replace hB := hB.next b12
  replace hC := hC.next b12
  replace KA := KA.next b12
  replace KB := KB.next b12
  replace KC := KC.next b12
  replace h3 := h3.next b12
  replace K3 := K3.next b12
  replace h5 := h5.next b12
  replace K5 := K5.next b12
  replace h7 := h7.next b12
  replace K7 := K7.next b12
  replace B0 := B0.trans (b12.mono B0.size)
  clear b12
  go_wp2
  go_ret
  exact ⟨rfl, B0⟩

set_option maxRecDepth 20000 in
set_option maxHeartbeats 2000000 in
theorem formed (a b : Value) (ps qs : List (Bool × List Nat)) (xs ys : List Int) (r c : Nat) (sc : Bool) (uc : Value) (us : List Nat) (w : World) (mA : Mw w a r c ps) (mB : Mw w b r c qs) (hu : Sl .u64 w uc us) (hwu : wf W64 us) (hfew : Fx r c ps 6 3 ∧ Fx r c qs 6 3) (hshort : us.length ≤ 3) (y : Int) (hy : y = sg sc (nv W64 us)) (hA : Mt w a r c xs 3) (hr : r ≤ 64) (hc : c ≤ 64) (hx : xs.length = r * c) (hB : Mt w b r c ys 3) (hyl : ys.length = r * c) :
    Calls Try.prog 4 #[a, b, .agg #[.bool sc, uc]] w (LawOk w) := by
  obtain ⟨ao, ca, rfl⟩ := mA.agg
  obtain ⟨bo, cb, rfl⟩ := mB.agg
  obtain ⟨co, bc, oc, cc, rfl, hccap, hccs⟩ := hu
  have hu : Sl .u64 w (.slice co us.length cc) us := ⟨co, bc, oc, cc, rfl, hccap, hccs⟩
  clear hccap hccs
  obtain ⟨wb, ew, KA, KB, KC, B0, hsz⟩ := boxes2 w 24 24 36 [.int .i64 r, .int .i64 c, .slice ao ps.length ca] [.int .i64 r, .int .i64 c, .slice bo qs.length cb] [.bool sc, .slice co us.length cc]
  clear hsz
  have hC : Iv w (.agg #[.bool sc, .slice co us.length cc]) y 3 := ⟨sc, _, us, rfl, hu, hwu, hshort, hy⟩
  clear hu hwu hy
  have HX := Lib.hid hx; clear hx
  have HLM := Lib.hid (hyl.trans HX.out.symm); clear hyl
  replace mA := mA.next B0
  replace mB := mB.next B0
  replace hA := hA.next B0
  replace hB := hB.next B0
  replace hC := hC.next B0
  have FEW := Lib.hid hfew; clear hfew
  go_enter Try.func4, Try.ntmps4
  go_upto_region 1 with (fail)
  rw [← ew]
  clear ew
  go_wp2_with fail
  refine (law11_awake _).mono ?_; rintro e w1 ⟨rfl, b1⟩
  replace mA := mA.next b1
  replace mB := mB.next b1
  replace hA := hA.next b1
  replace hB := hB.next b1
  replace hC := hC.next b1
  replace KA := KA.next b1
  replace KB := KB.next b1
  replace KC := KC.next b1
  replace B0 := B0.trans (b1.mono B0.size)
  clear b1
  have qKA0 := KA.cell 0
  have qKA1 := KA.cell 1
  have qKA2 := KA.cell 2
  have qKB0 := KB.cell 0
  have qKB1 := KB.cell 1
  have qKB2 := KB.cell 2
  go_wp2_with fail
  refine (law11_few _ _ _ _ _ _ _ _ true ⟨fun _ => FEW.out, fun _ => rfl⟩ _ mA mB).mono ?_; rintro e w2 ⟨rfl, b2⟩
  clear qKA0 qKA1 qKA2 qKB0 qKB1 qKB2
  replace mA := mA.next b2
  replace mB := mB.next b2
  replace hA := hA.next b2
  replace hB := hB.next b2
  replace hC := hC.next b2
  replace KA := KA.next b2
  replace KB := KB.next b2
  replace KC := KC.next b2
  replace B0 := B0.trans (b2.mono B0.size)
  clear b2
  have qKC1 := KC.cell 1
  clear mA mB
  have qKA0 := KA.cell 0
  have qKA1 := KA.cell 1
  have qKA2 := KA.cell 2
  have qKB0 := KB.cell 0
  have qKB1 := KB.cell 1
  have qKB2 := KB.cell 2
  go_wp2_with fail
  refine (zmat_Add _ _ r c xs ys 3 3 _ hA hB hr hc HX.out (HLM.out.trans HX.out) (by omega) (by omega)).mono ?_; rintro e w3 ⟨v3, rfl, h3, b3⟩
  clear qKC1 qKA0 qKA1 qKA2 qKB0 qKB1 qKB2
  replace hA := hA.next b3
  replace hB := hB.next b3
  replace hC := hC.next b3
  replace KA := KA.next b3
  replace KB := KB.next b3
  replace KC := KC.next b3
  replace B0 := B0.trans (b3.mono B0.size)
  clear b3
  rw [tab_pre (fun j => xs.getD j 0 + ys.getD j 0)] at h3
  obtain ⟨xx, exx⟩ : ∃ zz, zz = pre (fun j => xs.getD j 0 + ys.getD j 0) (r * c) := ⟨_, rfl⟩
  rw [← exx] at h3
  have EXX := Lib.hid exx; clear exx
  obtain ⟨a3, k3, rfl⟩ := h3.agg
  obtain ⟨w4, e4, K3, b4, hs4⟩ := boxes1 w3 24 [.int .i64 r, .int .i64 c, .slice a3 xx.length k3]
  clear hs4
  replace hA := hA.next b4
  replace hB := hB.next b4
  replace hC := hC.next b4
  replace KA := KA.next b4
  replace KB := KB.next b4
  replace KC := KC.next b4
  replace h3 := h3.next b4
  replace B0 := B0.trans (b4.mono B0.size)
  clear b4
  go_upto_region 4 with (fail)
  rw [← e4]
  clear e4
  have qKA0 := KA.cell 0
  have qKA1 := KA.cell 1
  have qKA2 := KA.cell 2
  have qKB0 := KB.cell 0
  have qKB1 := KB.cell 1
  have qKB2 := KB.cell 2
  go_wp2_with fail
  refine (zmat_Sub _ _ r c xs ys 3 3 _ hA hB hr hc HX.out (HLM.out.trans HX.out) (by omega) (by omega)).mono ?_; rintro e w5 ⟨v5, rfl, h5, b5⟩
  clear qKA0 qKA1 qKA2 qKB0 qKB1 qKB2
  replace hA := hA.next b5
  replace hB := hB.next b5
  replace hC := hC.next b5
  replace KA := KA.next b5
  replace KB := KB.next b5
  replace KC := KC.next b5
  replace h3 := h3.next b5
  replace K3 := K3.next b5
  replace B0 := B0.trans (b5.mono B0.size)
  clear b5
  rw [tab_pre (fun j => xs.getD j 0 - ys.getD j 0)] at h5
  obtain ⟨yy, eyy⟩ : ∃ zz, zz = pre (fun j => xs.getD j 0 - ys.getD j 0) (r * c) := ⟨_, rfl⟩
  rw [← eyy] at h5
  have EYY := Lib.hid eyy; clear eyy
  obtain ⟨a5, k5, rfl⟩ := h5.agg
  obtain ⟨w6, e6, K5, b6, hs6⟩ := boxes1 w5 24 [.int .i64 r, .int .i64 c, .slice a5 yy.length k5]
  clear hs6
  replace hA := hA.next b6
  replace hB := hB.next b6
  replace hC := hC.next b6
  replace KA := KA.next b6
  replace KB := KB.next b6
  replace KC := KC.next b6
  replace h3 := h3.next b6
  replace K3 := K3.next b6
  replace h5 := h5.next b6
  replace B0 := B0.trans (b6.mono B0.size)
  clear b6
  go_upto_region 5 with (fail)
  rw [← e6]
  clear e6
  have qKA0 := KA.cell 0
  have qKA1 := KA.cell 1
  have qKA2 := KA.cell 2
  have qKC0 := KC.cell 0
  have qKC1 := KC.cell 1
  go_wp2_with fail
  refine (zmat_Scale _ _ r c xs y 3 3 _ hA hC hr hc HX.out (by omega) (by omega)).mono ?_; rintro e w7 ⟨v7, rfl, h7, b7⟩
  clear qKA0 qKA1 qKA2 qKC0 qKC1
  replace hA := hA.next b7
  replace hB := hB.next b7
  replace hC := hC.next b7
  replace KA := KA.next b7
  replace KB := KB.next b7
  replace KC := KC.next b7
  replace h3 := h3.next b7
  replace K3 := K3.next b7
  replace h5 := h5.next b7
  replace K5 := K5.next b7
  replace B0 := B0.trans (b7.mono B0.size)
  clear b7
  rw [tab_pre (fun j => xs.getD j 0 * y)] at h7
  obtain ⟨zz, ezz⟩ : ∃ zz, zz = pre (fun j => xs.getD j 0 * y) (r * c) := ⟨_, rfl⟩
  rw [← ezz] at h7
  have EZZ := Lib.hid ezz; clear ezz
  obtain ⟨a7, k7, rfl⟩ := h7.agg
  obtain ⟨w8, e8, K7, b8, hs8⟩ := boxes1 w7 24 [.int .i64 r, .int .i64 c, .slice a7 zz.length k7]
  clear hs8
  replace hA := hA.next b8
  replace hB := hB.next b8
  replace hC := hC.next b8
  replace KA := KA.next b8
  replace KB := KB.next b8
  replace KC := KC.next b8
  replace h3 := h3.next b8
  replace K3 := K3.next b8
  replace h5 := h5.next b8
  replace K5 := K5.next b8
  replace h7 := h7.next b8
  replace B0 := B0.trans (b8.mono B0.size)
  clear b8
  go_upto_region 6 with (fail)
  rw [← e8]
  clear e8
  have qKA0 := KA.cell 0
  have qKA1 := KA.cell 1
  have qKA2 := KA.cell 2
  go_wp2_with fail
  refine (ref11_Formed_yes _ r c xs 3 _ hA (Fm.of hr hc HX.out)).mono ?_; rintro e w9 ⟨rfl, b9⟩
  clear qKA0 qKA1 qKA2
  replace hA := hA.next b9
  replace hB := hB.next b9
  replace hC := hC.next b9
  replace KA := KA.next b9
  replace KB := KB.next b9
  replace KC := KC.next b9
  replace h3 := h3.next b9
  replace K3 := K3.next b9
  replace h5 := h5.next b9
  replace K5 := K5.next b9
  replace h7 := h7.next b9
  replace K7 := K7.next b9
  replace B0 := B0.trans (b9.mono B0.size)
  clear b9
  have qKB0 := KB.cell 0
  have qKB1 := KB.cell 1
  have qKB2 := KB.cell 2
  go_wp2_with fail
  refine (ref11_Formed_yes _ r c ys 3 _ hB (Fm.of hr hc (HLM.out.trans HX.out))).mono ?_; rintro e w10 ⟨rfl, b10⟩
  clear qKB0 qKB1 qKB2
  replace hA := hA.next b10
  replace hB := hB.next b10
  replace hC := hC.next b10
  replace KA := KA.next b10
  replace KB := KB.next b10
  replace KC := KC.next b10
  replace h3 := h3.next b10
  replace K3 := K3.next b10
  replace h5 := h5.next b10
  replace K5 := K5.next b10
  replace h7 := h7.next b10
  replace K7 := K7.next b10
  replace B0 := B0.trans (b10.mono B0.size)
  clear b10
  have qKA0 := KA.cell 0
  have qKA1 := KA.cell 1
  have qKA2 := KA.cell 2
  have qKB0 := KB.cell 0
  have qKB1 := KB.cell 1
  have qKB2 := KB.cell 2
  go_upto_region 10 with (fail)
  clear qKA0 qKA1 qKA2 qKB0 qKB1 qKB2
  go_upto_region 11 with (fail)
  have qKA2 := KA.cell 2
  skip
  obtain ⟨uA, euA, oA, bA, fA, cA, euA2, -, hca⟩ := id hA
  simp only [Value.agg.injEq, Array.mk.injEq, List.cons.injEq, and_true, true_and] at euA
  subst euA
  simp only [Value.slice.injEq] at euA2
  obtain ⟨rfl, hln, rfl⟩ := euA2
  obtain ⟨uB, euB, oB, bB, fB, cB, euB2, -, hcb⟩ := id hB
  simp only [Value.agg.injEq, Array.mk.injEq, List.cons.injEq, and_true, true_and] at euB
  subst euB
  simp only [Value.slice.injEq] at euB2
  obtain ⟨rfl, hlm, rfl⟩ := euB2
  have HQL := Lib.hid hlm; clear hlm
  have hxl : ps.length ≤ 100 := FEW.out.1.2.2.1
  have HLN := Lib.hid hln.symm; clear hln
  go_loopw [17, 15, 13, 14] (fun iv zv xv yv wr => ∃ i : Nat, i ≤ ps.length ∧ iv = .int .i64 i ∧ Z3 wr w10.heap.size 7 zv (pre (fun j => xs.getD j 0 * y) i) xv (pre (fun j => xs.getD j 0 + ys.getD j 0) i) yv (pre (fun j => xs.getD j 0 - ys.getD j 0) i) ∧ Below w10.heap.size w10 wr) (fun iv _ _ _ _ => ps.length - (intOf iv).toNat)
  case atStart => exact ⟨0, by omega, rfl, Z3.nil _ _ _, Below.refl _ _⟩
  case round =>
    clear qKA2
    obtain ⟨i, hi, rfl, hz, hb0⟩ := hrel
    have q2 := (KA.next hb0).cell 2
    by_cases hil : i < ps.length
    · have hil2 : i < xs.length := by rw [HLN.out]; exact hil
      go_upto_region 13 with (fail)
      clear q2
      obtain ⟨s, x, q1, q2, q3⟩ := hca.cell i hil2
      have hne : xs ≠ [] := by intro h; subst h; simp at hil2
      have hao := hca.ao hne
      subst hao
      have hz := hz.next (Drawn.below (w' := wr.drew) ⟨1, rfl⟩ _)
      have hb0 := hb0.trans (Drawn.below (w' := wr.drew) ⟨1, rfl⟩ _)
      refine startL (S := (fun w' => Below w10.heap.size w10 w')) (by kernel_rfl) hb0 (fun hHeld => ?_)
      refine takeL 0 (v := ?_) rfl (by kernel_rfl) (by kernel_rfl) (by kernel_rfl) (fun _ _ _ h => h) ⟨by rfl, ?_⟩ (by assumption) ?_
      rotate_left
      · intro w hS; go_simp <;> with_reducible rfl
      simp only [Act.put, List.setIfInBounds_toArray, List.set_cons_zero, List.set_cons_succ]
      refine takeL 1 (v := ?_) rfl (by kernel_rfl) (by kernel_rfl) (by kernel_rfl) (fun _ _ _ h => h) ⟨by rfl, ?_⟩ (by assumption) ?_
      rotate_left
      · intro w hS; go_simp <;> with_reducible rfl
      simp only [Act.put, List.setIfInBounds_toArray, List.set_cons_zero, List.set_cons_succ]
      refine takeL 2 (v := ?_) rfl (by kernel_rfl) (by kernel_rfl) (by kernel_rfl) (fun _ _ _ h => h) ⟨by rfl, ?_⟩ (by assumption) ?_
      rotate_left
      · intro w hS; have fa := KA.at hS; have f0 := fa 2; clear fa; have f3 := (hS.cell (p := ⟨bA, fA + i * 2, none⟩) (World.block_lt_of_cell? _ _ q1)).trans q1; have f4 := (hS.cell (p := ⟨bA, fA + i * 2 + 1, none⟩) (World.block_lt_of_cell? _ _ q2)).trans q2; have fc := KC.at hS; have f5 := fc 0; have f6 := fc 1; clear fc; go_simp <;> with_reducible rfl
      simp only [Act.put, List.setIfInBounds_toArray, List.set_cons_zero, List.set_cons_succ]
      refine takeL 3 (v := ?_) rfl (by kernel_rfl) (by kernel_rfl) (by kernel_rfl) (fun _ _ _ h => h) ⟨by rfl, ?_⟩ (by assumption) ?_
      rotate_left
      · intro w hS; go_simp <;> with_reducible rfl
      simp only [Act.put, List.setIfInBounds_toArray, List.set_cons_zero, List.set_cons_succ]
      refine takeL 4 (v := ?_) rfl (by kernel_rfl) (by kernel_rfl) (by kernel_rfl) (fun _ _ _ h => h) ⟨by rfl, ?_⟩ (by assumption) ?_
      rotate_left
      · intro w hS; go_simp <;> with_reducible rfl
      simp only [Act.put, List.setIfInBounds_toArray, List.set_cons_zero, List.set_cons_succ]
      refine takeL 5 (v := ?_) rfl (by kernel_rfl) (by kernel_rfl) (by kernel_rfl) (fun _ _ _ h => h) ⟨by rfl, ?_⟩ (by assumption) ?_
      rotate_left
      · intro w hS; have fa := KA.at hS; have f0 := fa 2; clear fa; have f3 := (hS.cell (p := ⟨bA, fA + i * 2, none⟩) (World.block_lt_of_cell? _ _ q1)).trans q1; have f4 := (hS.cell (p := ⟨bA, fA + i * 2 + 1, none⟩) (World.block_lt_of_cell? _ _ q2)).trans q2; have fc := KC.at hS; have f5 := fc 0; have f6 := fc 1; clear fc; go_simp <;> with_reducible rfl
      simp only [Act.put, List.setIfInBounds_toArray, List.set_cons_zero, List.set_cons_succ]
      refine takeL 6 (v := ?_) rfl (by kernel_rfl) (by kernel_rfl) (by kernel_rfl) (fun _ _ _ h => h) ⟨by rfl, ?_⟩ (by assumption) ?_
      rotate_left
      · intro w hS; have fa := KA.at hS; have f0 := fa 2; clear fa; have f3 := (hS.cell (p := ⟨bA, fA + i * 2, none⟩) (World.block_lt_of_cell? _ _ q1)).trans q1; have f4 := (hS.cell (p := ⟨bA, fA + i * 2 + 1, none⟩) (World.block_lt_of_cell? _ _ q2)).trans q2; have fc := KC.at hS; have f5 := fc 0; have f6 := fc 1; clear fc; go_simp <;> with_reducible rfl
      simp only [Act.put, List.setIfInBounds_toArray, List.set_cons_zero, List.set_cons_succ]
      refine oneL 7 rfl (by kernel_rfl) (by rfl) (fun K hK => ?_)
      go_simp
      go_at_call 23
      (with_reducible refine (zi_Mul _ _ _ y 3 3 _ (q3.next hHeld) (hC.next hHeld) (by omega) (by omega)).mono ?_); rintro e w60 ⟨vn60, rfl, hn60, bn60, qn60⟩
      obtain ⟨sn60, an60, nn60, cn60, rfl⟩ := hn60.agg
      refine hK.out _ _ (hHeld.trans (bn60.mono hHeld.size)) (fun hHeld => ?_)
      clear hK K
      try simp only [Act.put, List.setIfInBounds_toArray, List.set_cons_zero, List.set_cons_succ]
      refine oneL 8 rfl (by kernel_rfl) (by rfl) (fun K hK => ?_)
      go_simp
      have hd := hHeld
      refine hK.out _ _ (hHeld.alloc hHeld.size _) (fun hHeld => ?_)
      clear hK K
      try simp only [Act.put, List.setIfInBounds_toArray, List.set_cons_zero, List.set_cons_succ]
      refine oneL 9 rfl (by kernel_rfl) (by rfl) (fun K hK => ?_)
      refine zap3 22 32 (.agg #[.bool false, .slice none 0 0]) Try.underlying22 (by kernel_rfl) (by decide) rfl _ _ rfl wr.drew w60 w10.heap.size u15 u13 u14 (pre (fun j => xs.getD j 0 * y) i) (pre (fun j => xs.getD j 0 + ys.getD j 0) i) (pre (fun j => xs.getD j 0 - ys.getD j 0) i) 7 (xs.getD i 0 * y) sn60 an60 nn60 cn60 bn60 hz (hn60.mono (by omega)) qn60 (by rw [pre_length]; omega) hd.size rfl rfl ?_
      intro gg60 cap60 w61 hz' hbel'
      rw [pre_length] at hz' ⊢
      refine hK.out _ _ (hd.trans hbel') (fun hHeld => ?_)
      clear hK K
      try simp only [Act.put, List.setIfInBounds_toArray, List.set_cons_zero, List.set_cons_succ]
      refine takeL 10 (v := ?_) rfl (by kernel_rfl) (by kernel_rfl) (by kernel_rfl) (fun _ _ _ h => h) ⟨by rfl, ?_⟩ (by assumption) ?_
      rotate_left
      · intro w hS; go_simp <;> with_reducible rfl
      simp only [Act.put, List.setIfInBounds_toArray, List.set_cons_zero, List.set_cons_succ]
      refine doneL (by kernel_rfl) ?_ _
      clear hz hb0 hn60 bn60 qn60 hd hbel'
      have hb0 := hHeld; clear hHeld
      have hz := hz'; clear hz'
      rw [← pre_succ] at hz
      go_upto_region 15 with (fail)
      have hil3 : i < ys.length := by rw [HLM.out]; exact hil2
      have hil4 : i < qs.length := by rw [HQL.out]; exact hil3
      obtain ⟨s', x', r1, r2, r3⟩ := hcb.cell i hil3
      have hnb : ys ≠ [] := by intro h; subst h; simp at hil3
      have hbo := hcb.ao hnb
      subst hbo
      have hz := hz.rot.next (Drawn.below (w' := w61.drew) ⟨1, rfl⟩ _)
      have hb0 := hb0.trans (Drawn.below (w' := w61.drew) ⟨1, rfl⟩ _)
      refine startL (S := (fun w' => Below w10.heap.size w10 w')) (by kernel_rfl) hb0 (fun hHeld => ?_)
      refine takeL 0 (v := ?_) rfl (by kernel_rfl) (by kernel_rfl) (by kernel_rfl) (fun _ _ _ h => h) ⟨by rfl, ?_⟩ (by assumption) ?_
      rotate_left
      · intro w hS; go_simp <;> with_reducible rfl
      simp only [Act.put, List.setIfInBounds_toArray, List.set_cons_zero, List.set_cons_succ]
      refine takeL 1 (v := ?_) rfl (by kernel_rfl) (by kernel_rfl) (by kernel_rfl) (fun _ _ _ h => h) ⟨by rfl, ?_⟩ (by assumption) ?_
      rotate_left
      · intro w hS; go_simp <;> with_reducible rfl
      simp only [Act.put, List.setIfInBounds_toArray, List.set_cons_zero, List.set_cons_succ]
      refine takeL 2 (v := ?_) rfl (by kernel_rfl) (by kernel_rfl) (by kernel_rfl) (fun _ _ _ h => h) ⟨by rfl, ?_⟩ (by assumption) ?_
      rotate_left
      · intro w hS; have fa := KA.at hS; have f0 := fa 2; clear fa; have f3 := (hS.cell (p := ⟨bA, fA + i * 2, none⟩) (World.block_lt_of_cell? _ _ q1)).trans q1; have f4 := (hS.cell (p := ⟨bA, fA + i * 2 + 1, none⟩) (World.block_lt_of_cell? _ _ q2)).trans q2; have fb := KB.at hS; have f6 := fb 2; clear fb; have f7 := (hS.cell (p := ⟨bB, fB + i * 2, none⟩) (World.block_lt_of_cell? _ _ r1)).trans r1; have f8 := (hS.cell (p := ⟨bB, fB + i * 2 + 1, none⟩) (World.block_lt_of_cell? _ _ r2)).trans r2; go_simp <;> with_reducible rfl
      simp only [Act.put, List.setIfInBounds_toArray, List.set_cons_zero, List.set_cons_succ]
      refine takeL 3 (v := ?_) rfl (by kernel_rfl) (by kernel_rfl) (by kernel_rfl) (fun _ _ _ h => h) ⟨by rfl, ?_⟩ (by assumption) ?_
      rotate_left
      · intro w hS; go_simp <;> with_reducible rfl
      simp only [Act.put, List.setIfInBounds_toArray, List.set_cons_zero, List.set_cons_succ]
      refine takeL 4 (v := ?_) rfl (by kernel_rfl) (by kernel_rfl) (by kernel_rfl) (fun _ _ _ h => h) ⟨by rfl, ?_⟩ (by assumption) ?_
      rotate_left
      · intro w hS; go_simp <;> with_reducible rfl
      simp only [Act.put, List.setIfInBounds_toArray, List.set_cons_zero, List.set_cons_succ]
      refine takeL 5 (v := ?_) rfl (by kernel_rfl) (by kernel_rfl) (by kernel_rfl) (fun _ _ _ h => h) ⟨by rfl, ?_⟩ (by assumption) ?_
      rotate_left
      · intro w hS; have fa := KA.at hS; have f0 := fa 2; clear fa; have f3 := (hS.cell (p := ⟨bA, fA + i * 2, none⟩) (World.block_lt_of_cell? _ _ q1)).trans q1; have f4 := (hS.cell (p := ⟨bA, fA + i * 2 + 1, none⟩) (World.block_lt_of_cell? _ _ q2)).trans q2; have fb := KB.at hS; have f6 := fb 2; clear fb; have f7 := (hS.cell (p := ⟨bB, fB + i * 2, none⟩) (World.block_lt_of_cell? _ _ r1)).trans r1; have f8 := (hS.cell (p := ⟨bB, fB + i * 2 + 1, none⟩) (World.block_lt_of_cell? _ _ r2)).trans r2; go_simp <;> with_reducible rfl
      simp only [Act.put, List.setIfInBounds_toArray, List.set_cons_zero, List.set_cons_succ]
      refine takeL 6 (v := ?_) rfl (by kernel_rfl) (by kernel_rfl) (by kernel_rfl) (fun _ _ _ h => h) ⟨by rfl, ?_⟩ (by assumption) ?_
      rotate_left
      · intro w hS; go_simp <;> with_reducible rfl
      simp only [Act.put, List.setIfInBounds_toArray, List.set_cons_zero, List.set_cons_succ]
      refine takeL 7 (v := ?_) rfl (by kernel_rfl) (by kernel_rfl) (by kernel_rfl) (fun _ _ _ h => h) ⟨by rfl, ?_⟩ (by assumption) ?_
      rotate_left
      · intro w hS; have fa := KA.at hS; have f0 := fa 2; clear fa; have f3 := (hS.cell (p := ⟨bA, fA + i * 2, none⟩) (World.block_lt_of_cell? _ _ q1)).trans q1; have f4 := (hS.cell (p := ⟨bA, fA + i * 2 + 1, none⟩) (World.block_lt_of_cell? _ _ q2)).trans q2; have fb := KB.at hS; have f6 := fb 2; clear fb; have f7 := (hS.cell (p := ⟨bB, fB + i * 2, none⟩) (World.block_lt_of_cell? _ _ r1)).trans r1; have f8 := (hS.cell (p := ⟨bB, fB + i * 2 + 1, none⟩) (World.block_lt_of_cell? _ _ r2)).trans r2; go_simp <;> with_reducible rfl
      simp only [Act.put, List.setIfInBounds_toArray, List.set_cons_zero, List.set_cons_succ]
      refine takeL 8 (v := ?_) rfl (by kernel_rfl) (by kernel_rfl) (by kernel_rfl) (fun _ _ _ h => h) ⟨by rfl, ?_⟩ (by assumption) ?_
      rotate_left
      · intro w hS; go_simp <;> with_reducible rfl
      simp only [Act.put, List.setIfInBounds_toArray, List.set_cons_zero, List.set_cons_succ]
      refine takeL 9 (v := ?_) rfl (by kernel_rfl) (by kernel_rfl) (by kernel_rfl) (fun _ _ _ h => h) ⟨by rfl, ?_⟩ (by assumption) ?_
      rotate_left
      · intro w hS; go_simp <;> with_reducible rfl
      simp only [Act.put, List.setIfInBounds_toArray, List.set_cons_zero, List.set_cons_succ]
      refine takeL 10 (v := ?_) rfl (by kernel_rfl) (by kernel_rfl) (by kernel_rfl) (fun _ _ _ h => h) ⟨by rfl, ?_⟩ (by assumption) ?_
      rotate_left
      · intro w hS; have fa := KA.at hS; have f0 := fa 2; clear fa; have f3 := (hS.cell (p := ⟨bA, fA + i * 2, none⟩) (World.block_lt_of_cell? _ _ q1)).trans q1; have f4 := (hS.cell (p := ⟨bA, fA + i * 2 + 1, none⟩) (World.block_lt_of_cell? _ _ q2)).trans q2; have fb := KB.at hS; have f6 := fb 2; clear fb; have f7 := (hS.cell (p := ⟨bB, fB + i * 2, none⟩) (World.block_lt_of_cell? _ _ r1)).trans r1; have f8 := (hS.cell (p := ⟨bB, fB + i * 2 + 1, none⟩) (World.block_lt_of_cell? _ _ r2)).trans r2; go_simp <;> with_reducible rfl
      simp only [Act.put, List.setIfInBounds_toArray, List.set_cons_zero, List.set_cons_succ]
      refine oneL 11 rfl (by kernel_rfl) (by rfl) (fun K hK => ?_)
      go_simp
      go_at_call 24
      (with_reducible refine (zi_Add _ _ _ _ 3 3 _ (q3.next hHeld) (r3.next hHeld) (by omega) (by omega)).mono ?_); rintro e w70 ⟨vn70, rfl, hn70, bn70, qn70⟩
      obtain ⟨sn70, an70, nn70, cn70, rfl⟩ := hn70.agg
      refine hK.out _ _ (hHeld.trans (bn70.mono hHeld.size)) (fun hHeld => ?_)
      clear hK K
      try simp only [Act.put, List.setIfInBounds_toArray, List.set_cons_zero, List.set_cons_succ]
      refine oneL 12 rfl (by kernel_rfl) (by rfl) (fun K hK => ?_)
      go_simp
      have hd := hHeld
      refine hK.out _ _ (hHeld.alloc hHeld.size _) (fun hHeld => ?_)
      clear hK K
      try simp only [Act.put, List.setIfInBounds_toArray, List.set_cons_zero, List.set_cons_succ]
      refine oneL 13 rfl (by kernel_rfl) (by rfl) (fun K hK => ?_)
      refine zap3 22 32 (.agg #[.bool false, .slice none 0 0]) Try.underlying22 (by kernel_rfl) (by decide) rfl _ _ rfl w61.drew w70 w10.heap.size u13 u14 (.slice (some ⟨gg60, 0, none⟩) (i + 1) cap60) (pre (fun j => xs.getD j 0 + ys.getD j 0) i) (pre (fun j => xs.getD j 0 - ys.getD j 0) i) (pre (fun j => xs.getD j 0 * y) (i + 1)) 7 (xs.getD i 0 + ys.getD i 0) sn70 an70 nn70 cn70 bn70 hz (hn70.mono (by omega)) qn70 (by rw [pre_length]; omega) hd.size rfl rfl ?_
      intro gg70 cap70 w71 hz' hbel'
      rw [pre_length] at hz' ⊢
      refine hK.out _ _ (hd.trans hbel') (fun hHeld => ?_)
      clear hK K
      try simp only [Act.put, List.setIfInBounds_toArray, List.set_cons_zero, List.set_cons_succ]
      refine takeL 14 (v := ?_) rfl (by kernel_rfl) (by kernel_rfl) (by kernel_rfl) (fun _ _ _ h => h) ⟨by rfl, ?_⟩ (by assumption) ?_
      rotate_left
      · intro w hS; go_simp <;> with_reducible rfl
      simp only [Act.put, List.setIfInBounds_toArray, List.set_cons_zero, List.set_cons_succ]
      refine doneL (by kernel_rfl) ?_ _
      clear hz hb0 hn70 bn70 qn70 hd hbel'
      have hb0 := hHeld; clear hHeld
      have hz := hz'; clear hz'
      rw [← pre_succ] at hz
      go_upto_region 16 with (fail)
      have hz := hz.rot.next (Drawn.below (w' := w71.drew) ⟨1, rfl⟩ _)
      have hb0 := hb0.trans (Drawn.below (w' := w71.drew) ⟨1, rfl⟩ _)
      refine startL (S := (fun w' => Below w10.heap.size w10 w')) (by kernel_rfl) hb0 (fun hHeld => ?_)
      refine takeL 0 (v := ?_) rfl (by kernel_rfl) (by kernel_rfl) (by kernel_rfl) (fun _ _ _ h => h) ⟨by rfl, ?_⟩ (by assumption) ?_
      rotate_left
      · intro w hS; go_simp <;> with_reducible rfl
      simp only [Act.put, List.setIfInBounds_toArray, List.set_cons_zero, List.set_cons_succ]
      refine takeL 1 (v := ?_) rfl (by kernel_rfl) (by kernel_rfl) (by kernel_rfl) (fun _ _ _ h => h) ⟨by rfl, ?_⟩ (by assumption) ?_
      rotate_left
      · intro w hS; go_simp <;> with_reducible rfl
      simp only [Act.put, List.setIfInBounds_toArray, List.set_cons_zero, List.set_cons_succ]
      refine takeL 2 (v := ?_) rfl (by kernel_rfl) (by kernel_rfl) (by kernel_rfl) (fun _ _ _ h => h) ⟨by rfl, ?_⟩ (by assumption) ?_
      rotate_left
      · intro w hS; have fa := KA.at hS; have f0 := fa 2; clear fa; have f3 := (hS.cell (p := ⟨bA, fA + i * 2, none⟩) (World.block_lt_of_cell? _ _ q1)).trans q1; have f4 := (hS.cell (p := ⟨bA, fA + i * 2 + 1, none⟩) (World.block_lt_of_cell? _ _ q2)).trans q2; have fb := KB.at hS; have f6 := fb 2; clear fb; have f7 := (hS.cell (p := ⟨bB, fB + i * 2, none⟩) (World.block_lt_of_cell? _ _ r1)).trans r1; have f8 := (hS.cell (p := ⟨bB, fB + i * 2 + 1, none⟩) (World.block_lt_of_cell? _ _ r2)).trans r2; go_simp <;> with_reducible rfl
      simp only [Act.put, List.setIfInBounds_toArray, List.set_cons_zero, List.set_cons_succ]
      refine takeL 3 (v := ?_) rfl (by kernel_rfl) (by kernel_rfl) (by kernel_rfl) (fun _ _ _ h => h) ⟨by rfl, ?_⟩ (by assumption) ?_
      rotate_left
      · intro w hS; go_simp <;> with_reducible rfl
      simp only [Act.put, List.setIfInBounds_toArray, List.set_cons_zero, List.set_cons_succ]
      refine takeL 4 (v := ?_) rfl (by kernel_rfl) (by kernel_rfl) (by kernel_rfl) (fun _ _ _ h => h) ⟨by rfl, ?_⟩ (by assumption) ?_
      rotate_left
      · intro w hS; go_simp <;> with_reducible rfl
      simp only [Act.put, List.setIfInBounds_toArray, List.set_cons_zero, List.set_cons_succ]
      refine takeL 5 (v := ?_) rfl (by kernel_rfl) (by kernel_rfl) (by kernel_rfl) (fun _ _ _ h => h) ⟨by rfl, ?_⟩ (by assumption) ?_
      rotate_left
      · intro w hS; have fa := KA.at hS; have f0 := fa 2; clear fa; have f3 := (hS.cell (p := ⟨bA, fA + i * 2, none⟩) (World.block_lt_of_cell? _ _ q1)).trans q1; have f4 := (hS.cell (p := ⟨bA, fA + i * 2 + 1, none⟩) (World.block_lt_of_cell? _ _ q2)).trans q2; have fb := KB.at hS; have f6 := fb 2; clear fb; have f7 := (hS.cell (p := ⟨bB, fB + i * 2, none⟩) (World.block_lt_of_cell? _ _ r1)).trans r1; have f8 := (hS.cell (p := ⟨bB, fB + i * 2 + 1, none⟩) (World.block_lt_of_cell? _ _ r2)).trans r2; go_simp <;> with_reducible rfl
      simp only [Act.put, List.setIfInBounds_toArray, List.set_cons_zero, List.set_cons_succ]
      refine takeL 6 (v := ?_) rfl (by kernel_rfl) (by kernel_rfl) (by kernel_rfl) (fun _ _ _ h => h) ⟨by rfl, ?_⟩ (by assumption) ?_
      rotate_left
      · intro w hS; go_simp <;> with_reducible rfl
      simp only [Act.put, List.setIfInBounds_toArray, List.set_cons_zero, List.set_cons_succ]
      refine takeL 7 (v := ?_) rfl (by kernel_rfl) (by kernel_rfl) (by kernel_rfl) (fun _ _ _ h => h) ⟨by rfl, ?_⟩ (by assumption) ?_
      rotate_left
      · intro w hS; have fa := KA.at hS; have f0 := fa 2; clear fa; have f3 := (hS.cell (p := ⟨bA, fA + i * 2, none⟩) (World.block_lt_of_cell? _ _ q1)).trans q1; have f4 := (hS.cell (p := ⟨bA, fA + i * 2 + 1, none⟩) (World.block_lt_of_cell? _ _ q2)).trans q2; have fb := KB.at hS; have f6 := fb 2; clear fb; have f7 := (hS.cell (p := ⟨bB, fB + i * 2, none⟩) (World.block_lt_of_cell? _ _ r1)).trans r1; have f8 := (hS.cell (p := ⟨bB, fB + i * 2 + 1, none⟩) (World.block_lt_of_cell? _ _ r2)).trans r2; go_simp <;> with_reducible rfl
      simp only [Act.put, List.setIfInBounds_toArray, List.set_cons_zero, List.set_cons_succ]
      refine takeL 8 (v := ?_) rfl (by kernel_rfl) (by kernel_rfl) (by kernel_rfl) (fun _ _ _ h => h) ⟨by rfl, ?_⟩ (by assumption) ?_
      rotate_left
      · intro w hS; go_simp <;> with_reducible rfl
      simp only [Act.put, List.setIfInBounds_toArray, List.set_cons_zero, List.set_cons_succ]
      refine takeL 9 (v := ?_) rfl (by kernel_rfl) (by kernel_rfl) (by kernel_rfl) (fun _ _ _ h => h) ⟨by rfl, ?_⟩ (by assumption) ?_
      rotate_left
      · intro w hS; go_simp <;> with_reducible rfl
      simp only [Act.put, List.setIfInBounds_toArray, List.set_cons_zero, List.set_cons_succ]
      refine takeL 10 (v := ?_) rfl (by kernel_rfl) (by kernel_rfl) (by kernel_rfl) (fun _ _ _ h => h) ⟨by rfl, ?_⟩ (by assumption) ?_
      rotate_left
      · intro w hS; have fa := KA.at hS; have f0 := fa 2; clear fa; have f3 := (hS.cell (p := ⟨bA, fA + i * 2, none⟩) (World.block_lt_of_cell? _ _ q1)).trans q1; have f4 := (hS.cell (p := ⟨bA, fA + i * 2 + 1, none⟩) (World.block_lt_of_cell? _ _ q2)).trans q2; have fb := KB.at hS; have f6 := fb 2; clear fb; have f7 := (hS.cell (p := ⟨bB, fB + i * 2, none⟩) (World.block_lt_of_cell? _ _ r1)).trans r1; have f8 := (hS.cell (p := ⟨bB, fB + i * 2 + 1, none⟩) (World.block_lt_of_cell? _ _ r2)).trans r2; go_simp <;> with_reducible rfl
      simp only [Act.put, List.setIfInBounds_toArray, List.set_cons_zero, List.set_cons_succ]
      refine oneL 11 rfl (by kernel_rfl) (by rfl) (fun K hK => ?_)
      go_simp
      go_at_call 25
      (with_reducible refine (zi_Sub _ _ _ _ 3 3 _ (q3.next hHeld) (r3.next hHeld) (by omega) (by omega)).mono ?_); rintro e w80 ⟨vn80, rfl, hn80, bn80, qn80⟩
      obtain ⟨sn80, an80, nn80, cn80, rfl⟩ := hn80.agg
      refine hK.out _ _ (hHeld.trans (bn80.mono hHeld.size)) (fun hHeld => ?_)
      clear hK K
      try simp only [Act.put, List.setIfInBounds_toArray, List.set_cons_zero, List.set_cons_succ]
      refine oneL 12 rfl (by kernel_rfl) (by rfl) (fun K hK => ?_)
      go_simp
      have hd := hHeld
      refine hK.out _ _ (hHeld.alloc hHeld.size _) (fun hHeld => ?_)
      clear hK K
      try simp only [Act.put, List.setIfInBounds_toArray, List.set_cons_zero, List.set_cons_succ]
      refine oneL 13 rfl (by kernel_rfl) (by rfl) (fun K hK => ?_)
      refine zap3 22 32 (.agg #[.bool false, .slice none 0 0]) Try.underlying22 (by kernel_rfl) (by decide) rfl _ _ rfl w71.drew w80 w10.heap.size u14 (.slice (some ⟨gg60, 0, none⟩) (i + 1) cap60) (.slice (some ⟨gg70, 0, none⟩) (i + 1) cap70) (pre (fun j => xs.getD j 0 - ys.getD j 0) i) (pre (fun j => xs.getD j 0 * y) (i + 1)) (pre (fun j => xs.getD j 0 + ys.getD j 0) (i + 1)) 7 (xs.getD i 0 - ys.getD i 0) sn80 an80 nn80 cn80 bn80 hz (hn80.mono (by omega)) qn80 (by rw [pre_length]; omega) hd.size rfl rfl ?_
      intro gg80 cap80 w81 hz' hbel'
      rw [pre_length] at hz' ⊢
      refine hK.out _ _ (hd.trans hbel') (fun hHeld => ?_)
      clear hK K
      try simp only [Act.put, List.setIfInBounds_toArray, List.set_cons_zero, List.set_cons_succ]
      refine takeL 14 (v := ?_) rfl (by kernel_rfl) (by kernel_rfl) (by kernel_rfl) (fun _ _ _ h => h) ⟨by rfl, ?_⟩ (by assumption) ?_
      rotate_left
      · intro w hS; go_simp <;> with_reducible rfl
      simp only [Act.put, List.setIfInBounds_toArray, List.set_cons_zero, List.set_cons_succ]
      refine doneL (by kernel_rfl) ?_ _
      clear hz hb0 hn80 bn80 qn80 hd hbel'
      have hb0 := hHeld; clear hHeld
      have hz := hz'; clear hz'
      rw [← pre_succ] at hz
      have hz := hz.rot
      go_wp2
      go_roundw
      case rel => exact ⟨i + 1, by omega, by go_num, hz, hb0⟩
      case measure => simp [intOf] <;> omega
    · obtain rfl : i = ps.length := by omega
      go_upto_region 17 with (fail)
      clear q2 hi
      replace B0 := B0.trans (hb0.mono B0.size)
      replace hA := hA.next hb0
      replace hB := hB.next hb0
      replace hC := hC.next hb0
      replace KA := KA.next hb0
      replace KB := KB.next hb0
      replace KC := KC.next hb0
      replace h3 := h3.next hb0
      replace K3 := K3.next hb0
      replace h5 := h5.next hb0
      replace K5 := K5.next hb0
      replace h7 := h7.next hb0
      replace K7 := K7.next hb0
      clear hca hb0 hcb
      have hzs := hz.zs; clear hz
      obtain ⟨hz1, hz2, hz3⟩ := hzs
      have hrc : ps.length = r * c := by rw [← HLN.out]; exact HX.out
      rw [hrc] at hz1
      rw [hrc] at hz2 hz3
      rw [← EZZ.out] at hz1
      rw [← EXX.out] at hz2
      rw [← EYY.out] at hz3
      have HRC := Lib.hid hrc; clear hrc
      have qKA0 := KA.cell 0
      have qKA1 := KA.cell 1
      have qK70 := K7.cell 0
      have qK71 := K7.cell 1
      have qK72 := K7.cell 2
      go_wp2_with fail
      refine (ref11_Is _ _ r c zz (3 + 3) 7 _ h7 hr hc (by rw [EZZ.out, pre_length]) (by omega) (by omega) hz1).mono ?_; rintro e w101 ⟨rfl, b101⟩
      clear qKA0 qKA1 qK70 qK71 qK72
      replace hA := hA.next b101
      replace hB := hB.next b101
      replace hC := hC.next b101
      replace KA := KA.next b101
      replace KB := KB.next b101
      replace KC := KC.next b101
      replace h3 := h3.next b101
      replace K3 := K3.next b101
      replace h5 := h5.next b101
      replace K5 := K5.next b101
      replace h7 := h7.next b101
      replace K7 := K7.next b101
      replace hz1 := hz1.next b101
      replace hz2 := hz2.next b101
      replace hz3 := hz3.next b101
      replace B0 := B0.trans (b101.mono B0.size)
      clear b101
      have qKA0 := KA.cell 0
      have qKA1 := KA.cell 1
      have qK30 := K3.cell 0
      have qK31 := K3.cell 1
      have qK32 := K3.cell 2
      go_wp2_with fail
      refine (ref11_Is _ _ r c xx (3 + 3 + 1) 7 _ h3 hr hc (by rw [EXX.out, pre_length]) (by omega) (by omega) hz2).mono ?_; rintro e w102 ⟨rfl, b102⟩
      clear qKA0 qKA1 qK30 qK31 qK32
      replace hA := hA.next b102
      replace hB := hB.next b102
      replace hC := hC.next b102
      replace KA := KA.next b102
      replace KB := KB.next b102
      replace KC := KC.next b102
      replace h3 := h3.next b102
      replace K3 := K3.next b102
      replace h5 := h5.next b102
      replace K5 := K5.next b102
      replace h7 := h7.next b102
      replace K7 := K7.next b102
      replace hz1 := hz1.next b102
      replace hz2 := hz2.next b102
      replace hz3 := hz3.next b102
      replace B0 := B0.trans (b102.mono B0.size)
      clear b102
      have qKA0 := KA.cell 0
      have qKA1 := KA.cell 1
      have qK50 := K5.cell 0
      have qK51 := K5.cell 1
      have qK52 := K5.cell 2
      go_wp2_with fail
      refine (ref11_Is _ _ r c yy (3 + 3 + 1) 7 _ h5 hr hc (by rw [EYY.out, pre_length]) (by omega) (by omega) hz3).mono ?_; rintro e w103 ⟨rfl, b103⟩
      clear qKA0 qKA1 qK50 qK51 qK52
      replace hA := hA.next b103
      replace hB := hB.next b103
      replace hC := hC.next b103
      replace KA := KA.next b103
      replace KB := KB.next b103
      replace KC := KC.next b103
      replace h3 := h3.next b103
      replace K3 := K3.next b103
      replace h5 := h5.next b103
      replace K5 := K5.next b103
      replace h7 := h7.next b103
      replace K7 := K7.next b103
      replace hz1 := hz1.next b103
      replace hz2 := hz2.next b103
      replace hz3 := hz3.next b103
      replace B0 := B0.trans (b103.mono B0.size)
      clear b103
      go_wp2
      go_ret
      exact ⟨rfl, B0⟩

set_option maxRecDepth 20000 in
set_option maxHeartbeats 2000000 in
theorem formed_no (a b : Value) (R2 C2 : Int) (ps qs : List (Bool × List Nat)) (xs ys : List Int) (r c : Nat) (sc : Bool) (uc : Value) (us : List Nat) (w : World) (mA : Mw w a r c ps) (mB : Mw w b R2 C2 qs) (hu : Sl .u64 w uc us) (hwu : wf W64 us) (hfew : Fx r c ps 6 3 ∧ Fx R2 C2 qs 6 3) (hshort : us.length ≤ 3) (y : Int) (hy : y = sg sc (nv W64 us)) (hA : Mt w a r c xs 3) (hr : r ≤ 64) (hc : c ≤ 64) (hx : xs.length = r * c) (hB : Mt w b R2 C2 ys 3) (hb : ¬ Al r c R2 C2 xs.length ys.length) :
    Calls Try.prog 4 #[a, b, .agg #[.bool sc, uc]] w (LawOk w) := by
  obtain ⟨ao, ca, rfl⟩ := mA.agg
  obtain ⟨bo, cb, rfl⟩ := mB.agg
  obtain ⟨co, bc, oc, cc, rfl, hccap, hccs⟩ := hu
  have hu : Sl .u64 w (.slice co us.length cc) us := ⟨co, bc, oc, cc, rfl, hccap, hccs⟩
  clear hccap hccs
  obtain ⟨wb, ew, KA, KB, KC, B0, hsz⟩ := boxes2 w 24 24 36 [.int .i64 r, .int .i64 c, .slice ao ps.length ca] [.int .i64 R2, .int .i64 C2, .slice bo qs.length cb] [.bool sc, .slice co us.length cc]
  clear hsz
  have hC : Iv w (.agg #[.bool sc, .slice co us.length cc]) y 3 := ⟨sc, _, us, rfl, hu, hwu, hshort, hy⟩
  clear hu hwu hy
  have HX := Lib.hid hx; clear hx
  replace mA := mA.next B0
  replace mB := mB.next B0
  replace hA := hA.next B0
  replace hB := hB.next B0
  replace hC := hC.next B0
  have FEW := Lib.hid hfew; clear hfew
  go_enter Try.func4, Try.ntmps4
  go_upto_region 1 with (fail)
  rw [← ew]
  clear ew
  go_wp2_with fail
  refine (law11_awake _).mono ?_; rintro e w1 ⟨rfl, b1⟩
  replace mA := mA.next b1
  replace mB := mB.next b1
  replace hA := hA.next b1
  replace hB := hB.next b1
  replace hC := hC.next b1
  replace KA := KA.next b1
  replace KB := KB.next b1
  replace KC := KC.next b1
  replace B0 := B0.trans (b1.mono B0.size)
  clear b1
  have qKA0 := KA.cell 0
  have qKA1 := KA.cell 1
  have qKA2 := KA.cell 2
  have qKB0 := KB.cell 0
  have qKB1 := KB.cell 1
  have qKB2 := KB.cell 2
  go_wp2_with fail
  refine (law11_few _ _ _ _ _ _ _ _ true ⟨fun _ => FEW.out, fun _ => rfl⟩ _ mA mB).mono ?_; rintro e w2 ⟨rfl, b2⟩
  clear qKA0 qKA1 qKA2 qKB0 qKB1 qKB2
  replace mA := mA.next b2
  replace mB := mB.next b2
  replace hA := hA.next b2
  replace hB := hB.next b2
  replace hC := hC.next b2
  replace KA := KA.next b2
  replace KB := KB.next b2
  replace KC := KC.next b2
  replace B0 := B0.trans (b2.mono B0.size)
  clear b2
  have qKC1 := KC.cell 1
  clear mA mB
  have qKA0 := KA.cell 0
  have qKA1 := KA.cell 1
  have qKA2 := KA.cell 2
  have qKB0 := KB.cell 0
  have qKB1 := KB.cell 1
  have qKB2 := KB.cell 2
  go_wp2_with fail
  refine (zmat_Add_bad _ _ r c R2 C2 xs ys 3 3 _ hA hB hb).mono ?_; rintro e w3 ⟨v3, rfl, h3, b3⟩
  clear qKC1 qKA0 qKA1 qKA2 qKB0 qKB1 qKB2
  replace hA := hA.next b3
  replace hB := hB.next b3
  replace hC := hC.next b3
  replace KA := KA.next b3
  replace KB := KB.next b3
  replace KC := KC.next b3
  replace B0 := B0.trans (b3.mono B0.size)
  clear b3
  obtain ⟨a3, k3, rfl⟩ := h3.agg
  obtain ⟨w4, e4, K3, b4, hs4⟩ := boxes1 w3 24 [.int .i64 0, .int .i64 0, .slice a3 0 k3]
  clear hs4
  replace hA := hA.next b4
  replace hB := hB.next b4
  replace hC := hC.next b4
  replace KA := KA.next b4
  replace KB := KB.next b4
  replace KC := KC.next b4
  replace h3 := h3.next b4
  replace B0 := B0.trans (b4.mono B0.size)
  clear b4
  go_upto_region 4 with (fail)
  rw [← e4]
  clear e4
  have qKA0 := KA.cell 0
  have qKA1 := KA.cell 1
  have qKA2 := KA.cell 2
  have qKB0 := KB.cell 0
  have qKB1 := KB.cell 1
  have qKB2 := KB.cell 2
  go_wp2_with fail
  refine (zmat_Sub_bad _ _ r c R2 C2 xs ys 3 3 _ hA hB hb).mono ?_; rintro e w5 ⟨v5, rfl, h5, b5⟩
  clear qKA0 qKA1 qKA2 qKB0 qKB1 qKB2
  replace hA := hA.next b5
  replace hB := hB.next b5
  replace hC := hC.next b5
  replace KA := KA.next b5
  replace KB := KB.next b5
  replace KC := KC.next b5
  replace h3 := h3.next b5
  replace K3 := K3.next b5
  replace B0 := B0.trans (b5.mono B0.size)
  clear b5
  obtain ⟨a5, k5, rfl⟩ := h5.agg
  obtain ⟨w6, e6, K5, b6, hs6⟩ := boxes1 w5 24 [.int .i64 0, .int .i64 0, .slice a5 0 k5]
  clear hs6
  replace hA := hA.next b6
  replace hB := hB.next b6
  replace hC := hC.next b6
  replace KA := KA.next b6
  replace KB := KB.next b6
  replace KC := KC.next b6
  replace h3 := h3.next b6
  replace K3 := K3.next b6
  replace h5 := h5.next b6
  replace B0 := B0.trans (b6.mono B0.size)
  clear b6
  go_upto_region 5 with (fail)
  rw [← e6]
  clear e6
  have qKA0 := KA.cell 0
  have qKA1 := KA.cell 1
  have qKA2 := KA.cell 2
  have qKC0 := KC.cell 0
  have qKC1 := KC.cell 1
  go_wp2_with fail
  refine (zmat_Scale _ _ r c xs y 3 3 _ hA hC hr hc HX.out (by omega) (by omega)).mono ?_; rintro e w7 ⟨v7, rfl, h7, b7⟩
  clear qKA0 qKA1 qKA2 qKC0 qKC1
  replace hA := hA.next b7
  replace hB := hB.next b7
  replace hC := hC.next b7
  replace KA := KA.next b7
  replace KB := KB.next b7
  replace KC := KC.next b7
  replace h3 := h3.next b7
  replace K3 := K3.next b7
  replace h5 := h5.next b7
  replace K5 := K5.next b7
  replace B0 := B0.trans (b7.mono B0.size)
  clear b7
  rw [tab_pre (fun j => xs.getD j 0 * y)] at h7
  obtain ⟨zz, ezz⟩ : ∃ zz, zz = pre (fun j => xs.getD j 0 * y) (r * c) := ⟨_, rfl⟩
  rw [← ezz] at h7
  have EZZ := Lib.hid ezz; clear ezz
  obtain ⟨a7, k7, rfl⟩ := h7.agg
  obtain ⟨w8, e8, K7, b8, hs8⟩ := boxes1 w7 24 [.int .i64 r, .int .i64 c, .slice a7 zz.length k7]
  clear hs8
  replace hA := hA.next b8
  replace hB := hB.next b8
  replace hC := hC.next b8
  replace KA := KA.next b8
  replace KB := KB.next b8
  replace KC := KC.next b8
  replace h3 := h3.next b8
  replace K3 := K3.next b8
  replace h5 := h5.next b8
  replace K5 := K5.next b8
  replace h7 := h7.next b8
  replace B0 := B0.trans (b8.mono B0.size)
  clear b8
  go_upto_region 6 with (fail)
  rw [← e8]
  clear e8
  have qKA0 := KA.cell 0
  have qKA1 := KA.cell 1
  have qKA2 := KA.cell 2
  go_wp2_with fail
  refine (ref11_Formed_yes _ r c xs 3 _ hA (Fm.of hr hc HX.out)).mono ?_; rintro e w9 ⟨rfl, b9⟩
  clear qKA0 qKA1 qKA2
  replace hA := hA.next b9
  replace hB := hB.next b9
  replace hC := hC.next b9
  replace KA := KA.next b9
  replace KB := KB.next b9
  replace KC := KC.next b9
  replace h3 := h3.next b9
  replace K3 := K3.next b9
  replace h5 := h5.next b9
  replace K5 := K5.next b9
  replace h7 := h7.next b9
  replace K7 := K7.next b9
  replace B0 := B0.trans (b9.mono B0.size)
  clear b9
  have qKB0 := KB.cell 0
  have qKB1 := KB.cell 1
  have qKB2 := KB.cell 2
  have HB := Lib.hid hb; clear hb
  go_wp2_with fail
  by_cases hfb : Fm R2 C2 ys.length
  · by_cases hfr : (r : Int) = R2
    · refine (ref11_Formed_yes _ R2 C2 ys 3 _ hB hfb).mono ?_; rintro e w10 ⟨rfl, b10⟩
      clear qKB0 qKB1 qKB2
      replace hA := hA.next b10
      replace hB := hB.next b10
      replace hC := hC.next b10
      replace KA := KA.next b10
      replace KB := KB.next b10
      replace KC := KC.next b10
      replace h3 := h3.next b10
      replace K3 := K3.next b10
      replace h5 := h5.next b10
      replace K5 := K5.next b10
      replace h7 := h7.next b10
      replace K7 := K7.next b10
      replace B0 := B0.trans (b10.mono B0.size)
      clear b10
      have qKA0 := KA.cell 0
      have qKA1 := KA.cell 1
      have qKA2 := KA.cell 2
      have qKB0 := KB.cell 0
      have qKB1 := KB.cell 1
      have qKB2 := KB.cell 2
      have hfc : ¬ (c : Int) = C2 := fun h => HB.out ⟨Fm.of hr hc HX.out, hfb, hfr, h⟩
      have hq0 : ((r : Int) == R2) = true := by simpa using hfr
      have hq : ((c : Int) == C2) = false := by simpa using hfc
      clear hfr hfc
      go_upto_region 10 with (fail)
      clear qKA0 qKA1 qKA2 qKB0 qKB1 qKB2
      go_upto_region 11 with (fail)
      have qKA2 := KA.cell 2
      skip
      obtain ⟨uA, euA, oA, bA, fA, cA, euA2, -, hca⟩ := id hA
      simp only [Value.agg.injEq, Array.mk.injEq, List.cons.injEq, and_true, true_and] at euA
      subst euA
      simp only [Value.slice.injEq] at euA2
      obtain ⟨rfl, hln, rfl⟩ := euA2
      have hxl : ps.length ≤ 100 := FEW.out.1.2.2.1
      have HLN := Lib.hid hln.symm; clear hln
      go_loopw [17, 15, 13, 14] (fun iv zv xv yv wr => ∃ i : Nat, i ≤ ps.length ∧ iv = .int .i64 i ∧ Z3 wr w10.heap.size 7 zv (pre (fun j => xs.getD j 0 * y) i) xv [] yv [] ∧ Below w10.heap.size w10 wr) (fun iv _ _ _ _ => ps.length - (intOf iv).toNat)
      case atStart => exact ⟨0, by omega, rfl, Z3.nil _ _ _, Below.refl _ _⟩
      case round =>
        clear qKA2
        obtain ⟨i, hi, rfl, hz, hb0⟩ := hrel
        have q2 := (KA.next hb0).cell 2
        by_cases hil : i < ps.length
        · have hil2 : i < xs.length := by rw [HLN.out]; exact hil
          go_upto_region 13 with (fail)
          clear q2
          obtain ⟨s, x, q1, q2, q3⟩ := hca.cell i hil2
          have hne : xs ≠ [] := by intro h; subst h; simp at hil2
          have hao := hca.ao hne
          subst hao
          have hz := hz.next (Drawn.below (w' := wr.drew) ⟨1, rfl⟩ _)
          have hb0 := hb0.trans (Drawn.below (w' := wr.drew) ⟨1, rfl⟩ _)
          refine startL (S := (fun w' => Below w10.heap.size w10 w')) (by kernel_rfl) hb0 (fun hHeld => ?_)
          refine takeL 0 (v := ?_) rfl (by kernel_rfl) (by kernel_rfl) (by kernel_rfl) (fun _ _ _ h => h) ⟨by rfl, ?_⟩ (by assumption) ?_
          rotate_left
          · intro w hS; go_simp <;> with_reducible rfl
          simp only [Act.put, List.setIfInBounds_toArray, List.set_cons_zero, List.set_cons_succ]
          refine takeL 1 (v := ?_) rfl (by kernel_rfl) (by kernel_rfl) (by kernel_rfl) (fun _ _ _ h => h) ⟨by rfl, ?_⟩ (by assumption) ?_
          rotate_left
          · intro w hS; go_simp <;> with_reducible rfl
          simp only [Act.put, List.setIfInBounds_toArray, List.set_cons_zero, List.set_cons_succ]
          refine takeL 2 (v := ?_) rfl (by kernel_rfl) (by kernel_rfl) (by kernel_rfl) (fun _ _ _ h => h) ⟨by rfl, ?_⟩ (by assumption) ?_
          rotate_left
          · intro w hS; have fa := KA.at hS; have f0 := fa 2; clear fa; have f3 := (hS.cell (p := ⟨bA, fA + i * 2, none⟩) (World.block_lt_of_cell? _ _ q1)).trans q1; have f4 := (hS.cell (p := ⟨bA, fA + i * 2 + 1, none⟩) (World.block_lt_of_cell? _ _ q2)).trans q2; have fc := KC.at hS; have f5 := fc 0; have f6 := fc 1; clear fc; go_simp <;> with_reducible rfl
          simp only [Act.put, List.setIfInBounds_toArray, List.set_cons_zero, List.set_cons_succ]
          refine takeL 3 (v := ?_) rfl (by kernel_rfl) (by kernel_rfl) (by kernel_rfl) (fun _ _ _ h => h) ⟨by rfl, ?_⟩ (by assumption) ?_
          rotate_left
          · intro w hS; go_simp <;> with_reducible rfl
          simp only [Act.put, List.setIfInBounds_toArray, List.set_cons_zero, List.set_cons_succ]
          refine takeL 4 (v := ?_) rfl (by kernel_rfl) (by kernel_rfl) (by kernel_rfl) (fun _ _ _ h => h) ⟨by rfl, ?_⟩ (by assumption) ?_
          rotate_left
          · intro w hS; go_simp <;> with_reducible rfl
          simp only [Act.put, List.setIfInBounds_toArray, List.set_cons_zero, List.set_cons_succ]
          refine takeL 5 (v := ?_) rfl (by kernel_rfl) (by kernel_rfl) (by kernel_rfl) (fun _ _ _ h => h) ⟨by rfl, ?_⟩ (by assumption) ?_
          rotate_left
          · intro w hS; have fa := KA.at hS; have f0 := fa 2; clear fa; have f3 := (hS.cell (p := ⟨bA, fA + i * 2, none⟩) (World.block_lt_of_cell? _ _ q1)).trans q1; have f4 := (hS.cell (p := ⟨bA, fA + i * 2 + 1, none⟩) (World.block_lt_of_cell? _ _ q2)).trans q2; have fc := KC.at hS; have f5 := fc 0; have f6 := fc 1; clear fc; go_simp <;> with_reducible rfl
          simp only [Act.put, List.setIfInBounds_toArray, List.set_cons_zero, List.set_cons_succ]
          refine takeL 6 (v := ?_) rfl (by kernel_rfl) (by kernel_rfl) (by kernel_rfl) (fun _ _ _ h => h) ⟨by rfl, ?_⟩ (by assumption) ?_
          rotate_left
          · intro w hS; have fa := KA.at hS; have f0 := fa 2; clear fa; have f3 := (hS.cell (p := ⟨bA, fA + i * 2, none⟩) (World.block_lt_of_cell? _ _ q1)).trans q1; have f4 := (hS.cell (p := ⟨bA, fA + i * 2 + 1, none⟩) (World.block_lt_of_cell? _ _ q2)).trans q2; have fc := KC.at hS; have f5 := fc 0; have f6 := fc 1; clear fc; go_simp <;> with_reducible rfl
          simp only [Act.put, List.setIfInBounds_toArray, List.set_cons_zero, List.set_cons_succ]
          refine oneL 7 rfl (by kernel_rfl) (by rfl) (fun K hK => ?_)
          go_simp
          go_at_call 23
          (with_reducible refine (zi_Mul _ _ _ y 3 3 _ (q3.next hHeld) (hC.next hHeld) (by omega) (by omega)).mono ?_); rintro e w60 ⟨vn60, rfl, hn60, bn60, qn60⟩
          obtain ⟨sn60, an60, nn60, cn60, rfl⟩ := hn60.agg
          refine hK.out _ _ (hHeld.trans (bn60.mono hHeld.size)) (fun hHeld => ?_)
          clear hK K
          try simp only [Act.put, List.setIfInBounds_toArray, List.set_cons_zero, List.set_cons_succ]
          refine oneL 8 rfl (by kernel_rfl) (by rfl) (fun K hK => ?_)
          go_simp
          have hd := hHeld
          refine hK.out _ _ (hHeld.alloc hHeld.size _) (fun hHeld => ?_)
          clear hK K
          try simp only [Act.put, List.setIfInBounds_toArray, List.set_cons_zero, List.set_cons_succ]
          refine oneL 9 rfl (by kernel_rfl) (by rfl) (fun K hK => ?_)
          refine zap3 22 32 (.agg #[.bool false, .slice none 0 0]) Try.underlying22 (by kernel_rfl) (by decide) rfl _ _ rfl wr.drew w60 w10.heap.size u15 u13 u14 (pre (fun j => xs.getD j 0 * y) i) [] [] 7 (xs.getD i 0 * y) sn60 an60 nn60 cn60 bn60 hz (hn60.mono (by omega)) qn60 (by rw [pre_length]; omega) hd.size rfl rfl ?_
          intro gg60 cap60 w61 hz' hbel'
          rw [pre_length] at hz' ⊢
          refine hK.out _ _ (hd.trans hbel') (fun hHeld => ?_)
          clear hK K
          try simp only [Act.put, List.setIfInBounds_toArray, List.set_cons_zero, List.set_cons_succ]
          refine takeL 10 (v := ?_) rfl (by kernel_rfl) (by kernel_rfl) (by kernel_rfl) (fun _ _ _ h => h) ⟨by rfl, ?_⟩ (by assumption) ?_
          rotate_left
          · intro w hS; go_simp <;> with_reducible rfl
          simp only [Act.put, List.setIfInBounds_toArray, List.set_cons_zero, List.set_cons_succ]
          refine doneL (by kernel_rfl) ?_ _
          clear hz hb0 hn60 bn60 qn60 hd hbel'
          have hb0 := hHeld; clear hHeld
          have hz := hz'; clear hz'
          rw [← pre_succ] at hz
          go_wp2
          go_roundw
          case rel => exact ⟨i + 1, by omega, by go_num, hz, hb0⟩
          case measure => simp [intOf] <;> omega
        · obtain rfl : i = ps.length := by omega
          go_upto_region 17 with (fail)
          clear q2 hi
          replace B0 := B0.trans (hb0.mono B0.size)
          replace hA := hA.next hb0
          replace hB := hB.next hb0
          replace hC := hC.next hb0
          replace KA := KA.next hb0
          replace KB := KB.next hb0
          replace KC := KC.next hb0
          replace h3 := h3.next hb0
          replace K3 := K3.next hb0
          replace h5 := h5.next hb0
          replace K5 := K5.next hb0
          replace h7 := h7.next hb0
          replace K7 := K7.next hb0
          clear hca hb0
          have hzs := hz.zs; clear hz
          obtain ⟨hz1, hz2, hz3⟩ := hzs
          have hrc : ps.length = r * c := by rw [← HLN.out]; exact HX.out
          rw [hrc] at hz1
          rw [← EZZ.out] at hz1
          have HRC := Lib.hid hrc; clear hrc
          have qKA0 := KA.cell 0
          have qKA1 := KA.cell 1
          have qK70 := K7.cell 0
          have qK71 := K7.cell 1
          have qK72 := K7.cell 2
          go_wp2_with fail
          refine (ref11_Is _ _ r c zz (3 + 3) 7 _ h7 hr hc (by rw [EZZ.out, pre_length]) (by omega) (by omega) hz1).mono ?_; rintro e w101 ⟨rfl, b101⟩
          clear qKA0 qKA1 qK70 qK71 qK72
          replace hA := hA.next b101
          replace hB := hB.next b101
          replace hC := hC.next b101
          replace KA := KA.next b101
          replace KB := KB.next b101
          replace KC := KC.next b101
          replace h3 := h3.next b101
          replace K3 := K3.next b101
          replace h5 := h5.next b101
          replace K5 := K5.next b101
          replace h7 := h7.next b101
          replace K7 := K7.next b101
          replace hz1 := hz1.next b101
          replace hz2 := hz2.next b101
          replace hz3 := hz3.next b101
          replace B0 := B0.trans (b101.mono B0.size)
          clear b101
          have qK30 := K3.cell 0
          have qK31 := K3.cell 1
          have qK32 := K3.cell 2
          go_wp2_with fail
          refine (ref11_None a3 k3 _).mono ?_; rintro e w102 ⟨rfl, b102⟩
          clear qK30 qK31 qK32
          replace hA := hA.next b102
          replace hB := hB.next b102
          replace hC := hC.next b102
          replace KA := KA.next b102
          replace KB := KB.next b102
          replace KC := KC.next b102
          replace h3 := h3.next b102
          replace K3 := K3.next b102
          replace h5 := h5.next b102
          replace K5 := K5.next b102
          replace h7 := h7.next b102
          replace K7 := K7.next b102
          replace hz1 := hz1.next b102
          replace hz2 := hz2.next b102
          replace hz3 := hz3.next b102
          replace B0 := B0.trans (b102.mono B0.size)
          clear b102
          have qK50 := K5.cell 0
          have qK51 := K5.cell 1
          have qK52 := K5.cell 2
          go_wp2_with fail
          refine (ref11_None a5 k5 _).mono ?_; rintro e w103 ⟨rfl, b103⟩
          clear qK50 qK51 qK52
          replace hA := hA.next b103
          replace hB := hB.next b103
          replace hC := hC.next b103
          replace KA := KA.next b103
          replace KB := KB.next b103
          replace KC := KC.next b103
          replace h3 := h3.next b103
          replace K3 := K3.next b103
          replace h5 := h5.next b103
          replace K5 := K5.next b103
          replace h7 := h7.next b103
          replace K7 := K7.next b103
          replace hz1 := hz1.next b103
          replace hz2 := hz2.next b103
          replace hz3 := hz3.next b103
          replace B0 := B0.trans (b103.mono B0.size)
          clear b103
          go_wp2
          go_ret
          exact ⟨rfl, B0⟩
    · refine (ref11_Formed_yes _ R2 C2 ys 3 _ hB hfb).mono ?_; rintro e w10 ⟨rfl, b10⟩
      clear qKB0 qKB1 qKB2
      replace hA := hA.next b10
      replace hB := hB.next b10
      replace hC := hC.next b10
      replace KA := KA.next b10
      replace KB := KB.next b10
      replace KC := KC.next b10
      replace h3 := h3.next b10
      replace K3 := K3.next b10
      replace h5 := h5.next b10
      replace K5 := K5.next b10
      replace h7 := h7.next b10
      replace K7 := K7.next b10
      replace B0 := B0.trans (b10.mono B0.size)
      clear b10
      have qKA0 := KA.cell 0
      have qKA1 := KA.cell 1
      have qKA2 := KA.cell 2
      have qKB0 := KB.cell 0
      have qKB1 := KB.cell 1
      have qKB2 := KB.cell 2
      have hq : ((r : Int) == R2) = false := by simpa using hfr
      go_upto_region 10 with (fail)
      clear qKA0 qKA1 qKA2 qKB0 qKB1 qKB2
      go_upto_region 11 with (fail)
      have qKA2 := KA.cell 2
      skip
      obtain ⟨uA, euA, oA, bA, fA, cA, euA2, -, hca⟩ := id hA
      simp only [Value.agg.injEq, Array.mk.injEq, List.cons.injEq, and_true, true_and] at euA
      subst euA
      simp only [Value.slice.injEq] at euA2
      obtain ⟨rfl, hln, rfl⟩ := euA2
      have hxl : ps.length ≤ 100 := FEW.out.1.2.2.1
      have HLN := Lib.hid hln.symm; clear hln
      go_loopw [17, 15, 13, 14] (fun iv zv xv yv wr => ∃ i : Nat, i ≤ ps.length ∧ iv = .int .i64 i ∧ Z3 wr w10.heap.size 7 zv (pre (fun j => xs.getD j 0 * y) i) xv [] yv [] ∧ Below w10.heap.size w10 wr) (fun iv _ _ _ _ => ps.length - (intOf iv).toNat)
      case atStart => exact ⟨0, by omega, rfl, Z3.nil _ _ _, Below.refl _ _⟩
      case round =>
        clear qKA2
        obtain ⟨i, hi, rfl, hz, hb0⟩ := hrel
        have q2 := (KA.next hb0).cell 2
        by_cases hil : i < ps.length
        · have hil2 : i < xs.length := by rw [HLN.out]; exact hil
          go_upto_region 13 with (fail)
          clear q2
          obtain ⟨s, x, q1, q2, q3⟩ := hca.cell i hil2
          have hne : xs ≠ [] := by intro h; subst h; simp at hil2
          have hao := hca.ao hne
          subst hao
          have hz := hz.next (Drawn.below (w' := wr.drew) ⟨1, rfl⟩ _)
          have hb0 := hb0.trans (Drawn.below (w' := wr.drew) ⟨1, rfl⟩ _)
          refine startL (S := (fun w' => Below w10.heap.size w10 w')) (by kernel_rfl) hb0 (fun hHeld => ?_)
          refine takeL 0 (v := ?_) rfl (by kernel_rfl) (by kernel_rfl) (by kernel_rfl) (fun _ _ _ h => h) ⟨by rfl, ?_⟩ (by assumption) ?_
          rotate_left
          · intro w hS; go_simp <;> with_reducible rfl
          simp only [Act.put, List.setIfInBounds_toArray, List.set_cons_zero, List.set_cons_succ]
          refine takeL 1 (v := ?_) rfl (by kernel_rfl) (by kernel_rfl) (by kernel_rfl) (fun _ _ _ h => h) ⟨by rfl, ?_⟩ (by assumption) ?_
          rotate_left
          · intro w hS; go_simp <;> with_reducible rfl
          simp only [Act.put, List.setIfInBounds_toArray, List.set_cons_zero, List.set_cons_succ]
          refine takeL 2 (v := ?_) rfl (by kernel_rfl) (by kernel_rfl) (by kernel_rfl) (fun _ _ _ h => h) ⟨by rfl, ?_⟩ (by assumption) ?_
          rotate_left
          · intro w hS; have fa := KA.at hS; have f0 := fa 2; clear fa; have f3 := (hS.cell (p := ⟨bA, fA + i * 2, none⟩) (World.block_lt_of_cell? _ _ q1)).trans q1; have f4 := (hS.cell (p := ⟨bA, fA + i * 2 + 1, none⟩) (World.block_lt_of_cell? _ _ q2)).trans q2; have fc := KC.at hS; have f5 := fc 0; have f6 := fc 1; clear fc; go_simp <;> with_reducible rfl
          simp only [Act.put, List.setIfInBounds_toArray, List.set_cons_zero, List.set_cons_succ]
          refine takeL 3 (v := ?_) rfl (by kernel_rfl) (by kernel_rfl) (by kernel_rfl) (fun _ _ _ h => h) ⟨by rfl, ?_⟩ (by assumption) ?_
          rotate_left
          · intro w hS; go_simp <;> with_reducible rfl
          simp only [Act.put, List.setIfInBounds_toArray, List.set_cons_zero, List.set_cons_succ]
          refine takeL 4 (v := ?_) rfl (by kernel_rfl) (by kernel_rfl) (by kernel_rfl) (fun _ _ _ h => h) ⟨by rfl, ?_⟩ (by assumption) ?_
          rotate_left
          · intro w hS; go_simp <;> with_reducible rfl
          simp only [Act.put, List.setIfInBounds_toArray, List.set_cons_zero, List.set_cons_succ]
          refine takeL 5 (v := ?_) rfl (by kernel_rfl) (by kernel_rfl) (by kernel_rfl) (fun _ _ _ h => h) ⟨by rfl, ?_⟩ (by assumption) ?_
          rotate_left
          · intro w hS; have fa := KA.at hS; have f0 := fa 2; clear fa; have f3 := (hS.cell (p := ⟨bA, fA + i * 2, none⟩) (World.block_lt_of_cell? _ _ q1)).trans q1; have f4 := (hS.cell (p := ⟨bA, fA + i * 2 + 1, none⟩) (World.block_lt_of_cell? _ _ q2)).trans q2; have fc := KC.at hS; have f5 := fc 0; have f6 := fc 1; clear fc; go_simp <;> with_reducible rfl
          simp only [Act.put, List.setIfInBounds_toArray, List.set_cons_zero, List.set_cons_succ]
          refine takeL 6 (v := ?_) rfl (by kernel_rfl) (by kernel_rfl) (by kernel_rfl) (fun _ _ _ h => h) ⟨by rfl, ?_⟩ (by assumption) ?_
          rotate_left
          · intro w hS; have fa := KA.at hS; have f0 := fa 2; clear fa; have f3 := (hS.cell (p := ⟨bA, fA + i * 2, none⟩) (World.block_lt_of_cell? _ _ q1)).trans q1; have f4 := (hS.cell (p := ⟨bA, fA + i * 2 + 1, none⟩) (World.block_lt_of_cell? _ _ q2)).trans q2; have fc := KC.at hS; have f5 := fc 0; have f6 := fc 1; clear fc; go_simp <;> with_reducible rfl
          simp only [Act.put, List.setIfInBounds_toArray, List.set_cons_zero, List.set_cons_succ]
          refine oneL 7 rfl (by kernel_rfl) (by rfl) (fun K hK => ?_)
          go_simp
          go_at_call 23
          (with_reducible refine (zi_Mul _ _ _ y 3 3 _ (q3.next hHeld) (hC.next hHeld) (by omega) (by omega)).mono ?_); rintro e w60 ⟨vn60, rfl, hn60, bn60, qn60⟩
          obtain ⟨sn60, an60, nn60, cn60, rfl⟩ := hn60.agg
          refine hK.out _ _ (hHeld.trans (bn60.mono hHeld.size)) (fun hHeld => ?_)
          clear hK K
          try simp only [Act.put, List.setIfInBounds_toArray, List.set_cons_zero, List.set_cons_succ]
          refine oneL 8 rfl (by kernel_rfl) (by rfl) (fun K hK => ?_)
          go_simp
          have hd := hHeld
          refine hK.out _ _ (hHeld.alloc hHeld.size _) (fun hHeld => ?_)
          clear hK K
          try simp only [Act.put, List.setIfInBounds_toArray, List.set_cons_zero, List.set_cons_succ]
          refine oneL 9 rfl (by kernel_rfl) (by rfl) (fun K hK => ?_)
          refine zap3 22 32 (.agg #[.bool false, .slice none 0 0]) Try.underlying22 (by kernel_rfl) (by decide) rfl _ _ rfl wr.drew w60 w10.heap.size u15 u13 u14 (pre (fun j => xs.getD j 0 * y) i) [] [] 7 (xs.getD i 0 * y) sn60 an60 nn60 cn60 bn60 hz (hn60.mono (by omega)) qn60 (by rw [pre_length]; omega) hd.size rfl rfl ?_
          intro gg60 cap60 w61 hz' hbel'
          rw [pre_length] at hz' ⊢
          refine hK.out _ _ (hd.trans hbel') (fun hHeld => ?_)
          clear hK K
          try simp only [Act.put, List.setIfInBounds_toArray, List.set_cons_zero, List.set_cons_succ]
          refine takeL 10 (v := ?_) rfl (by kernel_rfl) (by kernel_rfl) (by kernel_rfl) (fun _ _ _ h => h) ⟨by rfl, ?_⟩ (by assumption) ?_
          rotate_left
          · intro w hS; go_simp <;> with_reducible rfl
          simp only [Act.put, List.setIfInBounds_toArray, List.set_cons_zero, List.set_cons_succ]
          refine doneL (by kernel_rfl) ?_ _
          clear hz hb0 hn60 bn60 qn60 hd hbel'
          have hb0 := hHeld; clear hHeld
          have hz := hz'; clear hz'
          rw [← pre_succ] at hz
          go_wp2
          go_roundw
          case rel => exact ⟨i + 1, by omega, by go_num, hz, hb0⟩
          case measure => simp [intOf] <;> omega
        · obtain rfl : i = ps.length := by omega
          go_upto_region 17 with (fail)
          clear q2 hi
          replace B0 := B0.trans (hb0.mono B0.size)
          replace hA := hA.next hb0
          replace hB := hB.next hb0
          replace hC := hC.next hb0
          replace KA := KA.next hb0
          replace KB := KB.next hb0
          replace KC := KC.next hb0
          replace h3 := h3.next hb0
          replace K3 := K3.next hb0
          replace h5 := h5.next hb0
          replace K5 := K5.next hb0
          replace h7 := h7.next hb0
          replace K7 := K7.next hb0
          clear hca hb0
          have hzs := hz.zs; clear hz
          obtain ⟨hz1, hz2, hz3⟩ := hzs
          have hrc : ps.length = r * c := by rw [← HLN.out]; exact HX.out
          rw [hrc] at hz1
          rw [← EZZ.out] at hz1
          have HRC := Lib.hid hrc; clear hrc
          have qKA0 := KA.cell 0
          have qKA1 := KA.cell 1
          have qK70 := K7.cell 0
          have qK71 := K7.cell 1
          have qK72 := K7.cell 2
          go_wp2_with fail
          refine (ref11_Is _ _ r c zz (3 + 3) 7 _ h7 hr hc (by rw [EZZ.out, pre_length]) (by omega) (by omega) hz1).mono ?_; rintro e w101 ⟨rfl, b101⟩
          clear qKA0 qKA1 qK70 qK71 qK72
          replace hA := hA.next b101
          replace hB := hB.next b101
          replace hC := hC.next b101
          replace KA := KA.next b101
          replace KB := KB.next b101
          replace KC := KC.next b101
          replace h3 := h3.next b101
          replace K3 := K3.next b101
          replace h5 := h5.next b101
          replace K5 := K5.next b101
          replace h7 := h7.next b101
          replace K7 := K7.next b101
          replace hz1 := hz1.next b101
          replace hz2 := hz2.next b101
          replace hz3 := hz3.next b101
          replace B0 := B0.trans (b101.mono B0.size)
          clear b101
          have qK30 := K3.cell 0
          have qK31 := K3.cell 1
          have qK32 := K3.cell 2
          go_wp2_with fail
          refine (ref11_None a3 k3 _).mono ?_; rintro e w102 ⟨rfl, b102⟩
          clear qK30 qK31 qK32
          replace hA := hA.next b102
          replace hB := hB.next b102
          replace hC := hC.next b102
          replace KA := KA.next b102
          replace KB := KB.next b102
          replace KC := KC.next b102
          replace h3 := h3.next b102
          replace K3 := K3.next b102
          replace h5 := h5.next b102
          replace K5 := K5.next b102
          replace h7 := h7.next b102
          replace K7 := K7.next b102
          replace hz1 := hz1.next b102
          replace hz2 := hz2.next b102
          replace hz3 := hz3.next b102
          replace B0 := B0.trans (b102.mono B0.size)
          clear b102
          have qK50 := K5.cell 0
          have qK51 := K5.cell 1
          have qK52 := K5.cell 2
          go_wp2_with fail
          refine (ref11_None a5 k5 _).mono ?_; rintro e w103 ⟨rfl, b103⟩
          clear qK50 qK51 qK52
          replace hA := hA.next b103
          replace hB := hB.next b103
          replace hC := hC.next b103
          replace KA := KA.next b103
          replace KB := KB.next b103
          replace KC := KC.next b103
          replace h3 := h3.next b103
          replace K3 := K3.next b103
          replace h5 := h5.next b103
          replace K5 := K5.next b103
          replace h7 := h7.next b103
          replace K7 := K7.next b103
          replace hz1 := hz1.next b103
          replace hz2 := hz2.next b103
          replace hz3 := hz3.next b103
          replace B0 := B0.trans (b103.mono B0.size)
          clear b103
          go_wp2
          go_ret
          exact ⟨rfl, B0⟩
  · refine (ref11_Formed_no _ R2 C2 ys 3 _ hB hfb).mono ?_; rintro e w10 ⟨rfl, b10⟩
    clear qKB0 qKB1 qKB2
    replace hA := hA.next b10
    replace hB := hB.next b10
    replace hC := hC.next b10
    replace KA := KA.next b10
    replace KB := KB.next b10
    replace KC := KC.next b10
    replace h3 := h3.next b10
    replace K3 := K3.next b10
    replace h5 := h5.next b10
    replace K5 := K5.next b10
    replace h7 := h7.next b10
    replace K7 := K7.next b10
    replace B0 := B0.trans (b10.mono B0.size)
    clear b10
    go_upto_region 10 with (fail)
    go_upto_region 11 with (fail)
    have qKA2 := KA.cell 2
    skip
    obtain ⟨uA, euA, oA, bA, fA, cA, euA2, -, hca⟩ := id hA
    simp only [Value.agg.injEq, Array.mk.injEq, List.cons.injEq, and_true, true_and] at euA
    subst euA
    simp only [Value.slice.injEq] at euA2
    obtain ⟨rfl, hln, rfl⟩ := euA2
    have hxl : ps.length ≤ 100 := FEW.out.1.2.2.1
    have HLN := Lib.hid hln.symm; clear hln
    go_loopw [17, 15, 13, 14] (fun iv zv xv yv wr => ∃ i : Nat, i ≤ ps.length ∧ iv = .int .i64 i ∧ Z3 wr w10.heap.size 7 zv (pre (fun j => xs.getD j 0 * y) i) xv [] yv [] ∧ Below w10.heap.size w10 wr) (fun iv _ _ _ _ => ps.length - (intOf iv).toNat)
    case atStart => exact ⟨0, by omega, rfl, Z3.nil _ _ _, Below.refl _ _⟩
    case round =>
      clear qKA2
      obtain ⟨i, hi, rfl, hz, hb0⟩ := hrel
      have q2 := (KA.next hb0).cell 2
      by_cases hil : i < ps.length
      · have hil2 : i < xs.length := by rw [HLN.out]; exact hil
        go_upto_region 13 with (fail)
        clear q2
        obtain ⟨s, x, q1, q2, q3⟩ := hca.cell i hil2
        have hne : xs ≠ [] := by intro h; subst h; simp at hil2
        have hao := hca.ao hne
        subst hao
        have hz := hz.next (Drawn.below (w' := wr.drew) ⟨1, rfl⟩ _)
        have hb0 := hb0.trans (Drawn.below (w' := wr.drew) ⟨1, rfl⟩ _)
        refine startL (S := (fun w' => Below w10.heap.size w10 w')) (by kernel_rfl) hb0 (fun hHeld => ?_)
        refine takeL 0 (v := ?_) rfl (by kernel_rfl) (by kernel_rfl) (by kernel_rfl) (fun _ _ _ h => h) ⟨by rfl, ?_⟩ (by assumption) ?_
        rotate_left
        · intro w hS; go_simp <;> with_reducible rfl
        simp only [Act.put, List.setIfInBounds_toArray, List.set_cons_zero, List.set_cons_succ]
        refine takeL 1 (v := ?_) rfl (by kernel_rfl) (by kernel_rfl) (by kernel_rfl) (fun _ _ _ h => h) ⟨by rfl, ?_⟩ (by assumption) ?_
        rotate_left
        · intro w hS; go_simp <;> with_reducible rfl
        simp only [Act.put, List.setIfInBounds_toArray, List.set_cons_zero, List.set_cons_succ]
        refine takeL 2 (v := ?_) rfl (by kernel_rfl) (by kernel_rfl) (by kernel_rfl) (fun _ _ _ h => h) ⟨by rfl, ?_⟩ (by assumption) ?_
        rotate_left
        · intro w hS; have fa := KA.at hS; have f0 := fa 2; clear fa; have f3 := (hS.cell (p := ⟨bA, fA + i * 2, none⟩) (World.block_lt_of_cell? _ _ q1)).trans q1; have f4 := (hS.cell (p := ⟨bA, fA + i * 2 + 1, none⟩) (World.block_lt_of_cell? _ _ q2)).trans q2; have fc := KC.at hS; have f5 := fc 0; have f6 := fc 1; clear fc; go_simp <;> with_reducible rfl
        simp only [Act.put, List.setIfInBounds_toArray, List.set_cons_zero, List.set_cons_succ]
        refine takeL 3 (v := ?_) rfl (by kernel_rfl) (by kernel_rfl) (by kernel_rfl) (fun _ _ _ h => h) ⟨by rfl, ?_⟩ (by assumption) ?_
        rotate_left
        · intro w hS; go_simp <;> with_reducible rfl
        simp only [Act.put, List.setIfInBounds_toArray, List.set_cons_zero, List.set_cons_succ]
        refine takeL 4 (v := ?_) rfl (by kernel_rfl) (by kernel_rfl) (by kernel_rfl) (fun _ _ _ h => h) ⟨by rfl, ?_⟩ (by assumption) ?_
        rotate_left
        · intro w hS; go_simp <;> with_reducible rfl
        simp only [Act.put, List.setIfInBounds_toArray, List.set_cons_zero, List.set_cons_succ]
        refine takeL 5 (v := ?_) rfl (by kernel_rfl) (by kernel_rfl) (by kernel_rfl) (fun _ _ _ h => h) ⟨by rfl, ?_⟩ (by assumption) ?_
        rotate_left
        · intro w hS; have fa := KA.at hS; have f0 := fa 2; clear fa; have f3 := (hS.cell (p := ⟨bA, fA + i * 2, none⟩) (World.block_lt_of_cell? _ _ q1)).trans q1; have f4 := (hS.cell (p := ⟨bA, fA + i * 2 + 1, none⟩) (World.block_lt_of_cell? _ _ q2)).trans q2; have fc := KC.at hS; have f5 := fc 0; have f6 := fc 1; clear fc; go_simp <;> with_reducible rfl
        simp only [Act.put, List.setIfInBounds_toArray, List.set_cons_zero, List.set_cons_succ]
        refine takeL 6 (v := ?_) rfl (by kernel_rfl) (by kernel_rfl) (by kernel_rfl) (fun _ _ _ h => h) ⟨by rfl, ?_⟩ (by assumption) ?_
        rotate_left
        · intro w hS; have fa := KA.at hS; have f0 := fa 2; clear fa; have f3 := (hS.cell (p := ⟨bA, fA + i * 2, none⟩) (World.block_lt_of_cell? _ _ q1)).trans q1; have f4 := (hS.cell (p := ⟨bA, fA + i * 2 + 1, none⟩) (World.block_lt_of_cell? _ _ q2)).trans q2; have fc := KC.at hS; have f5 := fc 0; have f6 := fc 1; clear fc; go_simp <;> with_reducible rfl
        simp only [Act.put, List.setIfInBounds_toArray, List.set_cons_zero, List.set_cons_succ]
        refine oneL 7 rfl (by kernel_rfl) (by rfl) (fun K hK => ?_)
        go_simp
        go_at_call 23
        (with_reducible refine (zi_Mul _ _ _ y 3 3 _ (q3.next hHeld) (hC.next hHeld) (by omega) (by omega)).mono ?_); rintro e w60 ⟨vn60, rfl, hn60, bn60, qn60⟩
        obtain ⟨sn60, an60, nn60, cn60, rfl⟩ := hn60.agg
        refine hK.out _ _ (hHeld.trans (bn60.mono hHeld.size)) (fun hHeld => ?_)
        clear hK K
        try simp only [Act.put, List.setIfInBounds_toArray, List.set_cons_zero, List.set_cons_succ]
        refine oneL 8 rfl (by kernel_rfl) (by rfl) (fun K hK => ?_)
        go_simp
        have hd := hHeld
        refine hK.out _ _ (hHeld.alloc hHeld.size _) (fun hHeld => ?_)
        clear hK K
        try simp only [Act.put, List.setIfInBounds_toArray, List.set_cons_zero, List.set_cons_succ]
        refine oneL 9 rfl (by kernel_rfl) (by rfl) (fun K hK => ?_)
        refine zap3 22 32 (.agg #[.bool false, .slice none 0 0]) Try.underlying22 (by kernel_rfl) (by decide) rfl _ _ rfl wr.drew w60 w10.heap.size u15 u13 u14 (pre (fun j => xs.getD j 0 * y) i) [] [] 7 (xs.getD i 0 * y) sn60 an60 nn60 cn60 bn60 hz (hn60.mono (by omega)) qn60 (by rw [pre_length]; omega) hd.size rfl rfl ?_
        intro gg60 cap60 w61 hz' hbel'
        rw [pre_length] at hz' ⊢
        refine hK.out _ _ (hd.trans hbel') (fun hHeld => ?_)
        clear hK K
        try simp only [Act.put, List.setIfInBounds_toArray, List.set_cons_zero, List.set_cons_succ]
        refine takeL 10 (v := ?_) rfl (by kernel_rfl) (by kernel_rfl) (by kernel_rfl) (fun _ _ _ h => h) ⟨by rfl, ?_⟩ (by assumption) ?_
        rotate_left
        · intro w hS; go_simp <;> with_reducible rfl
        simp only [Act.put, List.setIfInBounds_toArray, List.set_cons_zero, List.set_cons_succ]
        refine doneL (by kernel_rfl) ?_ _
        clear hz hb0 hn60 bn60 qn60 hd hbel'
        have hb0 := hHeld; clear hHeld
        have hz := hz'; clear hz'
        rw [← pre_succ] at hz
        go_wp2
        go_roundw
        case rel => exact ⟨i + 1, by omega, by go_num, hz, hb0⟩
        case measure => simp [intOf] <;> omega
      · obtain rfl : i = ps.length := by omega
        go_upto_region 17 with (fail)
        clear q2 hi
        replace B0 := B0.trans (hb0.mono B0.size)
        replace hA := hA.next hb0
        replace hB := hB.next hb0
        replace hC := hC.next hb0
        replace KA := KA.next hb0
        replace KB := KB.next hb0
        replace KC := KC.next hb0
        replace h3 := h3.next hb0
        replace K3 := K3.next hb0
        replace h5 := h5.next hb0
        replace K5 := K5.next hb0
        replace h7 := h7.next hb0
        replace K7 := K7.next hb0
        clear hca hb0
        have hzs := hz.zs; clear hz
        obtain ⟨hz1, hz2, hz3⟩ := hzs
        have hrc : ps.length = r * c := by rw [← HLN.out]; exact HX.out
        rw [hrc] at hz1
        rw [← EZZ.out] at hz1
        have HRC := Lib.hid hrc; clear hrc
        have qKA0 := KA.cell 0
        have qKA1 := KA.cell 1
        have qK70 := K7.cell 0
        have qK71 := K7.cell 1
        have qK72 := K7.cell 2
        go_wp2_with fail
        refine (ref11_Is _ _ r c zz (3 + 3) 7 _ h7 hr hc (by rw [EZZ.out, pre_length]) (by omega) (by omega) hz1).mono ?_; rintro e w101 ⟨rfl, b101⟩
        clear qKA0 qKA1 qK70 qK71 qK72
        replace hA := hA.next b101
        replace hB := hB.next b101
        replace hC := hC.next b101
        replace KA := KA.next b101
        replace KB := KB.next b101
        replace KC := KC.next b101
        replace h3 := h3.next b101
        replace K3 := K3.next b101
        replace h5 := h5.next b101
        replace K5 := K5.next b101
        replace h7 := h7.next b101
        replace K7 := K7.next b101
        replace hz1 := hz1.next b101
        replace hz2 := hz2.next b101
        replace hz3 := hz3.next b101
        replace B0 := B0.trans (b101.mono B0.size)
        clear b101
        have qK30 := K3.cell 0
        have qK31 := K3.cell 1
        have qK32 := K3.cell 2
        go_wp2_with fail
        refine (ref11_None a3 k3 _).mono ?_; rintro e w102 ⟨rfl, b102⟩
        clear qK30 qK31 qK32
        replace hA := hA.next b102
        replace hB := hB.next b102
        replace hC := hC.next b102
        replace KA := KA.next b102
        replace KB := KB.next b102
        replace KC := KC.next b102
        replace h3 := h3.next b102
        replace K3 := K3.next b102
        replace h5 := h5.next b102
        replace K5 := K5.next b102
        replace h7 := h7.next b102
        replace K7 := K7.next b102
        replace hz1 := hz1.next b102
        replace hz2 := hz2.next b102
        replace hz3 := hz3.next b102
        replace B0 := B0.trans (b102.mono B0.size)
        clear b102
        have qK50 := K5.cell 0
        have qK51 := K5.cell 1
        have qK52 := K5.cell 2
        go_wp2_with fail
        refine (ref11_None a5 k5 _).mono ?_; rintro e w103 ⟨rfl, b103⟩
        clear qK50 qK51 qK52
        replace hA := hA.next b103
        replace hB := hB.next b103
        replace hC := hC.next b103
        replace KA := KA.next b103
        replace KB := KB.next b103
        replace KC := KC.next b103
        replace h3 := h3.next b103
        replace K3 := K3.next b103
        replace h5 := h5.next b103
        replace K5 := K5.next b103
        replace h7 := h7.next b103
        replace K7 := K7.next b103
        replace hz1 := hz1.next b103
        replace hz2 := hz2.next b103
        replace hz3 := hz3.next b103
        replace B0 := B0.trans (b103.mono B0.size)
        clear b103
        go_wp2
        go_ret
        exact ⟨rfl, B0⟩

theorem walk (a : Value) (R1 C1 : Int) (ps : List (Bool × List Nat)) (b : Value) (R2 C2 : Int) (qs : List (Bool × List Nat)) (sc : Bool) (uc : Value) (us : List Nat) (w : World) (mA : Mw w a R1 C1 ps) (mB : Mw w b R2 C2 qs) (hu : Sl .u64 w uc us) (hwu : wf W64 us) :
    Calls Try.prog 4 #[a, b, .agg #[.bool sc, uc]] w (LawOk w) := by
  by_cases hfew : Fx R1 C1 ps 6 3 ∧ Fx R2 C2 qs 6 3
  · by_cases hl : 3 < us.length
    · exact long a b R1 C1 R2 C2 ps qs sc uc us w mA mB hu hfew hl
    · have hA := mA.mt (L := 3) hfew.1.2.2.all
      have hB := mB.mt (L := 3) hfew.2.2.2.all
      by_cases h1 : Fm R1 C1 (ps.map pv).length
      · obtain ⟨r, c, rfl, rfl, hr, hc, hx⟩ := h1.nat
        by_cases h2 : Al r c R2 C2 (ps.map pv).length (qs.map pv).length
        · obtain ⟨-, h3, rfl, rfl⟩ := h2
          obtain ⟨r', c', e1, e2, -, -, hy⟩ := h3.nat
          obtain rfl : r = r' := by omega
          obtain rfl : c = c' := by omega
          exact formed a b ps qs _ _ r c sc uc us w mA mB hu hwu hfew (by omega) _ rfl hA hr hc hx hB hy
        · exact formed_no a b R2 C2 ps qs _ _ r c sc uc us w mA mB hu hwu hfew (by omega) _ rfl hA hr hc hx hB h2
      · exact not_formed a b R1 C1 R2 C2 ps qs _ _ sc uc us w mA mB hu hwu hfew (by omega) _ rfl hA h1 hB
  · exact not_few a b R1 C1 R2 C2 ps qs sc uc us w mA mB hu hfew


set_option maxRecDepth 100000 in
theorem lifted (os : Os) (started : os.Started) (H : Type) (enc : TypeId × Value → H) :
    ReturnsInHanded {} Try.checked os 4 .any (Rows.matAddsSpec.pre6 enc Try.prog Try.f4 Rows.matAddsRow.domain false) (Rows.matAddsSpec.post enc Try.prog Try.f4 false true false false) := by
  refine returnsInHanded_of_change (C := Try.checked) own started (by kernel_rfl) Try.func4
    (ChangeSpec.witness6 (enc := enc) (C := Try.checked) false ⟨#[], #[.agg #[.int .i64 0, .int .i64 0, .slice none 0 0], .agg #[.int .i64 0, .int .i64 0, .slice none 0 0], .agg #[.bool false, .slice none 0 0]], []⟩ 8 (by kernel_rfl) (by kernel_rfl) (by kernel_rfl) (by kernel_rfl)) ?_
  intro W base args ds gs before hval0 hW hcnd _
  have hval : ∀ (j : Nat) t v, Try.f4.params[j]? = some t → args[j]? = some v → Value.okWide Try.prog W .any base t v := hval0
  have hW' := hW
  obtain ⟨p, q, hA0, hV, rfl, hfz, hnd⟩ := hW
  have hA : DataW.TrodAll enc Try.prog W 0 (fun _ => true) true Try.f4.params.toList args.toList ds p := hA0
  rw [Try.params4] at hA hval
  obtain ⟨v0, vs0, d0, ds0, p0, q0, hargs, rfl, rfl, h0, r0⟩ := trodAll_cons hA
  obtain ⟨v1, vs1, d1, ds1, p1, q1, rfl, rfl, rfl, h1, r1⟩ := trodAll_cons r0
  obtain ⟨v2, vs2, d2, ds2, p2, q2, rfl, rfl, rfl, h2, r2⟩ := trodAll_cons r1
  obtain ⟨rfl, rfl, rfl⟩ := trodAll_nil r2
  obtain rfl : args = #[v0, v1, v2] := by cases args; simp_all
  obtain ⟨rfl, rfl⟩ := trodVars_none hV
  have k0 := h0
  have lt0 : ∀ x ∈ p0, x.block < W.heap.size := by obtain ⟨m, hm⟩ := k0; exact DataW.trod_lt m _ _ _ hm
  obtain ⟨R0, C0, ps0, m0, rb0, cb0⟩ := open_mat (hval 0 24 v0 rfl rfl) h0
  have k1 := h1
  have lt1 : ∀ x ∈ p1, x.block < W.heap.size := by obtain ⟨m, hm⟩ := k1; exact DataW.trod_lt m _ _ _ hm
  obtain ⟨R1, C1, ps1, m1, rb1, cb1⟩ := open_mat (hval 1 24 v1 rfl rfl) h1
  have k2 := h2
  have lt2 : ∀ x ∈ p2, x.block < W.heap.size := by obtain ⟨m, hm⟩ := k2; exact DataW.trod_lt m _ _ _ hm
  obtain ⟨s2, u2, us2, rfl, z2, f2⟩ := open_zint (hval 2 36 v2 rfl rfl) h2
  clear hA0 hval0
  refine (walk v0 R0 C0 ps0 v1 R1 C1 ps1 s2 u2 us2 W m0 m1 z2 f2).mono fun e W' ⟨he, bel⟩ => ?_
  subst he
  exact ⟨_, rfl, _, _, _, [], _, [], hW', trodAll_mk1 (shut_bool Try.underlying4 _), (trodAll_cons_mk (Below.trod laidOut (by kernel_rfl) (of_decide_eq_true (by kernel_rfl)) k0 bel lt0) (trodAll_cons_mk (Below.trod laidOut (by kernel_rfl) (of_decide_eq_true (by kernel_rfl)) k1 bel lt1) (trodAll_cons_mk (Below.trod laidOut (by kernel_rfl) (of_decide_eq_true (by kernel_rfl)) k2 bel lt2) trodAll_mk0))), rfl, bel.frame _, fun h => by cases h⟩

theorem over : Rows.matAddsRow.holds Try.pinned (OpenSpec.ofChange Rows.matAddsSpec) :=
  OpenClaim.holds_of_wide 4 Try.f4 rfl rfl rfl rfl rfl rfl rfl ⟨rfl, rfl, rfl, rfl, rfl⟩ rfl rfl rfl rfl rfl (by kernel_rfl) Try.func4 (by kernel_rfl)
    (of_decide_eq_true (by kernel_rfl)) (by unfold Func.isWrapper; first | (rw [if_pos (by decide +kernel)]; kernel_rfl) | (rw [if_neg (by decide +kernel)]; exact ⟨rfl, rfl⟩))
    (fun os started H enc _ => lifted os started H enc)

theorem proved : Rows.MatAddsSaid := over
#print axioms proved
end Go.Proofs.Ytpfonckdejjfnaa.matAdds
