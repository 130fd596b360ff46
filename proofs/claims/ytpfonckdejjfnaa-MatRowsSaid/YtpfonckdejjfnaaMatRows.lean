/- MatRows: whatever the matrix and the step, the law returns true: a step on the rows is the product with the step on the identity, or is refused. No condition. -/
import Derived.Test.YtpfonckdejjfnaaRows
import Derived.Test.YtpfonckdejjfnaaZdo
import Derived.Test.YtpfonckdejjfnaaZone
import Derived.Test.YtpfonckdejjfnaaZany
namespace Go.Proofs.Ytpfonckdejjfnaa.matRows
open Go.ChangeShapes Go.WideShapes Go.ChangeAt Go.RowKit
open Go.ChangeMaps (open_string shut_string)

theorem own : ownKnob Try.prog.godebug = none := by kernel_rfl
theorem laidOut : laidOutB Try.prog = true := by kernel_rfl


theorem array5 {α : Type} {cs : Array α} (h : cs.size = 5) : ∃ c0 c1 c2 c3 c4, cs = #[c0, c1, c2, c3, c4] := by
  obtain ⟨l⟩ := cs
  match l, h with
  | [c0, c1, c2, c3, c4], _ => exact ⟨c0, c1, c2, c3, c4, rfl⟩
section
variable {H : Type} {enc : TypeId × Value → H} {w : World} {base : Nat} {spare : Nat → Bool} {held : Bool}
theorem open_step {r : Reach} {b0 : Nat} {v : Value} {d : DataW H} {p : List MemPlace} (hv : Value.okWide Try.prog w r b0 46 v) (h : DataW.Trod enc Try.prog w base spare held 46 v d p) :
    ∃ (kd : Nat) (I K : Int) (s : Bool) (u : Value) (xs : List Nat), v = .agg #[.int .u8 kd, .int .i64 I, .int .i64 K, .bool s, u] ∧ kd < 256 ∧ Sl .u64 w u xs ∧ wf W64 xs := by
  obtain ⟨cs, rfl, hsz⟩ := okWide_struct Try.underlying46 hv
  obtain ⟨c0, c1, c2, c3, c4, rfl⟩ := array5 (hsz.trans (show Try.prog.cellsOf 46 = 5 by kernel_rfl))
  obtain ⟨fuel, hf⟩ := h
  obtain ⟨y0, y1, y2, y3, n, -, -, h0, h1, h2, h3⟩ := Go.Joins.trod_struct4 Try.underlying46 hf
  have o0 : Try.prog.cellsOf 5 = 1 := by kernel_rfl
  have o1 : Try.prog.cellsOf 3 = 1 := by kernel_rfl
  have o3 : Try.prog.cellsOf 36 = 2 := by kernel_rfl
  have o4 : Try.prog.cellsOf 4 = 1 := by kernel_rfl
  have o5 : Try.prog.cellsOf 34 = 1 := by kernel_rfl
  have k0 : DataW.trod enc Try.prog w base spare held n 5 [c0] = some y0 := by simpa [Value.cells, o0] using h0
  have k1 : DataW.trod enc Try.prog w base spare held n 3 [c1] = some y1 := by simpa [Value.cells, o1] using h1
  have k2 : DataW.trod enc Try.prog w base spare held n 3 [c2] = some y2 := by simpa [Value.cells, o1] using h2
  have k3 : DataW.trod enc Try.prog w base spare held n 36 [c3, c4] = some y3 := by simpa [Value.cells, o3] using h3
  obtain ⟨z0, z1, m, -, -, g0, g1⟩ := trod_struct2 Try.underlying36 k3
  have j0 : DataW.trod enc Try.prog w base spare held m 4 [c3] = some z0 := by simpa [Value.cells, o4] using g0
  have j1 : DataW.trod enc Try.prog w base spare held m 34 [c4] = some z1 := by simpa [Value.cells, o5] using g1
  obtain ⟨kd, e0, -, w0⟩ := DataW.trod_int Try.underlying5 k0
  obtain ⟨I, e1, -, w1⟩ := DataW.trod_int Try.underlying3 k1
  obtain ⟨K, e2, -, w2⟩ := DataW.trod_int Try.underlying3 k2
  obtain ⟨b, e3, -⟩ := DataW.trod_bool Try.underlying4 j0
  obtain ⟨xs, hxs, hwx⟩ := trod_words Try.underlying34 Try.underlying61 (by kernel_rfl) j1
  simp at e0 e1 e2 e3; subst e0 e1 e2 e3
  obtain ⟨x, rfl⟩ := Int.eq_ofNat_of_zero_le (wf_u8_bounds w0).1
  exact ⟨x, I, K, b, c4, xs, rfl, by have := wf_u8_bounds w0; omega, hxs, hwx⟩
end

set_option maxRecDepth 20000 in
set_option maxHeartbeats 4000000 in
theorem not_few (a : Value) (R C : Int) (ps : List (Bool × List Nat)) (kd : Nat) (I K : Int) (sc : Bool) (uc : Value) (us : List Nat) (w : World) (mA : Mw w a R C ps) (hu : Sl .u64 w uc us) (hfew : ¬ Fx R C ps 6 3) :
    Calls Try.prog 6 #[a, .agg #[.int .u8 kd, .int .i64 I, .int .i64 K, .bool sc, uc]] w (LawOk w) := by
  obtain ⟨ao, ca, rfl⟩ := mA.agg
  obtain ⟨co, bc, oc, cc, rfl, hccap, hccs⟩ := hu
  have hu : Sl .u64 w (.slice co us.length cc) us := ⟨co, bc, oc, cc, rfl, hccap, hccs⟩
  clear hccap hccs
  obtain ⟨wb, ew, KA, KS, B0, hsz⟩ := boxes1' w 24 46 [.int .i64 R, .int .i64 C, .slice ao ps.length ca] [.int .u8 kd, .int .i64 I, .int .i64 K, .bool sc, .slice co us.length cc]
  clear hsz
  clear hu
  replace mA := mA.next B0
  have FEW := Lib.hid hfew; clear hfew
  go_enter Try.func6, Try.ntmps6
  go_upto_region 1 with (fail)
  rw [← ew]
  clear ew
  go_wp2_with fail
  refine (law11_awake _).mono ?_; rintro e w1 ⟨rfl, b1⟩
  replace mA := mA.next b1
  replace KA := KA.next b1
  replace KS := KS.next b1
  replace B0 := B0.trans (b1.mono B0.size)
  clear b1
  have qKA0 := KA.cell 0
  have qKA1 := KA.cell 1
  have qKA2 := KA.cell 2
  go_wp2_with fail
  refine (law11_few _ _ R C R C ps ps false ⟨fun h => (by cases h), fun h => absurd h.1 FEW.out⟩ _ mA mA).mono ?_; rintro e w2 ⟨rfl, b2⟩
  clear qKA0 qKA1 qKA2
  replace mA := mA.next b2
  replace KA := KA.next b2
  replace KS := KS.next b2
  replace B0 := B0.trans (b2.mono B0.size)
  clear b2
  clear mA
  clear FEW
  go_wp2_with fail
  refine (law11_awake _).mono ?_; rintro e w3 ⟨rfl, b3⟩
  replace KA := KA.next b3
  replace KS := KS.next b3
  replace B0 := B0.trans (b3.mono B0.size)
  clear b3
  go_wp2
  go_ret
  exact ⟨rfl, B0⟩

set_option maxRecDepth 20000 in
set_option maxHeartbeats 4000000 in
theorem long (a : Value) (R C : Int) (ps : List (Bool × List Nat)) (kd : Nat) (I K : Int) (sc : Bool) (uc : Value) (us : List Nat) (w : World) (mA : Mw w a R C ps) (hu : Sl .u64 w uc us) (hfew : Fx R C ps 6 3) (hlong : 3 < us.length) :
    Calls Try.prog 6 #[a, .agg #[.int .u8 kd, .int .i64 I, .int .i64 K, .bool sc, uc]] w (LawOk w) := by
  obtain ⟨ao, ca, rfl⟩ := mA.agg
  obtain ⟨co, bc, oc, cc, rfl, hccap, hccs⟩ := hu
  have hu : Sl .u64 w (.slice co us.length cc) us := ⟨co, bc, oc, cc, rfl, hccap, hccs⟩
  clear hccap hccs
  obtain ⟨wb, ew, KA, KS, B0, hsz⟩ := boxes1' w 24 46 [.int .i64 R, .int .i64 C, .slice ao ps.length ca] [.int .u8 kd, .int .i64 I, .int .i64 K, .bool sc, .slice co us.length cc]
  clear hsz
  clear hu
  have hl3 : decide (((us.length : Nat) : Int) > 3) = true := decide_eq_true (by omega)
  replace mA := mA.next B0
  have FEW := Lib.hid hfew; clear hfew
  go_enter Try.func6, Try.ntmps6
  go_upto_region 1 with (fail)
  rw [← ew]
  clear ew
  go_wp2_with fail
  refine (law11_awake _).mono ?_; rintro e w1 ⟨rfl, b1⟩
  replace mA := mA.next b1
  replace KA := KA.next b1
  replace KS := KS.next b1
  replace B0 := B0.trans (b1.mono B0.size)
  clear b1
  have qKA0 := KA.cell 0
  have qKA1 := KA.cell 1
  have qKA2 := KA.cell 2
  go_wp2_with fail
  refine (law11_few _ _ R C R C ps ps true ⟨fun _ => ⟨FEW.out, FEW.out⟩, fun _ => rfl⟩ _ mA mA).mono ?_; rintro e w2 ⟨rfl, b2⟩
  clear qKA0 qKA1 qKA2
  replace mA := mA.next b2
  replace KA := KA.next b2
  replace KS := KS.next b2
  replace B0 := B0.trans (b2.mono B0.size)
  clear b2
  clear mA
  have qKS4 := KS.cell 4
  clear FEW
  go_wp2_with fail
  refine (law11_awake _).mono ?_; rintro e w3 ⟨rfl, b3⟩
  clear qKS4
  replace KA := KA.next b3
  replace KS := KS.next b3
  replace B0 := B0.trans (b3.mono B0.size)
  clear b3
  go_wp2
  go_ret
  exact ⟨rfl, B0⟩

set_option maxRecDepth 20000 in
set_option maxHeartbeats 4000000 in
theorem not_formed (a : Value) (R C : Int) (ps : List (Bool × List Nat)) (kd : Nat) (I K : Int) (sc : Bool) (uc : Value) (us : List Nat) (w : World) (mA : Mw w a R C ps) (hu : Sl .u64 w uc us) (hwu : wf W64 us) (hkd : kd < 256) (hfew : Fx R C ps 6 3) (hshort : us.length ≤ 3) (y : Int) (hy : y = sg sc (nv W64 us)) (xs : List Int) (hA : Mt w a R C xs 3) (hf : ¬ Fm R C xs.length) :
    Calls Try.prog 6 #[a, .agg #[.int .u8 kd, .int .i64 I, .int .i64 K, .bool sc, uc]] w (LawOk w) := by
  obtain ⟨ao, ca, rfl⟩ := mA.agg
  obtain ⟨co, bc, oc, cc, rfl, hccap, hccs⟩ := hu
  have hu : Sl .u64 w (.slice co us.length cc) us := ⟨co, bc, oc, cc, rfl, hccap, hccs⟩
  clear hccap hccs
  obtain ⟨wb, ew, KA, KS, B0, hsz⟩ := boxes1' w 24 46 [.int .i64 R, .int .i64 C, .slice ao ps.length ca] [.int .u8 kd, .int .i64 I, .int .i64 K, .bool sc, .slice co us.length cc]
  clear hsz
  have hC : Iv w (.agg #[.bool sc, .slice co us.length cc]) y 3 := ⟨sc, _, us, rfl, hu, hwu, hshort, hy⟩
  clear hu hwu hy
  have hl3 : ¬ 3 < us.length := by omega
  have hl4 : decide (((us.length : Nat) : Int) > 3) = false := decide_eq_false (by omega)
  replace mA := mA.next B0
  replace hA := hA.next B0
  replace hC := hC.next B0
  have FEW := Lib.hid hfew; clear hfew
  go_enter Try.func6, Try.ntmps6
  go_upto_region 1 with (fail)
  rw [← ew]
  clear ew
  go_wp2_with fail
  refine (law11_awake _).mono ?_; rintro e w1 ⟨rfl, b1⟩
  replace mA := mA.next b1
  replace hA := hA.next b1
  replace hC := hC.next b1
  replace KA := KA.next b1
  replace KS := KS.next b1
  replace B0 := B0.trans (b1.mono B0.size)
  clear b1
  have qKA0 := KA.cell 0
  have qKA1 := KA.cell 1
  have qKA2 := KA.cell 2
  go_wp2_with fail
  refine (law11_few _ _ R C R C ps ps true ⟨fun _ => ⟨FEW.out, FEW.out⟩, fun _ => rfl⟩ _ mA mA).mono ?_; rintro e w2 ⟨rfl, b2⟩
  clear qKA0 qKA1 qKA2
  replace mA := mA.next b2
  replace hA := hA.next b2
  replace hC := hC.next b2
  replace KA := KA.next b2
  replace KS := KS.next b2
  replace B0 := B0.trans (b2.mono B0.size)
  clear b2
  clear mA
  have qKS4 := KS.cell 4
  clear FEW
  have qKA0 := KA.cell 0
  have qKA1 := KA.cell 1
  have qKA2 := KA.cell 2
  have qKS0 := KS.cell 0
  have qKS1 := KS.cell 1
  have qKS2 := KS.cell 2
  have qKS3 := KS.cell 3
  go_wp2_with fail
  refine (law11_Do_shape (y := y) hkd I K R C hA hC hf).mono ?_; rintro e w3 ⟨v3, rfl, h3, b3⟩
  clear qKS4 qKA0 qKA1 qKA2 qKS0 qKS1 qKS2 qKS3
  replace hA := hA.next b3
  replace hC := hC.next b3
  replace KA := KA.next b3
  replace KS := KS.next b3
  replace B0 := B0.trans (b3.mono B0.size)
  clear b3
  obtain ⟨a3, k3, rfl⟩ := h3.agg
  obtain ⟨w4, e4, K3, b4, hs4⟩ := boxes1 w3 24 [.int .i64 0, .int .i64 0, .slice a3 0 k3]
  clear hs4
  replace hA := hA.next b4
  replace hC := hC.next b4
  replace KA := KA.next b4
  replace KS := KS.next b4
  replace h3 := h3.next b4
  replace B0 := B0.trans (b4.mono B0.size)
  clear b4
  go_upto_region 4 with (fail)
  rw [← e4]
  clear e4
  have qKA0 := KA.cell 0
  have qKA1 := KA.cell 1
  have qKA2 := KA.cell 2
  go_wp2_with fail
  refine (ref11_Formed_no _ R C xs 3 _ hA hf).mono ?_; rintro e w5 ⟨rfl, b5⟩
  clear qKA0 qKA1 qKA2
  replace hA := hA.next b5
  replace hC := hC.next b5
  replace KA := KA.next b5
  replace KS := KS.next b5
  replace h3 := h3.next b5
  replace K3 := K3.next b5
  replace B0 := B0.trans (b5.mono B0.size)
  clear b5
  have qK30 := K3.cell 0
  have qK31 := K3.cell 1
  have qK32 := K3.cell 2
  go_wp2_with fail
  refine (ref11_None a3 k3 _).mono ?_; rintro e w6 ⟨rfl, b6⟩
  clear qK30 qK31 qK32
  replace hA := hA.next b6
  replace hC := hC.next b6
  replace KA := KA.next b6
  replace KS := KS.next b6
  replace h3 := h3.next b6
  replace K3 := K3.next b6
  replace B0 := B0.trans (b6.mono B0.size)
  clear b6
  go_wp2
  go_ret
  exact ⟨rfl, B0⟩

set_option maxRecDepth 20000 in
set_option maxHeartbeats 4000000 in
theorem not_there (a : Value) (r c : Nat) (ps : List (Bool × List Nat)) (kd : Nat) (I K : Int) (sc : Bool) (uc : Value) (us : List Nat) (w : World) (mA : Mw w a r c ps) (hu : Sl .u64 w uc us) (hwu : wf W64 us) (hkd : kd < 256) (hfew : Fx r c ps 6 3) (hshort : us.length ≤ 3) (y : Int) (hy : y = sg sc (nv W64 us)) (xs : List Int) (hA : Mt w a r c xs 3) (hr : r ≤ 64) (hc : c ≤ 64) (hx : xs.length = r * c) (ht : ¬ There kd I K r) :
    Calls Try.prog 6 #[a, .agg #[.int .u8 kd, .int .i64 I, .int .i64 K, .bool sc, uc]] w (LawOk w) := by
  obtain ⟨ao, ca, rfl⟩ := mA.agg
  obtain ⟨co, bc, oc, cc, rfl, hccap, hccs⟩ := hu
  have hu : Sl .u64 w (.slice co us.length cc) us := ⟨co, bc, oc, cc, rfl, hccap, hccs⟩
  clear hccap hccs
  obtain ⟨wb, ew, KA, KS, B0, hsz⟩ := boxes1' w 24 46 [.int .i64 r, .int .i64 c, .slice ao ps.length ca] [.int .u8 kd, .int .i64 I, .int .i64 K, .bool sc, .slice co us.length cc]
  clear hsz
  have hC : Iv w (.agg #[.bool sc, .slice co us.length cc]) y 3 := ⟨sc, _, us, rfl, hu, hwu, hshort, hy⟩
  clear hu hwu hy
  have hl3 : ¬ 3 < us.length := by omega
  have hl4 : decide (((us.length : Nat) : Int) > 3) = false := decide_eq_false (by omega)
  have HX := Lib.hid hx; clear hx
  have HT := Lib.hid ht; clear ht
  replace mA := mA.next B0
  replace hA := hA.next B0
  replace hC := hC.next B0
  have FEW := Lib.hid hfew; clear hfew
  go_enter Try.func6, Try.ntmps6
  go_upto_region 1 with (fail)
  rw [← ew]
  clear ew
  go_wp2_with fail
  refine (law11_awake _).mono ?_; rintro e w1 ⟨rfl, b1⟩
  replace mA := mA.next b1
  replace hA := hA.next b1
  replace hC := hC.next b1
  replace KA := KA.next b1
  replace KS := KS.next b1
  replace B0 := B0.trans (b1.mono B0.size)
  clear b1
  have qKA0 := KA.cell 0
  have qKA1 := KA.cell 1
  have qKA2 := KA.cell 2
  go_wp2_with fail
  refine (law11_few _ _ r c r c ps ps true ⟨fun _ => ⟨FEW.out, FEW.out⟩, fun _ => rfl⟩ _ mA mA).mono ?_; rintro e w2 ⟨rfl, b2⟩
  clear qKA0 qKA1 qKA2
  replace mA := mA.next b2
  replace hA := hA.next b2
  replace hC := hC.next b2
  replace KA := KA.next b2
  replace KS := KS.next b2
  replace B0 := B0.trans (b2.mono B0.size)
  clear b2
  clear mA
  have qKS4 := KS.cell 4
  clear FEW
  have qKA0 := KA.cell 0
  have qKA1 := KA.cell 1
  have qKA2 := KA.cell 2
  have qKS0 := KS.cell 0
  have qKS1 := KS.cell 1
  have qKS2 := KS.cell 2
  have qKS3 := KS.cell 3
  go_wp2_with fail
  refine (law11_Do_arg (y := y) hkd I K r c hA hC hr hc HX.out HT.out).mono ?_; rintro e w3 ⟨v3, rfl, h3, b3⟩
  clear qKS4 qKA0 qKA1 qKA2 qKS0 qKS1 qKS2 qKS3
  replace hA := hA.next b3
  replace hC := hC.next b3
  replace KA := KA.next b3
  replace KS := KS.next b3
  replace B0 := B0.trans (b3.mono B0.size)
  clear b3
  obtain ⟨a3, k3, rfl⟩ := h3.agg
  obtain ⟨w4, e4, K3, b4, hs4⟩ := boxes1 w3 24 [.int .i64 0, .int .i64 0, .slice a3 0 k3]
  clear hs4
  replace hA := hA.next b4
  replace hC := hC.next b4
  replace KA := KA.next b4
  replace KS := KS.next b4
  replace h3 := h3.next b4
  replace B0 := B0.trans (b4.mono B0.size)
  clear b4
  go_upto_region 4 with (fail)
  rw [← e4]
  clear e4
  have qKA0 := KA.cell 0
  have qKA1 := KA.cell 1
  have qKA2 := KA.cell 2
  go_wp2_with fail
  refine (ref11_Formed_yes _ r c xs 3 _ hA (Fm.of hr hc HX.out)).mono ?_; rintro e w5 ⟨rfl, b5⟩
  clear qKA0 qKA1 qKA2
  replace hA := hA.next b5
  replace hC := hC.next b5
  replace KA := KA.next b5
  replace KS := KS.next b5
  replace h3 := h3.next b5
  replace K3 := K3.next b5
  replace B0 := B0.trans (b5.mono B0.size)
  clear b5
  clear hA hC
  by_cases hI0 : 0 ≤ I
  rotate_left
  · clear HT
    have d1 : decide (I ≥ 0) = false := decide_eq_false hI0
    clear hI0
    have qKA0 := KA.cell 0
    have qKS0 := KS.cell 0
    have qKS1 := KS.cell 1
    have qKS2 := KS.cell 2
    have qK30 := K3.cell 0
    have qK31 := K3.cell 1
    have qK32 := K3.cell 2
    go_wp2_with fail
    refine (ref11_None a3 k3 _).mono ?_; rintro e w6 ⟨rfl, b6⟩
    clear qKA0 qKS0 qKS1 qKS2 qK30 qK31 qK32
    replace KA := KA.next b6
    replace KS := KS.next b6
    replace h3 := h3.next b6
    replace K3 := K3.next b6
    replace B0 := B0.trans (b6.mono B0.size)
    clear b6
    go_wp2
    go_ret
    exact ⟨rfl, B0⟩
  by_cases hI1 : I < r
  rotate_left
  · clear HT
    have d1 : decide (I ≥ 0) = true := decide_eq_true hI0
    have d2 : decide (I < (r : Int)) = false := decide_eq_false hI1
    clear hI0 hI1
    have qKA0 := KA.cell 0
    have qKS0 := KS.cell 0
    have qKS1 := KS.cell 1
    have qKS2 := KS.cell 2
    have qK30 := K3.cell 0
    have qK31 := K3.cell 1
    have qK32 := K3.cell 2
    go_wp2_with fail
    refine (ref11_None a3 k3 _).mono ?_; rintro e w6 ⟨rfl, b6⟩
    clear qKA0 qKS0 qKS1 qKS2 qK30 qK31 qK32
    replace KA := KA.next b6
    replace KS := KS.next b6
    replace h3 := h3.next b6
    replace K3 := K3.next b6
    replace B0 := B0.trans (b6.mono B0.size)
    clear b6
    go_wp2
    go_ret
    exact ⟨rfl, B0⟩
  obtain hk | hk | hk : kd % 3 = 0 ∨ kd % 3 = 1 ∨ kd % 3 = 2 := by omega
  · by_cases hK0 : 0 ≤ K
    rotate_left
    · clear HT
      have d0 : (kd : Int).tmod 3 = 0 := by rw [IntWalk.rem_in _ _ (by omega)]; omega
      have d00 : IntKind.u8.wrap 0 = 0 := by decide
      have d1 : decide (I ≥ 0) = true := decide_eq_true hI0
      have d2 : decide (I < (r : Int)) = true := decide_eq_true hI1
      clear hI0 hI1
      have d3 : decide (K ≥ 0) = false := decide_eq_false hK0
      clear hK0
      clear hk
      have qKA0 := KA.cell 0
      have qKS0 := KS.cell 0
      have qKS1 := KS.cell 1
      have qKS2 := KS.cell 2
      have qK30 := K3.cell 0
      have qK31 := K3.cell 1
      have qK32 := K3.cell 2
      go_wp2_with fail
      refine (ref11_None a3 k3 _).mono ?_; rintro e w6 ⟨rfl, b6⟩
      clear qKA0 qKS0 qKS1 qKS2 qK30 qK31 qK32
      replace KA := KA.next b6
      replace KS := KS.next b6
      replace h3 := h3.next b6
      replace K3 := K3.next b6
      replace B0 := B0.trans (b6.mono B0.size)
      clear b6
      go_wp2
      go_ret
      exact ⟨rfl, B0⟩
    by_cases hK1 : K < r
    rotate_left
    · clear HT
      have d0 : (kd : Int).tmod 3 = 0 := by rw [IntWalk.rem_in _ _ (by omega)]; omega
      have d00 : IntKind.u8.wrap 0 = 0 := by decide
      have d1 : decide (I ≥ 0) = true := decide_eq_true hI0
      have d2 : decide (I < (r : Int)) = true := decide_eq_true hI1
      clear hI0 hI1
      have d3 : decide (K ≥ 0) = true := decide_eq_true hK0
      have d4 : decide (K < (r : Int)) = false := decide_eq_false hK1
      clear hK0 hK1
      clear hk
      have qKA0 := KA.cell 0
      have qKS0 := KS.cell 0
      have qKS1 := KS.cell 1
      have qKS2 := KS.cell 2
      have qK30 := K3.cell 0
      have qK31 := K3.cell 1
      have qK32 := K3.cell 2
      go_wp2_with fail
      refine (ref11_None a3 k3 _).mono ?_; rintro e w6 ⟨rfl, b6⟩
      clear qKA0 qKS0 qKS1 qKS2 qK30 qK31 qK32
      replace KA := KA.next b6
      replace KS := KS.next b6
      replace h3 := h3.next b6
      replace K3 := K3.next b6
      replace B0 := B0.trans (b6.mono B0.size)
      clear b6
      go_wp2
      go_ret
      exact ⟨rfl, B0⟩
    exact absurd ⟨⟨hI0, hI1⟩, .inr ⟨hK0, hK1⟩, .inl (by omega)⟩ HT.out
  · by_cases hK0 : 0 ≤ K
    rotate_left
    · clear HT
      have d0 : (kd : Int).tmod 3 = 1 := by rw [IntWalk.rem_in _ _ (by omega)]; omega
      have d00 : IntKind.u8.wrap 1 = 1 := by decide
      have d1 : decide (I ≥ 0) = true := decide_eq_true hI0
      have d2 : decide (I < (r : Int)) = true := decide_eq_true hI1
      clear hI0 hI1
      have d3 : decide (K ≥ 0) = false := decide_eq_false hK0
      clear hK0
      clear hk
      have qKA0 := KA.cell 0
      have qKS0 := KS.cell 0
      have qKS1 := KS.cell 1
      have qKS2 := KS.cell 2
      have qK30 := K3.cell 0
      have qK31 := K3.cell 1
      have qK32 := K3.cell 2
      go_wp2_with fail
      refine (ref11_None a3 k3 _).mono ?_; rintro e w6 ⟨rfl, b6⟩
      clear qKA0 qKS0 qKS1 qKS2 qK30 qK31 qK32
      replace KA := KA.next b6
      replace KS := KS.next b6
      replace h3 := h3.next b6
      replace K3 := K3.next b6
      replace B0 := B0.trans (b6.mono B0.size)
      clear b6
      go_wp2
      go_ret
      exact ⟨rfl, B0⟩
    by_cases hK1 : K < r
    rotate_left
    · clear HT
      have d0 : (kd : Int).tmod 3 = 1 := by rw [IntWalk.rem_in _ _ (by omega)]; omega
      have d00 : IntKind.u8.wrap 1 = 1 := by decide
      have d1 : decide (I ≥ 0) = true := decide_eq_true hI0
      have d2 : decide (I < (r : Int)) = true := decide_eq_true hI1
      clear hI0 hI1
      have d3 : decide (K ≥ 0) = true := decide_eq_true hK0
      have d4 : decide (K < (r : Int)) = false := decide_eq_false hK1
      clear hK0 hK1
      clear hk
      have qKA0 := KA.cell 0
      have qKS0 := KS.cell 0
      have qKS1 := KS.cell 1
      have qKS2 := KS.cell 2
      have qK30 := K3.cell 0
      have qK31 := K3.cell 1
      have qK32 := K3.cell 2
      go_wp2_with fail
      refine (ref11_None a3 k3 _).mono ?_; rintro e w6 ⟨rfl, b6⟩
      clear qKA0 qKS0 qKS1 qKS2 qK30 qK31 qK32
      replace KA := KA.next b6
      replace KS := KS.next b6
      replace h3 := h3.next b6
      replace K3 := K3.next b6
      replace B0 := B0.trans (b6.mono B0.size)
      clear b6
      go_wp2
      go_ret
      exact ⟨rfl, B0⟩
    have hIK : I = K := Classical.byContradiction fun h => HT.out ⟨⟨hI0, hI1⟩, .inr ⟨hK0, hK1⟩, .inr h⟩
    have d0 : (kd : Int).tmod 3 = 1 := by rw [IntWalk.rem_in _ _ (by omega)]; omega
    have d00 : IntKind.u8.wrap 1 = 1 := by decide
    have d1 : decide (I ≥ 0) = true := decide_eq_true hI0
    have d2 : decide (I < (r : Int)) = true := decide_eq_true hI1
    clear hI0 hI1
    have d3 : decide (K ≥ 0) = true := decide_eq_true hK0
    have d4 : decide (K < (r : Int)) = true := decide_eq_true hK1
    clear hK0 hK1
    have d5 : (I == K) = true := by simpa using hIK
    have d6 : (I != K) = false := by simp [hIK]
    clear HT hIK
    clear hk
    have qKA0 := KA.cell 0
    have qKS0 := KS.cell 0
    have qKS1 := KS.cell 1
    have qKS2 := KS.cell 2
    have qK30 := K3.cell 0
    have qK31 := K3.cell 1
    have qK32 := K3.cell 2
    go_wp2_with fail
    refine (ref11_None a3 k3 _).mono ?_; rintro e w6 ⟨rfl, b6⟩
    clear qKA0 qKS0 qKS1 qKS2 qK30 qK31 qK32
    replace KA := KA.next b6
    replace KS := KS.next b6
    replace h3 := h3.next b6
    replace K3 := K3.next b6
    replace B0 := B0.trans (b6.mono B0.size)
    clear b6
    go_wp2
    go_ret
    exact ⟨rfl, B0⟩
  · exact absurd ⟨⟨hI0, hI1⟩, .inl hk, .inl (by omega)⟩ HT.out

set_option maxRecDepth 20000 in
set_option maxHeartbeats 4000000 in
theorem there0 (a : Value) (r c i k : Nat) (ps : List (Bool × List Nat)) (kd : Nat) (I K : Int) (sc : Bool) (uc : Value) (us : List Nat) (w : World) (mA : Mw w a r c ps) (hu : Sl .u64 w uc us) (hwu : wf W64 us) (hkd : kd < 256) (hfew : Fx r c ps 6 3) (hshort : us.length ≤ 3) (y : Int) (hy : y = sg sc (nv W64 us)) (xs : List Int) (hA : Mt w a r c xs 3) (hr : r ≤ 64) (hc : c ≤ 64) (hx : xs.length = r * c) (hk : kd % 3 = 0) (hi : i < r) (ei : I = i) (ek : kd % 3 ≠ 2 → K = k) (hkr : k < r) (ht : There kd I K r) :
    Calls Try.prog 6 #[a, .agg #[.int .u8 kd, .int .i64 I, .int .i64 K, .bool sc, uc]] w (LawOk w) := by
  obtain ⟨ao, ca, rfl⟩ := mA.agg
  obtain ⟨co, bc, oc, cc, rfl, hccap, hccs⟩ := hu
  have hu : Sl .u64 w (.slice co us.length cc) us := ⟨co, bc, oc, cc, rfl, hccap, hccs⟩
  clear hccap hccs
  obtain ⟨wb, ew, KA, KS, B0, hsz⟩ := boxes1' w 24 46 [.int .i64 r, .int .i64 c, .slice ao ps.length ca] [.int .u8 kd, .int .i64 I, .int .i64 K, .bool sc, .slice co us.length cc]
  clear hsz
  have hC : Iv w (.agg #[.bool sc, .slice co us.length cc]) y 3 := ⟨sc, _, us, rfl, hu, hwu, hshort, hy⟩
  clear hu hwu hy
  have hl3 : ¬ 3 < us.length := by omega
  have hl4 : decide (((us.length : Nat) : Int) > 3) = false := decide_eq_false (by omega)
  have HX := Lib.hid hx; clear hx
  have HT := Lib.hid ht; clear ht
  have EI := Lib.hid ei; have EK := Lib.hid ek; clear ei ek
  have HK := Lib.hid hk; clear hk
  have hkx : kd % 3 = 2 ∨ k < r := .inr hkr
  have HKX := Lib.hid hkx; clear hkx
  replace mA := mA.next B0
  replace hA := hA.next B0
  replace hC := hC.next B0
  have FEW := Lib.hid hfew; clear hfew
  go_enter Try.func6, Try.ntmps6
  go_upto_region 1 with (fail)
  rw [← ew]
  clear ew
  go_wp2_with fail
  refine (law11_awake _).mono ?_; rintro e w1 ⟨rfl, b1⟩
  replace mA := mA.next b1
  replace hA := hA.next b1
  replace hC := hC.next b1
  replace KA := KA.next b1
  replace KS := KS.next b1
  replace B0 := B0.trans (b1.mono B0.size)
  clear b1
  have qKA0 := KA.cell 0
  have qKA1 := KA.cell 1
  have qKA2 := KA.cell 2
  go_wp2_with fail
  refine (law11_few _ _ r c r c ps ps true ⟨fun _ => ⟨FEW.out, FEW.out⟩, fun _ => rfl⟩ _ mA mA).mono ?_; rintro e w2 ⟨rfl, b2⟩
  clear qKA0 qKA1 qKA2
  replace mA := mA.next b2
  replace hA := hA.next b2
  replace hC := hC.next b2
  replace KA := KA.next b2
  replace KS := KS.next b2
  replace B0 := B0.trans (b2.mono B0.size)
  clear b2
  clear mA
  have qKS4 := KS.cell 4
  clear FEW
  have qKA0 := KA.cell 0
  have qKA1 := KA.cell 1
  have qKA2 := KA.cell 2
  have qKS0 := KS.cell 0
  have qKS1 := KS.cell 1
  have qKS2 := KS.cell 2
  have qKS3 := KS.cell 3
  go_wp2_with fail
  refine (law11_Do_ok (y := y) hkd I K i k r c hA hC hr hc HX.out EI.out EK.out HT.out).mono ?_; rintro e w3 ⟨v3, rfl, h3, b3⟩
  clear qKS4 qKA0 qKA1 qKA2 qKS0 qKS1 qKS2 qKS3
  replace hA := hA.next b3
  replace hC := hC.next b3
  replace KA := KA.next b3
  replace KS := KS.next b3
  replace B0 := B0.trans (b3.mono B0.size)
  clear b3
  obtain ⟨zs, ezs⟩ : ∃ zs, zs = doL kd i k y r c xs := ⟨_, rfl⟩
  rw [← ezs] at h3
  have hz : zs.length = r * c := by rw [ezs]; exact doL_length _ _ _ _ _ _ _
  have EZ := Lib.hid ezs; have HZ := Lib.hid hz; clear ezs hz
  obtain ⟨a3, k3, rfl⟩ := h3.agg
  obtain ⟨w4, e4, K3, b4, hs4⟩ := boxes1 w3 24 [.int .i64 r, .int .i64 c, .slice a3 zs.length k3]
  clear hs4
  replace hA := hA.next b4
  replace hC := hC.next b4
  replace KA := KA.next b4
  replace KS := KS.next b4
  replace h3 := h3.next b4
  replace B0 := B0.trans (b4.mono B0.size)
  clear b4
  go_upto_region 4 with (fail)
  rw [← e4]
  clear e4
  have qKA0 := KA.cell 0
  have qKA1 := KA.cell 1
  have qKA2 := KA.cell 2
  go_wp2_with fail
  refine (ref11_Formed_yes _ r c xs 3 _ hA (Fm.of hr hc HX.out)).mono ?_; rintro e w5 ⟨rfl, b5⟩
  clear qKA0 qKA1 qKA2
  replace hA := hA.next b5
  replace hC := hC.next b5
  replace KA := KA.next b5
  replace KS := KS.next b5
  replace h3 := h3.next b5
  replace K3 := K3.next b5
  replace B0 := B0.trans (b5.mono B0.size)
  clear b5
  have hk := HK.out
  have d0 : (kd : Int).tmod 3 = 0 := by rw [IntWalk.rem_in _ _ (by omega)]; omega
  have d00 : IntKind.u8.wrap 0 = 0 := by decide
  clear hk
  have hI0 : 0 ≤ I := HT.out.1.1
  have hI1 : I < r := HT.out.1.2
  have d1 : decide (I ≥ 0) = true := decide_eq_true hI0
  have d2 : decide (I < (r : Int)) = true := decide_eq_true hI1
  clear hI0 hI1
  have hK : 0 ≤ K ∧ K < r := HT.out.2.1.resolve_left (by have := HK.out; omega)
  have d3 : decide (K ≥ 0) = true := decide_eq_true hK.1
  have d4 : decide (K < (r : Int)) = true := decide_eq_true hK.2
  clear hK
  have qKA0 := KA.cell 0
  have qKS0 := KS.cell 0
  have qKS1 := KS.cell 1
  have qKS2 := KS.cell 2
  go_wp2_with fail
  refine (zmat_Identity r _ hr).mono ?_; rintro e w6 ⟨v6, rfl, h6, b6⟩
  clear qKA0 qKS0 qKS1 qKS2
  replace hA := hA.next b6
  replace hC := hC.next b6
  replace KA := KA.next b6
  replace KS := KS.next b6
  replace h3 := h3.next b6
  replace K3 := K3.next b6
  replace B0 := B0.trans (b6.mono B0.size)
  clear b6
  obtain ⟨es, ees⟩ : ∃ es, es = idL r := ⟨_, rfl⟩
  rw [← ees] at h6
  have he : es.length = r * r := by rw [ees]; exact idL_length _
  have EE := Lib.hid ees; have HE := Lib.hid he; clear ees he
  obtain ⟨a6, k6, rfl⟩ := h6.agg
  obtain ⟨w7, e7, K6, b7, hs7⟩ := boxes1 w6 24 [.int .i64 r, .int .i64 r, .slice a6 es.length k6]
  clear hs7
  replace hA := hA.next b7
  replace hC := hC.next b7
  replace KA := KA.next b7
  replace KS := KS.next b7
  replace h3 := h3.next b7
  replace K3 := K3.next b7
  replace h6 := h6.next b7
  replace B0 := B0.trans (b7.mono B0.size)
  clear b7
  go_upto_region 10 with (fail)
  rw [← e7]
  clear e7
  have qK60 := K6.cell 0
  have qK61 := K6.cell 1
  have qK62 := K6.cell 2
  have qKS0 := KS.cell 0
  have qKS1 := KS.cell 1
  have qKS2 := KS.cell 2
  have qKS3 := KS.cell 3
  have qKS4 := KS.cell 4
  go_wp2_with fail
  refine (law11_Do_ok (y := y) hkd I K i k r r (h6.mono (by omega)).mt hC hr hr HE.out EI.out EK.out HT.out).mono ?_; rintro e w8 ⟨v8, rfl, h8, b8⟩
  clear qK60 qK61 qK62 qKS0 qKS1 qKS2 qKS3 qKS4
  replace hA := hA.next b8
  replace hC := hC.next b8
  replace KA := KA.next b8
  replace KS := KS.next b8
  replace h3 := h3.next b8
  replace K3 := K3.next b8
  replace h6 := h6.next b8
  replace K6 := K6.next b8
  replace B0 := B0.trans (b8.mono B0.size)
  clear b8
  obtain ⟨gs, egs⟩ : ∃ gs, gs = doL kd i k y r r es := ⟨_, rfl⟩
  rw [← egs] at h8
  have hg : gs.length = r * r := by rw [egs]; exact doL_length _ _ _ _ _ _ _
  have EG := Lib.hid egs; have HG := Lib.hid hg; clear egs hg
  have hm : mulL r r c gs xs = zs := by rw [EG.out, EE.out, EZ.out]; exact (doL_mul kd i k y r c xs hi HKX.out).symm
  have HM := Lib.hid hm; clear hm
  obtain ⟨a8, k8, rfl⟩ := h8.agg
  obtain ⟨w9, e9, K8, b9, hs9⟩ := boxes1 w8 24 [.int .i64 r, .int .i64 r, .slice a8 gs.length k8]
  clear hs9
  replace hA := hA.next b9
  replace hC := hC.next b9
  replace KA := KA.next b9
  replace KS := KS.next b9
  replace h3 := h3.next b9
  replace K3 := K3.next b9
  replace h6 := h6.next b9
  replace K6 := K6.next b9
  replace h8 := h8.next b9
  replace B0 := B0.trans (b9.mono B0.size)
  clear b9
  go_upto_region 11 with (fail)
  rw [← e9]
  clear e9
  clear d0 d00 d1 d2 d3 d4
  have hdr := Drawn.below (w' := w9.drew) ⟨1, rfl⟩ w9.heap.size
  replace hA := hA.next hdr
  replace hC := hC.next hdr
  replace KA := KA.next hdr
  replace KS := KS.next hdr
  replace h3 := h3.next hdr
  replace K3 := K3.next hdr
  replace h6 := h6.next hdr
  replace K6 := K6.next hdr
  replace h8 := h8.next hdr
  replace K8 := K8.next hdr
  replace B0 := B0.trans (hdr.mono B0.size)
  clear hdr
  refine startL (S := (fun w' => Below ((w9.drew)).heap.size ((w9.drew)) w')) (by kernel_rfl) (Below.refl _ _) (fun hHeld => ?_)
  refine takeL 0 (v := ?_) rfl (by kernel_rfl) (by kernel_rfl) (by kernel_rfl) (fun _ _ _ h => h) ⟨by rfl, ?_⟩ (by assumption) ?_
  rotate_left
  · intro w hS; go_simp <;> with_reducible rfl
  simp only [Act.put, List.setIfInBounds_toArray, List.set_cons_zero, List.set_cons_succ]
  refine takeL 1 (v := ?_) rfl (by kernel_rfl) (by kernel_rfl) (by kernel_rfl) (fun _ _ _ h => h) ⟨by rfl, ?_⟩ (by assumption) ?_
  rotate_left
  · intro w hS; go_simp <;> with_reducible rfl
  simp only [Act.put, List.setIfInBounds_toArray, List.set_cons_zero, List.set_cons_succ]
  refine takeL 2 (v := ?_) rfl (by kernel_rfl) (by kernel_rfl) (by kernel_rfl) (fun _ _ _ h => h) ⟨by rfl, ?_⟩ (by assumption) ?_
  rotate_left
  · intro w hS; go_simp <;> with_reducible rfl
  simp only [Act.put, List.setIfInBounds_toArray, List.set_cons_zero, List.set_cons_succ]
  refine takeL 3 (v := ?_) rfl (by kernel_rfl) (by kernel_rfl) (by kernel_rfl) (fun _ _ _ h => h) ⟨by rfl, ?_⟩ (by assumption) ?_
  rotate_left
  · intro w hS; go_simp <;> with_reducible rfl
  simp only [Act.put, List.setIfInBounds_toArray, List.set_cons_zero, List.set_cons_succ]
  refine takeL 4 (v := ?_) rfl (by kernel_rfl) (by kernel_rfl) (by kernel_rfl) (fun _ _ _ h => h) ⟨by rfl, ?_⟩ (by assumption) ?_
  rotate_left
  · intro w hS; go_simp <;> with_reducible rfl
  simp only [Act.put, List.setIfInBounds_toArray, List.set_cons_zero, List.set_cons_succ]
  refine takeL 5 (v := ?_) rfl (by kernel_rfl) (by kernel_rfl) (by kernel_rfl) (fun _ _ _ h => h) ⟨by rfl, ?_⟩ (by assumption) ?_
  rotate_left
  · intro w hS; go_simp <;> with_reducible rfl
  simp only [Act.put, List.setIfInBounds_toArray, List.set_cons_zero, List.set_cons_succ]
  refine takeL 6 (v := ?_) rfl (by kernel_rfl) (by kernel_rfl) (by kernel_rfl) (fun _ _ _ h => h) ⟨by rfl, ?_⟩ (by assumption) ?_
  rotate_left
  · intro w hS; go_simp <;> with_reducible rfl
  simp only [Act.put, List.setIfInBounds_toArray, List.set_cons_zero, List.set_cons_succ]
  refine takeL 7 (v := ?_) rfl (by kernel_rfl) (by kernel_rfl) (by kernel_rfl) (fun _ _ _ h => h) ⟨by rfl, ?_⟩ (by assumption) ?_
  rotate_left
  · intro w hS; go_simp <;> with_reducible rfl
  simp only [Act.put, List.setIfInBounds_toArray, List.set_cons_zero, List.set_cons_succ]
  refine takeL 8 (v := ?_) rfl (by kernel_rfl) (by kernel_rfl) (by kernel_rfl) (fun _ _ _ h => h) ⟨by rfl, ?_⟩ (by assumption) ?_
  rotate_left
  · intro w hS; go_simp <;> with_reducible rfl
  simp only [Act.put, List.setIfInBounds_toArray, List.set_cons_zero, List.set_cons_succ]
  refine takeL 9 (v := ?_) rfl (by kernel_rfl) (by kernel_rfl) (by kernel_rfl) (fun _ _ _ h => h) ⟨by rfl, ?_⟩ (by assumption) ?_
  rotate_left
  · intro w hS; go_simp <;> with_reducible rfl
  simp only [Act.put, List.setIfInBounds_toArray, List.set_cons_zero, List.set_cons_succ]
  refine takeL 10 (v := ?_) rfl (by kernel_rfl) (by kernel_rfl) (by kernel_rfl) (fun _ _ _ h => h) ⟨by rfl, ?_⟩ (by assumption) ?_
  rotate_left
  · intro w hS; go_simp <;> with_reducible rfl
  simp only [Act.put, List.setIfInBounds_toArray, List.set_cons_zero, List.set_cons_succ]
  refine takeL 11 (v := ?_) rfl (by kernel_rfl) (by kernel_rfl) (by kernel_rfl) (fun _ _ _ h => h) ⟨by rfl, ?_⟩ (by assumption) ?_
  rotate_left
  · intro w hS; have fa := KA.at hS; have fb := K3.at hS; have fc := K6.at hS; have fd := K8.at hS; have f1 := fa 0; have f2 := fa 1; have f3 := fa 2; have f4 := fb 0; have f5 := fb 1; have f6 := fb 2; have f7 := fc 0; have f8 := fc 1; have f9 := fc 2; have g1 := fd 0; have g2 := fd 1; have g3 := fd 2; clear fa fb fc fd; go_simp <;> with_reducible rfl
  simp only [Act.put, List.setIfInBounds_toArray, List.set_cons_zero, List.set_cons_succ]
  refine takeL 12 (v := ?_) rfl (by kernel_rfl) (by kernel_rfl) (by kernel_rfl) (fun _ _ _ h => h) ⟨by rfl, ?_⟩ (by assumption) ?_
  rotate_left
  · intro w hS; go_simp <;> with_reducible rfl
  simp only [Act.put, List.setIfInBounds_toArray, List.set_cons_zero, List.set_cons_succ]
  refine takeL 13 (v := ?_) rfl (by kernel_rfl) (by kernel_rfl) (by kernel_rfl) (fun _ _ _ h => h) ⟨by rfl, ?_⟩ (by assumption) ?_
  rotate_left
  · intro w hS; have fa := KA.at hS; have fb := K3.at hS; have fc := K6.at hS; have fd := K8.at hS; have f1 := fa 0; have f2 := fa 1; have f3 := fa 2; have f4 := fb 0; have f5 := fb 1; have f6 := fb 2; have f7 := fc 0; have f8 := fc 1; have f9 := fc 2; have g1 := fd 0; have g2 := fd 1; have g3 := fd 2; clear fa fb fc fd; go_simp <;> with_reducible rfl
  simp only [Act.put, List.setIfInBounds_toArray, List.set_cons_zero, List.set_cons_succ]
  refine takeL 14 (v := ?_) rfl (by kernel_rfl) (by kernel_rfl) (by kernel_rfl) (fun _ _ _ h => h) ⟨by rfl, ?_⟩ (by assumption) ?_
  rotate_left
  · intro w hS; go_simp <;> with_reducible rfl
  simp only [Act.put, List.setIfInBounds_toArray, List.set_cons_zero, List.set_cons_succ]
  refine takeL 15 (v := ?_) rfl (by kernel_rfl) (by kernel_rfl) (by kernel_rfl) (fun _ _ _ h => h) ⟨by rfl, ?_⟩ (by assumption) ?_
  rotate_left
  · intro w hS; have fa := KA.at hS; have fb := K3.at hS; have fc := K6.at hS; have fd := K8.at hS; have f1 := fa 0; have f2 := fa 1; have f3 := fa 2; have f4 := fb 0; have f5 := fb 1; have f6 := fb 2; have f7 := fc 0; have f8 := fc 1; have f9 := fc 2; have g1 := fd 0; have g2 := fd 1; have g3 := fd 2; clear fa fb fc fd; go_simp <;> with_reducible rfl
  simp only [Act.put, List.setIfInBounds_toArray, List.set_cons_zero, List.set_cons_succ]
  refine takeL 16 (v := ?_) rfl (by kernel_rfl) (by kernel_rfl) (by kernel_rfl) (fun _ _ _ h => h) ⟨by rfl, ?_⟩ (by assumption) ?_
  rotate_left
  · intro w hS; go_simp <;> with_reducible rfl
  simp only [Act.put, List.setIfInBounds_toArray, List.set_cons_zero, List.set_cons_succ]
  refine takeL 17 (v := ?_) rfl (by kernel_rfl) (by kernel_rfl) (by kernel_rfl) (fun _ _ _ h => h) ⟨by rfl, ?_⟩ (by assumption) ?_
  rotate_left
  · intro w hS; have fa := KA.at hS; have fb := K3.at hS; have fc := K6.at hS; have fd := K8.at hS; have f1 := fa 0; have f2 := fa 1; have f3 := fa 2; have f4 := fb 0; have f5 := fb 1; have f6 := fb 2; have f7 := fc 0; have f8 := fc 1; have f9 := fc 2; have g1 := fd 0; have g2 := fd 1; have g3 := fd 2; clear fa fb fc fd; go_simp <;> with_reducible rfl
  simp only [Act.put, List.setIfInBounds_toArray, List.set_cons_zero, List.set_cons_succ]
  refine oneL 18 rfl (by kernel_rfl) (by rfl) (fun K hK => ?_)
  go_simp
  go_at_call 30
  (with_reducible refine (ref11_One r _ hr).mono ?_); rintro e wx1 ⟨vx1, rfl, hx1, bx1⟩
  rw [← EE.out] at hx1
  refine hK.out _ _ (hHeld.trans (bx1.mono hHeld.size)) (fun hHeld => ?_)
  clear hK K
  try simp only [Act.put, List.setIfInBounds_toArray, List.set_cons_zero, List.set_cons_succ]
  refine oneL 19 rfl (by kernel_rfl) (by rfl) (fun K hK => ?_)
  go_simp
  go_at_call 18
  (with_reducible refine (ref11_Is _ _ r r es 1 1 _ (h6.next hHeld) hr hr HE.out (by omega) (by omega) hx1).mono ?_); rintro e wx2 ⟨rfl, bx2⟩
  clear hx1 bx1
  refine hK.out _ _ (hHeld.trans (bx2.mono hHeld.size)) (fun hHeld => ?_)
  clear hK K
  try simp only [Act.put, List.setIfInBounds_toArray, List.set_cons_zero, List.set_cons_succ]
  refine takeL 20 (v := ?_) rfl (by kernel_rfl) (by kernel_rfl) (by kernel_rfl) (fun _ _ _ h => h) ⟨by rfl, ?_⟩ (by assumption) ?_
  rotate_left
  · intro w hS; go_simp <;> with_reducible rfl
  simp only [Act.put, List.setIfInBounds_toArray, List.set_cons_zero, List.set_cons_succ]
  refine takeL 21 (v := ?_) rfl (by kernel_rfl) (by kernel_rfl) (by kernel_rfl) (fun _ _ _ h => h) ⟨by rfl, ?_⟩ (by assumption) ?_
  rotate_left
  · intro w hS; go_simp <;> with_reducible rfl
  simp only [Act.put, List.setIfInBounds_toArray, List.set_cons_zero, List.set_cons_succ]
  refine takeL 22 (v := ?_) rfl (by kernel_rfl) (by kernel_rfl) (by kernel_rfl) (fun _ _ _ h => h) ⟨by rfl, ?_⟩ (by assumption) ?_
  rotate_left
  · intro w hS; have fa := KA.at hS; have fb := K3.at hS; have fc := K6.at hS; have fd := K8.at hS; have f1 := fa 0; have f2 := fa 1; have f3 := fa 2; have f4 := fb 0; have f5 := fb 1; have f6 := fb 2; have f7 := fc 0; have f8 := fc 1; have f9 := fc 2; have g1 := fd 0; have g2 := fd 1; have g3 := fd 2; clear fa fb fc fd; go_simp <;> with_reducible rfl
  simp only [Act.put, List.setIfInBounds_toArray, List.set_cons_zero, List.set_cons_succ]
  refine takeL 23 (v := ?_) rfl (by kernel_rfl) (by kernel_rfl) (by kernel_rfl) (fun _ _ _ h => h) ⟨by rfl, ?_⟩ (by assumption) ?_
  rotate_left
  · intro w hS; go_simp <;> with_reducible rfl
  simp only [Act.put, List.setIfInBounds_toArray, List.set_cons_zero, List.set_cons_succ]
  refine takeL 24 (v := ?_) rfl (by kernel_rfl) (by kernel_rfl) (by kernel_rfl) (fun _ _ _ h => h) ⟨by rfl, ?_⟩ (by assumption) ?_
  rotate_left
  · intro w hS; have fa := KA.at hS; have fb := K3.at hS; have fc := K6.at hS; have fd := K8.at hS; have f1 := fa 0; have f2 := fa 1; have f3 := fa 2; have f4 := fb 0; have f5 := fb 1; have f6 := fb 2; have f7 := fc 0; have f8 := fc 1; have f9 := fc 2; have g1 := fd 0; have g2 := fd 1; have g3 := fd 2; clear fa fb fc fd; go_simp <;> with_reducible rfl
  simp only [Act.put, List.setIfInBounds_toArray, List.set_cons_zero, List.set_cons_succ]
  refine takeL 25 (v := ?_) rfl (by kernel_rfl) (by kernel_rfl) (by kernel_rfl) (fun _ _ _ h => h) ⟨by rfl, ?_⟩ (by assumption) ?_
  rotate_left
  · intro w hS; go_simp <;> with_reducible rfl
  simp only [Act.put, List.setIfInBounds_toArray, List.set_cons_zero, List.set_cons_succ]
  refine takeL 26 (v := ?_) rfl (by kernel_rfl) (by kernel_rfl) (by kernel_rfl) (fun _ _ _ h => h) ⟨by rfl, ?_⟩ (by assumption) ?_
  rotate_left
  · intro w hS; have fa := KA.at hS; have fb := K3.at hS; have fc := K6.at hS; have fd := K8.at hS; have f1 := fa 0; have f2 := fa 1; have f3 := fa 2; have f4 := fb 0; have f5 := fb 1; have f6 := fb 2; have f7 := fc 0; have f8 := fc 1; have f9 := fc 2; have g1 := fd 0; have g2 := fd 1; have g3 := fd 2; clear fa fb fc fd; go_simp <;> with_reducible rfl
  simp only [Act.put, List.setIfInBounds_toArray, List.set_cons_zero, List.set_cons_succ]
  refine takeL 27 (v := ?_) rfl (by kernel_rfl) (by kernel_rfl) (by kernel_rfl) (fun _ _ _ h => h) ⟨by rfl, ?_⟩ (by assumption) ?_
  rotate_left
  · intro w hS; have fa := KA.at hS; have fb := K3.at hS; have fc := K6.at hS; have fd := K8.at hS; have f1 := fa 0; have f2 := fa 1; have f3 := fa 2; have f4 := fb 0; have f5 := fb 1; have f6 := fb 2; have f7 := fc 0; have f8 := fc 1; have f9 := fc 2; have g1 := fd 0; have g2 := fd 1; have g3 := fd 2; clear fa fb fc fd; go_simp <;> with_reducible rfl
  simp only [Act.put, List.setIfInBounds_toArray, List.set_cons_zero, List.set_cons_succ]
  refine takeL 28 (v := ?_) rfl (by kernel_rfl) (by kernel_rfl) (by kernel_rfl) (fun _ _ _ h => h) ⟨by rfl, ?_⟩ (by assumption) ?_
  rotate_left
  · intro w hS; have fa := KA.at hS; have fb := K3.at hS; have fc := K6.at hS; have fd := K8.at hS; have f1 := fa 0; have f2 := fa 1; have f3 := fa 2; have f4 := fb 0; have f5 := fb 1; have f6 := fb 2; have f7 := fc 0; have f8 := fc 1; have f9 := fc 2; have g1 := fd 0; have g2 := fd 1; have g3 := fd 2; clear fa fb fc fd; go_simp <;> with_reducible rfl
  simp only [Act.put, List.setIfInBounds_toArray, List.set_cons_zero, List.set_cons_succ]
  refine oneL 29 rfl (by kernel_rfl) (by rfl) (fun K hK => ?_)
  go_simp
  go_at_call 19
  (with_reducible refine (ref11_Mul _ _ r r c gs xs 10 3 _ (h8.mt.next hHeld) (hA.next hHeld) hr hr hc HG.out HX.out (by omega) (by omega)).mono ?_); rintro e wx3 ⟨vx3, rfl, hx3, bx3⟩
  replace hx3 : Zs wx3 vx3 (mulL r r c gs xs) (r * (10 + 3 + 1) + 1) := hx3; rw [HM.out] at hx3
  refine hK.out _ _ (hHeld.trans (bx3.mono hHeld.size)) (fun hHeld => ?_)
  clear hK K
  try simp only [Act.put, List.setIfInBounds_toArray, List.set_cons_zero, List.set_cons_succ]
  refine oneL 30 rfl (by kernel_rfl) (by rfl) (fun K hK => ?_)
  go_simp
  go_at_call 18
  (with_reducible refine (ref11_Is _ _ r c zs 10 (r * (10 + 3 + 1) + 1) _ (h3.next hHeld) hr hc HZ.out (by omega) (by omega) hx3).mono ?_); rintro e wx4 ⟨rfl, bx4⟩
  refine hK.out _ _ (hHeld.trans (bx4.mono hHeld.size)) (fun hHeld => ?_)
  clear hK K
  try simp only [Act.put, List.setIfInBounds_toArray, List.set_cons_zero, List.set_cons_succ]
  refine takeL 31 (v := ?_) rfl (by kernel_rfl) (by kernel_rfl) (by kernel_rfl) (fun _ _ _ h => h) ⟨by rfl, ?_⟩ (by assumption) ?_
  rotate_left
  · intro w hS; go_simp <;> with_reducible rfl
  simp only [Act.put, List.setIfInBounds_toArray, List.set_cons_zero, List.set_cons_succ]
  refine takeL 32 (v := ?_) rfl (by kernel_rfl) (by kernel_rfl) (by kernel_rfl) (fun _ _ _ h => h) ⟨by rfl, ?_⟩ (by assumption) ?_
  rotate_left
  · intro w hS; go_simp <;> with_reducible rfl
  simp only [Act.put, List.setIfInBounds_toArray, List.set_cons_zero, List.set_cons_succ]
  refine doneL (by kernel_rfl) ?_ _
  replace B0 := B0.trans (hHeld.mono B0.size)
  go_wp2
  go_ret
  exact ⟨rfl, B0⟩

set_option maxRecDepth 20000 in
set_option maxHeartbeats 4000000 in
theorem there1 (a : Value) (r c i k : Nat) (ps : List (Bool × List Nat)) (kd : Nat) (I K : Int) (sc : Bool) (uc : Value) (us : List Nat) (w : World) (mA : Mw w a r c ps) (hu : Sl .u64 w uc us) (hwu : wf W64 us) (hkd : kd < 256) (hfew : Fx r c ps 6 3) (hshort : us.length ≤ 3) (y : Int) (hy : y = sg sc (nv W64 us)) (xs : List Int) (hA : Mt w a r c xs 3) (hr : r ≤ 64) (hc : c ≤ 64) (hx : xs.length = r * c) (hk : kd % 3 = 1) (hi : i < r) (ei : I = i) (ek : kd % 3 ≠ 2 → K = k) (hkr : k < r) (ht : There kd I K r) :
    Calls Try.prog 6 #[a, .agg #[.int .u8 kd, .int .i64 I, .int .i64 K, .bool sc, uc]] w (LawOk w) := by
  obtain ⟨ao, ca, rfl⟩ := mA.agg
  obtain ⟨co, bc, oc, cc, rfl, hccap, hccs⟩ := hu
  have hu : Sl .u64 w (.slice co us.length cc) us := ⟨co, bc, oc, cc, rfl, hccap, hccs⟩
  clear hccap hccs
  obtain ⟨wb, ew, KA, KS, B0, hsz⟩ := boxes1' w 24 46 [.int .i64 r, .int .i64 c, .slice ao ps.length ca] [.int .u8 kd, .int .i64 I, .int .i64 K, .bool sc, .slice co us.length cc]
  clear hsz
  have hC : Iv w (.agg #[.bool sc, .slice co us.length cc]) y 3 := ⟨sc, _, us, rfl, hu, hwu, hshort, hy⟩
  clear hu hwu hy
  have hl3 : ¬ 3 < us.length := by omega
  have hl4 : decide (((us.length : Nat) : Int) > 3) = false := decide_eq_false (by omega)
  have HX := Lib.hid hx; clear hx
  have HT := Lib.hid ht; clear ht
  have EI := Lib.hid ei; have EK := Lib.hid ek; clear ei ek
  have HK := Lib.hid hk; clear hk
  have hkx : kd % 3 = 2 ∨ k < r := .inr hkr
  have HKX := Lib.hid hkx; clear hkx
  replace mA := mA.next B0
  replace hA := hA.next B0
  replace hC := hC.next B0
  have FEW := Lib.hid hfew; clear hfew
  go_enter Try.func6, Try.ntmps6
  go_upto_region 1 with (fail)
  rw [← ew]
  clear ew
  go_wp2_with fail
  refine (law11_awake _).mono ?_; rintro e w1 ⟨rfl, b1⟩
  replace mA := mA.next b1
  replace hA := hA.next b1
  replace hC := hC.next b1
  replace KA := KA.next b1
  replace KS := KS.next b1
  replace B0 := B0.trans (b1.mono B0.size)
  clear b1
  have qKA0 := KA.cell 0
  have qKA1 := KA.cell 1
  have qKA2 := KA.cell 2
  go_wp2_with fail
  refine (law11_few _ _ r c r c ps ps true ⟨fun _ => ⟨FEW.out, FEW.out⟩, fun _ => rfl⟩ _ mA mA).mono ?_; rintro e w2 ⟨rfl, b2⟩
  clear qKA0 qKA1 qKA2
  replace mA := mA.next b2
  replace hA := hA.next b2
  replace hC := hC.next b2
  replace KA := KA.next b2
  replace KS := KS.next b2
  replace B0 := B0.trans (b2.mono B0.size)
  clear b2
  clear mA
  have qKS4 := KS.cell 4
  clear FEW
  have qKA0 := KA.cell 0
  have qKA1 := KA.cell 1
  have qKA2 := KA.cell 2
  have qKS0 := KS.cell 0
  have qKS1 := KS.cell 1
  have qKS2 := KS.cell 2
  have qKS3 := KS.cell 3
  go_wp2_with fail
  refine (law11_Do_ok (y := y) hkd I K i k r c hA hC hr hc HX.out EI.out EK.out HT.out).mono ?_; rintro e w3 ⟨v3, rfl, h3, b3⟩
  clear qKS4 qKA0 qKA1 qKA2 qKS0 qKS1 qKS2 qKS3
  replace hA := hA.next b3
  replace hC := hC.next b3
  replace KA := KA.next b3
  replace KS := KS.next b3
  replace B0 := B0.trans (b3.mono B0.size)
  clear b3
  obtain ⟨zs, ezs⟩ : ∃ zs, zs = doL kd i k y r c xs := ⟨_, rfl⟩
  rw [← ezs] at h3
  have hz : zs.length = r * c := by rw [ezs]; exact doL_length _ _ _ _ _ _ _
  have EZ := Lib.hid ezs; have HZ := Lib.hid hz; clear ezs hz
  obtain ⟨a3, k3, rfl⟩ := h3.agg
  obtain ⟨w4, e4, K3, b4, hs4⟩ := boxes1 w3 24 [.int .i64 r, .int .i64 c, .slice a3 zs.length k3]
  clear hs4
  replace hA := hA.next b4
  replace hC := hC.next b4
  replace KA := KA.next b4
  replace KS := KS.next b4
  replace h3 := h3.next b4
  replace B0 := B0.trans (b4.mono B0.size)
  clear b4
  go_upto_region 4 with (fail)
  rw [← e4]
  clear e4
  have qKA0 := KA.cell 0
  have qKA1 := KA.cell 1
  have qKA2 := KA.cell 2
  go_wp2_with fail
  refine (ref11_Formed_yes _ r c xs 3 _ hA (Fm.of hr hc HX.out)).mono ?_; rintro e w5 ⟨rfl, b5⟩
  clear qKA0 qKA1 qKA2
  replace hA := hA.next b5
  replace hC := hC.next b5
  replace KA := KA.next b5
  replace KS := KS.next b5
  replace h3 := h3.next b5
  replace K3 := K3.next b5
  replace B0 := B0.trans (b5.mono B0.size)
  clear b5
  have hk := HK.out
  have d0 : (kd : Int).tmod 3 = 1 := by rw [IntWalk.rem_in _ _ (by omega)]; omega
  have d00 : IntKind.u8.wrap 1 = 1 := by decide
  clear hk
  have hI0 : 0 ≤ I := HT.out.1.1
  have hI1 : I < r := HT.out.1.2
  have d1 : decide (I ≥ 0) = true := decide_eq_true hI0
  have d2 : decide (I < (r : Int)) = true := decide_eq_true hI1
  clear hI0 hI1
  have hK : 0 ≤ K ∧ K < r := HT.out.2.1.resolve_left (by have := HK.out; omega)
  have d3 : decide (K ≥ 0) = true := decide_eq_true hK.1
  have d4 : decide (K < (r : Int)) = true := decide_eq_true hK.2
  clear hK
  have hIK : I ≠ K := HT.out.2.2.resolve_left (by have := HK.out; omega)
  have d5 : (I == K) = false := by simpa using hIK
  have d6 : (I != K) = true := by simpa using hIK
  clear hIK
  have qKA0 := KA.cell 0
  have qKS0 := KS.cell 0
  have qKS1 := KS.cell 1
  have qKS2 := KS.cell 2
  go_wp2_with fail
  refine (zmat_Identity r _ hr).mono ?_; rintro e w6 ⟨v6, rfl, h6, b6⟩
  clear qKA0 qKS0 qKS1 qKS2
  replace hA := hA.next b6
  replace hC := hC.next b6
  replace KA := KA.next b6
  replace KS := KS.next b6
  replace h3 := h3.next b6
  replace K3 := K3.next b6
  replace B0 := B0.trans (b6.mono B0.size)
  clear b6
  obtain ⟨es, ees⟩ : ∃ es, es = idL r := ⟨_, rfl⟩
  rw [← ees] at h6
  have he : es.length = r * r := by rw [ees]; exact idL_length _
  have EE := Lib.hid ees; have HE := Lib.hid he; clear ees he
  obtain ⟨a6, k6, rfl⟩ := h6.agg
  obtain ⟨w7, e7, K6, b7, hs7⟩ := boxes1 w6 24 [.int .i64 r, .int .i64 r, .slice a6 es.length k6]
  clear hs7
  replace hA := hA.next b7
  replace hC := hC.next b7
  replace KA := KA.next b7
  replace KS := KS.next b7
  replace h3 := h3.next b7
  replace K3 := K3.next b7
  replace h6 := h6.next b7
  replace B0 := B0.trans (b7.mono B0.size)
  clear b7
  go_upto_region 10 with (fail)
  rw [← e7]
  clear e7
  have qK60 := K6.cell 0
  have qK61 := K6.cell 1
  have qK62 := K6.cell 2
  have qKS0 := KS.cell 0
  have qKS1 := KS.cell 1
  have qKS2 := KS.cell 2
  have qKS3 := KS.cell 3
  have qKS4 := KS.cell 4
  go_wp2_with fail
  refine (law11_Do_ok (y := y) hkd I K i k r r (h6.mono (by omega)).mt hC hr hr HE.out EI.out EK.out HT.out).mono ?_; rintro e w8 ⟨v8, rfl, h8, b8⟩
  clear qK60 qK61 qK62 qKS0 qKS1 qKS2 qKS3 qKS4
  replace hA := hA.next b8
  replace hC := hC.next b8
  replace KA := KA.next b8
  replace KS := KS.next b8
  replace h3 := h3.next b8
  replace K3 := K3.next b8
  replace h6 := h6.next b8
  replace K6 := K6.next b8
  replace B0 := B0.trans (b8.mono B0.size)
  clear b8
  obtain ⟨gs, egs⟩ : ∃ gs, gs = doL kd i k y r r es := ⟨_, rfl⟩
  rw [← egs] at h8
  have hg : gs.length = r * r := by rw [egs]; exact doL_length _ _ _ _ _ _ _
  have EG := Lib.hid egs; have HG := Lib.hid hg; clear egs hg
  have hm : mulL r r c gs xs = zs := by rw [EG.out, EE.out, EZ.out]; exact (doL_mul kd i k y r c xs hi HKX.out).symm
  have HM := Lib.hid hm; clear hm
  obtain ⟨a8, k8, rfl⟩ := h8.agg
  obtain ⟨w9, e9, K8, b9, hs9⟩ := boxes1 w8 24 [.int .i64 r, .int .i64 r, .slice a8 gs.length k8]
  clear hs9
  replace hA := hA.next b9
  replace hC := hC.next b9
  replace KA := KA.next b9
  replace KS := KS.next b9
  replace h3 := h3.next b9
  replace K3 := K3.next b9
  replace h6 := h6.next b9
  replace K6 := K6.next b9
  replace h8 := h8.next b9
  replace B0 := B0.trans (b9.mono B0.size)
  clear b9
  go_upto_region 11 with (fail)
  rw [← e9]
  clear e9
  clear d0 d00 d1 d2 d3 d4 d5 d6
  have hdr := Drawn.below (w' := w9.drew) ⟨1, rfl⟩ w9.heap.size
  replace hA := hA.next hdr
  replace hC := hC.next hdr
  replace KA := KA.next hdr
  replace KS := KS.next hdr
  replace h3 := h3.next hdr
  replace K3 := K3.next hdr
  replace h6 := h6.next hdr
  replace K6 := K6.next hdr
  replace h8 := h8.next hdr
  replace K8 := K8.next hdr
  replace B0 := B0.trans (hdr.mono B0.size)
  clear hdr
  refine startL (S := (fun w' => Below ((w9.drew)).heap.size ((w9.drew)) w')) (by kernel_rfl) (Below.refl _ _) (fun hHeld => ?_)
  refine takeL 0 (v := ?_) rfl (by kernel_rfl) (by kernel_rfl) (by kernel_rfl) (fun _ _ _ h => h) ⟨by rfl, ?_⟩ (by assumption) ?_
  rotate_left
  · intro w hS; go_simp <;> with_reducible rfl
  simp only [Act.put, List.setIfInBounds_toArray, List.set_cons_zero, List.set_cons_succ]
  refine takeL 1 (v := ?_) rfl (by kernel_rfl) (by kernel_rfl) (by kernel_rfl) (fun _ _ _ h => h) ⟨by rfl, ?_⟩ (by assumption) ?_
  rotate_left
  · intro w hS; go_simp <;> with_reducible rfl
  simp only [Act.put, List.setIfInBounds_toArray, List.set_cons_zero, List.set_cons_succ]
  refine takeL 2 (v := ?_) rfl (by kernel_rfl) (by kernel_rfl) (by kernel_rfl) (fun _ _ _ h => h) ⟨by rfl, ?_⟩ (by assumption) ?_
  rotate_left
  · intro w hS; go_simp <;> with_reducible rfl
  simp only [Act.put, List.setIfInBounds_toArray, List.set_cons_zero, List.set_cons_succ]
  refine takeL 3 (v := ?_) rfl (by kernel_rfl) (by kernel_rfl) (by kernel_rfl) (fun _ _ _ h => h) ⟨by rfl, ?_⟩ (by assumption) ?_
  rotate_left
  · intro w hS; go_simp <;> with_reducible rfl
  simp only [Act.put, List.setIfInBounds_toArray, List.set_cons_zero, List.set_cons_succ]
  refine takeL 4 (v := ?_) rfl (by kernel_rfl) (by kernel_rfl) (by kernel_rfl) (fun _ _ _ h => h) ⟨by rfl, ?_⟩ (by assumption) ?_
  rotate_left
  · intro w hS; go_simp <;> with_reducible rfl
  simp only [Act.put, List.setIfInBounds_toArray, List.set_cons_zero, List.set_cons_succ]
  refine takeL 5 (v := ?_) rfl (by kernel_rfl) (by kernel_rfl) (by kernel_rfl) (fun _ _ _ h => h) ⟨by rfl, ?_⟩ (by assumption) ?_
  rotate_left
  · intro w hS; go_simp <;> with_reducible rfl
  simp only [Act.put, List.setIfInBounds_toArray, List.set_cons_zero, List.set_cons_succ]
  refine takeL 6 (v := ?_) rfl (by kernel_rfl) (by kernel_rfl) (by kernel_rfl) (fun _ _ _ h => h) ⟨by rfl, ?_⟩ (by assumption) ?_
  rotate_left
  · intro w hS; go_simp <;> with_reducible rfl
  simp only [Act.put, List.setIfInBounds_toArray, List.set_cons_zero, List.set_cons_succ]
  refine takeL 7 (v := ?_) rfl (by kernel_rfl) (by kernel_rfl) (by kernel_rfl) (fun _ _ _ h => h) ⟨by rfl, ?_⟩ (by assumption) ?_
  rotate_left
  · intro w hS; go_simp <;> with_reducible rfl
  simp only [Act.put, List.setIfInBounds_toArray, List.set_cons_zero, List.set_cons_succ]
  refine takeL 8 (v := ?_) rfl (by kernel_rfl) (by kernel_rfl) (by kernel_rfl) (fun _ _ _ h => h) ⟨by rfl, ?_⟩ (by assumption) ?_
  rotate_left
  · intro w hS; go_simp <;> with_reducible rfl
  simp only [Act.put, List.setIfInBounds_toArray, List.set_cons_zero, List.set_cons_succ]
  refine takeL 9 (v := ?_) rfl (by kernel_rfl) (by kernel_rfl) (by kernel_rfl) (fun _ _ _ h => h) ⟨by rfl, ?_⟩ (by assumption) ?_
  rotate_left
  · intro w hS; go_simp <;> with_reducible rfl
  simp only [Act.put, List.setIfInBounds_toArray, List.set_cons_zero, List.set_cons_succ]
  refine takeL 10 (v := ?_) rfl (by kernel_rfl) (by kernel_rfl) (by kernel_rfl) (fun _ _ _ h => h) ⟨by rfl, ?_⟩ (by assumption) ?_
  rotate_left
  · intro w hS; go_simp <;> with_reducible rfl
  simp only [Act.put, List.setIfInBounds_toArray, List.set_cons_zero, List.set_cons_succ]
  refine takeL 11 (v := ?_) rfl (by kernel_rfl) (by kernel_rfl) (by kernel_rfl) (fun _ _ _ h => h) ⟨by rfl, ?_⟩ (by assumption) ?_
  rotate_left
  · intro w hS; have fa := KA.at hS; have fb := K3.at hS; have fc := K6.at hS; have fd := K8.at hS; have f1 := fa 0; have f2 := fa 1; have f3 := fa 2; have f4 := fb 0; have f5 := fb 1; have f6 := fb 2; have f7 := fc 0; have f8 := fc 1; have f9 := fc 2; have g1 := fd 0; have g2 := fd 1; have g3 := fd 2; clear fa fb fc fd; go_simp <;> with_reducible rfl
  simp only [Act.put, List.setIfInBounds_toArray, List.set_cons_zero, List.set_cons_succ]
  refine takeL 12 (v := ?_) rfl (by kernel_rfl) (by kernel_rfl) (by kernel_rfl) (fun _ _ _ h => h) ⟨by rfl, ?_⟩ (by assumption) ?_
  rotate_left
  · intro w hS; go_simp <;> with_reducible rfl
  simp only [Act.put, List.setIfInBounds_toArray, List.set_cons_zero, List.set_cons_succ]
  refine takeL 13 (v := ?_) rfl (by kernel_rfl) (by kernel_rfl) (by kernel_rfl) (fun _ _ _ h => h) ⟨by rfl, ?_⟩ (by assumption) ?_
  rotate_left
  · intro w hS; have fa := KA.at hS; have fb := K3.at hS; have fc := K6.at hS; have fd := K8.at hS; have f1 := fa 0; have f2 := fa 1; have f3 := fa 2; have f4 := fb 0; have f5 := fb 1; have f6 := fb 2; have f7 := fc 0; have f8 := fc 1; have f9 := fc 2; have g1 := fd 0; have g2 := fd 1; have g3 := fd 2; clear fa fb fc fd; go_simp <;> with_reducible rfl
  simp only [Act.put, List.setIfInBounds_toArray, List.set_cons_zero, List.set_cons_succ]
  refine takeL 14 (v := ?_) rfl (by kernel_rfl) (by kernel_rfl) (by kernel_rfl) (fun _ _ _ h => h) ⟨by rfl, ?_⟩ (by assumption) ?_
  rotate_left
  · intro w hS; go_simp <;> with_reducible rfl
  simp only [Act.put, List.setIfInBounds_toArray, List.set_cons_zero, List.set_cons_succ]
  refine takeL 15 (v := ?_) rfl (by kernel_rfl) (by kernel_rfl) (by kernel_rfl) (fun _ _ _ h => h) ⟨by rfl, ?_⟩ (by assumption) ?_
  rotate_left
  · intro w hS; have fa := KA.at hS; have fb := K3.at hS; have fc := K6.at hS; have fd := K8.at hS; have f1 := fa 0; have f2 := fa 1; have f3 := fa 2; have f4 := fb 0; have f5 := fb 1; have f6 := fb 2; have f7 := fc 0; have f8 := fc 1; have f9 := fc 2; have g1 := fd 0; have g2 := fd 1; have g3 := fd 2; clear fa fb fc fd; go_simp <;> with_reducible rfl
  simp only [Act.put, List.setIfInBounds_toArray, List.set_cons_zero, List.set_cons_succ]
  refine takeL 16 (v := ?_) rfl (by kernel_rfl) (by kernel_rfl) (by kernel_rfl) (fun _ _ _ h => h) ⟨by rfl, ?_⟩ (by assumption) ?_
  rotate_left
  · intro w hS; go_simp <;> with_reducible rfl
  simp only [Act.put, List.setIfInBounds_toArray, List.set_cons_zero, List.set_cons_succ]
  refine takeL 17 (v := ?_) rfl (by kernel_rfl) (by kernel_rfl) (by kernel_rfl) (fun _ _ _ h => h) ⟨by rfl, ?_⟩ (by assumption) ?_
  rotate_left
  · intro w hS; have fa := KA.at hS; have fb := K3.at hS; have fc := K6.at hS; have fd := K8.at hS; have f1 := fa 0; have f2 := fa 1; have f3 := fa 2; have f4 := fb 0; have f5 := fb 1; have f6 := fb 2; have f7 := fc 0; have f8 := fc 1; have f9 := fc 2; have g1 := fd 0; have g2 := fd 1; have g3 := fd 2; clear fa fb fc fd; go_simp <;> with_reducible rfl
  simp only [Act.put, List.setIfInBounds_toArray, List.set_cons_zero, List.set_cons_succ]
  refine oneL 18 rfl (by kernel_rfl) (by rfl) (fun K hK => ?_)
  go_simp
  go_at_call 30
  (with_reducible refine (ref11_One r _ hr).mono ?_); rintro e wx1 ⟨vx1, rfl, hx1, bx1⟩
  rw [← EE.out] at hx1
  refine hK.out _ _ (hHeld.trans (bx1.mono hHeld.size)) (fun hHeld => ?_)
  clear hK K
  try simp only [Act.put, List.setIfInBounds_toArray, List.set_cons_zero, List.set_cons_succ]
  refine oneL 19 rfl (by kernel_rfl) (by rfl) (fun K hK => ?_)
  go_simp
  go_at_call 18
  (with_reducible refine (ref11_Is _ _ r r es 1 1 _ (h6.next hHeld) hr hr HE.out (by omega) (by omega) hx1).mono ?_); rintro e wx2 ⟨rfl, bx2⟩
  clear hx1 bx1
  refine hK.out _ _ (hHeld.trans (bx2.mono hHeld.size)) (fun hHeld => ?_)
  clear hK K
  try simp only [Act.put, List.setIfInBounds_toArray, List.set_cons_zero, List.set_cons_succ]
  refine takeL 20 (v := ?_) rfl (by kernel_rfl) (by kernel_rfl) (by kernel_rfl) (fun _ _ _ h => h) ⟨by rfl, ?_⟩ (by assumption) ?_
  rotate_left
  · intro w hS; go_simp <;> with_reducible rfl
  simp only [Act.put, List.setIfInBounds_toArray, List.set_cons_zero, List.set_cons_succ]
  refine takeL 21 (v := ?_) rfl (by kernel_rfl) (by kernel_rfl) (by kernel_rfl) (fun _ _ _ h => h) ⟨by rfl, ?_⟩ (by assumption) ?_
  rotate_left
  · intro w hS; go_simp <;> with_reducible rfl
  simp only [Act.put, List.setIfInBounds_toArray, List.set_cons_zero, List.set_cons_succ]
  refine takeL 22 (v := ?_) rfl (by kernel_rfl) (by kernel_rfl) (by kernel_rfl) (fun _ _ _ h => h) ⟨by rfl, ?_⟩ (by assumption) ?_
  rotate_left
  · intro w hS; have fa := KA.at hS; have fb := K3.at hS; have fc := K6.at hS; have fd := K8.at hS; have f1 := fa 0; have f2 := fa 1; have f3 := fa 2; have f4 := fb 0; have f5 := fb 1; have f6 := fb 2; have f7 := fc 0; have f8 := fc 1; have f9 := fc 2; have g1 := fd 0; have g2 := fd 1; have g3 := fd 2; clear fa fb fc fd; go_simp <;> with_reducible rfl
  simp only [Act.put, List.setIfInBounds_toArray, List.set_cons_zero, List.set_cons_succ]
  refine takeL 23 (v := ?_) rfl (by kernel_rfl) (by kernel_rfl) (by kernel_rfl) (fun _ _ _ h => h) ⟨by rfl, ?_⟩ (by assumption) ?_
  rotate_left
  · intro w hS; go_simp <;> with_reducible rfl
  simp only [Act.put, List.setIfInBounds_toArray, List.set_cons_zero, List.set_cons_succ]
  refine takeL 24 (v := ?_) rfl (by kernel_rfl) (by kernel_rfl) (by kernel_rfl) (fun _ _ _ h => h) ⟨by rfl, ?_⟩ (by assumption) ?_
  rotate_left
  · intro w hS; have fa := KA.at hS; have fb := K3.at hS; have fc := K6.at hS; have fd := K8.at hS; have f1 := fa 0; have f2 := fa 1; have f3 := fa 2; have f4 := fb 0; have f5 := fb 1; have f6 := fb 2; have f7 := fc 0; have f8 := fc 1; have f9 := fc 2; have g1 := fd 0; have g2 := fd 1; have g3 := fd 2; clear fa fb fc fd; go_simp <;> with_reducible rfl
  simp only [Act.put, List.setIfInBounds_toArray, List.set_cons_zero, List.set_cons_succ]
  refine takeL 25 (v := ?_) rfl (by kernel_rfl) (by kernel_rfl) (by kernel_rfl) (fun _ _ _ h => h) ⟨by rfl, ?_⟩ (by assumption) ?_
  rotate_left
  · intro w hS; go_simp <;> with_reducible rfl
  simp only [Act.put, List.setIfInBounds_toArray, List.set_cons_zero, List.set_cons_succ]
  refine takeL 26 (v := ?_) rfl (by kernel_rfl) (by kernel_rfl) (by kernel_rfl) (fun _ _ _ h => h) ⟨by rfl, ?_⟩ (by assumption) ?_
  rotate_left
  · intro w hS; have fa := KA.at hS; have fb := K3.at hS; have fc := K6.at hS; have fd := K8.at hS; have f1 := fa 0; have f2 := fa 1; have f3 := fa 2; have f4 := fb 0; have f5 := fb 1; have f6 := fb 2; have f7 := fc 0; have f8 := fc 1; have f9 := fc 2; have g1 := fd 0; have g2 := fd 1; have g3 := fd 2; clear fa fb fc fd; go_simp <;> with_reducible rfl
  simp only [Act.put, List.setIfInBounds_toArray, List.set_cons_zero, List.set_cons_succ]
  refine takeL 27 (v := ?_) rfl (by kernel_rfl) (by kernel_rfl) (by kernel_rfl) (fun _ _ _ h => h) ⟨by rfl, ?_⟩ (by assumption) ?_
  rotate_left
  · intro w hS; have fa := KA.at hS; have fb := K3.at hS; have fc := K6.at hS; have fd := K8.at hS; have f1 := fa 0; have f2 := fa 1; have f3 := fa 2; have f4 := fb 0; have f5 := fb 1; have f6 := fb 2; have f7 := fc 0; have f8 := fc 1; have f9 := fc 2; have g1 := fd 0; have g2 := fd 1; have g3 := fd 2; clear fa fb fc fd; go_simp <;> with_reducible rfl
  simp only [Act.put, List.setIfInBounds_toArray, List.set_cons_zero, List.set_cons_succ]
  refine takeL 28 (v := ?_) rfl (by kernel_rfl) (by kernel_rfl) (by kernel_rfl) (fun _ _ _ h => h) ⟨by rfl, ?_⟩ (by assumption) ?_
  rotate_left
  · intro w hS; have fa := KA.at hS; have fb := K3.at hS; have fc := K6.at hS; have fd := K8.at hS; have f1 := fa 0; have f2 := fa 1; have f3 := fa 2; have f4 := fb 0; have f5 := fb 1; have f6 := fb 2; have f7 := fc 0; have f8 := fc 1; have f9 := fc 2; have g1 := fd 0; have g2 := fd 1; have g3 := fd 2; clear fa fb fc fd; go_simp <;> with_reducible rfl
  simp only [Act.put, List.setIfInBounds_toArray, List.set_cons_zero, List.set_cons_succ]
  refine oneL 29 rfl (by kernel_rfl) (by rfl) (fun K hK => ?_)
  go_simp
  go_at_call 19
  (with_reducible refine (ref11_Mul _ _ r r c gs xs 10 3 _ (h8.mt.next hHeld) (hA.next hHeld) hr hr hc HG.out HX.out (by omega) (by omega)).mono ?_); rintro e wx3 ⟨vx3, rfl, hx3, bx3⟩
  replace hx3 : Zs wx3 vx3 (mulL r r c gs xs) (r * (10 + 3 + 1) + 1) := hx3; rw [HM.out] at hx3
  refine hK.out _ _ (hHeld.trans (bx3.mono hHeld.size)) (fun hHeld => ?_)
  clear hK K
  try simp only [Act.put, List.setIfInBounds_toArray, List.set_cons_zero, List.set_cons_succ]
  refine oneL 30 rfl (by kernel_rfl) (by rfl) (fun K hK => ?_)
  go_simp
  go_at_call 18
  (with_reducible refine (ref11_Is _ _ r c zs 10 (r * (10 + 3 + 1) + 1) _ (h3.next hHeld) hr hc HZ.out (by omega) (by omega) hx3).mono ?_); rintro e wx4 ⟨rfl, bx4⟩
  refine hK.out _ _ (hHeld.trans (bx4.mono hHeld.size)) (fun hHeld => ?_)
  clear hK K
  try simp only [Act.put, List.setIfInBounds_toArray, List.set_cons_zero, List.set_cons_succ]
  refine takeL 31 (v := ?_) rfl (by kernel_rfl) (by kernel_rfl) (by kernel_rfl) (fun _ _ _ h => h) ⟨by rfl, ?_⟩ (by assumption) ?_
  rotate_left
  · intro w hS; go_simp <;> with_reducible rfl
  simp only [Act.put, List.setIfInBounds_toArray, List.set_cons_zero, List.set_cons_succ]
  refine takeL 32 (v := ?_) rfl (by kernel_rfl) (by kernel_rfl) (by kernel_rfl) (fun _ _ _ h => h) ⟨by rfl, ?_⟩ (by assumption) ?_
  rotate_left
  · intro w hS; go_simp <;> with_reducible rfl
  simp only [Act.put, List.setIfInBounds_toArray, List.set_cons_zero, List.set_cons_succ]
  refine doneL (by kernel_rfl) ?_ _
  replace B0 := B0.trans (hHeld.mono B0.size)
  go_wp2
  go_ret
  exact ⟨rfl, B0⟩

set_option maxRecDepth 20000 in
set_option maxHeartbeats 4000000 in
theorem there2 (a : Value) (r c i k : Nat) (ps : List (Bool × List Nat)) (kd : Nat) (I K : Int) (sc : Bool) (uc : Value) (us : List Nat) (w : World) (mA : Mw w a r c ps) (hu : Sl .u64 w uc us) (hwu : wf W64 us) (hkd : kd < 256) (hfew : Fx r c ps 6 3) (hshort : us.length ≤ 3) (y : Int) (hy : y = sg sc (nv W64 us)) (xs : List Int) (hA : Mt w a r c xs 3) (hr : r ≤ 64) (hc : c ≤ 64) (hx : xs.length = r * c) (hk : kd % 3 = 2) (hi : i < r) (ei : I = i) (ek : kd % 3 ≠ 2 → K = k) (ht : There kd I K r) :
    Calls Try.prog 6 #[a, .agg #[.int .u8 kd, .int .i64 I, .int .i64 K, .bool sc, uc]] w (LawOk w) := by
  obtain ⟨ao, ca, rfl⟩ := mA.agg
  obtain ⟨co, bc, oc, cc, rfl, hccap, hccs⟩ := hu
  have hu : Sl .u64 w (.slice co us.length cc) us := ⟨co, bc, oc, cc, rfl, hccap, hccs⟩
  clear hccap hccs
  obtain ⟨wb, ew, KA, KS, B0, hsz⟩ := boxes1' w 24 46 [.int .i64 r, .int .i64 c, .slice ao ps.length ca] [.int .u8 kd, .int .i64 I, .int .i64 K, .bool sc, .slice co us.length cc]
  clear hsz
  have hC : Iv w (.agg #[.bool sc, .slice co us.length cc]) y 3 := ⟨sc, _, us, rfl, hu, hwu, hshort, hy⟩
  clear hu hwu hy
  have hl3 : ¬ 3 < us.length := by omega
  have hl4 : decide (((us.length : Nat) : Int) > 3) = false := decide_eq_false (by omega)
  have HX := Lib.hid hx; clear hx
  have HT := Lib.hid ht; clear ht
  have EI := Lib.hid ei; have EK := Lib.hid ek; clear ei ek
  have HK := Lib.hid hk; clear hk
  have hkx : kd % 3 = 2 ∨ k < r := .inl HK.out
  have HKX := Lib.hid hkx; clear hkx
  replace mA := mA.next B0
  replace hA := hA.next B0
  replace hC := hC.next B0
  have FEW := Lib.hid hfew; clear hfew
  go_enter Try.func6, Try.ntmps6
  go_upto_region 1 with (fail)
  rw [← ew]
  clear ew
  go_wp2_with fail
  refine (law11_awake _).mono ?_; rintro e w1 ⟨rfl, b1⟩
  replace mA := mA.next b1
  replace hA := hA.next b1
  replace hC := hC.next b1
  replace KA := KA.next b1
  replace KS := KS.next b1
  replace B0 := B0.trans (b1.mono B0.size)
  clear b1
  have qKA0 := KA.cell 0
  have qKA1 := KA.cell 1
  have qKA2 := KA.cell 2
  go_wp2_with fail
  refine (law11_few _ _ r c r c ps ps true ⟨fun _ => ⟨FEW.out, FEW.out⟩, fun _ => rfl⟩ _ mA mA).mono ?_; rintro e w2 ⟨rfl, b2⟩
  clear qKA0 qKA1 qKA2
  replace mA := mA.next b2
  replace hA := hA.next b2
  replace hC := hC.next b2
  replace KA := KA.next b2
  replace KS := KS.next b2
  replace B0 := B0.trans (b2.mono B0.size)
  clear b2
  clear mA
  have qKS4 := KS.cell 4
  clear FEW
  have qKA0 := KA.cell 0
  have qKA1 := KA.cell 1
  have qKA2 := KA.cell 2
  have qKS0 := KS.cell 0
  have qKS1 := KS.cell 1
  have qKS2 := KS.cell 2
  have qKS3 := KS.cell 3
  go_wp2_with fail
  refine (law11_Do_ok (y := y) hkd I K i k r c hA hC hr hc HX.out EI.out EK.out HT.out).mono ?_; rintro e w3 ⟨v3, rfl, h3, b3⟩
  clear qKS4 qKA0 qKA1 qKA2 qKS0 qKS1 qKS2 qKS3
  replace hA := hA.next b3
  replace hC := hC.next b3
  replace KA := KA.next b3
  replace KS := KS.next b3
  replace B0 := B0.trans (b3.mono B0.size)
  clear b3
  obtain ⟨zs, ezs⟩ : ∃ zs, zs = doL kd i k y r c xs := ⟨_, rfl⟩
  rw [← ezs] at h3
  have hz : zs.length = r * c := by rw [ezs]; exact doL_length _ _ _ _ _ _ _
  have EZ := Lib.hid ezs; have HZ := Lib.hid hz; clear ezs hz
  obtain ⟨a3, k3, rfl⟩ := h3.agg
  obtain ⟨w4, e4, K3, b4, hs4⟩ := boxes1 w3 24 [.int .i64 r, .int .i64 c, .slice a3 zs.length k3]
  clear hs4
  replace hA := hA.next b4
  replace hC := hC.next b4
  replace KA := KA.next b4
  replace KS := KS.next b4
  replace h3 := h3.next b4
  replace B0 := B0.trans (b4.mono B0.size)
  clear b4
  go_upto_region 4 with (fail)
  rw [← e4]
  clear e4
  have qKA0 := KA.cell 0
  have qKA1 := KA.cell 1
  have qKA2 := KA.cell 2
  go_wp2_with fail
  refine (ref11_Formed_yes _ r c xs 3 _ hA (Fm.of hr hc HX.out)).mono ?_; rintro e w5 ⟨rfl, b5⟩
  clear qKA0 qKA1 qKA2
  replace hA := hA.next b5
  replace hC := hC.next b5
  replace KA := KA.next b5
  replace KS := KS.next b5
  replace h3 := h3.next b5
  replace K3 := K3.next b5
  replace B0 := B0.trans (b5.mono B0.size)
  clear b5
  have hk := HK.out
  have d0 : (kd : Int).tmod 3 = 2 := by rw [IntWalk.rem_in _ _ (by omega)]; omega
  have d00 : IntKind.u8.wrap 2 = 2 := by decide
  clear hk
  have hI0 : 0 ≤ I := HT.out.1.1
  have hI1 : I < r := HT.out.1.2
  have d1 : decide (I ≥ 0) = true := decide_eq_true hI0
  have d2 : decide (I < (r : Int)) = true := decide_eq_true hI1
  clear hI0 hI1
  have qKA0 := KA.cell 0
  have qKS0 := KS.cell 0
  have qKS1 := KS.cell 1
  have qKS2 := KS.cell 2
  go_wp2_with fail
  refine (zmat_Identity r _ hr).mono ?_; rintro e w6 ⟨v6, rfl, h6, b6⟩
  clear qKA0 qKS0 qKS1 qKS2
  replace hA := hA.next b6
  replace hC := hC.next b6
  replace KA := KA.next b6
  replace KS := KS.next b6
  replace h3 := h3.next b6
  replace K3 := K3.next b6
  replace B0 := B0.trans (b6.mono B0.size)
  clear b6
  obtain ⟨es, ees⟩ : ∃ es, es = idL r := ⟨_, rfl⟩
  rw [← ees] at h6
  have he : es.length = r * r := by rw [ees]; exact idL_length _
  have EE := Lib.hid ees; have HE := Lib.hid he; clear ees he
  obtain ⟨a6, k6, rfl⟩ := h6.agg
  obtain ⟨w7, e7, K6, b7, hs7⟩ := boxes1 w6 24 [.int .i64 r, .int .i64 r, .slice a6 es.length k6]
  clear hs7
  replace hA := hA.next b7
  replace hC := hC.next b7
  replace KA := KA.next b7
  replace KS := KS.next b7
  replace h3 := h3.next b7
  replace K3 := K3.next b7
  replace h6 := h6.next b7
  replace B0 := B0.trans (b7.mono B0.size)
  clear b7
  go_upto_region 10 with (fail)
  rw [← e7]
  clear e7
  have qK60 := K6.cell 0
  have qK61 := K6.cell 1
  have qK62 := K6.cell 2
  have qKS0 := KS.cell 0
  have qKS1 := KS.cell 1
  have qKS2 := KS.cell 2
  have qKS3 := KS.cell 3
  have qKS4 := KS.cell 4
  go_wp2_with fail
  refine (law11_Do_ok (y := y) hkd I K i k r r (h6.mono (by omega)).mt hC hr hr HE.out EI.out EK.out HT.out).mono ?_; rintro e w8 ⟨v8, rfl, h8, b8⟩
  clear qK60 qK61 qK62 qKS0 qKS1 qKS2 qKS3 qKS4
  replace hA := hA.next b8
  replace hC := hC.next b8
  replace KA := KA.next b8
  replace KS := KS.next b8
  replace h3 := h3.next b8
  replace K3 := K3.next b8
  replace h6 := h6.next b8
  replace K6 := K6.next b8
  replace B0 := B0.trans (b8.mono B0.size)
  clear b8
  obtain ⟨gs, egs⟩ : ∃ gs, gs = doL kd i k y r r es := ⟨_, rfl⟩
  rw [← egs] at h8
  have hg : gs.length = r * r := by rw [egs]; exact doL_length _ _ _ _ _ _ _
  have EG := Lib.hid egs; have HG := Lib.hid hg; clear egs hg
  have hm : mulL r r c gs xs = zs := by rw [EG.out, EE.out, EZ.out]; exact (doL_mul kd i k y r c xs hi HKX.out).symm
  have HM := Lib.hid hm; clear hm
  obtain ⟨a8, k8, rfl⟩ := h8.agg
  obtain ⟨w9, e9, K8, b9, hs9⟩ := boxes1 w8 24 [.int .i64 r, .int .i64 r, .slice a8 gs.length k8]
  clear hs9
  replace hA := hA.next b9
  replace hC := hC.next b9
  replace KA := KA.next b9
  replace KS := KS.next b9
  replace h3 := h3.next b9
  replace K3 := K3.next b9
  replace h6 := h6.next b9
  replace K6 := K6.next b9
  replace h8 := h8.next b9
  replace B0 := B0.trans (b9.mono B0.size)
  clear b9
  go_upto_region 11 with (fail)
  rw [← e9]
  clear e9
  clear d0 d00 d1 d2
  have hdr := Drawn.below (w' := w9.drew) ⟨1, rfl⟩ w9.heap.size
  replace hA := hA.next hdr
  replace hC := hC.next hdr
  replace KA := KA.next hdr
  replace KS := KS.next hdr
  replace h3 := h3.next hdr
  replace K3 := K3.next hdr
  replace h6 := h6.next hdr
  replace K6 := K6.next hdr
  replace h8 := h8.next hdr
  replace K8 := K8.next hdr
  replace B0 := B0.trans (hdr.mono B0.size)
  clear hdr
  refine startL (S := (fun w' => Below ((w9.drew)).heap.size ((w9.drew)) w')) (by kernel_rfl) (Below.refl _ _) (fun hHeld => ?_)
  refine takeL 0 (v := ?_) rfl (by kernel_rfl) (by kernel_rfl) (by kernel_rfl) (fun _ _ _ h => h) ⟨by rfl, ?_⟩ (by assumption) ?_
  rotate_left
  · intro w hS; go_simp <;> with_reducible rfl
  simp only [Act.put, List.setIfInBounds_toArray, List.set_cons_zero, List.set_cons_succ]
  refine takeL 1 (v := ?_) rfl (by kernel_rfl) (by kernel_rfl) (by kernel_rfl) (fun _ _ _ h => h) ⟨by rfl, ?_⟩ (by assumption) ?_
  rotate_left
  · intro w hS; go_simp <;> with_reducible rfl
  simp only [Act.put, List.setIfInBounds_toArray, List.set_cons_zero, List.set_cons_succ]
  refine takeL 2 (v := ?_) rfl (by kernel_rfl) (by kernel_rfl) (by kernel_rfl) (fun _ _ _ h => h) ⟨by rfl, ?_⟩ (by assumption) ?_
  rotate_left
  · intro w hS; go_simp <;> with_reducible rfl
  simp only [Act.put, List.setIfInBounds_toArray, List.set_cons_zero, List.set_cons_succ]
  refine takeL 3 (v := ?_) rfl (by kernel_rfl) (by kernel_rfl) (by kernel_rfl) (fun _ _ _ h => h) ⟨by rfl, ?_⟩ (by assumption) ?_
  rotate_left
  · intro w hS; go_simp <;> with_reducible rfl
  simp only [Act.put, List.setIfInBounds_toArray, List.set_cons_zero, List.set_cons_succ]
  refine takeL 4 (v := ?_) rfl (by kernel_rfl) (by kernel_rfl) (by kernel_rfl) (fun _ _ _ h => h) ⟨by rfl, ?_⟩ (by assumption) ?_
  rotate_left
  · intro w hS; go_simp <;> with_reducible rfl
  simp only [Act.put, List.setIfInBounds_toArray, List.set_cons_zero, List.set_cons_succ]
  refine takeL 5 (v := ?_) rfl (by kernel_rfl) (by kernel_rfl) (by kernel_rfl) (fun _ _ _ h => h) ⟨by rfl, ?_⟩ (by assumption) ?_
  rotate_left
  · intro w hS; go_simp <;> with_reducible rfl
  simp only [Act.put, List.setIfInBounds_toArray, List.set_cons_zero, List.set_cons_succ]
  refine takeL 6 (v := ?_) rfl (by kernel_rfl) (by kernel_rfl) (by kernel_rfl) (fun _ _ _ h => h) ⟨by rfl, ?_⟩ (by assumption) ?_
  rotate_left
  · intro w hS; go_simp <;> with_reducible rfl
  simp only [Act.put, List.setIfInBounds_toArray, List.set_cons_zero, List.set_cons_succ]
  refine takeL 7 (v := ?_) rfl (by kernel_rfl) (by kernel_rfl) (by kernel_rfl) (fun _ _ _ h => h) ⟨by rfl, ?_⟩ (by assumption) ?_
  rotate_left
  · intro w hS; go_simp <;> with_reducible rfl
  simp only [Act.put, List.setIfInBounds_toArray, List.set_cons_zero, List.set_cons_succ]
  refine takeL 8 (v := ?_) rfl (by kernel_rfl) (by kernel_rfl) (by kernel_rfl) (fun _ _ _ h => h) ⟨by rfl, ?_⟩ (by assumption) ?_
  rotate_left
  · intro w hS; go_simp <;> with_reducible rfl
  simp only [Act.put, List.setIfInBounds_toArray, List.set_cons_zero, List.set_cons_succ]
  refine takeL 9 (v := ?_) rfl (by kernel_rfl) (by kernel_rfl) (by kernel_rfl) (fun _ _ _ h => h) ⟨by rfl, ?_⟩ (by assumption) ?_
  rotate_left
  · intro w hS; go_simp <;> with_reducible rfl
  simp only [Act.put, List.setIfInBounds_toArray, List.set_cons_zero, List.set_cons_succ]
  refine takeL 10 (v := ?_) rfl (by kernel_rfl) (by kernel_rfl) (by kernel_rfl) (fun _ _ _ h => h) ⟨by rfl, ?_⟩ (by assumption) ?_
  rotate_left
  · intro w hS; go_simp <;> with_reducible rfl
  simp only [Act.put, List.setIfInBounds_toArray, List.set_cons_zero, List.set_cons_succ]
  refine takeL 11 (v := ?_) rfl (by kernel_rfl) (by kernel_rfl) (by kernel_rfl) (fun _ _ _ h => h) ⟨by rfl, ?_⟩ (by assumption) ?_
  rotate_left
  · intro w hS; have fa := KA.at hS; have fb := K3.at hS; have fc := K6.at hS; have fd := K8.at hS; have f1 := fa 0; have f2 := fa 1; have f3 := fa 2; have f4 := fb 0; have f5 := fb 1; have f6 := fb 2; have f7 := fc 0; have f8 := fc 1; have f9 := fc 2; have g1 := fd 0; have g2 := fd 1; have g3 := fd 2; clear fa fb fc fd; go_simp <;> with_reducible rfl
  simp only [Act.put, List.setIfInBounds_toArray, List.set_cons_zero, List.set_cons_succ]
  refine takeL 12 (v := ?_) rfl (by kernel_rfl) (by kernel_rfl) (by kernel_rfl) (fun _ _ _ h => h) ⟨by rfl, ?_⟩ (by assumption) ?_
  rotate_left
  · intro w hS; go_simp <;> with_reducible rfl
  simp only [Act.put, List.setIfInBounds_toArray, List.set_cons_zero, List.set_cons_succ]
  refine takeL 13 (v := ?_) rfl (by kernel_rfl) (by kernel_rfl) (by kernel_rfl) (fun _ _ _ h => h) ⟨by rfl, ?_⟩ (by assumption) ?_
  rotate_left
  · intro w hS; have fa := KA.at hS; have fb := K3.at hS; have fc := K6.at hS; have fd := K8.at hS; have f1 := fa 0; have f2 := fa 1; have f3 := fa 2; have f4 := fb 0; have f5 := fb 1; have f6 := fb 2; have f7 := fc 0; have f8 := fc 1; have f9 := fc 2; have g1 := fd 0; have g2 := fd 1; have g3 := fd 2; clear fa fb fc fd; go_simp <;> with_reducible rfl
  simp only [Act.put, List.setIfInBounds_toArray, List.set_cons_zero, List.set_cons_succ]
  refine takeL 14 (v := ?_) rfl (by kernel_rfl) (by kernel_rfl) (by kernel_rfl) (fun _ _ _ h => h) ⟨by rfl, ?_⟩ (by assumption) ?_
  rotate_left
  · intro w hS; go_simp <;> with_reducible rfl
  simp only [Act.put, List.setIfInBounds_toArray, List.set_cons_zero, List.set_cons_succ]
  refine takeL 15 (v := ?_) rfl (by kernel_rfl) (by kernel_rfl) (by kernel_rfl) (fun _ _ _ h => h) ⟨by rfl, ?_⟩ (by assumption) ?_
  rotate_left
  · intro w hS; have fa := KA.at hS; have fb := K3.at hS; have fc := K6.at hS; have fd := K8.at hS; have f1 := fa 0; have f2 := fa 1; have f3 := fa 2; have f4 := fb 0; have f5 := fb 1; have f6 := fb 2; have f7 := fc 0; have f8 := fc 1; have f9 := fc 2; have g1 := fd 0; have g2 := fd 1; have g3 := fd 2; clear fa fb fc fd; go_simp <;> with_reducible rfl
  simp only [Act.put, List.setIfInBounds_toArray, List.set_cons_zero, List.set_cons_succ]
  refine takeL 16 (v := ?_) rfl (by kernel_rfl) (by kernel_rfl) (by kernel_rfl) (fun _ _ _ h => h) ⟨by rfl, ?_⟩ (by assumption) ?_
  rotate_left
  · intro w hS; go_simp <;> with_reducible rfl
  simp only [Act.put, List.setIfInBounds_toArray, List.set_cons_zero, List.set_cons_succ]
  refine takeL 17 (v := ?_) rfl (by kernel_rfl) (by kernel_rfl) (by kernel_rfl) (fun _ _ _ h => h) ⟨by rfl, ?_⟩ (by assumption) ?_
  rotate_left
  · intro w hS; have fa := KA.at hS; have fb := K3.at hS; have fc := K6.at hS; have fd := K8.at hS; have f1 := fa 0; have f2 := fa 1; have f3 := fa 2; have f4 := fb 0; have f5 := fb 1; have f6 := fb 2; have f7 := fc 0; have f8 := fc 1; have f9 := fc 2; have g1 := fd 0; have g2 := fd 1; have g3 := fd 2; clear fa fb fc fd; go_simp <;> with_reducible rfl
  simp only [Act.put, List.setIfInBounds_toArray, List.set_cons_zero, List.set_cons_succ]
  refine oneL 18 rfl (by kernel_rfl) (by rfl) (fun K hK => ?_)
  go_simp
  go_at_call 30
  (with_reducible refine (ref11_One r _ hr).mono ?_); rintro e wx1 ⟨vx1, rfl, hx1, bx1⟩
  rw [← EE.out] at hx1
  refine hK.out _ _ (hHeld.trans (bx1.mono hHeld.size)) (fun hHeld => ?_)
  clear hK K
  try simp only [Act.put, List.setIfInBounds_toArray, List.set_cons_zero, List.set_cons_succ]
  refine oneL 19 rfl (by kernel_rfl) (by rfl) (fun K hK => ?_)
  go_simp
  go_at_call 18
  (with_reducible refine (ref11_Is _ _ r r es 1 1 _ (h6.next hHeld) hr hr HE.out (by omega) (by omega) hx1).mono ?_); rintro e wx2 ⟨rfl, bx2⟩
  clear hx1 bx1
  refine hK.out _ _ (hHeld.trans (bx2.mono hHeld.size)) (fun hHeld => ?_)
  clear hK K
  try simp only [Act.put, List.setIfInBounds_toArray, List.set_cons_zero, List.set_cons_succ]
  refine takeL 20 (v := ?_) rfl (by kernel_rfl) (by kernel_rfl) (by kernel_rfl) (fun _ _ _ h => h) ⟨by rfl, ?_⟩ (by assumption) ?_
  rotate_left
  · intro w hS; go_simp <;> with_reducible rfl
  simp only [Act.put, List.setIfInBounds_toArray, List.set_cons_zero, List.set_cons_succ]
  refine takeL 21 (v := ?_) rfl (by kernel_rfl) (by kernel_rfl) (by kernel_rfl) (fun _ _ _ h => h) ⟨by rfl, ?_⟩ (by assumption) ?_
  rotate_left
  · intro w hS; go_simp <;> with_reducible rfl
  simp only [Act.put, List.setIfInBounds_toArray, List.set_cons_zero, List.set_cons_succ]
  refine takeL 22 (v := ?_) rfl (by kernel_rfl) (by kernel_rfl) (by kernel_rfl) (fun _ _ _ h => h) ⟨by rfl, ?_⟩ (by assumption) ?_
  rotate_left
  · intro w hS; have fa := KA.at hS; have fb := K3.at hS; have fc := K6.at hS; have fd := K8.at hS; have f1 := fa 0; have f2 := fa 1; have f3 := fa 2; have f4 := fb 0; have f5 := fb 1; have f6 := fb 2; have f7 := fc 0; have f8 := fc 1; have f9 := fc 2; have g1 := fd 0; have g2 := fd 1; have g3 := fd 2; clear fa fb fc fd; go_simp <;> with_reducible rfl
  simp only [Act.put, List.setIfInBounds_toArray, List.set_cons_zero, List.set_cons_succ]
  refine takeL 23 (v := ?_) rfl (by kernel_rfl) (by kernel_rfl) (by kernel_rfl) (fun _ _ _ h => h) ⟨by rfl, ?_⟩ (by assumption) ?_
  rotate_left
  · intro w hS; go_simp <;> with_reducible rfl
  simp only [Act.put, List.setIfInBounds_toArray, List.set_cons_zero, List.set_cons_succ]
  refine takeL 24 (v := ?_) rfl (by kernel_rfl) (by kernel_rfl) (by kernel_rfl) (fun _ _ _ h => h) ⟨by rfl, ?_⟩ (by assumption) ?_
  rotate_left
  · intro w hS; have fa := KA.at hS; have fb := K3.at hS; have fc := K6.at hS; have fd := K8.at hS; have f1 := fa 0; have f2 := fa 1; have f3 := fa 2; have f4 := fb 0; have f5 := fb 1; have f6 := fb 2; have f7 := fc 0; have f8 := fc 1; have f9 := fc 2; have g1 := fd 0; have g2 := fd 1; have g3 := fd 2; clear fa fb fc fd; go_simp <;> with_reducible rfl
  simp only [Act.put, List.setIfInBounds_toArray, List.set_cons_zero, List.set_cons_succ]
  refine takeL 25 (v := ?_) rfl (by kernel_rfl) (by kernel_rfl) (by kernel_rfl) (fun _ _ _ h => h) ⟨by rfl, ?_⟩ (by assumption) ?_
  rotate_left
  · intro w hS; go_simp <;> with_reducible rfl
  simp only [Act.put, List.setIfInBounds_toArray, List.set_cons_zero, List.set_cons_succ]
  refine takeL 26 (v := ?_) rfl (by kernel_rfl) (by kernel_rfl) (by kernel_rfl) (fun _ _ _ h => h) ⟨by rfl, ?_⟩ (by assumption) ?_
  rotate_left
  · intro w hS; have fa := KA.at hS; have fb := K3.at hS; have fc := K6.at hS; have fd := K8.at hS; have f1 := fa 0; have f2 := fa 1; have f3 := fa 2; have f4 := fb 0; have f5 := fb 1; have f6 := fb 2; have f7 := fc 0; have f8 := fc 1; have f9 := fc 2; have g1 := fd 0; have g2 := fd 1; have g3 := fd 2; clear fa fb fc fd; go_simp <;> with_reducible rfl
  simp only [Act.put, List.setIfInBounds_toArray, List.set_cons_zero, List.set_cons_succ]
  refine takeL 27 (v := ?_) rfl (by kernel_rfl) (by kernel_rfl) (by kernel_rfl) (fun _ _ _ h => h) ⟨by rfl, ?_⟩ (by assumption) ?_
  rotate_left
  · intro w hS; have fa := KA.at hS; have fb := K3.at hS; have fc := K6.at hS; have fd := K8.at hS; have f1 := fa 0; have f2 := fa 1; have f3 := fa 2; have f4 := fb 0; have f5 := fb 1; have f6 := fb 2; have f7 := fc 0; have f8 := fc 1; have f9 := fc 2; have g1 := fd 0; have g2 := fd 1; have g3 := fd 2; clear fa fb fc fd; go_simp <;> with_reducible rfl
  simp only [Act.put, List.setIfInBounds_toArray, List.set_cons_zero, List.set_cons_succ]
  refine takeL 28 (v := ?_) rfl (by kernel_rfl) (by kernel_rfl) (by kernel_rfl) (fun _ _ _ h => h) ⟨by rfl, ?_⟩ (by assumption) ?_
  rotate_left
  · intro w hS; have fa := KA.at hS; have fb := K3.at hS; have fc := K6.at hS; have fd := K8.at hS; have f1 := fa 0; have f2 := fa 1; have f3 := fa 2; have f4 := fb 0; have f5 := fb 1; have f6 := fb 2; have f7 := fc 0; have f8 := fc 1; have f9 := fc 2; have g1 := fd 0; have g2 := fd 1; have g3 := fd 2; clear fa fb fc fd; go_simp <;> with_reducible rfl
  simp only [Act.put, List.setIfInBounds_toArray, List.set_cons_zero, List.set_cons_succ]
  refine oneL 29 rfl (by kernel_rfl) (by rfl) (fun K hK => ?_)
  go_simp
  go_at_call 19
  (with_reducible refine (ref11_Mul _ _ r r c gs xs 10 3 _ (h8.mt.next hHeld) (hA.next hHeld) hr hr hc HG.out HX.out (by omega) (by omega)).mono ?_); rintro e wx3 ⟨vx3, rfl, hx3, bx3⟩
  replace hx3 : Zs wx3 vx3 (mulL r r c gs xs) (r * (10 + 3 + 1) + 1) := hx3; rw [HM.out] at hx3
  refine hK.out _ _ (hHeld.trans (bx3.mono hHeld.size)) (fun hHeld => ?_)
  clear hK K
  try simp only [Act.put, List.setIfInBounds_toArray, List.set_cons_zero, List.set_cons_succ]
  refine oneL 30 rfl (by kernel_rfl) (by rfl) (fun K hK => ?_)
  go_simp
  go_at_call 18
  (with_reducible refine (ref11_Is _ _ r c zs 10 (r * (10 + 3 + 1) + 1) _ (h3.next hHeld) hr hc HZ.out (by omega) (by omega) hx3).mono ?_); rintro e wx4 ⟨rfl, bx4⟩
  refine hK.out _ _ (hHeld.trans (bx4.mono hHeld.size)) (fun hHeld => ?_)
  clear hK K
  try simp only [Act.put, List.setIfInBounds_toArray, List.set_cons_zero, List.set_cons_succ]
  refine takeL 31 (v := ?_) rfl (by kernel_rfl) (by kernel_rfl) (by kernel_rfl) (fun _ _ _ h => h) ⟨by rfl, ?_⟩ (by assumption) ?_
  rotate_left
  · intro w hS; go_simp <;> with_reducible rfl
  simp only [Act.put, List.setIfInBounds_toArray, List.set_cons_zero, List.set_cons_succ]
  refine takeL 32 (v := ?_) rfl (by kernel_rfl) (by kernel_rfl) (by kernel_rfl) (fun _ _ _ h => h) ⟨by rfl, ?_⟩ (by assumption) ?_
  rotate_left
  · intro w hS; go_simp <;> with_reducible rfl
  simp only [Act.put, List.setIfInBounds_toArray, List.set_cons_zero, List.set_cons_succ]
  refine doneL (by kernel_rfl) ?_ _
  replace B0 := B0.trans (hHeld.mono B0.size)
  go_wp2
  go_ret
  exact ⟨rfl, B0⟩

theorem walk (a : Value) (R C : Int) (ps : List (Bool × List Nat)) (kd : Nat) (I K : Int) (sc : Bool) (uc : Value) (us : List Nat) (w : World) (mA : Mw w a R C ps) (hkd : kd < 256) (hu : Sl .u64 w uc us) (hwu : wf W64 us) :
    Calls Try.prog 6 #[a, .agg #[.int .u8 kd, .int .i64 I, .int .i64 K, .bool sc, uc]] w (LawOk w) := by
  by_cases hfew : Fx R C ps 6 3
  · by_cases hl : 3 < us.length
    · exact long a R C ps kd I K sc uc us w mA hu hfew hl
    · have hA := mA.mt (L := 3) hfew.2.2.all
      by_cases h1 : Fm R C (ps.map pv).length
      · obtain ⟨r, c, rfl, rfl, hr, hc, hx⟩ := h1.nat
        by_cases ht : There kd I K r
        · obtain ⟨i, hi⟩ := Int.eq_ofNat_of_zero_le ht.1.1
          have hir : i < r := by have := ht.1.2; omega
          obtain hk | hk | hk : kd % 3 = 0 ∨ kd % 3 = 1 ∨ kd % 3 = 2 := by omega
          · have hK := ht.2.1.resolve_left (by omega)
            obtain ⟨k, hk2⟩ := Int.eq_ofNat_of_zero_le hK.1
            exact there0 a r c i k ps kd I K sc uc us w mA hu hwu hkd hfew (by omega) _ rfl _ hA hr hc hx hk hir hi (fun _ => hk2) (by omega) ht
          · have hK := ht.2.1.resolve_left (by omega)
            obtain ⟨k, hk2⟩ := Int.eq_ofNat_of_zero_le hK.1
            exact there1 a r c i k ps kd I K sc uc us w mA hu hwu hkd hfew (by omega) _ rfl _ hA hr hc hx hk hir hi (fun _ => hk2) (by omega) ht
          · exact there2 a r c i 0 ps kd I K sc uc us w mA hu hwu hkd hfew (by omega) _ rfl _ hA hr hc hx hk hir hi (fun h => absurd hk h) ht
        · exact not_there a r c ps kd I K sc uc us w mA hu hwu hkd hfew (by omega) _ rfl _ hA hr hc hx ht
      · exact not_formed a R C ps kd I K sc uc us w mA hu hwu hkd hfew (by omega) _ rfl _ hA h1
  · exact not_few a R C ps kd I K sc uc us w mA hu hfew


set_option maxRecDepth 100000 in
theorem lifted (os : Os) (started : os.Started) (H : Type) (enc : TypeId × Value → H) :
    ReturnsInHanded {} Try.checked os 6 .any (Rows.matRowsSpec.pre6 enc Try.prog Try.f6 Rows.matRowsRow.domain false) (Rows.matRowsSpec.post enc Try.prog Try.f6 false true false false) := by
  refine returnsInHanded_of_change (C := Try.checked) own started (by kernel_rfl) Try.func6
    (ChangeSpec.witness6 (enc := enc) (C := Try.checked) false ⟨#[], #[.agg #[.int .i64 0, .int .i64 0, .slice none 0 0], .agg #[.int .u8 0, .int .i64 0, .int .i64 0, .bool false, .slice none 0 0]], []⟩ 8 (by kernel_rfl) (by kernel_rfl) (by kernel_rfl) (by kernel_rfl)) ?_
  intro W base args ds gs before hval0 hW hcnd _
  have hval : ∀ (j : Nat) t v, Try.f6.params[j]? = some t → args[j]? = some v → Value.okWide Try.prog W .any base t v := hval0
  have hW' := hW
  obtain ⟨p, q, hA0, hV, rfl, hfz, hnd⟩ := hW
  have hA : DataW.TrodAll enc Try.prog W 0 (fun _ => true) true Try.f6.params.toList args.toList ds p := hA0
  rw [Try.params6] at hA hval
  obtain ⟨v0, vs0, d0, ds0, p0, q0, hargs, rfl, rfl, h0, r0⟩ := trodAll_cons hA
  obtain ⟨v1, vs1, d1, ds1, p1, q1, rfl, rfl, rfl, h1, r1⟩ := trodAll_cons r0
  obtain ⟨rfl, rfl, rfl⟩ := trodAll_nil r1
  obtain rfl : args = #[v0, v1] := by cases args; simp_all
  obtain ⟨rfl, rfl⟩ := trodVars_none hV
  have k0 := h0
  have lt0 : ∀ x ∈ p0, x.block < W.heap.size := by obtain ⟨m, hm⟩ := k0; exact DataW.trod_lt m _ _ _ hm
  obtain ⟨R0, C0, ps0, m0, rb0, cb0⟩ := open_mat (hval 0 24 v0 rfl rfl) h0
  have k1 := h1
  have lt1 : ∀ x ∈ p1, x.block < W.heap.size := by obtain ⟨m, hm⟩ := k1; exact DataW.trod_lt m _ _ _ hm
  obtain ⟨kd1, I1, K1, s1, u1, us1, rfl, hk1, z1, f1⟩ := open_step (hval 1 46 v1 rfl rfl) h1
  clear hA0 hval0
  refine (walk v0 R0 C0 ps0 kd1 I1 K1 s1 u1 us1 W m0 hk1 z1 f1).mono fun e W' ⟨he, bel⟩ => ?_
  subst he
  exact ⟨_, rfl, _, _, _, [], _, [], hW', trodAll_mk1 (shut_bool Try.underlying4 _), (trodAll_cons_mk (Below.trod laidOut (by kernel_rfl) (of_decide_eq_true (by kernel_rfl)) k0 bel lt0) (trodAll_cons_mk (Below.trod laidOut (by kernel_rfl) (of_decide_eq_true (by kernel_rfl)) k1 bel lt1) trodAll_mk0)), rfl, bel.frame _, fun h => by cases h⟩

theorem over : Rows.matRowsRow.holds Try.pinned (OpenSpec.ofChange Rows.matRowsSpec) :=
  OpenClaim.holds_of_wide 6 Try.f6 rfl rfl rfl rfl rfl rfl rfl ⟨rfl, rfl, rfl, rfl, rfl⟩ rfl rfl rfl rfl rfl (by kernel_rfl) Try.func6 (by kernel_rfl)
    (of_decide_eq_true (by kernel_rfl)) (by unfold Func.isWrapper; first | (rw [if_pos (by decide +kernel)]; kernel_rfl) | (rw [if_neg (by decide +kernel)]; exact ⟨rfl, rfl⟩))
    (fun os started H enc _ => lifted os started H enc)

theorem proved : Rows.MatRowsSaid := over
#print axioms proved
end Go.Proofs.Ytpfonckdejjfnaa.matRows
