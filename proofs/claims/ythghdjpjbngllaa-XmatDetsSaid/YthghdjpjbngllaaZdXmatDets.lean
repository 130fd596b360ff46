/- XmatDets: for every number and matrix of polynomials the law returns true: the determinant is the one that the chapter says, or there is none. No condition. -/
import Derived.Test.YthghdjpjbngllaaRows
import Derived.Test.YthghdjpjbngllaaZdRxz
namespace Go.Proofs.Ythghdjpjbngllaa.xmatDets
open Go.ChangeShapes Go.WideShapes Go.ChangeAt Go.RowKit
open Go.ChangeMaps (open_string shut_string)

theorem own : ownKnob Try.prog.godebug = none := by kernel_rfl
theorem laidOut : laidOutB Try.prog = true := by kernel_rfl

set_option maxRecDepth 20000 in
set_option maxHeartbeats 4000000 in
theorem not_few (x0 : Nat) (v : Value) (R C : Int) (xs : List (List Nat)) (w : World) (mA : Xm w v R C xs) (hf : ¬ Fwx 3 4 R C xs) :
    Calls Try.prog 3 #[.int .u8 x0, v] w (LawOk w) := by
  obtain ⟨aA, cA, rfl⟩ := mA.agg
  obtain ⟨wb, ew, KA, B0, hsz⟩ := boxes1 w 24 [.int .i64 R, .int .i64 C, .slice aA xs.length cA]
  clear hsz
  replace mA := mA.next B0
  have HF := Lib.hid hf; clear hf
  go_enter Try.func3, Try.ntmps3
  go_upto_region 1 with (fail)
  rw [← ew]
  clear ew
  go_wp2_with fail
  refine (law23_awake _).mono ?_; rintro e w1 ⟨rfl, b1⟩
  replace mA := mA.next b1
  replace KA := KA.next b1
  replace B0 := B0.trans (b1.mono B0.size)
  clear b1
  have qKA0 := KA.cell 0
  have qKA1 := KA.cell 1
  have qKA2 := KA.cell 2
  go_wp2_with fail
  refine (rf23_Few _ R C 3 4 xs _ mA false ⟨fun h => absurd h (by decide), fun h => absurd h HF.out⟩).mono ?_; rintro e w2 ⟨rfl, b2⟩
  clear qKA0 qKA1 qKA2
  replace mA := mA.next b2
  replace KA := KA.next b2
  replace B0 := B0.trans (b2.mono B0.size)
  clear b2
  clear mA
  go_wp2_with fail
  refine (law23_awake _).mono ?_; rintro e w3 ⟨rfl, b3⟩
  replace KA := KA.next b3
  replace B0 := B0.trans (b3.mono B0.size)
  clear b3
  go_wp2
  go_ret
  exact ⟨rfl, B0⟩

set_option maxRecDepth 20000 in
set_option maxHeartbeats 4000000 in
theorem bad1 (x0 : Nat) (v : Value) (R C : Int) (xs : List (List Nat)) (w : World) (mA : Xm w v R C xs) (hf : Fwx 3 4 R C xs) (hs : ¬ Fd R C xs.length) :
    Calls Try.prog 3 #[.int .u8 x0, v] w (LawOk w) := by
  obtain ⟨p, ep⟩ : ∃ p, p = Ps (x0 % 12) := ⟨_, rfl⟩
  have hp : FP p := by rw [ep]; exact Ps_FP (by omega)
  have ht : Trial p := by rw [ep]; exact Ps_trial (by omega)
  have cOf : ∀ w : World, Calls Try.prog 17 #[.int .u8 x0] w fun e w' => e = .returned (.agg #[.int .u64 (p : Nat)]) ∧ Below w.heap.size w w' := fun w => by rw [ep]; exact law9_Of x0 w
  have cP : ∀ w : World, Calls Try.prog 18 #[.int .u8 x0] w fun e w' => e = .returned (.int .u64 (p : Nat)) ∧ w = w' := fun w => by rw [ep]; exact ref8_P x0 w
  have hp2 := hp.1
  have hp3 := hp.2
  have HP := Lib.hid hp; have HT := Lib.hid ht; have COF := Lib.hid cOf; have CP := Lib.hid cP
  clear hp ht cOf cP ep
  obtain ⟨aA, cA, rfl⟩ := mA.agg
  obtain ⟨wb, ew, KA, B0, hsz⟩ := boxes1 w 24 [.int .i64 R, .int .i64 C, .slice aA xs.length cA]
  clear hsz
  replace mA := mA.next B0
  have HF := Lib.hid hf; have HS := Lib.hid hs; clear hf hs
  have HS2 := Lib.hid (show ¬ (Fd R C xs.length ∧ R = C) from fun h => HS.out h.1)
  go_enter Try.func3, Try.ntmps3
  go_upto_region 1 with (fail)
  rw [← ew]
  clear ew
  go_wp2_with fail
  refine (law23_awake _).mono ?_; rintro e w1 ⟨rfl, b1⟩
  replace mA := mA.next b1
  replace KA := KA.next b1
  replace B0 := B0.trans (b1.mono B0.size)
  clear b1
  have qKA0 := KA.cell 0
  have qKA1 := KA.cell 1
  have qKA2 := KA.cell 2
  go_wp2_with fail
  refine (rf23_Few _ R C 3 4 xs _ mA true ⟨fun _ => HF.out, fun _ => rfl⟩).mono ?_; rintro e w2 ⟨rfl, b2⟩
  clear qKA0 qKA1 qKA2
  replace mA := mA.next b2
  replace KA := KA.next b2
  replace B0 := B0.trans (b2.mono B0.size)
  clear b2
  go_wp2_with fail
  refine (COF.out _).mono ?_; rintro e w3 ⟨rfl, b3⟩
  replace mA := mA.next b3
  replace KA := KA.next b3
  replace B0 := B0.trans (b3.mono B0.size)
  clear b3
  go_wp2_with fail
  refine (CP.out _).mono ?_; rintro e wx ⟨rfl, rfl⟩
  obtain ⟨w4, e4, KF, b4, hs4⟩ := boxes1 w3 29 [.int .u64 p]
  clear hs4
  replace mA := mA.next b4
  replace KA := KA.next b4
  replace B0 := B0.trans (b4.mono B0.size)
  clear b4
  go_upto_region 4 with (fail)
  rw [← e4]
  clear e4
  have qKF0 := KF.cell 0
  have qKA0 := KA.cell 0
  have qKA1 := KA.cell 1
  have qKA2 := KA.cell 2
  go_wp2_with fail
  refine (xm_Det_no p _ R C xs _ mA HS2.out).mono ?_; rintro e w5 ⟨rfl, b5⟩
  clear qKF0 qKA0 qKA1 qKA2
  replace mA := mA.next b5
  replace KA := KA.next b5
  replace KF := KF.next b5
  replace B0 := B0.trans (b5.mono B0.size)
  clear b5
  go_upto_region 5 with (fail)
  have qKA0 := KA.cell 0
  have qKA1 := KA.cell 1
  have qKA2 := KA.cell 2
  go_wp2_with fail
  refine (rf23_Formed _ R C xs _ mA false (decide_eq_false HS.out).symm).mono ?_; rintro e w6 ⟨rfl, b6⟩
  clear qKA0 qKA1 qKA2
  replace mA := mA.next b6
  replace KA := KA.next b6
  replace KF := KF.next b6
  replace B0 := B0.trans (b6.mono B0.size)
  clear b6
  go_wp2
  go_ret
  exact ⟨rfl, B0⟩

set_option maxRecDepth 20000 in
set_option maxHeartbeats 4000000 in
theorem bad2 (x0 : Nat) (v : Value) (R C : Int) (xs : List (List Nat)) (w : World) (mA : Xm w v R C xs) (hf : Fwx 3 4 R C xs) (hs : Fd R C xs.length) (hn : R ≠ C) :
    Calls Try.prog 3 #[.int .u8 x0, v] w (LawOk w) := by
  obtain ⟨p, ep⟩ : ∃ p, p = Ps (x0 % 12) := ⟨_, rfl⟩
  have hp : FP p := by rw [ep]; exact Ps_FP (by omega)
  have ht : Trial p := by rw [ep]; exact Ps_trial (by omega)
  have cOf : ∀ w : World, Calls Try.prog 17 #[.int .u8 x0] w fun e w' => e = .returned (.agg #[.int .u64 (p : Nat)]) ∧ Below w.heap.size w w' := fun w => by rw [ep]; exact law9_Of x0 w
  have cP : ∀ w : World, Calls Try.prog 18 #[.int .u8 x0] w fun e w' => e = .returned (.int .u64 (p : Nat)) ∧ w = w' := fun w => by rw [ep]; exact ref8_P x0 w
  have hp2 := hp.1
  have hp3 := hp.2
  have HP := Lib.hid hp; have HT := Lib.hid ht; have COF := Lib.hid cOf; have CP := Lib.hid cP
  clear hp ht cOf cP ep
  obtain ⟨aA, cA, rfl⟩ := mA.agg
  obtain ⟨wb, ew, KA, B0, hsz⟩ := boxes1 w 24 [.int .i64 R, .int .i64 C, .slice aA xs.length cA]
  clear hsz
  replace mA := mA.next B0
  have HF := Lib.hid hf; have HS := Lib.hid hs; clear hf hs
  have HS2 := Lib.hid (show ¬ (Fd R C xs.length ∧ R = C) from fun h => hn h.2)
  have hne : (R != C) = true := by simpa using hn
  clear hn
  go_enter Try.func3, Try.ntmps3
  go_upto_region 1 with (fail)
  rw [← ew]
  clear ew
  go_wp2_with fail
  refine (law23_awake _).mono ?_; rintro e w1 ⟨rfl, b1⟩
  replace mA := mA.next b1
  replace KA := KA.next b1
  replace B0 := B0.trans (b1.mono B0.size)
  clear b1
  have qKA0 := KA.cell 0
  have qKA1 := KA.cell 1
  have qKA2 := KA.cell 2
  go_wp2_with fail
  refine (rf23_Few _ R C 3 4 xs _ mA true ⟨fun _ => HF.out, fun _ => rfl⟩).mono ?_; rintro e w2 ⟨rfl, b2⟩
  clear qKA0 qKA1 qKA2
  replace mA := mA.next b2
  replace KA := KA.next b2
  replace B0 := B0.trans (b2.mono B0.size)
  clear b2
  go_wp2_with fail
  refine (COF.out _).mono ?_; rintro e w3 ⟨rfl, b3⟩
  replace mA := mA.next b3
  replace KA := KA.next b3
  replace B0 := B0.trans (b3.mono B0.size)
  clear b3
  go_wp2_with fail
  refine (CP.out _).mono ?_; rintro e wx ⟨rfl, rfl⟩
  obtain ⟨w4, e4, KF, b4, hs4⟩ := boxes1 w3 29 [.int .u64 p]
  clear hs4
  replace mA := mA.next b4
  replace KA := KA.next b4
  replace B0 := B0.trans (b4.mono B0.size)
  clear b4
  go_upto_region 4 with (fail)
  rw [← e4]
  clear e4
  have qKF0 := KF.cell 0
  have qKA0 := KA.cell 0
  have qKA1 := KA.cell 1
  have qKA2 := KA.cell 2
  go_wp2_with fail
  refine (xm_Det_no p _ R C xs _ mA HS2.out).mono ?_; rintro e w5 ⟨rfl, b5⟩
  clear qKF0 qKA0 qKA1 qKA2
  replace mA := mA.next b5
  replace KA := KA.next b5
  replace KF := KF.next b5
  replace B0 := B0.trans (b5.mono B0.size)
  clear b5
  go_upto_region 5 with (fail)
  have qKA0 := KA.cell 0
  have qKA1 := KA.cell 1
  have qKA2 := KA.cell 2
  go_wp2_with fail
  refine (rf23_Formed _ R C xs _ mA true (decide_eq_true HS.out).symm).mono ?_; rintro e w6 ⟨rfl, b6⟩
  clear qKA0 qKA1 qKA2
  replace mA := mA.next b6
  replace KA := KA.next b6
  replace KF := KF.next b6
  replace B0 := B0.trans (b6.mono B0.size)
  clear b6
  have qKA0 := KA.cell 0
  have qKA1 := KA.cell 1
  go_wp2
  go_ret
  exact ⟨rfl, B0⟩

set_option maxRecDepth 20000 in
set_option maxHeartbeats 4000000 in
theorem good (x0 : Nat) (n : Nat) (v : Value) (xs : List (List Nat)) (w : World) (mA : Xm w v n n xs) (hn : n ≤ 3) (hx : xs.length = n * n) (hf : Fwx 3 4 n n xs) :
    Calls Try.prog 3 #[.int .u8 x0, v] w (LawOk w) := by
  obtain ⟨p, ep⟩ : ∃ p, p = Ps (x0 % 12) := ⟨_, rfl⟩
  have hp : FP p := by rw [ep]; exact Ps_FP (by omega)
  have ht : Trial p := by rw [ep]; exact Ps_trial (by omega)
  have cOf : ∀ w : World, Calls Try.prog 17 #[.int .u8 x0] w fun e w' => e = .returned (.agg #[.int .u64 (p : Nat)]) ∧ Below w.heap.size w w' := fun w => by rw [ep]; exact law9_Of x0 w
  have cP : ∀ w : World, Calls Try.prog 18 #[.int .u8 x0] w fun e w' => e = .returned (.int .u64 (p : Nat)) ∧ w = w' := fun w => by rw [ep]; exact ref8_P x0 w
  have hp2 := hp.1
  have hp3 := hp.2
  have HP := Lib.hid hp; have HT := Lib.hid ht; have COF := Lib.hid cOf; have CP := Lib.hid cP
  clear hp ht cOf cP ep
  obtain ⟨aA, cA, rfl⟩ := mA.agg
  obtain ⟨wb, ew, KA, B0, hsz⟩ := boxes1 w 24 [.int .i64 n, .int .i64 n, .slice aA xs.length cA]
  clear hsz
  replace mA := mA.next B0
  have HF := Lib.hid hf; have HX := Lib.hid hx
  have hl : ∀ j, j < n * n → (xs.getD j []).length ≤ 4 := fun j hj => by have := hf.2.2.2 j (by omega); omega
  have HL := Lib.hid hl
  clear hf hx hl
  have HFd := Lib.hid (Fd.of (show n ≤ 64 by omega) (show n ≤ 64 by omega) HX.out)
  have hnn : ((n : Int) != (n : Int)) = false := by simp
  have hb1 : 4 * 2 ^ n ≤ 100 := by
    have : 2 ^ n ≤ 2 ^ 3 := Nat.pow_le_pow_right (by decide) hn
    omega
  go_enter Try.func3, Try.ntmps3
  go_upto_region 1 with (fail)
  rw [← ew]
  clear ew
  go_wp2_with fail
  refine (law23_awake _).mono ?_; rintro e w1 ⟨rfl, b1⟩
  replace mA := mA.next b1
  replace KA := KA.next b1
  replace B0 := B0.trans (b1.mono B0.size)
  clear b1
  have qKA0 := KA.cell 0
  have qKA1 := KA.cell 1
  have qKA2 := KA.cell 2
  go_wp2_with fail
  refine (rf23_Few _ n n 3 4 xs _ mA true ⟨fun _ => HF.out, fun _ => rfl⟩).mono ?_; rintro e w2 ⟨rfl, b2⟩
  clear qKA0 qKA1 qKA2
  replace mA := mA.next b2
  replace KA := KA.next b2
  replace B0 := B0.trans (b2.mono B0.size)
  clear b2
  go_wp2_with fail
  refine (COF.out _).mono ?_; rintro e w3 ⟨rfl, b3⟩
  replace mA := mA.next b3
  replace KA := KA.next b3
  replace B0 := B0.trans (b3.mono B0.size)
  clear b3
  go_wp2_with fail
  refine (CP.out _).mono ?_; rintro e wx ⟨rfl, rfl⟩
  obtain ⟨w4, e4, KF, b4, hs4⟩ := boxes1 w3 29 [.int .u64 p]
  clear hs4
  replace mA := mA.next b4
  replace KA := KA.next b4
  replace B0 := B0.trans (b4.mono B0.size)
  clear b4
  go_upto_region 4 with (fail)
  rw [← e4]
  clear e4
  have qKF0 := KF.cell 0
  have qKA0 := KA.cell 0
  have qKA1 := KA.cell 1
  have qKA2 := KA.cell 2
  go_wp2_with fail
  refine (xm_Det p n 4 _ xs _ HP.out HT.out mA (by omega) HX.out HL.out (by omega) (by omega)).mono ?_; rintro e w5 ⟨aD, cD, zs, rfl, oD, nD, vD, lD, b5⟩
  clear qKF0 qKA0 qKA1 qKA2
  replace mA := mA.next b5
  replace KA := KA.next b5
  replace KF := KF.next b5
  replace B0 := B0.trans (b5.mono B0.size)
  clear b5
  have ND := Lib.hid (show Nrm p zs ∧ pl p zs = dn n (aT p n xs) ∧ zs.length ≤ 100 from ⟨nD, vD, by omega⟩)
  have sD := oD.sl
  clear nD vD lD oD
  go_upto_region 5 with (fail)
  have qKA0 := KA.cell 0
  have qKA1 := KA.cell 1
  have qKA2 := KA.cell 2
  go_wp2_with fail
  refine (rf23_Formed _ n n xs _ mA true (decide_eq_true HFd.out).symm).mono ?_; rintro e w6 ⟨rfl, b6⟩
  clear qKA0 qKA1 qKA2
  replace mA := mA.next b6
  replace KA := KA.next b6
  replace KF := KF.next b6
  replace sD := sD.next b6
  replace B0 := B0.trans (b6.mono B0.size)
  clear b6
  have qKA0 := KA.cell 0
  have qKA1 := KA.cell 1
  go_upto_region 7 with (fail)
  have qKA2 := KA.cell 2
  go_wp2_with fail
  refine (rf23_Det p 4 _ n xs _ HP.out mA (by omega) HX.out (by omega) HL.out (by omega)).mono ?_; rintro e w7 ⟨r7, ys, rfl, o7, n7, v7, l7, b7⟩
  clear qKA0 qKA1 qKA2
  replace mA := mA.next b7
  replace KA := KA.next b7
  replace KF := KF.next b7
  replace sD := sD.next b7
  replace B0 := B0.trans (b7.mono B0.size)
  clear b7
  have NY := Lib.hid (show zs = ys ∧ ys.length ≤ 100 from ⟨pl_inj HP.out.pos ND.out.1 n7 (by rw [ND.out.2.1, v7]), by omega⟩)
  have sY := o7.sl
  clear n7 v7 l7 o7
  go_wp2_with fail
  refine (ref9_Same _ _ zs ys true _ sD sY (by have := ND.out.2.2; omega) (by have := NY.out.2; omega) (decide_eq_true NY.out.1).symm).mono ?_; rintro e w8 ⟨rfl, q8⟩
  have b8 := q8.below w7.heap.size; clear q8
  replace mA := mA.next b8
  replace KA := KA.next b8
  replace KF := KF.next b8
  replace sD := sD.next b8
  replace sY := sY.next b8
  replace B0 := B0.trans (b8.mono B0.size)
  clear b8
  go_wp2
  go_ret
  exact ⟨rfl, B0⟩

set_option maxHeartbeats 1000000 in
theorem walk (x0 : Nat) (v : Value) (R C : Int) (xs : List (List Nat)) (w : World) (mA : Xm w v R C xs) : Calls Try.prog 3 #[.int .u8 x0, v] w (LawOk w) := by
  by_cases hf : Fwx 3 4 R C xs
  · by_cases hs : Fd R C xs.length
    · by_cases hn : R = C
      · subst hn
        obtain ⟨r, c, e1, e2, h3, h4, h5⟩ := hs.nat
        subst e1
        have e3 : c = r := by omega
        subst e3
        exact good x0 c v xs w mA (by have := hf.1; omega) h5 hf
      · exact bad2 x0 v R C xs w mA hf hs hn
    · exact bad1 x0 v R C xs w mA hf hs
  · exact not_few x0 v R C xs w mA hf

set_option maxRecDepth 100000 in
theorem lifted (os : Os) (started : os.Started) (H : Type) (enc : TypeId × Value → H) :
    ReturnsInHanded {} Try.checked os 3 .any (Rows.xmatDetsSpec.pre6 enc Try.prog Try.f3 Rows.xmatDetsRow.domain false) (Rows.xmatDetsSpec.post enc Try.prog Try.f3 false true false false) := by
  refine returnsInHanded_of_change (C := Try.checked) own started (by kernel_rfl) Try.func3
    (ChangeSpec.witness6 (enc := enc) (C := Try.checked) false ⟨#[], #[.int .u8 0, .agg #[.int .i64 0, .int .i64 0, .slice none 0 0]], []⟩ 8 (by kernel_rfl) (by kernel_rfl) (by kernel_rfl) (by kernel_rfl)) ?_
  intro W base args ds gs before hval0 hW hcnd _
  have hval : ∀ (j : Nat) t v, Try.f3.params[j]? = some t → args[j]? = some v → Value.okWide Try.prog W .any base t v := hval0
  have hW' := hW
  obtain ⟨p, q, hA0, hV, rfl, hfz, hnd⟩ := hW
  have hA : DataW.TrodAll enc Try.prog W 0 (fun _ => true) true Try.f3.params.toList args.toList ds p := hA0
  rw [Try.params3] at hA hval
  obtain ⟨v0, vs0, d0, ds0, p0, q0, hargs, rfl, rfl, h0, r0⟩ := trodAll_cons hA
  obtain ⟨v1, vs1, d1, ds1, p1, q1, rfl, rfl, rfl, h1, r1⟩ := trodAll_cons r0
  obtain ⟨rfl, rfl, rfl⟩ := trodAll_nil r1
  obtain rfl : args = #[v0, v1] := by cases args; simp_all
  obtain ⟨rfl, rfl⟩ := trodVars_none hV
  have k0 := h0
  have lt0 : ∀ x ∈ p0, x.block < W.heap.size := by obtain ⟨m, hm⟩ := k0; exact DataW.trod_lt m _ _ _ hm
  obtain ⟨i0, rfl, rfl, rfl, wi0⟩ := open_int Try.underlying5 (hval 0 5 v0 rfl rfl) h0
  obtain ⟨x0, rfl⟩ := Int.eq_ofNat_of_zero_le (wf_u8_bounds wi0).1
  have k1 := h1
  have lt1 : ∀ x ∈ p1, x.block < W.heap.size := by obtain ⟨m, hm⟩ := k1; exact DataW.trod_lt m _ _ _ hm
  obtain ⟨R1, C1, xs1, m1, rb1, cb1⟩ := open_xm (hval 1 24 v1 rfl rfl) h1
  clear hA0 hval0
  refine (walk x0 v1 R1 C1 xs1 W  m1).mono fun e W' ⟨he, bel⟩ => ?_
  subst he
  exact ⟨_, rfl, _, _, _, [], _, [], hW', trodAll_mk1 (shut_bool Try.underlying4 _), (trodAll_cons_mk (Below.trod laidOut (by kernel_rfl) (of_decide_eq_true (by kernel_rfl)) k0 bel lt0) (trodAll_cons_mk (Below.trod laidOut (by kernel_rfl) (of_decide_eq_true (by kernel_rfl)) k1 bel lt1) trodAll_mk0)), rfl, bel.frame _, fun h => by cases h⟩

theorem over : Rows.xmatDetsRow.holds Try.pinned (OpenSpec.ofChange Rows.xmatDetsSpec) :=
  OpenClaim.holds_of_wide 3 Try.f3 rfl rfl rfl rfl rfl rfl rfl ⟨rfl, rfl, rfl, rfl, rfl⟩ rfl rfl rfl rfl rfl (by kernel_rfl) Try.func3 (by kernel_rfl)
    (of_decide_eq_true (by kernel_rfl)) (by unfold Func.isWrapper; first | (rw [if_pos (by decide +kernel)]; kernel_rfl) | (rw [if_neg (by decide +kernel)]; exact ⟨rfl, rfl⟩))
    (fun os started H enc _ => lifted os started H enc)

theorem proved : Rows.XmatDetsSaid := over
#print axioms proved
end Go.Proofs.Ythghdjpjbngllaa.xmatDets
