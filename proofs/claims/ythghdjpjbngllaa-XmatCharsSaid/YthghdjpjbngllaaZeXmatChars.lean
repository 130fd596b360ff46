/- XmatChars: for every number and matrix the law returns true: the determinant of x less the matrix is the characteristic polynomial; at each place stands what should. No condition. -/
import Derived.Test.YthghdjpjbngllaaRows
import Derived.Test.YthghdjpjbngllaaZeXplain
namespace Go.Proofs.Ythghdjpjbngllaa.xmatChars
open Go.ChangeShapes Go.WideShapes Go.ChangeAt Go.RowKit
open Go.ChangeMaps (open_string shut_string)

theorem own : ownKnob Try.prog.godebug = none := by kernel_rfl
theorem laidOut : laidOutB Try.prog = true := by kernel_rfl

section
variable {p n : Nat}
theorem dm1 {i k : Nat} (hk : k < n) : (i * n + k) / n = i := by rw [Nat.mul_comm, Nat.mul_add_div (by omega), Nat.div_eq_of_lt hk, Nat.add_zero]
theorem dm2 {i k : Nat} (hk : k < n) : (i * n + k) % n = k := by rw [Nat.mul_comm, Nat.mul_add_mod, Nat.mod_eq_of_lt hk]
/-- A place of x less a matrix. -/
def chL (p n : Nat) (xs : List Nat) (j : Nat) : List Nat := if j / n = j % n then [(-Zp.of p (xs.getD j 0)).val, 1] else [(-Zp.of p (xs.getD j 0)).val]
theorem chL_at {xs : List Nat} {i k : Nat} (hk : k < n) : chL p n xs (i * n + k) = if i = k then [(-Zp.of p (xs.getD (i * n + k) 0)).val, 1] else [(-Zp.of p (xs.getD (i * n + k) 0)).val] := by
  unfold chL; rw [dm1 hk, dm2 hk]
theorem chL_xh {xs : List Nat} {i k : Nat} (hi : i < n) (hk : k < n) : pl p (chL p n xs (i * n + k)) = xh (mx p n n xs).e i k := by
  have e1 : Zp.of p 1 = 1 := Zp.of_one p
  have ez : Zp.of p (-Zp.of p (xs.getD (i * n + k) 0)).val = -(mx p n n xs).e i k := by rw [Zp.of_val, mx_e _ hi hk]
  rw [chL_at hk]
  refine Pol.ext fun j => ?_
  unfold xh
  rw [Pol.c_sub, c_mon, pl_c]
  by_cases h : i = k
  · rw [if_pos h, if_pos h, c_mon]
    match j with
    | 0 => rw [if_neg (by decide), if_pos rfl, CR.sub_eq, CR.zero_add]; exact ez
    | 1 => rw [if_pos rfl, if_neg (by decide), CR.sub_zero]; exact e1
    | j + 2 => rw [if_neg (by omega), if_neg (by omega), CR.sub_zero]; rfl
  · rw [if_neg h, if_neg h, Pol.c_zero]
    match j with
    | 0 => rw [if_pos rfl, CR.sub_eq, CR.zero_add]; exact ez
    | j + 1 => rw [if_neg (by omega), CR.sub_zero]; rfl
theorem chL_x {xs : List Nat} {j : Nat} (h : j / n = j % n) : pl p (chL p n xs j) + pl p [xs.getD j 0] = pl p [0, 1] := by
  unfold chL
  rw [if_pos h]
  refine Pol.ext fun i => ?_
  rw [Pol.c_add, pl_c, pl_c, pl_c]
  match i with
  | 0 => show Zp.of p (-Zp.of p (xs.getD j 0)).val + Zp.of p (xs.getD j 0) = Zp.of p 0; rw [Zp.of_val, CR.neg_add]; rfl
  | 1 => show Zp.of p 1 + Zp.of p 0 = Zp.of p 1; rw [Zp.of_zero, CR.add_zero]
  | i + 2 => show Zp.of p 0 + Zp.of p 0 = Zp.of p 0; rw [Zp.of_zero, CR.add_zero]
end

set_option maxRecDepth 20000 in
set_option maxHeartbeats 4000000 in
theorem not_few (x0 : Nat) (v : Value) (R C : Int) (xs : List Nat) (w : World) (mA : Fm w v R C xs) (hf : ¬ (R ≤ 4 ∧ C ≤ 4 ∧ xs.length ≤ 100)) :
    Calls Try.prog 10 #[.int .u8 x0, v] w (LawOk w) := by
  obtain ⟨aA, cA, rfl⟩ := mA.agg
  obtain ⟨wb, ew, KA, B0, hsz⟩ := boxes1 w 42 [.int .i64 R, .int .i64 C, .slice aA xs.length cA]
  clear hsz
  replace mA := mA.next B0
  have HF := Lib.hid hf; clear hf
  go_enter Try.func10, Try.ntmps10
  go_upto_region 1 with (fail)
  rw [← ew]
  clear ew
  go_wp2_with fail
  refine (law23_awake _).mono ?_; rintro e w1 ⟨rfl, b1⟩
  replace mA := mA.next b1
  replace KA := KA.next b1
  replace B0 := B0.trans (b1.mono B0.size)
  clear b1
  have qKA0 := KA.cell 0
  have qKA1 := KA.cell 1
  have qKA2 := KA.cell 2
  go_wp2_with fail
  refine (rf21_Few _ R C 4 xs _ mA false (decide_eq_false HF.out).symm).mono ?_; rintro e w2 ⟨rfl, b2⟩
  clear qKA0 qKA1 qKA2
  replace mA := mA.next b2
  replace KA := KA.next b2
  replace B0 := B0.trans (b2.mono B0.size)
  clear b2
  clear mA
  go_wp2_with fail
  refine (law23_awake _).mono ?_; rintro e w3 ⟨rfl, b3⟩
  replace KA := KA.next b3
  replace B0 := B0.trans (b3.mono B0.size)
  clear b3
  go_wp2
  go_ret
  exact ⟨rfl, B0⟩

set_option maxRecDepth 20000 in
set_option maxHeartbeats 4000000 in
theorem bad (x0 : Nat) (v : Value) (R C : Int) (xs : List Nat) (w : World) (mA : Fm w v R C xs) (hf : R ≤ 4 ∧ C ≤ 4 ∧ xs.length ≤ 100) (hn : ¬ Fd R C xs.length) :
    Calls Try.prog 10 #[.int .u8 x0, v] w (LawOk w) := by
  obtain ⟨p, ep⟩ : ∃ p, p = Ps (x0 % 12) := ⟨_, rfl⟩
  have hp : FP p := by rw [ep]; exact Ps_FP (by omega)
  have ht : Trial p := by rw [ep]; exact Ps_trial (by omega)
  have cOf : ∀ w : World, Calls Try.prog 17 #[.int .u8 x0] w fun e w' => e = .returned (.agg #[.int .u64 (p : Nat)]) ∧ Below w.heap.size w w' := fun w => by rw [ep]; exact law9_Of x0 w
  have cP : ∀ w : World, Calls Try.prog 18 #[.int .u8 x0] w fun e w' => e = .returned (.int .u64 (p : Nat)) ∧ w = w' := fun w => by rw [ep]; exact ref8_P x0 w
  have hp2 := hp.1
  have hp3 := hp.2
  have HP := Lib.hid hp; have HT := Lib.hid ht; have COF := Lib.hid cOf; have CP := Lib.hid cP
  clear hp ht cOf cP ep
  obtain ⟨aA, cA, rfl⟩ := mA.agg
  obtain ⟨wb, ew, KA, B0, hsz⟩ := boxes1 w 42 [.int .i64 R, .int .i64 C, .slice aA xs.length cA]
  clear hsz
  replace mA := mA.next B0
  have HF := Lib.hid hf; have HN := Lib.hid hn; clear hf hn
  go_enter Try.func10, Try.ntmps10
  go_upto_region 1 with (fail)
  rw [← ew]
  clear ew
  go_wp2_with fail
  refine (law23_awake _).mono ?_; rintro e w1 ⟨rfl, b1⟩
  replace mA := mA.next b1
  replace KA := KA.next b1
  replace B0 := B0.trans (b1.mono B0.size)
  clear b1
  have qKA0 := KA.cell 0
  have qKA1 := KA.cell 1
  have qKA2 := KA.cell 2
  go_wp2_with fail
  refine (rf21_Few _ R C 4 xs _ mA true (decide_eq_true HF.out).symm).mono ?_; rintro e w2 ⟨rfl, b2⟩
  clear qKA0 qKA1 qKA2
  replace mA := mA.next b2
  replace KA := KA.next b2
  replace B0 := B0.trans (b2.mono B0.size)
  clear b2
  go_wp2_with fail
  refine (COF.out _).mono ?_; rintro e w3 ⟨rfl, b3⟩
  replace mA := mA.next b3
  replace KA := KA.next b3
  replace B0 := B0.trans (b3.mono B0.size)
  clear b3
  go_wp2_with fail
  refine (CP.out _).mono ?_; rintro e wx ⟨rfl, rfl⟩
  obtain ⟨w4, e4, KF, b4, hs4⟩ := boxes1 w3 29 [.int .u64 p]
  clear hs4
  replace mA := mA.next b4
  replace KA := KA.next b4
  replace B0 := B0.trans (b4.mono B0.size)
  clear b4
  go_upto_region 4 with (fail)
  rw [← e4]
  clear e4
  have qKF0 := KF.cell 0
  have qKA0 := KA.cell 0
  have qKA1 := KA.cell 1
  have qKA2 := KA.cell 2
  go_wp2_with fail
  refine (xm_Char_bad p _ R C xs _ mA (fun h => HN.out h.1)).mono ?_; rintro e w5 ⟨rfl, b5⟩
  clear qKF0 qKA0 qKA1 qKA2
  replace mA := mA.next b5
  replace KA := KA.next b5
  replace KF := KF.next b5
  replace B0 := B0.trans (b5.mono B0.size)
  clear b5
  obtain ⟨w6, e6, KM, b6, hs6⟩ := boxes1 w5 24 [.int .i64 0, .int .i64 0, .slice none 0 0]
  clear hs6
  replace mA := mA.next b6
  replace KA := KA.next b6
  replace KF := KF.next b6
  replace B0 := B0.trans (b6.mono B0.size)
  clear b6
  go_upto_region 5 with (fail)
  rw [← e6]
  clear e6
  have qKF0 := KF.cell 0
  have qKA0 := KA.cell 0
  have qKA1 := KA.cell 1
  have qKA2 := KA.cell 2
  go_wp2_with fail
  refine (xm_From_bad p _ R C xs _ mA HN.out).mono ?_; rintro e w7 ⟨rfl, b7⟩
  clear qKF0 qKA0 qKA1 qKA2
  replace mA := mA.next b7
  replace KA := KA.next b7
  replace KF := KF.next b7
  replace KM := KM.next b7
  replace B0 := B0.trans (b7.mono B0.size)
  clear b7
  obtain ⟨w8, e8, KC, b8, hs8⟩ := boxes1 w7 24 [.int .i64 0, .int .i64 0, .slice none 0 0]
  clear hs8
  replace mA := mA.next b8
  replace KA := KA.next b8
  replace KF := KF.next b8
  replace KM := KM.next b8
  replace B0 := B0.trans (b8.mono B0.size)
  clear b8
  go_upto_region 6 with (fail)
  rw [← e8]
  clear e8
  have qKA0 := KA.cell 0
  have qKA1 := KA.cell 1
  have qKA2 := KA.cell 2
  go_wp2_with fail
  refine (rf21_Formed _ R C xs _ mA false (decide_eq_false HN.out).symm).mono ?_; rintro e w9 ⟨rfl, b9⟩
  clear qKA0 qKA1 qKA2
  replace mA := mA.next b9
  replace KA := KA.next b9
  replace KF := KF.next b9
  replace KM := KM.next b9
  replace KC := KC.next b9
  replace B0 := B0.trans (b9.mono B0.size)
  clear b9
  have qKM0 := KM.cell 0
  have qKM1 := KM.cell 1
  have qKM2 := KM.cell 2
  go_wp2_with fail
  refine (rf23_None none 0 _).mono ?_; rintro e w10 ⟨rfl, b10⟩
  clear qKM0 qKM1 qKM2
  replace mA := mA.next b10
  replace KA := KA.next b10
  replace KF := KF.next b10
  replace KM := KM.next b10
  replace KC := KC.next b10
  replace B0 := B0.trans (b10.mono B0.size)
  clear b10
  have qKC0 := KC.cell 0
  have qKC1 := KC.cell 1
  have qKC2 := KC.cell 2
  go_wp2_with fail
  refine (rf23_None none 0 _).mono ?_; rintro e w11 ⟨rfl, b11⟩
  clear qKC0 qKC1 qKC2
  replace mA := mA.next b11
  replace KA := KA.next b11
  replace KF := KF.next b11
  replace KM := KM.next b11
  replace KC := KC.next b11
  replace B0 := B0.trans (b11.mono B0.size)
  clear b11
  go_wp2
  go_ret
  exact ⟨rfl, B0⟩

set_option maxRecDepth 20000 in
set_option maxHeartbeats 8000000 in
theorem notSq (x0 : Nat) (r c : Nat) (v : Value) (xs : List Nat) (w : World) (mA : Fm w v r c xs) (hf : (r : Int) ≤ 4 ∧ (c : Int) ≤ 4 ∧ xs.length ≤ 100) (hx : xs.length = r * c) (hq : r ≠ c) :
    Calls Try.prog 10 #[.int .u8 x0, v] w (LawOk w) := by
  obtain ⟨p, ep⟩ : ∃ p, p = Ps (x0 % 12) := ⟨_, rfl⟩
  have hp : FP p := by rw [ep]; exact Ps_FP (by omega)
  have ht : Trial p := by rw [ep]; exact Ps_trial (by omega)
  have cOf : ∀ w : World, Calls Try.prog 17 #[.int .u8 x0] w fun e w' => e = .returned (.agg #[.int .u64 (p : Nat)]) ∧ Below w.heap.size w w' := fun w => by rw [ep]; exact law9_Of x0 w
  have cP : ∀ w : World, Calls Try.prog 18 #[.int .u8 x0] w fun e w' => e = .returned (.int .u64 (p : Nat)) ∧ w = w' := fun w => by rw [ep]; exact ref8_P x0 w
  have hp2 := hp.1
  have hp3 := hp.2
  have HP := Lib.hid hp; have HT := Lib.hid ht; have COF := Lib.hid cOf; have CP := Lib.hid cP
  clear hp ht cOf cP ep
  obtain ⟨aA, cA, rfl⟩ := mA.agg
  obtain ⟨wb, ew, KA, B0, hsz⟩ := boxes1 w 42 [.int .i64 r, .int .i64 c, .slice aA xs.length cA]
  clear hsz
  replace mA := mA.next B0
  have hr : r ≤ 4 := by omega
  have hc : c ≤ 4 := by omega
  have hrc : r * c ≤ 4 * 4 := Nat.mul_le_mul hr hc
  have HF := Lib.hid hf; have HX := Lib.hid hx
  have HFd := Lib.hid (Fd.of (show r ≤ 64 by omega) (show c ≤ 64 by omega) hx)
  have hl1 : (((r * c : Nat) : Int) != (xs.length : Int)) = false := by rw [hx]; simp
  have hl2 : (((r : Int) * (c : Int)) != (xs.length : Int)) = false := by rw [hx, Int.natCast_mul]; simp
  have hrr : ((r : Int) != (r : Int)) = false := by simp
  have hcc : ((c : Int) != (c : Int)) = false := by simp
  have hp01 := Lib.hid (show Nrm p [0, 1] from ⟨wf_cons (by omega) (wf_cons (by omega) (wf_nil _)), rfl⟩)
  clear hf hx
  have hne : ((r : Int) != (c : Int)) = true := by simp; omega
  have NSQ := Lib.hid (show ¬ (Fd r c xs.length ∧ (r : Int) = c) from fun h => hq (by have := h.2; omega))
  clear hq
  go_enter Try.func10, Try.ntmps10
  go_upto_region 1 with (fail)
  rw [← ew]
  clear ew
  go_wp2_with fail
  refine (law23_awake _).mono ?_; rintro e w1 ⟨rfl, b1⟩
  replace mA := mA.next b1
  replace KA := KA.next b1
  replace B0 := B0.trans (b1.mono B0.size)
  clear b1
  have qKA0 := KA.cell 0
  have qKA1 := KA.cell 1
  have qKA2 := KA.cell 2
  go_wp2_with fail
  refine (rf21_Few _ r c 4 xs _ mA true (decide_eq_true HF.out).symm).mono ?_; rintro e w2 ⟨rfl, b2⟩
  clear qKA0 qKA1 qKA2
  replace mA := mA.next b2
  replace KA := KA.next b2
  replace B0 := B0.trans (b2.mono B0.size)
  clear b2
  go_wp2_with fail
  refine (COF.out _).mono ?_; rintro e w3 ⟨rfl, b3⟩
  replace mA := mA.next b3
  replace KA := KA.next b3
  replace B0 := B0.trans (b3.mono B0.size)
  clear b3
  go_wp2_with fail
  refine (CP.out _).mono ?_; rintro e wx ⟨rfl, rfl⟩
  obtain ⟨w4, e4, KF, b4, hs4⟩ := boxes1 w3 29 [.int .u64 p]
  clear hs4
  replace mA := mA.next b4
  replace KA := KA.next b4
  replace B0 := B0.trans (b4.mono B0.size)
  clear b4
  go_upto_region 4 with (fail)
  rw [← e4]
  clear e4
  have qKF0 := KF.cell 0
  have qKA0 := KA.cell 0
  have qKA1 := KA.cell 1
  have qKA2 := KA.cell 2
  go_wp2_with fail
  refine (xm_Char_bad p _ r c xs _ mA NSQ.out).mono ?_; rintro e w5 ⟨rfl, b5⟩
  clear qKF0 qKA0 qKA1 qKA2
  replace mA := mA.next b5
  replace KA := KA.next b5
  replace KF := KF.next b5
  replace B0 := B0.trans (b5.mono B0.size)
  clear b5
  obtain ⟨w6, e6, KM, b6, hs6⟩ := boxes1 w5 24 [.int .i64 0, .int .i64 0, .slice none 0 0]
  clear hs6
  replace mA := mA.next b6
  replace KA := KA.next b6
  replace KF := KF.next b6
  replace B0 := B0.trans (b6.mono B0.size)
  clear b6
  go_upto_region 5 with (fail)
  rw [← e6]
  clear e6
  have qKF0 := KF.cell 0
  have qKA0 := KA.cell 0
  have qKA1 := KA.cell 1
  have qKA2 := KA.cell 2
  go_wp2_with fail
  refine (xm_From p 1 _ r c xs _ HP.out mA (by omega) (by omega) HX.out (by omega) (by omega) (fun j => pl p [xs.getD j 0]) (fun _ _ _ _ => rfl)).mono ?_; rintro e w7 ⟨a7, k7, us7, rfl, o7, b7⟩
  clear qKF0 qKA0 qKA1 qKA2
  replace mA := mA.next b7
  replace KA := KA.next b7
  replace KF := KF.next b7
  replace KM := KM.next b7
  replace B0 := B0.trans (b7.mono B0.size)
  clear b7
  obtain ⟨zsC, zlC, nsC, hzC⟩ := o7.ns HP.out
  have mC : Xm w7 (.agg #[.int .i64 r, .int .i64 c, .slice a7 (r * c) k7]) r c zsC := ⟨_, rfl, nsC⟩
  have ZLC := Lib.hid zlC; have ZC := Lib.hid hzC
  clear zlC nsC hzC o7
  obtain ⟨w8, e8, KC, b8, hs8⟩ := boxes1 w7 24 [.int .i64 r, .int .i64 c, .slice a7 (r * c) k7]
  clear hs8
  replace mA := mA.next b8
  replace KA := KA.next b8
  replace KF := KF.next b8
  replace KM := KM.next b8
  replace mC := mC.next b8
  replace B0 := B0.trans (b8.mono B0.size)
  clear b8
  go_upto_region 6 with (fail)
  rw [← e8]
  clear e8
  have qKA0 := KA.cell 0
  have qKA1 := KA.cell 1
  have qKA2 := KA.cell 2
  go_wp2_with fail
  refine (rf21_Formed _ r c xs _ mA true (decide_eq_true HFd.out).symm).mono ?_; rintro e w9 ⟨rfl, b9⟩
  clear qKA0 qKA1 qKA2
  replace mA := mA.next b9
  replace KA := KA.next b9
  replace KF := KF.next b9
  replace KM := KM.next b9
  replace mC := mC.next b9
  replace KC := KC.next b9
  replace B0 := B0.trans (b9.mono B0.size)
  clear b9
  go_upto_region 9 with (fail)
  obtain ⟨ao, bo, off, ca, U, eX, -, hao, hat⟩ := mC.open
  obtain ⟨aA', bA, oA, cA', eA, -, zA⟩ := mA.open
  simp only [Value.agg.injEq, Array.mk.injEq, List.cons.injEq, true_and, and_true, Value.slice.injEq] at eX eA
  obtain ⟨rfl, hzl, rfl⟩ := eX
  obtain ⟨rfl, rfl⟩ := eA
  rw [ZLC.out] at hao hat hzl
  clear hzl
  have HAO := Lib.hid hao; have HAT := Lib.hid hat; have HZA := Lib.hid zA
  clear hao hat zA
  have qKC0 := KC.cell 0
  have qKC1 := KC.cell 1
  have qKC2 := KC.cell 2
  clear qKC0 qKC1 qKC2
  have qKC2 := KC.cell 2
  go_wp2
  go_loopw [11] (fun jv wr => ∃ j : Nat, j ≤ r * c ∧ jv = .int .i64 j ∧ Below w9.heap.size w9 wr) (fun jv _ => r * c - (intOf jv).toNat)
  case atStart => exact ⟨0, by omega, rfl, Below.refl _ _⟩
  case round =>
    obtain ⟨j, hj, rfl, BT⟩ := hrel
    clear qKC2
    replace mA := mA.next BT
    replace KA := KA.next BT
    replace KF := KF.next BT
    replace KM := KM.next BT
    replace mC := mC.next BT
    replace KC := KC.next BT
    have c2 := KC.cell 2
    by_cases hjn : j < r * c
    · obtain ⟨rfl, hbl⟩ := HAO.out (by omega)
      obtain ⟨q0, s0, -⟩ := HAT.out j hjn
      have hjx : j < xs.length := by rw [HX.out]; exact hjn
      have zA := HZA.out
      obtain rfl := zA.ao (by intro h; rw [h] at hjx; simp at hjx)
      have q0' := zA.cell _ hjx
      have hbA : bA < w9.heap.size := zA.lt (by intro h; rw [h] at hjx; simp at hjx)
      have q1 := (BT.cell (p := ⟨bo, off + j, none⟩) hbl).trans q0
      have q2 := (BT.cell (p := ⟨bA, oA + j, none⟩) hbA).trans q0'
      have s1 := s0.next BT
      have hz := ZC.out j hjn
      obtain ⟨x, ex⟩ : ∃ x, x = xs.getD j 0 := ⟨_, rfl⟩
      rw [← ex] at q2 hz
      obtain ⟨zc, ezc⟩ : ∃ zc, zc = zsC.getD j [] := ⟨_, rfl⟩
      rw [← ezc] at hz s1
      have HZ := Lib.hid hz
      clear hz ex ezc q0 q0' s0 zA
      go_upto_region 11 with (fail)
      clear c2
      have bd := Drawn.below (w' := wr.drew) ⟨1, rfl⟩ wr.heap.size
      have l1 : bo < wr.drew.heap.size := World.block_lt_of_cell? wr _ q1
      have l2 : bA < wr.drew.heap.size := World.block_lt_of_cell? wr _ q2
      have q3 : wr.drew.cell? ⟨bo, off + j, none⟩ = some (U j) := q1
      have q4 : wr.drew.cell? ⟨bA, oA + j, none⟩ = some (.int .u64 x) := q2
      replace KC := KC.next bd; replace KA := KA.next bd; replace s1 := s1.next bd
      replace BT := BT.trans (bd.mono BT.size)
      clear bd q1 q2
      refine startL (S := (fun w' => Below (wr.drew).heap.size (wr.drew) w')) (by kernel_rfl) (Below.refl _ _) (fun hHeld => ?_)
      refine takeL 0 (v := ?_) rfl (by kernel_rfl) (by kernel_rfl) (by kernel_rfl) (fun _ _ _ h => h) ⟨by rfl, ?_⟩ (by assumption) ?_
      rotate_left
      · intro w hS; go_simp <;> with_reducible rfl
      simp only [Act.put, List.setIfInBounds_toArray, List.set_cons_zero, List.set_cons_succ]
      refine takeL 1 (v := ?_) rfl (by kernel_rfl) (by kernel_rfl) (by kernel_rfl) (fun _ _ _ h => h) ⟨by rfl, ?_⟩ (by assumption) ?_
      rotate_left
      · intro w hS; have fa := KA.at hS; have f1 := fa 2; clear fa; have fb := KC.at hS; have f2 := fb 2; clear fb; have f3 := (hS.cell (p := ⟨bo, off + j, none⟩) l1).trans q3; have f4 := (hS.cell (p := ⟨bA, oA + j, none⟩) l2).trans q4; go_simp <;> with_reducible rfl
      simp only [Act.put, List.setIfInBounds_toArray, List.set_cons_zero, List.set_cons_succ]
      refine takeL 2 (v := ?_) rfl (by kernel_rfl) (by kernel_rfl) (by kernel_rfl) (fun _ _ _ h => h) ⟨by rfl, ?_⟩ (by assumption) ?_
      rotate_left
      · intro w hS; go_simp <;> with_reducible rfl
      simp only [Act.put, List.setIfInBounds_toArray, List.set_cons_zero, List.set_cons_succ]
      refine takeL 3 (v := ?_) rfl (by kernel_rfl) (by kernel_rfl) (by kernel_rfl) (fun _ _ _ h => h) ⟨by rfl, ?_⟩ (by assumption) ?_
      rotate_left
      · intro w hS; go_simp <;> with_reducible rfl
      simp only [Act.put, List.setIfInBounds_toArray, List.set_cons_zero, List.set_cons_succ]
      refine takeL 4 (v := ?_) rfl (by kernel_rfl) (by kernel_rfl) (by kernel_rfl) (fun _ _ _ h => h) ⟨by rfl, ?_⟩ (by assumption) ?_
      rotate_left
      · intro w hS; have fa := KA.at hS; have f1 := fa 2; clear fa; have fb := KC.at hS; have f2 := fb 2; clear fb; have f3 := (hS.cell (p := ⟨bo, off + j, none⟩) l1).trans q3; have f4 := (hS.cell (p := ⟨bA, oA + j, none⟩) l2).trans q4; go_simp <;> with_reducible rfl
      simp only [Act.put, List.setIfInBounds_toArray, List.set_cons_zero, List.set_cons_succ]
      refine takeL 5 (v := ?_) rfl (by kernel_rfl) (by kernel_rfl) (by kernel_rfl) (fun _ _ _ h => h) ⟨by rfl, ?_⟩ (by assumption) ?_
      rotate_left
      · intro w hS; go_simp <;> with_reducible rfl
      simp only [Act.put, List.setIfInBounds_toArray, List.set_cons_zero, List.set_cons_succ]
      refine takeL 6 (v := ?_) rfl (by kernel_rfl) (by kernel_rfl) (by kernel_rfl) (fun _ _ _ h => h) ⟨by rfl, ?_⟩ (by assumption) ?_
      rotate_left
      · intro w hS; have fa := KA.at hS; have f1 := fa 2; clear fa; have fb := KC.at hS; have f2 := fb 2; clear fb; have f3 := (hS.cell (p := ⟨bo, off + j, none⟩) l1).trans q3; have f4 := (hS.cell (p := ⟨bA, oA + j, none⟩) l2).trans q4; go_simp <;> with_reducible rfl
      simp only [Act.put, List.setIfInBounds_toArray, List.set_cons_zero, List.set_cons_succ]
      refine takeL 7 (v := ?_) rfl (by kernel_rfl) (by kernel_rfl) (by kernel_rfl) (fun _ _ _ h => h) ⟨by rfl, ?_⟩ (by assumption) ?_
      rotate_left
      · intro w hS; go_simp <;> with_reducible rfl
      simp only [Act.put, List.setIfInBounds_toArray, List.set_cons_zero, List.set_cons_succ]
      refine takeL 8 (v := ?_) rfl (by kernel_rfl) (by kernel_rfl) (by kernel_rfl) (fun _ _ _ h => h) ⟨by rfl, ?_⟩ (by assumption) ?_
      rotate_left
      · intro w hS; go_simp <;> with_reducible rfl
      simp only [Act.put, List.setIfInBounds_toArray, List.set_cons_zero, List.set_cons_succ]
      refine takeL 9 (v := ?_) rfl (by kernel_rfl) (by kernel_rfl) (by kernel_rfl) (fun _ _ _ h => h) ⟨by rfl, ?_⟩ (by assumption) ?_
      rotate_left
      · intro w hS; have fa := KA.at hS; have f1 := fa 2; clear fa; have fb := KC.at hS; have f2 := fb 2; clear fb; have f3 := (hS.cell (p := ⟨bo, off + j, none⟩) l1).trans q3; have f4 := (hS.cell (p := ⟨bA, oA + j, none⟩) l2).trans q4; go_simp <;> with_reducible rfl
      simp only [Act.put, List.setIfInBounds_toArray, List.set_cons_zero, List.set_cons_succ]
      refine takeL 11 (v := ?_) rfl (by kernel_rfl) (by kernel_rfl) (by kernel_rfl) (fun _ _ _ h => h) ⟨by rfl, ?_⟩ (by assumption) ?_
      rotate_left
      · intro w hS; go_simp <;> with_reducible rfl
      simp only [Act.put, List.setIfInBounds_toArray, List.set_cons_zero, List.set_cons_succ]
      refine oneL 10 rfl (by kernel_rfl) (by rfl) (fun K hK => ?_)
      go_simp
      have tL : Sl .u64 ((wr.alloc (.cells #[.int .u64 x] 27)).drew) (.slice (some ⟨wr.heap.size, 0, none⟩) 1 1) [x] := (own_lit1 wr x).sl.drew
      have bL : Below (wr.drew).heap.size (wr.drew) ((wr.alloc (.cells #[.int .u64 x] 27)).drew) := (Below.refl (wr.drew).heap.size (wr.drew)).alloc (Nat.le_refl _) (.cells #[.int .u64 x] 27)
      generalize (wr.alloc (.cells #[.int .u64 x] 27)).drew = wl at *
      refine hK.out _ _ (hHeld.trans (bL.mono hHeld.size)) (fun hHeld => ?_)
      clear hK K
      try simp only [Act.put, List.setIfInBounds_toArray, List.set_cons_zero, List.set_cons_succ]
      refine oneL 12 rfl (by kernel_rfl) (by rfl) (fun K hK => ?_)
      go_simp
      go_at_call 60
      (with_reducible refine (ref9_Norm p _ [x] _ HP.out tL (by simp)).mono ?_); rintro e y2 ⟨r2, z2, rfl, o2, n2, v2, l2, c2⟩
      have t2 := o2.sl; clear o2
      refine hK.out _ _ (hHeld.trans (c2.mono hHeld.size)) (fun hHeld => ?_)
      clear hK K
      try simp only [Act.put, List.setIfInBounds_toArray, List.set_cons_zero, List.set_cons_succ]
      refine oneL 13 rfl (by kernel_rfl) (by rfl) (fun K hK => ?_)
      go_simp
      go_at_call 21
      (with_reducible refine (ref9_Same (U j) r2 zc z2 true _ (s1.next hHeld) t2 (by have := HZ.out.2.2; omega) (by simp at l2; omega) (decide_eq_true (pl_inj HP.out.pos HZ.out.1 n2 (by rw [HZ.out.2.1, v2]))).symm).mono ?_); rintro e y3 ⟨rfl, d3⟩; have c3 := d3.below y2.heap.size; clear d3
      refine hK.out _ _ (hHeld.trans (c3.mono hHeld.size)) (fun hHeld => ?_)
      clear hK K
      try simp only [Act.put, List.setIfInBounds_toArray, List.set_cons_zero, List.set_cons_succ]
      refine takeL 14 (v := ?_) rfl (by kernel_rfl) (by kernel_rfl) (by kernel_rfl) (fun _ _ _ h => h) ⟨by rfl, ?_⟩ (by assumption) ?_
      rotate_left
      · intro w hS; go_simp <;> with_reducible rfl
      simp only [Act.put, List.setIfInBounds_toArray, List.set_cons_zero, List.set_cons_succ]
      refine doneL (by kernel_rfl) ?_ _
      replace BT := BT.trans (hHeld.mono BT.size)
      clear hHeld KC KA s1 q3 q4 c2 c3 t2 v2 n2 l2 bL tL
      go_wp2
      go_roundw
      case rel => exact ⟨j + 1, by omega, by go_num, BT⟩
      case measure => simp [intOf] <;> omega
    · obtain rfl : j = r * c := by omega
      replace B0 := B0.trans (BT.mono B0.size)
      clear BT hj hjn
      have qKC0 := KC.cell 0
      have qKC1 := KC.cell 1
      have qKA0 := KA.cell 0
      have qKA1 := KA.cell 1
      have qKA2 := KA.cell 2
      have qKM0 := KM.cell 0
      have qKM1 := KM.cell 1
      have qKM2 := KM.cell 2
      go_wp2_with fail
      refine (rf23_None none 0 _).mono ?_; rintro e w60 ⟨rfl, b60⟩
      clear qKC0 qKC1 qKA0 qKA1 qKA2 qKM0 qKM1 qKM2
      replace mA := mA.next b60
      replace KA := KA.next b60
      replace KF := KF.next b60
      replace KM := KM.next b60
      replace mC := mC.next b60
      replace KC := KC.next b60
      replace B0 := B0.trans (b60.mono B0.size)
      clear b60
      go_wp2
      go_ret
      exact ⟨rfl, B0⟩

set_option maxRecDepth 20000 in
set_option maxHeartbeats 8000000 in
theorem good (x0 : Nat) (n : Nat) (v : Value) (xs : List Nat) (w : World) (mA : Fm w v n n xs) (hf : (n : Int) ≤ 4 ∧ (n : Int) ≤ 4 ∧ xs.length ≤ 100) (hx : xs.length = n * n) :
    Calls Try.prog 10 #[.int .u8 x0, v] w (LawOk w) := by
  obtain ⟨p, ep⟩ : ∃ p, p = Ps (x0 % 12) := ⟨_, rfl⟩
  have hp : FP p := by rw [ep]; exact Ps_FP (by omega)
  have ht : Trial p := by rw [ep]; exact Ps_trial (by omega)
  have cOf : ∀ w : World, Calls Try.prog 17 #[.int .u8 x0] w fun e w' => e = .returned (.agg #[.int .u64 (p : Nat)]) ∧ Below w.heap.size w w' := fun w => by rw [ep]; exact law9_Of x0 w
  have cP : ∀ w : World, Calls Try.prog 18 #[.int .u8 x0] w fun e w' => e = .returned (.int .u64 (p : Nat)) ∧ w = w' := fun w => by rw [ep]; exact ref8_P x0 w
  have hp2 := hp.1
  have hp3 := hp.2
  have HP := Lib.hid hp; have HT := Lib.hid ht; have COF := Lib.hid cOf; have CP := Lib.hid cP
  clear hp ht cOf cP ep
  obtain ⟨aA, cA, rfl⟩ := mA.agg
  obtain ⟨wb, ew, KA, B0, hsz⟩ := boxes1 w 42 [.int .i64 n, .int .i64 n, .slice aA xs.length cA]
  clear hsz
  replace mA := mA.next B0
  have hr : n ≤ 4 := by omega
  have hc : n ≤ 4 := by omega
  have hrc : n * n ≤ 4 * 4 := Nat.mul_le_mul hr hc
  have HF := Lib.hid hf; have HX := Lib.hid hx
  have HFd := Lib.hid (Fd.of (show n ≤ 64 by omega) (show n ≤ 64 by omega) hx)
  have hl1 : (((n * n : Nat) : Int) != (xs.length : Int)) = false := by rw [hx]; simp
  have hl2 : (((n : Int) * (n : Int)) != (xs.length : Int)) = false := by rw [hx, Int.natCast_mul]; simp
  have hrr : ((n : Int) != (n : Int)) = false := by simp
  have hcc : ((n : Int) != (n : Int)) = false := by simp
  have hp01 := Lib.hid (show Nrm p [0, 1] from ⟨wf_cons (by omega) (wf_cons (by omega) (wf_nil _)), rfl⟩)
  clear hf hx
  have hb1 : 2 * 2 ^ n ≤ 100 := by
    have : 2 ^ n ≤ 2 ^ 4 := Nat.pow_le_pow_right (by decide) hr
    omega
  go_enter Try.func10, Try.ntmps10
  go_upto_region 1 with (fail)
  rw [← ew]
  clear ew
  go_wp2_with fail
  refine (law23_awake _).mono ?_; rintro e w1 ⟨rfl, b1⟩
  replace mA := mA.next b1
  replace KA := KA.next b1
  replace B0 := B0.trans (b1.mono B0.size)
  clear b1
  have qKA0 := KA.cell 0
  have qKA1 := KA.cell 1
  have qKA2 := KA.cell 2
  go_wp2_with fail
  refine (rf21_Few _ n n 4 xs _ mA true (decide_eq_true HF.out).symm).mono ?_; rintro e w2 ⟨rfl, b2⟩
  clear qKA0 qKA1 qKA2
  replace mA := mA.next b2
  replace KA := KA.next b2
  replace B0 := B0.trans (b2.mono B0.size)
  clear b2
  go_wp2_with fail
  refine (COF.out _).mono ?_; rintro e w3 ⟨rfl, b3⟩
  replace mA := mA.next b3
  replace KA := KA.next b3
  replace B0 := B0.trans (b3.mono B0.size)
  clear b3
  go_wp2_with fail
  refine (CP.out _).mono ?_; rintro e wx ⟨rfl, rfl⟩
  obtain ⟨w4, e4, KF, b4, hs4⟩ := boxes1 w3 29 [.int .u64 p]
  clear hs4
  replace mA := mA.next b4
  replace KA := KA.next b4
  replace B0 := B0.trans (b4.mono B0.size)
  clear b4
  go_upto_region 4 with (fail)
  rw [← e4]
  clear e4
  have qKF0 := KF.cell 0
  have qKA0 := KA.cell 0
  have qKA1 := KA.cell 1
  have qKA2 := KA.cell 2
  go_wp2_with fail
  refine (xm_Char p 2 _ n xs _ HP.out mA (by omega) HX.out (by omega) (by omega) (fun j => pl p (chL p n xs j)) (fun i k _ hk => by rw [chL_at hk])).mono ?_; rintro e w5 ⟨a5, k5, us5, rfl, o5, b5⟩
  clear qKF0 qKA0 qKA1 qKA2
  replace mA := mA.next b5
  replace KA := KA.next b5
  replace KF := KF.next b5
  replace B0 := B0.trans (b5.mono B0.size)
  clear b5
  obtain ⟨zsM, zlM, nsM, hzM⟩ := o5.ns HP.out
  have mM : Xm w5 (.agg #[.int .i64 n, .int .i64 n, .slice a5 (n * n) k5]) n n zsM := ⟨_, rfl, nsM⟩
  have ZLM := Lib.hid zlM; have ZM := Lib.hid hzM
  clear zlM nsM hzM o5
  obtain ⟨w6, e6, KM, b6, hs6⟩ := boxes1 w5 24 [.int .i64 n, .int .i64 n, .slice a5 (n * n) k5]
  clear hs6
  replace mA := mA.next b6
  replace KA := KA.next b6
  replace KF := KF.next b6
  replace mM := mM.next b6
  replace B0 := B0.trans (b6.mono B0.size)
  clear b6
  go_upto_region 5 with (fail)
  rw [← e6]
  clear e6
  have qKF0 := KF.cell 0
  have qKA0 := KA.cell 0
  have qKA1 := KA.cell 1
  have qKA2 := KA.cell 2
  go_wp2_with fail
  refine (xm_From p 1 _ n n xs _ HP.out mA (by omega) (by omega) HX.out (by omega) (by omega) (fun j => pl p [xs.getD j 0]) (fun _ _ _ _ => rfl)).mono ?_; rintro e w7 ⟨a7, k7, us7, rfl, o7, b7⟩
  clear qKF0 qKA0 qKA1 qKA2
  replace mA := mA.next b7
  replace KA := KA.next b7
  replace KF := KF.next b7
  replace mM := mM.next b7
  replace KM := KM.next b7
  replace B0 := B0.trans (b7.mono B0.size)
  clear b7
  obtain ⟨zsC, zlC, nsC, hzC⟩ := o7.ns HP.out
  have mC : Xm w7 (.agg #[.int .i64 n, .int .i64 n, .slice a7 (n * n) k7]) n n zsC := ⟨_, rfl, nsC⟩
  have ZLC := Lib.hid zlC; have ZC := Lib.hid hzC
  clear zlC nsC hzC o7
  obtain ⟨w8, e8, KC, b8, hs8⟩ := boxes1 w7 24 [.int .i64 n, .int .i64 n, .slice a7 (n * n) k7]
  clear hs8
  replace mA := mA.next b8
  replace KA := KA.next b8
  replace KF := KF.next b8
  replace mM := mM.next b8
  replace KM := KM.next b8
  replace mC := mC.next b8
  replace B0 := B0.trans (b8.mono B0.size)
  clear b8
  go_upto_region 6 with (fail)
  rw [← e8]
  clear e8
  have qKA0 := KA.cell 0
  have qKA1 := KA.cell 1
  have qKA2 := KA.cell 2
  go_wp2_with fail
  refine (rf21_Formed _ n n xs _ mA true (decide_eq_true HFd.out).symm).mono ?_; rintro e w9 ⟨rfl, b9⟩
  clear qKA0 qKA1 qKA2
  replace mA := mA.next b9
  replace KA := KA.next b9
  replace KF := KF.next b9
  replace mM := mM.next b9
  replace KM := KM.next b9
  replace mC := mC.next b9
  replace KC := KC.next b9
  replace B0 := B0.trans (b9.mono B0.size)
  clear b9
  go_upto_region 9 with (fail)
  obtain ⟨ao, bo, off, ca, U, eX, -, hao, hat⟩ := mC.open
  obtain ⟨aA', bA, oA, cA', eA, -, zA⟩ := mA.open
  simp only [Value.agg.injEq, Array.mk.injEq, List.cons.injEq, true_and, and_true, Value.slice.injEq] at eX eA
  obtain ⟨rfl, hzl, rfl⟩ := eX
  obtain ⟨rfl, rfl⟩ := eA
  rw [ZLC.out] at hao hat hzl
  clear hzl
  have HAO := Lib.hid hao; have HAT := Lib.hid hat; have HZA := Lib.hid zA
  clear hao hat zA
  have qKC0 := KC.cell 0
  have qKC1 := KC.cell 1
  have qKC2 := KC.cell 2
  clear qKC0 qKC1 qKC2
  have qKC2 := KC.cell 2
  go_wp2
  go_loopw [11] (fun jv wr => ∃ j : Nat, j ≤ n * n ∧ jv = .int .i64 j ∧ Below w9.heap.size w9 wr) (fun jv _ => n * n - (intOf jv).toNat)
  case atStart => exact ⟨0, by omega, rfl, Below.refl _ _⟩
  case round =>
    obtain ⟨j, hj, rfl, BT⟩ := hrel
    clear qKC2
    replace mA := mA.next BT
    replace KA := KA.next BT
    replace KF := KF.next BT
    replace mM := mM.next BT
    replace KM := KM.next BT
    replace mC := mC.next BT
    replace KC := KC.next BT
    have c2 := KC.cell 2
    by_cases hjn : j < n * n
    · obtain ⟨rfl, hbl⟩ := HAO.out (by omega)
      obtain ⟨q0, s0, -⟩ := HAT.out j hjn
      have hjx : j < xs.length := by rw [HX.out]; exact hjn
      have zA := HZA.out
      obtain rfl := zA.ao (by intro h; rw [h] at hjx; simp at hjx)
      have q0' := zA.cell _ hjx
      have hbA : bA < w9.heap.size := zA.lt (by intro h; rw [h] at hjx; simp at hjx)
      have q1 := (BT.cell (p := ⟨bo, off + j, none⟩) hbl).trans q0
      have q2 := (BT.cell (p := ⟨bA, oA + j, none⟩) hbA).trans q0'
      have s1 := s0.next BT
      have hz := ZC.out j hjn
      obtain ⟨x, ex⟩ : ∃ x, x = xs.getD j 0 := ⟨_, rfl⟩
      rw [← ex] at q2 hz
      obtain ⟨zc, ezc⟩ : ∃ zc, zc = zsC.getD j [] := ⟨_, rfl⟩
      rw [← ezc] at hz s1
      have HZ := Lib.hid hz
      clear hz ex ezc q0 q0' s0 zA
      go_upto_region 11 with (fail)
      clear c2
      have bd := Drawn.below (w' := wr.drew) ⟨1, rfl⟩ wr.heap.size
      have l1 : bo < wr.drew.heap.size := World.block_lt_of_cell? wr _ q1
      have l2 : bA < wr.drew.heap.size := World.block_lt_of_cell? wr _ q2
      have q3 : wr.drew.cell? ⟨bo, off + j, none⟩ = some (U j) := q1
      have q4 : wr.drew.cell? ⟨bA, oA + j, none⟩ = some (.int .u64 x) := q2
      replace KC := KC.next bd; replace KA := KA.next bd; replace s1 := s1.next bd
      replace BT := BT.trans (bd.mono BT.size)
      clear bd q1 q2
      refine startL (S := (fun w' => Below (wr.drew).heap.size (wr.drew) w')) (by kernel_rfl) (Below.refl _ _) (fun hHeld => ?_)
      refine takeL 0 (v := ?_) rfl (by kernel_rfl) (by kernel_rfl) (by kernel_rfl) (fun _ _ _ h => h) ⟨by rfl, ?_⟩ (by assumption) ?_
      rotate_left
      · intro w hS; go_simp <;> with_reducible rfl
      simp only [Act.put, List.setIfInBounds_toArray, List.set_cons_zero, List.set_cons_succ]
      refine takeL 1 (v := ?_) rfl (by kernel_rfl) (by kernel_rfl) (by kernel_rfl) (fun _ _ _ h => h) ⟨by rfl, ?_⟩ (by assumption) ?_
      rotate_left
      · intro w hS; have fa := KA.at hS; have f1 := fa 2; clear fa; have fb := KC.at hS; have f2 := fb 2; clear fb; have f3 := (hS.cell (p := ⟨bo, off + j, none⟩) l1).trans q3; have f4 := (hS.cell (p := ⟨bA, oA + j, none⟩) l2).trans q4; go_simp <;> with_reducible rfl
      simp only [Act.put, List.setIfInBounds_toArray, List.set_cons_zero, List.set_cons_succ]
      refine takeL 2 (v := ?_) rfl (by kernel_rfl) (by kernel_rfl) (by kernel_rfl) (fun _ _ _ h => h) ⟨by rfl, ?_⟩ (by assumption) ?_
      rotate_left
      · intro w hS; go_simp <;> with_reducible rfl
      simp only [Act.put, List.setIfInBounds_toArray, List.set_cons_zero, List.set_cons_succ]
      refine takeL 3 (v := ?_) rfl (by kernel_rfl) (by kernel_rfl) (by kernel_rfl) (fun _ _ _ h => h) ⟨by rfl, ?_⟩ (by assumption) ?_
      rotate_left
      · intro w hS; go_simp <;> with_reducible rfl
      simp only [Act.put, List.setIfInBounds_toArray, List.set_cons_zero, List.set_cons_succ]
      refine takeL 4 (v := ?_) rfl (by kernel_rfl) (by kernel_rfl) (by kernel_rfl) (fun _ _ _ h => h) ⟨by rfl, ?_⟩ (by assumption) ?_
      rotate_left
      · intro w hS; have fa := KA.at hS; have f1 := fa 2; clear fa; have fb := KC.at hS; have f2 := fb 2; clear fb; have f3 := (hS.cell (p := ⟨bo, off + j, none⟩) l1).trans q3; have f4 := (hS.cell (p := ⟨bA, oA + j, none⟩) l2).trans q4; go_simp <;> with_reducible rfl
      simp only [Act.put, List.setIfInBounds_toArray, List.set_cons_zero, List.set_cons_succ]
      refine takeL 5 (v := ?_) rfl (by kernel_rfl) (by kernel_rfl) (by kernel_rfl) (fun _ _ _ h => h) ⟨by rfl, ?_⟩ (by assumption) ?_
      rotate_left
      · intro w hS; go_simp <;> with_reducible rfl
      simp only [Act.put, List.setIfInBounds_toArray, List.set_cons_zero, List.set_cons_succ]
      refine takeL 6 (v := ?_) rfl (by kernel_rfl) (by kernel_rfl) (by kernel_rfl) (fun _ _ _ h => h) ⟨by rfl, ?_⟩ (by assumption) ?_
      rotate_left
      · intro w hS; have fa := KA.at hS; have f1 := fa 2; clear fa; have fb := KC.at hS; have f2 := fb 2; clear fb; have f3 := (hS.cell (p := ⟨bo, off + j, none⟩) l1).trans q3; have f4 := (hS.cell (p := ⟨bA, oA + j, none⟩) l2).trans q4; go_simp <;> with_reducible rfl
      simp only [Act.put, List.setIfInBounds_toArray, List.set_cons_zero, List.set_cons_succ]
      refine takeL 7 (v := ?_) rfl (by kernel_rfl) (by kernel_rfl) (by kernel_rfl) (fun _ _ _ h => h) ⟨by rfl, ?_⟩ (by assumption) ?_
      rotate_left
      · intro w hS; go_simp <;> with_reducible rfl
      simp only [Act.put, List.setIfInBounds_toArray, List.set_cons_zero, List.set_cons_succ]
      refine takeL 8 (v := ?_) rfl (by kernel_rfl) (by kernel_rfl) (by kernel_rfl) (fun _ _ _ h => h) ⟨by rfl, ?_⟩ (by assumption) ?_
      rotate_left
      · intro w hS; go_simp <;> with_reducible rfl
      simp only [Act.put, List.setIfInBounds_toArray, List.set_cons_zero, List.set_cons_succ]
      refine takeL 9 (v := ?_) rfl (by kernel_rfl) (by kernel_rfl) (by kernel_rfl) (fun _ _ _ h => h) ⟨by rfl, ?_⟩ (by assumption) ?_
      rotate_left
      · intro w hS; have fa := KA.at hS; have f1 := fa 2; clear fa; have fb := KC.at hS; have f2 := fb 2; clear fb; have f3 := (hS.cell (p := ⟨bo, off + j, none⟩) l1).trans q3; have f4 := (hS.cell (p := ⟨bA, oA + j, none⟩) l2).trans q4; go_simp <;> with_reducible rfl
      simp only [Act.put, List.setIfInBounds_toArray, List.set_cons_zero, List.set_cons_succ]
      refine takeL 11 (v := ?_) rfl (by kernel_rfl) (by kernel_rfl) (by kernel_rfl) (fun _ _ _ h => h) ⟨by rfl, ?_⟩ (by assumption) ?_
      rotate_left
      · intro w hS; go_simp <;> with_reducible rfl
      simp only [Act.put, List.setIfInBounds_toArray, List.set_cons_zero, List.set_cons_succ]
      refine oneL 10 rfl (by kernel_rfl) (by rfl) (fun K hK => ?_)
      go_simp
      have tL : Sl .u64 ((wr.alloc (.cells #[.int .u64 x] 27)).drew) (.slice (some ⟨wr.heap.size, 0, none⟩) 1 1) [x] := (own_lit1 wr x).sl.drew
      have bL : Below (wr.drew).heap.size (wr.drew) ((wr.alloc (.cells #[.int .u64 x] 27)).drew) := (Below.refl (wr.drew).heap.size (wr.drew)).alloc (Nat.le_refl _) (.cells #[.int .u64 x] 27)
      generalize (wr.alloc (.cells #[.int .u64 x] 27)).drew = wl at *
      refine hK.out _ _ (hHeld.trans (bL.mono hHeld.size)) (fun hHeld => ?_)
      clear hK K
      try simp only [Act.put, List.setIfInBounds_toArray, List.set_cons_zero, List.set_cons_succ]
      refine oneL 12 rfl (by kernel_rfl) (by rfl) (fun K hK => ?_)
      go_simp
      go_at_call 60
      (with_reducible refine (ref9_Norm p _ [x] _ HP.out tL (by simp)).mono ?_); rintro e y2 ⟨r2, z2, rfl, o2, n2, v2, l2, c2⟩
      have t2 := o2.sl; clear o2
      refine hK.out _ _ (hHeld.trans (c2.mono hHeld.size)) (fun hHeld => ?_)
      clear hK K
      try simp only [Act.put, List.setIfInBounds_toArray, List.set_cons_zero, List.set_cons_succ]
      refine oneL 13 rfl (by kernel_rfl) (by rfl) (fun K hK => ?_)
      go_simp
      go_at_call 21
      (with_reducible refine (ref9_Same (U j) r2 zc z2 true _ (s1.next hHeld) t2 (by have := HZ.out.2.2; omega) (by simp at l2; omega) (decide_eq_true (pl_inj HP.out.pos HZ.out.1 n2 (by rw [HZ.out.2.1, v2]))).symm).mono ?_); rintro e y3 ⟨rfl, d3⟩; have c3 := d3.below y2.heap.size; clear d3
      refine hK.out _ _ (hHeld.trans (c3.mono hHeld.size)) (fun hHeld => ?_)
      clear hK K
      try simp only [Act.put, List.setIfInBounds_toArray, List.set_cons_zero, List.set_cons_succ]
      refine takeL 14 (v := ?_) rfl (by kernel_rfl) (by kernel_rfl) (by kernel_rfl) (fun _ _ _ h => h) ⟨by rfl, ?_⟩ (by assumption) ?_
      rotate_left
      · intro w hS; go_simp <;> with_reducible rfl
      simp only [Act.put, List.setIfInBounds_toArray, List.set_cons_zero, List.set_cons_succ]
      refine doneL (by kernel_rfl) ?_ _
      replace BT := BT.trans (hHeld.mono BT.size)
      clear hHeld KC KA s1 q3 q4 c2 c3 t2 v2 n2 l2 bL tL
      go_wp2
      go_roundw
      case rel => exact ⟨j + 1, by omega, by go_num, BT⟩
      case measure => simp [intOf] <;> omega
    · obtain rfl : j = n * n := by omega
      replace B0 := B0.trans (BT.mono B0.size)
      clear BT hj hjn
      have qKC0 := KC.cell 0
      have qKC1 := KC.cell 1
      have qKA0 := KA.cell 0
      have qKA1 := KA.cell 1
      have qKA2 := KA.cell 2
      go_upto_region 17 with (fail)
      clear qKC0 qKC1 qKA0 qKA1 qKA2
      clear c2
      have hlM : ∀ j, j < n * n → (zsM.getD j []).length ≤ 2 := fun j hj => (ZM.out j hj).2.2
      have HLM := Lib.hid hlM; clear hlM
      have qKF0 := KF.cell 0
      have qKM0 := KM.cell 0
      have qKM1 := KM.cell 1
      have qKM2 := KM.cell 2
      go_wp2_with fail
      refine (xm_Det p n 2 _ zsM _ HP.out HT.out mM (by omega) ZLM.out HLM.out (by omega) (by omega)).mono ?_; rintro e w60 ⟨a60, c60, zd, rfl, o60, n60, v60, l60, b60⟩
      clear qKF0 qKM0 qKM1 qKM2
      replace mA := mA.next b60
      replace KA := KA.next b60
      replace KF := KF.next b60
      replace mM := mM.next b60
      replace KM := KM.next b60
      replace mC := mC.next b60
      replace KC := KC.next b60
      replace B0 := B0.trans (b60.mono B0.size)
      clear b60
      have ND := Lib.hid (show Nrm p zd ∧ pl p zd = chi (mx p n n xs) ∧ zd.length ≤ 100 from ⟨n60, by
        rw [v60, chi_xh]
        exact dn_congr n fun i k hi hk => by
          show pl p (zsM.getD (i * n + k) []) = _
          rw [(ZM.out _ (at_lt rfl hi hk)).2.1]; exact chL_xh hi hk, by omega⟩)
      have sd := o60.sl
      clear n60 v60 l60 o60
      go_upto_region 18 with (fail)
      have qKF0 := KF.cell 0
      have qKA0 := KA.cell 0
      have qKA1 := KA.cell 1
      have qKA2 := KA.cell 2
      go_wp2_with fail
      refine (hs_Char p _ n xs _ HP.out HT.out mA (by omega) HX.out).mono ?_; rintro e w61 ⟨a61, c61, zq, rfl, o61, n61, v61, l61, b61⟩
      clear qKF0 qKA0 qKA1 qKA2
      replace mA := mA.next b61
      replace KA := KA.next b61
      replace KF := KF.next b61
      replace mM := mM.next b61
      replace KM := KM.next b61
      replace mC := mC.next b61
      replace KC := KC.next b61
      replace sd := sd.next b61
      replace B0 := B0.trans (b61.mono B0.size)
      clear b61
      have NQ := Lib.hid (show zd = zq ∧ zq.length ≤ 100 from ⟨pl_inj HP.out.pos ND.out.1 n61 (by rw [ND.out.2.1, v61]), by omega⟩)
      have sq := o61.sl
      clear n61 v61 l61 o61
      go_upto_region 19 with (fail)
      have qKF0 := KF.cell 0
      have qKM0 := KM.cell 0
      have qKM1 := KM.cell 1
      have qKM2 := KM.cell 2
      have qKC0 := KC.cell 0
      have qKC1 := KC.cell 1
      have qKC2 := KC.cell 2
      go_wp2_with fail
      refine (xm_Add p 2 _ _ n n zsM zsC _ HP.out mM mC (by omega) (by omega) ZLM.out ZLC.out (by omega) HLM.out (fun j hj => by have := (ZC.out j hj).2.2; omega) (fun j => pl p (zsM.getD j []) + pl p (zsC.getD j [])) (fun _ _ _ _ => rfl)).mono ?_; rintro e w62 ⟨a62, k62, us62, rfl, o62, b62⟩
      clear qKF0 qKM0 qKM1 qKM2 qKC0 qKC1 qKC2
      replace mA := mA.next b62
      replace KA := KA.next b62
      replace KF := KF.next b62
      replace mM := mM.next b62
      replace KM := KM.next b62
      replace mC := mC.next b62
      replace KC := KC.next b62
      replace sd := sd.next b62
      replace sq := sq.next b62
      replace B0 := B0.trans (b62.mono B0.size)
      clear b62
      obtain ⟨zsS, zlS, nsS, hzS⟩ := o62.ns HP.out
      have mS : Xm w62 (.agg #[.int .i64 n, .int .i64 n, .slice a62 (n * n) k62]) n n zsS := ⟨_, rfl, nsS⟩
      have ZLS := Lib.hid zlS; have ZS := Lib.hid hzS
      clear zlS nsS hzS o62
      obtain ⟨w63, e63, KS, b63, hs63⟩ := boxes1 w62 24 [.int .i64 n, .int .i64 n, .slice a62 (n * n) k62]
      clear hs63
      replace mA := mA.next b63
      replace KA := KA.next b63
      replace KF := KF.next b63
      replace mM := mM.next b63
      replace KM := KM.next b63
      replace mC := mC.next b63
      replace KC := KC.next b63
      replace sd := sd.next b63
      replace sq := sq.next b63
      replace mS := mS.next b63
      replace B0 := B0.trans (b63.mono B0.size)
      clear b63
      go_upto_region 21 with (fail)
      rw [← e63]
      clear e63
      have HSS := Lib.hid (show ∀ j, j < n → (zsS.getD (j * n + j) []).length ≤ 2 ∧ pl p (zsS.getD (j * n + j) []) = pl p [0, 1] from fun j hj => by
        have h1 := ZS.out _ (at_lt (r := n) (c := n) rfl hj hj)
        refine ⟨h1.2.2, ?_⟩
        rw [h1.2.1, (ZM.out _ (at_lt rfl hj hj)).2.1, (ZC.out _ (at_lt rfl hj hj)).2.1]
        exact chL_x (by rw [dm1 hj, dm2 hj]))
      have qKA0 := KA.cell 0
      clear qKA0
      have qKA0 := KA.cell 0
      go_wp2
      go_loopw [18] (fun jv wr => ∃ j : Nat, j ≤ n ∧ jv = .int .i64 j ∧ Below w63.heap.size w63 wr) (fun jv _ => n - (intOf jv).toNat)
      case atStart => exact ⟨0, by omega, rfl, Below.refl _ _⟩
      case round =>
        obtain ⟨j, hj, rfl, BT⟩ := hrel
        clear qKA0
        replace mA := mA.next BT
        replace KA := KA.next BT
        replace KF := KF.next BT
        replace mM := mM.next BT
        replace KM := KM.next BT
        replace mC := mC.next BT
        replace KC := KC.next BT
        replace sd := sd.next BT
        replace sq := sq.next BT
        replace mS := mS.next BT
        replace KS := KS.next BT
        have c0 := KA.cell 0
        by_cases hjn : j < n
        · have f0 := KF.cell 0; have f1 := KS.cell 0; have f2 := KS.cell 1; have f3 := KS.cell 2
          have hss := HSS.out j hjn
          go_wp2_with fail
          refine (xm_At p j j _ n n zsS _ HP.out mS (by omega) (by omega) ZLS.out hjn hjn (by omega)).mono ?_; rintro e y5 ⟨r5, z5, rfl, o5, n5, v5, l5, b5⟩
          clear c0 f0 f1 f2 f3
          have l7 := own_lit2 y5 0 1
          have b7 := (Below.refl y5.heap.size y5).alloc (Nat.le_refl _) (.cells #[.int .u64 0, .int .u64 1] 27)
          have t5 := (o5.next b7).sl
          go_wp2_with fail
          refine (ref9_Same _ _ z5 [0, 1] true _ t5 l7.sl (by omega) (by simp) (decide_eq_true (pl_inj HP.out.pos n5 hp01.out (by rw [v5, hss.2]))).symm).mono ?_; rintro e y8 ⟨rfl, q8⟩
          have b8 := q8.below (y5.alloc (.cells #[.int .u64 0, .int .u64 1] 27)).heap.size
          have B8 := BT.trans (((b5.trans (b7.mono b5.size)).trans (b8.mono (b5.trans (b7.mono b5.size)).size)).mono BT.size)
          clear q8 b5 b7 b8 t5 o5 l7 n5 v5 l5
          go_wp2
          go_roundw
          case rel => exact ⟨j + 1, by omega, by go_num, B8⟩
          case measure => simp [intOf] <;> omega
        · obtain rfl : j = n := by omega
          replace B0 := B0.trans (BT.mono B0.size)
          clear BT hj hjn
          go_upto_region 25 with (fail)
          clear c0
          go_wp2_with fail
          refine (ref9_Same _ _ zd zq true _ sd sq (by have := ND.out.2.2; omega) (by have := NQ.out.2; omega) (decide_eq_true NQ.out.1).symm).mono ?_; rintro e w114 ⟨rfl, q114⟩
          have b114 := q114.below wr.heap.size; clear q114
          replace mA := mA.next b114
          replace KA := KA.next b114
          replace KF := KF.next b114
          replace mM := mM.next b114
          replace KM := KM.next b114
          replace mC := mC.next b114
          replace KC := KC.next b114
          replace sd := sd.next b114
          replace sq := sq.next b114
          replace mS := mS.next b114
          replace KS := KS.next b114
          replace B0 := B0.trans (b114.mono B0.size)
          clear b114
          have qKF0 := KF.cell 0
          have qKS0 := KS.cell 0
          have qKS1 := KS.cell 1
          have qKS2 := KS.cell 2
          have qKA0 := KA.cell 0
          go_wp2_with fail
          refine (xm_At_no p _ 0 _ _ _ zsS _ mS (Fd.of (by omega) (by omega) ZLS.out) (fun h => by have := h.2.1; omega)).mono ?_; rintro e w115 ⟨rfl, b115⟩
          clear qKF0 qKS0 qKS1 qKS2 qKA0
          replace mA := mA.next b115
          replace KA := KA.next b115
          replace KF := KF.next b115
          replace mM := mM.next b115
          replace KM := KM.next b115
          replace mC := mC.next b115
          replace KC := KC.next b115
          replace sd := sd.next b115
          replace sq := sq.next b115
          replace mS := mS.next b115
          replace KS := KS.next b115
          replace B0 := B0.trans (b115.mono B0.size)
          clear b115
          have qKF0 := KF.cell 0
          have qKS0 := KS.cell 0
          have qKS1 := KS.cell 1
          have qKS2 := KS.cell 2
          go_wp2_with fail
          refine (xm_At_no p 0 (-1) _ _ _ zsS _ mS (Fd.of (by omega) (by omega) ZLS.out) (fun h => by have := h.2.2.1; omega)).mono ?_; rintro e w116 ⟨rfl, b116⟩
          clear qKF0 qKS0 qKS1 qKS2
          replace mA := mA.next b116
          replace KA := KA.next b116
          replace KF := KF.next b116
          replace mM := mM.next b116
          replace KM := KM.next b116
          replace mC := mC.next b116
          replace KC := KC.next b116
          replace sd := sd.next b116
          replace sq := sq.next b116
          replace mS := mS.next b116
          replace KS := KS.next b116
          replace B0 := B0.trans (b116.mono B0.size)
          clear b116
          go_wp2
          go_ret
          exact ⟨rfl, B0⟩

set_option maxHeartbeats 1000000 in
theorem walk (x0 : Nat) (v : Value) (R C : Int) (xs : List Nat) (w : World) (mA : Fm w v R C xs) : Calls Try.prog 10 #[.int .u8 x0, v] w (LawOk w) := by
  by_cases hf : R ≤ 4 ∧ C ≤ 4 ∧ xs.length ≤ 100
  · by_cases hs : Fd R C xs.length
    · obtain ⟨r, c, e1, e2, h3, h4, h5⟩ := hs.nat
      subst e1 e2
      by_cases hq : r = c
      · subst hq
        exact good x0 r v xs w mA hf h5
      · exact notSq x0 r c v xs w mA hf h5 hq
    · exact bad x0 v R C xs w mA hf hs
  · exact not_few x0 v R C xs w mA hf

set_option maxRecDepth 100000 in
theorem lifted (os : Os) (started : os.Started) (H : Type) (enc : TypeId × Value → H) :
    ReturnsInHanded {} Try.checked os 10 .any (Rows.xmatCharsSpec.pre6 enc Try.prog Try.f10 Rows.xmatCharsRow.domain false) (Rows.xmatCharsSpec.post enc Try.prog Try.f10 false true false false) := by
  refine returnsInHanded_of_change (C := Try.checked) own started (by kernel_rfl) Try.func10
    (ChangeSpec.witness6 (enc := enc) (C := Try.checked) false ⟨#[], #[.int .u8 0, .agg #[.int .i64 0, .int .i64 0, .slice none 0 0]], []⟩ 8 (by kernel_rfl) (by kernel_rfl) (by kernel_rfl) (by kernel_rfl)) ?_
  intro W base args ds gs before hval0 hW hcnd _
  have hval : ∀ (j : Nat) t v, Try.f10.params[j]? = some t → args[j]? = some v → Value.okWide Try.prog W .any base t v := hval0
  have hW' := hW
  obtain ⟨p, q, hA0, hV, rfl, hfz, hnd⟩ := hW
  have hA : DataW.TrodAll enc Try.prog W 0 (fun _ => true) true Try.f10.params.toList args.toList ds p := hA0
  rw [Try.params10] at hA hval
  obtain ⟨v0, vs0, d0, ds0, p0, q0, hargs, rfl, rfl, h0, r0⟩ := trodAll_cons hA
  obtain ⟨v1, vs1, d1, ds1, p1, q1, rfl, rfl, rfl, h1, r1⟩ := trodAll_cons r0
  obtain ⟨rfl, rfl, rfl⟩ := trodAll_nil r1
  obtain rfl : args = #[v0, v1] := by cases args; simp_all
  obtain ⟨rfl, rfl⟩ := trodVars_none hV
  have k0 := h0
  have lt0 : ∀ x ∈ p0, x.block < W.heap.size := by obtain ⟨m, hm⟩ := k0; exact DataW.trod_lt m _ _ _ hm
  obtain ⟨i0, rfl, rfl, rfl, wi0⟩ := open_int Try.underlying5 (hval 0 5 v0 rfl rfl) h0
  obtain ⟨x0, rfl⟩ := Int.eq_ofNat_of_zero_le (wf_u8_bounds wi0).1
  have k1 := h1
  have lt1 : ∀ x ∈ p1, x.block < W.heap.size := by obtain ⟨m, hm⟩ := k1; exact DataW.trod_lt m _ _ _ hm
  obtain ⟨R1, C1, xs1, m1, rb1, cb1⟩ := open_fm (hval 1 42 v1 rfl rfl) h1
  clear hA0 hval0
  refine (walk x0 v1 R1 C1 xs1 W  m1).mono fun e W' ⟨he, bel⟩ => ?_
  subst he
  exact ⟨_, rfl, _, _, _, [], _, [], hW', trodAll_mk1 (shut_bool Try.underlying4 _), (trodAll_cons_mk (Below.trod laidOut (by kernel_rfl) (of_decide_eq_true (by kernel_rfl)) k0 bel lt0) (trodAll_cons_mk (Below.trod laidOut (by kernel_rfl) (of_decide_eq_true (by kernel_rfl)) k1 bel lt1) trodAll_mk0)), rfl, bel.frame _, fun h => by cases h⟩

theorem over : Rows.xmatCharsRow.holds Try.pinned (OpenSpec.ofChange Rows.xmatCharsSpec) :=
  OpenClaim.holds_of_wide 10 Try.f10 rfl rfl rfl rfl rfl rfl rfl ⟨rfl, rfl, rfl, rfl, rfl⟩ rfl rfl rfl rfl rfl (by kernel_rfl) Try.func10 (by kernel_rfl)
    (of_decide_eq_true (by kernel_rfl)) (by unfold Func.isWrapper; first | (rw [if_pos (by decide +kernel)]; kernel_rfl) | (rw [if_neg (by decide +kernel)]; exact ⟨rfl, rfl⟩))
    (fun os started H enc _ => lifted os started H enc)

theorem proved : Rows.XmatCharsSaid := over
#print axioms proved
end Go.Proofs.Ythghdjpjbngllaa.xmatChars
