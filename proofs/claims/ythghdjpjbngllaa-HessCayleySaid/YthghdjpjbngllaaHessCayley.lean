/- HessCayley: for every number and matrix the law returns true: the characteristic polynomial and the minimal one make noughts of the matrix, and the minimal one divides that. No condition. -/
import Derived.Test.YthghdjpjbngllaaRows
import Derived.Test.YthghdjpjbngllaaHz
import Derived.Test.YthghdjpjbngllaaRfk
namespace Go.Proofs.Ythghdjpjbngllaa.hessCayley
open Go.ChangeShapes Go.WideShapes Go.ChangeAt Go.RowKit
open Go.ChangeMaps (open_string shut_string)

theorem own : ownKnob Try.prog.godebug = none := by kernel_rfl
theorem laidOut : laidOutB Try.prog = true := by kernel_rfl

theorem at2 {n : Nat} (hn : n ≤ 4) : n * n ≤ 16 := Nat.mul_le_mul hn hn
theorem zero_words {p n : Nat} {M : MT (Zp p) n n} (h : M = 0) : ∀ i, i < (tbv M).length → (tbv M).getD i 0 % p = 0 := by
  intro i hi
  rw [tbv_length] at hi
  rw [tbv_at M hi, h]
  show (0 : Zp p).val % p = 0
  rw [Zp.zero_val, Nat.zero_mod]
theorem div_rest {p d : Nat} (hp : FP p) (ht : Trial p) {xs ys zr : List Nat} {q : Pol (Zp p)} (hy : Nrm p ys) (hl : ys.length = d + 1) (hz : Nrm p zr) (h : pl p xs = q * pl p ys + pl p zr) (hlt : zr.length < ys.length) (hd : Dv (pl p ys) (pl p xs)) : zr = [] := by
  obtain ⟨c, hc⟩ := hd
  have hb : Ln (pl p ys) (d + 1) := by rw [← hl]; exact nrm_ln hp.pos hy
  have h0 : c * pl p ys + 0 = q * pl p ys + pl p zr := by rw [CR.add_zero, ← h, hc, CR.mul_comm]
  have h1 := (div_unique ht hb (dlt_zero d) (dlt_mono (pl_dlt p zr) (by omega)) h0).2
  exact pl_zero hp.pos hz h1.symm

set_option maxRecDepth 20000 in
set_option maxHeartbeats 4000000 in
theorem not_few (x0 : Nat) (v : Value) (R C : Int) (xs : List Nat) (w : World) (mA : Fm w v R C xs) (hf : ¬ (R ≤ 4 ∧ C ≤ 4 ∧ xs.length ≤ 100)) :
    Calls Try.prog 11 #[.int .u8 x0, v] w (LawOk w) := by
  obtain ⟨aA, cA, rfl⟩ := mA.agg
  obtain ⟨wb, ew, KA, B0, hsz⟩ := boxes1 w 42 [.int .i64 R, .int .i64 C, .slice aA xs.length cA]
  clear hsz
  replace mA := mA.next B0
  have HF := Lib.hid hf; clear hf
  go_enter Try.func11, Try.ntmps11
  go_upto_region 1 with (fail)
  rw [← ew]
  clear ew
  go_wp2_with fail
  refine (law22_awake _).mono ?_; rintro e w1 ⟨rfl, b1⟩
  replace mA := mA.next b1
  replace KA := KA.next b1
  replace B0 := B0.trans (b1.mono B0.size)
  clear b1
  have qKA0 := KA.cell 0
  have qKA1 := KA.cell 1
  have qKA2 := KA.cell 2
  go_wp2_with fail
  refine (rf21_Few _ R C 4 xs _ mA false (decide_eq_false HF.out).symm).mono ?_; rintro e w2 ⟨rfl, b2⟩
  clear qKA0 qKA1 qKA2
  replace mA := mA.next b2
  replace KA := KA.next b2
  replace B0 := B0.trans (b2.mono B0.size)
  clear b2
  clear mA
  go_wp2_with fail
  refine (law22_awake _).mono ?_; rintro e w3 ⟨rfl, b3⟩
  replace KA := KA.next b3
  replace B0 := B0.trans (b3.mono B0.size)
  clear b3
  go_wp2
  go_ret
  exact ⟨rfl, B0⟩

set_option maxRecDepth 20000 in
set_option maxHeartbeats 4000000 in
theorem bad (x0 : Nat) (v : Value) (R C : Int) (xs : List Nat) (w : World) (mA : Fm w v R C xs) (hf : R ≤ 4 ∧ C ≤ 4 ∧ xs.length ≤ 100) (hs : ¬ (Fd R C xs.length ∧ R = C)) :
    Calls Try.prog 11 #[.int .u8 x0, v] w (LawOk w) := by
  obtain ⟨aA, cA, rfl⟩ := mA.agg
  obtain ⟨wb, ew, KA, B0, hsz⟩ := boxes1 w 42 [.int .i64 R, .int .i64 C, .slice aA xs.length cA]
  clear hsz
  replace mA := mA.next B0
  have HF := Lib.hid hf; have HS := Lib.hid hs; clear hf hs
  go_enter Try.func11, Try.ntmps11
  go_upto_region 1 with (fail)
  rw [← ew]
  clear ew
  go_wp2_with fail
  refine (law22_awake _).mono ?_; rintro e w1 ⟨rfl, b1⟩
  replace mA := mA.next b1
  replace KA := KA.next b1
  replace B0 := B0.trans (b1.mono B0.size)
  clear b1
  have qKA0 := KA.cell 0
  have qKA1 := KA.cell 1
  have qKA2 := KA.cell 2
  go_wp2_with fail
  refine (rf21_Few _ R C 4 xs _ mA true (decide_eq_true HF.out).symm).mono ?_; rintro e w2 ⟨rfl, b2⟩
  clear qKA0 qKA1 qKA2
  replace mA := mA.next b2
  replace KA := KA.next b2
  replace B0 := B0.trans (b2.mono B0.size)
  clear b2
  have qKA0 := KA.cell 0
  have qKA1 := KA.cell 1
  have qKA2 := KA.cell 2
  go_wp2_with fail
  refine (law22_square _ R C xs _ mA false (decide_eq_false HS.out).symm).mono ?_; rintro e w3 ⟨rfl, b3⟩
  clear qKA0 qKA1 qKA2
  replace mA := mA.next b3
  replace KA := KA.next b3
  replace B0 := B0.trans (b3.mono B0.size)
  clear b3
  clear mA
  go_wp2_with fail
  refine (law22_awake _).mono ?_; rintro e w4 ⟨rfl, b4⟩
  replace KA := KA.next b4
  replace B0 := B0.trans (b4.mono B0.size)
  clear b4
  go_wp2
  go_ret
  exact ⟨rfl, B0⟩

set_option maxRecDepth 20000 in
set_option maxHeartbeats 4000000 in
theorem good (x0 : Nat) (v : Value) (n : Nat) (xs : List Nat) (w : World) (mA : Fm w v n n xs) (hn : n ≤ 4) (hx : xs.length = n * n) (hf : (n : Int) ≤ 4 ∧ (n : Int) ≤ 4 ∧ xs.length ≤ 100) :
    Calls Try.prog 11 #[.int .u8 x0, v] w (LawOk w) := by
  obtain ⟨p, ep⟩ : ∃ p, p = Ps (x0 % 12) := ⟨_, rfl⟩
  have hp : FP p := by rw [ep]; exact Ps_FP (by omega)
  have ht : Trial p := by rw [ep]; exact Ps_trial (by omega)
  have cOf : ∀ w : World, Calls Try.prog 17 #[.int .u8 x0] w fun e w' => e = .returned (.agg #[.int .u64 (p : Nat)]) ∧ Below w.heap.size w w' := fun w => by rw [ep]; exact law9_Of x0 w
  have cP : ∀ w : World, Calls Try.prog 18 #[.int .u8 x0] w fun e w' => e = .returned (.int .u64 (p : Nat)) ∧ w = w' := fun w => by rw [ep]; exact ref8_P x0 w
  have hp2 := hp.1
  have hp3 := hp.2
  have HP := Lib.hid hp; have HT := Lib.hid ht; have COF := Lib.hid cOf; have CP := Lib.hid cP
  clear hp ht cOf cP ep
  obtain ⟨aA, cA, rfl⟩ := mA.agg
  obtain ⟨wb, ew, KA, B0, hsz⟩ := boxes1 w 42 [.int .i64 n, .int .i64 n, .slice aA xs.length cA]
  clear hsz
  replace mA := mA.next B0
  have HF := Lib.hid hf; have HX := Lib.hid hx; clear hf hx
  have HFd := Lib.hid (Fd.of (show n ≤ 64 by omega) (show n ≤ 64 by omega) HX.out)
  have hnn : ((n : Int) != (n : Int)) = false := by simp
  obtain ⟨A, eA⟩ : ∃ A, A = mx p n n xs := ⟨_, rfl⟩
  have EA := Lib.hid eA; clear eA
  go_enter Try.func11, Try.ntmps11
  go_upto_region 1 with (fail)
  rw [← ew]
  clear ew
  go_wp2_with fail
  refine (law22_awake _).mono ?_; rintro e w1 ⟨rfl, b1⟩
  replace mA := mA.next b1
  replace KA := KA.next b1
  replace B0 := B0.trans (b1.mono B0.size)
  clear b1
  have qKA0 := KA.cell 0
  have qKA1 := KA.cell 1
  have qKA2 := KA.cell 2
  go_wp2_with fail
  refine (rf21_Few _ n n 4 xs _ mA true (decide_eq_true HF.out).symm).mono ?_; rintro e w2 ⟨rfl, b2⟩
  clear qKA0 qKA1 qKA2
  replace mA := mA.next b2
  replace KA := KA.next b2
  replace B0 := B0.trans (b2.mono B0.size)
  clear b2
  have qKA0 := KA.cell 0
  have qKA1 := KA.cell 1
  have qKA2 := KA.cell 2
  go_wp2_with fail
  refine (law22_square _ n n xs _ mA true (decide_eq_true ⟨HFd.out, rfl⟩).symm).mono ?_; rintro e w3 ⟨rfl, b3⟩
  clear qKA0 qKA1 qKA2
  replace mA := mA.next b3
  replace KA := KA.next b3
  replace B0 := B0.trans (b3.mono B0.size)
  clear b3
  go_wp2_with fail
  refine (COF.out _).mono ?_; rintro e w4 ⟨rfl, b4⟩
  replace mA := mA.next b4
  replace KA := KA.next b4
  replace B0 := B0.trans (b4.mono B0.size)
  clear b4
  go_wp2_with fail
  refine (CP.out _).mono ?_; rintro e wx ⟨rfl, rfl⟩
  obtain ⟨w5, e5, KF, b5, hs5⟩ := boxes1 w4 29 [.int .u64 p]
  clear hs5
  replace mA := mA.next b5
  replace KA := KA.next b5
  replace B0 := B0.trans (b5.mono B0.size)
  clear b5
  go_upto_region 4 with (fail)
  rw [← e5]
  clear e5
  have qKF0 := KF.cell 0
  have qKA0 := KA.cell 0
  have qKA1 := KA.cell 1
  have qKA2 := KA.cell 2
  go_wp2_with fail
  refine (hs_Char p _ n xs _ HP.out HT.out mA (by omega) HX.out).mono ?_; rintro e w6 ⟨ao, cq, zs, rfl, oQ, nQ, vQ, lQ, b6⟩; rw [← EA.out] at vQ
  clear qKF0 qKA0 qKA1 qKA2
  replace mA := mA.next b6
  replace KA := KA.next b6
  replace KF := KF.next b6
  replace B0 := B0.trans (b6.mono B0.size)
  clear b6
  have NQ := Lib.hid (show Nrm p zs ∧ pl p zs = chi A ∧ zs.length ≤ 10 from ⟨nQ, vQ, by omega⟩)
  have sQ := oQ.sl
  clear nQ vQ lQ oQ
  go_upto_region 5 with (fail)
  have qKF0 := KF.cell 0
  have qKA0 := KA.cell 0
  have qKA1 := KA.cell 1
  have qKA2 := KA.cell 2
  go_wp2_with fail
  refine (hs_Min p _ n xs _ HP.out HT.out mA (by omega) HX.out).mono ?_; rintro e w7 ⟨am, cm, ms, d, rfl, oM, nM, vM, lM, ld, b7⟩; rw [← EA.out] at vM
  clear qKF0 qKA0 qKA1 qKA2
  replace mA := mA.next b7
  replace KA := KA.next b7
  replace KF := KF.next b7
  replace sQ := sQ.next b7
  replace B0 := B0.trans (b7.mono B0.size)
  clear b7
  have NM := Lib.hid (show Nrm p ms ∧ MinTo A n (pl p ms) ∧ ms.length = d + 1 ∧ d ≤ n from ⟨nM, vM, lM, ld⟩)
  have sM := oM.sl
  clear nM vM lM oM
  go_upto_region 6 with (fail)
  have qKF0 := KF.cell 0
  go_wp2_with fail
  refine (fp_DivMod p _ _ zs ms _ HP.out HT.out sQ sM (by have := NQ.out.2.2; omega) (by have := NM.out.2.2.1; omega) (by rw [nl_of HP.out.pos NM.out.1]; intro h; have := NM.out.2.2.1; rw [h] at this; simp at this)).mono ?_; rintro e w8 ⟨rq, rr, zq, zr, rfl, oq, or, mq, mr, vd, ld, lq, lr, b8⟩
  clear qKF0
  replace mA := mA.next b8
  replace KA := KA.next b8
  replace KF := KF.next b8
  replace sQ := sQ.next b8
  replace sM := sM.next b8
  replace B0 := B0.trans (b8.mono B0.size)
  clear b8
  obtain ⟨ar, cr, rfl⟩ := or.sliced
  rw [nl_of HP.out.pos NM.out.1] at ld
  obtain rfl : zr = [] := div_rest HP.out HT.out NM.out.1 NM.out.2.2.1 mr vd ld (by rw [NQ.out.2.1]; exact NM.out.2.1.dv_chi)
  clear oq or mq mr vd ld lq lr
  go_upto_region 7 with (fail)
  go_wp2_with fail
  refine (ref9_Monic _ ms true _ sM (by have := NM.out.2.2.1; omega) (decide_eq_true ((nrm_mo HT.out NM.out.1).1 NM.out.2.1.mo)).symm).mono ?_; rintro e wx ⟨rfl, rfl⟩
  have qKA0 := KA.cell 0
  have qKA1 := KA.cell 1
  have qKA2 := KA.cell 2
  go_wp2_with fail
  refine (rf22_Value p _ _ n zs xs _ HP.out sQ mA (by omega) HX.out (by have := NQ.out.2.2; omega)).mono ?_; rintro e w9 ⟨a9, k9, rfl, o9, b9⟩; rw [← EA.out, NQ.out.2.1] at o9 ⊢; obtain ⟨M9, eM9⟩ : ∃ M, M = pev (chi A) A := ⟨_, rfl⟩; rw [← eM9] at o9 ⊢; have E9 := Lib.hid (show M9 = 0 by rw [eM9]; exact cayley A); clear eM9
  clear qKA0 qKA1 qKA2
  replace mA := mA.next b9
  replace KA := KA.next b9
  replace KF := KF.next b9
  replace sQ := sQ.next b9
  replace sM := sM.next b9
  replace B0 := B0.trans (b9.mono B0.size)
  clear b9
  have m9 := fm_own (R := n) (C := n) o9; clear o9
  go_wp2_with fail
  refine (rf21_Zero _ n n p (tbv M9) _ HP.out.pos m9 (zero_words E9.out) (by have := at2 hn; rw [tbv_length]; omega)).mono ?_; rintro e w10 ⟨rfl, b10⟩
  replace mA := mA.next b10
  replace KA := KA.next b10
  replace KF := KF.next b10
  replace sQ := sQ.next b10
  replace sM := sM.next b10
  replace m9 := m9.next b10
  replace B0 := B0.trans (b10.mono B0.size)
  clear b10
  have qKA0 := KA.cell 0
  have qKA1 := KA.cell 1
  have qKA2 := KA.cell 2
  go_wp2_with fail
  refine (rf22_Value p _ _ n ms xs _ HP.out sM mA (by omega) HX.out (by have := NM.out.2.2.1; omega)).mono ?_; rintro e w11 ⟨a11, k11, rfl, o11, b11⟩; rw [← EA.out] at o11 ⊢; obtain ⟨M11, eM11⟩ : ∃ M, M = pev (pl p ms) A := ⟨_, rfl⟩; rw [← eM11] at o11 ⊢; have E11 := Lib.hid (show M11 = 0 by rw [eM11]; exact (NM.out.2.1.full _).1 (Dv.refl _)); clear eM11
  clear qKA0 qKA1 qKA2
  replace mA := mA.next b11
  replace KA := KA.next b11
  replace KF := KF.next b11
  replace sQ := sQ.next b11
  replace sM := sM.next b11
  replace m9 := m9.next b11
  replace B0 := B0.trans (b11.mono B0.size)
  clear b11
  have m11 := fm_own (R := n) (C := n) o11; clear o11
  go_wp2_with fail
  refine (rf21_Zero _ n n p (tbv M11) _ HP.out.pos m11 (zero_words E11.out) (by have := at2 hn; rw [tbv_length]; omega)).mono ?_; rintro e w12 ⟨rfl, b12⟩
  replace mA := mA.next b12
  replace KA := KA.next b12
  replace KF := KF.next b12
  replace sQ := sQ.next b12
  replace sM := sM.next b12
  replace m9 := m9.next b12
  replace m11 := m11.next b12
  replace B0 := B0.trans (b12.mono B0.size)
  clear b12
  go_wp2
  go_ret
  exact ⟨rfl, B0⟩

set_option maxHeartbeats 1000000 in
theorem walk (x0 : Nat) (v : Value) (R C : Int) (xs : List Nat) (w : World) (mA : Fm w v R C xs) : Calls Try.prog 11 #[.int .u8 x0, v] w (LawOk w) := by
  by_cases hf : R ≤ 4 ∧ C ≤ 4 ∧ xs.length ≤ 100
  · by_cases hs : Fd R C xs.length ∧ R = C
    · obtain ⟨h1, rfl⟩ := hs
      obtain ⟨r, c, e1, e2, h3, h4, h5⟩ := h1.nat
      subst e1
      have e3 : c = r := by omega
      subst e3
      exact good x0 v c xs w mA (by omega) h5 hf
    · exact bad x0 v R C xs w mA hf hs
  · exact not_few x0 v R C xs w mA hf

set_option maxRecDepth 100000 in
theorem lifted (os : Os) (started : os.Started) (H : Type) (enc : TypeId × Value → H) :
    ReturnsInHanded {} Try.checked os 11 .any (Rows.hessCayleySpec.pre6 enc Try.prog Try.f11 Rows.hessCayleyRow.domain false) (Rows.hessCayleySpec.post enc Try.prog Try.f11 false true false false) := by
  refine returnsInHanded_of_change (C := Try.checked) own started (by kernel_rfl) Try.func11
    (ChangeSpec.witness6 (enc := enc) (C := Try.checked) false ⟨#[], #[.int .u8 0, .agg #[.int .i64 0, .int .i64 0, .slice none 0 0]], []⟩ 8 (by kernel_rfl) (by kernel_rfl) (by kernel_rfl) (by kernel_rfl)) ?_
  intro W base args ds gs before hval0 hW hcnd _
  have hval : ∀ (j : Nat) t v, Try.f11.params[j]? = some t → args[j]? = some v → Value.okWide Try.prog W .any base t v := hval0
  have hW' := hW
  obtain ⟨p, q, hA0, hV, rfl, hfz, hnd⟩ := hW
  have hA : DataW.TrodAll enc Try.prog W 0 (fun _ => true) true Try.f11.params.toList args.toList ds p := hA0
  rw [Try.params11] at hA hval
  obtain ⟨v0, vs0, d0, ds0, p0, q0, hargs, rfl, rfl, h0, r0⟩ := trodAll_cons hA
  obtain ⟨v1, vs1, d1, ds1, p1, q1, rfl, rfl, rfl, h1, r1⟩ := trodAll_cons r0
  obtain ⟨rfl, rfl, rfl⟩ := trodAll_nil r1
  obtain rfl : args = #[v0, v1] := by cases args; simp_all
  obtain ⟨rfl, rfl⟩ := trodVars_none hV
  have k0 := h0
  have lt0 : ∀ x ∈ p0, x.block < W.heap.size := by obtain ⟨m, hm⟩ := k0; exact DataW.trod_lt m _ _ _ hm
  obtain ⟨i0, rfl, rfl, rfl, wi0⟩ := open_int Try.underlying5 (hval 0 5 v0 rfl rfl) h0
  obtain ⟨x0, rfl⟩ := Int.eq_ofNat_of_zero_le (wf_u8_bounds wi0).1
  have k1 := h1
  have lt1 : ∀ x ∈ p1, x.block < W.heap.size := by obtain ⟨m, hm⟩ := k1; exact DataW.trod_lt m _ _ _ hm
  obtain ⟨R1, C1, xs1, m1, rb1, cb1⟩ := open_fm (hval 1 42 v1 rfl rfl) h1
  clear hA0 hval0
  refine (walk x0 v1 R1 C1 xs1 W  m1).mono fun e W' ⟨he, bel⟩ => ?_
  subst he
  exact ⟨_, rfl, _, _, _, [], _, [], hW', trodAll_mk1 (shut_bool Try.underlying4 _), (trodAll_cons_mk (Below.trod laidOut (by kernel_rfl) (of_decide_eq_true (by kernel_rfl)) k0 bel lt0) (trodAll_cons_mk (Below.trod laidOut (by kernel_rfl) (of_decide_eq_true (by kernel_rfl)) k1 bel lt1) trodAll_mk0)), rfl, bel.frame _, fun h => by cases h⟩

theorem over : Rows.hessCayleyRow.holds Try.pinned (OpenSpec.ofChange Rows.hessCayleySpec) :=
  OpenClaim.holds_of_wide 11 Try.f11 rfl rfl rfl rfl rfl rfl rfl ⟨rfl, rfl, rfl, rfl, rfl⟩ rfl rfl rfl rfl rfl (by kernel_rfl) Try.func11 (by kernel_rfl)
    (of_decide_eq_true (by kernel_rfl)) (by unfold Func.isWrapper; first | (rw [if_pos (by decide +kernel)]; kernel_rfl) | (rw [if_neg (by decide +kernel)]; exact ⟨rfl, rfl⟩))
    (fun os started H enc _ => lifted os started H enc)

theorem proved : Rows.HessCayleySaid := over
#print axioms proved
end Go.Proofs.Ythghdjpjbngllaa.hessCayley
