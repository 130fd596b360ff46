/- For every number and two lists the law PolyDivides returns true, whatever they are. -/
import Derived.Test.YtjpioijlpgmlfaaRows
import Derived.Test.YtjpioijlpgmlfaaOpen
import Derived.Test.YtjpioijlpgmlfaaFref2
namespace Go.Proofs.Ytjpioijlpgmlfaa.polyDivides
open Go.ChangeShapes Go.WideShapes Go.ChangeAt Go.RowKit
open Go.ChangeMaps (open_string shut_string)

theorem own : ownKnob Try.prog.godebug = none := by kernel_rfl
theorem laidOut : laidOutB Try.prog = true := by kernel_rfl

set_option maxHeartbeats 4000000 in
theorem walk (x0 : Nat) (v1 : Value) (x1 : List Nat) (v2 : Value) (x2 : List Nat) (w : World) (s1 : Sl .u64 w v1 x1) (s2 : Sl .u64 w v2 x2) :
    Calls Try.prog 4 #[.int .u8 x0, v1, v2] w (LawOk w) := by
  obtain ⟨p, ep⟩ : ∃ p, p = Ps (x0 % 12) := ⟨_, rfl⟩
  have hp : FP p := by rw [ep]; exact Ps_FP (by omega)
  have ht : Trial p := by rw [ep]; exact Ps_trial (by omega)
  have cOf : ∀ w : World, Calls Try.prog 12 #[.int .u8 x0] w fun e w' => e = .returned (.agg #[.int .u64 (p : Nat)]) ∧ Below w.heap.size w w' := fun w => by rw [ep]; exact law9_Of x0 w
  have cP : ∀ w : World, Calls Try.prog 17 #[.int .u8 x0] w fun e w' => e = .returned (.int .u64 (p : Nat)) ∧ w = w' := fun w => by rw [ep]; exact ref8_P x0 w
  have hp2 := hp.1
  have hp3 := hp.2
  have HP := Lib.hid hp; have HT := Lib.hid ht; have COF := Lib.hid cOf; have CP := Lib.hid cP
  clear hp ht cOf cP ep
  by_cases h : (x1.length : Int) ≤ 20 ∧ (x2.length : Int) ≤ 20
  · obtain ⟨h1, h2⟩ := h
    by_cases hC : nl p x2 = []
    · go_enter Try.func4, Try.ntmps4
      have B : Below w.heap.size w w := Below.refl _ _
      go_wp2_with fail
      refine (law9_awake _).mono ?_; rintro e w1 ⟨rfl, b1⟩
      replace s1 := s1.next b1
      replace s2 := s2.next b1
      replace B := B.trans (b1.mono B.size)
      go_wp2_with fail
      refine (law9_few v1 v2 (.slice none 0 0) x1 x2 [] 20 true _ s1 s2 (Sl.nil _ _) (decide_eq_true ⟨h1, h2, by simp⟩).symm).mono ?_; rintro e wx ⟨rfl, rfl⟩
      go_wp2_with fail
      refine (COF.out _).mono ?_; rintro e w2 ⟨rfl, b2⟩
      replace s1 := s1.next b2
      replace s2 := s2.next b2
      replace B := B.trans (b2.mono B.size)
      go_wp2_with fail
      refine (CP.out _).mono ?_; rintro e wx ⟨rfl, rfl⟩
      go_upto_region 4 with (fail)
      have fx : Fx p w (w2.alloc (.cells #[.int .u64 p] 28)) w2.heap.size := Fx.box B
      have bb := (Below.refl w2.heap.size w2).alloc (Nat.le_refl _) (.cells #[.int .u64 p] 28)
      replace s1 := s1.next bb
      replace s2 := s2.next bb
      generalize w2.alloc (.cells #[.int .u64 p] 28) = w3 at *
      obtain ⟨g, eg⟩ : ∃ g, g = w2.heap.size := ⟨_, rfl⟩
      rw [← eg] at fx ⊢
      clear eg bb B
      have hcg := fx.cell
      have H0 := Lib.hid hC; clear hC
      go_wp2_with fail
      refine (fp_DivMod_no p _ _ x1 x2 _ HP.out s1 s2 (by omega) (by omega) H0.out).mono ?_; rintro e w4 ⟨rfl, b4⟩
      replace s1 := s1.next b4
      replace s2 := s2.next b4
      replace fx := fx.next b4
      replace hcg := fx.cell
      go_wp2_with fail
      refine (ref9_Norm p _ x2 _ HP.out s2 (by omega)).mono ?_; rintro e w5 ⟨r5, z5, rfl, o5, m5, v5, l5, b5⟩
      replace s1 := s1.next b5
      replace s2 := s2.next b5
      replace fx := fx.next b5
      replace hcg := fx.cell
      have V5 := Lib.hid v5; clear v5
      have t5 := o5.sl
      clear o5
      obtain rfl : z5 = [] := (nl_is HP.out.pos m5 V5.out).trans H0.out
      obtain ⟨ao, bo, oo, co, rfl, -, -⟩ := id t5
      go_wp2
      go_ret
      exact ⟨rfl, fx.below⟩
    · go_enter Try.func4, Try.ntmps4
      have B : Below w.heap.size w w := Below.refl _ _
      go_wp2_with fail
      refine (law9_awake _).mono ?_; rintro e w1 ⟨rfl, b1⟩
      replace s1 := s1.next b1
      replace s2 := s2.next b1
      replace B := B.trans (b1.mono B.size)
      go_wp2_with fail
      refine (law9_few v1 v2 (.slice none 0 0) x1 x2 [] 20 true _ s1 s2 (Sl.nil _ _) (decide_eq_true ⟨h1, h2, by simp⟩).symm).mono ?_; rintro e wx ⟨rfl, rfl⟩
      go_wp2_with fail
      refine (COF.out _).mono ?_; rintro e w2 ⟨rfl, b2⟩
      replace s1 := s1.next b2
      replace s2 := s2.next b2
      replace B := B.trans (b2.mono B.size)
      go_wp2_with fail
      refine (CP.out _).mono ?_; rintro e wx ⟨rfl, rfl⟩
      go_upto_region 4 with (fail)
      have fx : Fx p w (w2.alloc (.cells #[.int .u64 p] 28)) w2.heap.size := Fx.box B
      have bb := (Below.refl w2.heap.size w2).alloc (Nat.le_refl _) (.cells #[.int .u64 p] 28)
      replace s1 := s1.next bb
      replace s2 := s2.next bb
      generalize w2.alloc (.cells #[.int .u64 p] 28) = w3 at *
      obtain ⟨g, eg⟩ : ∃ g, g = w2.heap.size := ⟨_, rfl⟩
      rw [← eg] at fx ⊢
      clear eg bb B
      have hcg := fx.cell
      have H0 := Lib.hid hC; clear hC
      go_wp2_with fail
      refine (fp_DivMod p _ _ x1 x2 _ HP.out HT.out s1 s2 (by omega) (by omega) H0.out).mono ?_; rintro e w4 ⟨rq, rr, zq, zr, rfl, oq, or, mq, mr, vd, ld, lq, lr, b4⟩
      replace s1 := s1.next b4
      replace s2 := s2.next b4
      replace fx := fx.next b4
      replace hcg := fx.cell
      have VD := Lib.hid vd; clear vd
      have tq := oq.sl; have tr := or.sl; clear oq or
      go_wp2_with fail
      refine (ref9_Norm p _ x2 _ HP.out s2 (by omega)).mono ?_; rintro e w5 ⟨r5, z5, rfl, o5, m5, v5, l5, b5⟩
      replace s1 := s1.next b5
      replace s2 := s2.next b5
      replace tq := tq.next b5
      replace tr := tr.next b5
      replace fx := fx.next b5
      replace hcg := fx.cell
      have V5 := Lib.hid v5; clear v5
      have t5 := o5.sl
      clear o5
      have ey := nl_is HP.out.pos m5 V5.out
      have hy0 : z5.length ≠ 0 := fun h => H0.out (by rw [← ey]; exact List.length_eq_zero_iff.mp h)
      have hyz : ((z5.length : Int) == 0) = false := beq_eq_false_iff_ne.mpr (by omega)
      rw [← ey] at ld
      have hlt : decide ((zr.length : Int) < (z5.length : Int)) = true := decide_eq_true (by omega)
      clear ey
      obtain ⟨ao, bo, oo, co, rfl, -, -⟩ := id t5
      obtain ⟨a1, b1', o1, c1, rfl, -, -⟩ := id tr
      go_wp2_with fail
      refine (ref9_Mul p _ _ zq z5 _ HP.out tq t5 (by omega) (by omega)).mono ?_; rintro e w6 ⟨r6, z6, rfl, o6, m6, v6, l6, b6⟩
      replace s1 := s1.next b6
      replace s2 := s2.next b6
      replace tq := tq.next b6
      replace tr := tr.next b6
      replace t5 := t5.next b6
      replace fx := fx.next b6
      replace hcg := fx.cell
      have V6 := Lib.hid v6; clear v6
      have t6 := o6.sl
      clear o6
      go_wp2_with fail
      refine (ref9_Add p _ _ z6 zr _ HP.out t6 tr (by omega) (by omega)).mono ?_; rintro e w7 ⟨r7, z7, rfl, o7, m7, v7, l7, b7⟩
      replace s1 := s1.next b7
      replace s2 := s2.next b7
      replace tq := tq.next b7
      replace tr := tr.next b7
      replace t5 := t5.next b7
      replace t6 := t6.next b7
      replace fx := fx.next b7
      replace hcg := fx.cell
      have V7 := Lib.hid v7; clear v7
      have t7 := o7.sl
      clear o7
      go_wp2_with fail
      refine (ref9_Norm p _ zq _ HP.out tq (by omega)).mono ?_; rintro e w8 ⟨r8, z8, rfl, o8, m8, v8, l8, b8⟩
      replace s1 := s1.next b8
      replace s2 := s2.next b8
      replace tq := tq.next b8
      replace tr := tr.next b8
      replace t5 := t5.next b8
      replace t6 := t6.next b8
      replace t7 := t7.next b8
      replace fx := fx.next b8
      replace hcg := fx.cell
      have V8 := Lib.hid v8; clear v8
      have t8 := o8.sl
      clear o8
      go_wp2_with fail
      refine (law9_is _ _ zq z8 true _ tq t8 (by omega) (by omega) (decide_eq_true (pl_inj HP.out.pos mq m8 (by rw [V8.out]))).symm).mono ?_; rintro e w9 ⟨rfl, q9⟩
      have b9 := q9.below w8.heap.size; clear q9
      replace s1 := s1.next b9
      replace s2 := s2.next b9
      replace tq := tq.next b9
      replace tr := tr.next b9
      replace t5 := t5.next b9
      replace t6 := t6.next b9
      replace t7 := t7.next b9
      replace t8 := t8.next b9
      replace fx := fx.next b9
      replace hcg := fx.cell
      go_wp2_with fail
      refine (ref9_Norm p _ zr _ HP.out tr (by omega)).mono ?_; rintro e w10 ⟨r10, z10, rfl, o10, m10, v10, l10, b10⟩
      replace s1 := s1.next b10
      replace s2 := s2.next b10
      replace tq := tq.next b10
      replace tr := tr.next b10
      replace t5 := t5.next b10
      replace t6 := t6.next b10
      replace t7 := t7.next b10
      replace t8 := t8.next b10
      replace fx := fx.next b10
      replace hcg := fx.cell
      have V10 := Lib.hid v10; clear v10
      have t10 := o10.sl
      clear o10
      go_wp2_with fail
      refine (law9_is _ _ zr z10 true _ tr t10 (by omega) (by omega) (decide_eq_true (pl_inj HP.out.pos mr m10 (by rw [V10.out]))).symm).mono ?_; rintro e w11 ⟨rfl, q11⟩
      have b11 := q11.below w10.heap.size; clear q11
      replace s1 := s1.next b11
      replace s2 := s2.next b11
      replace tq := tq.next b11
      replace tr := tr.next b11
      replace t5 := t5.next b11
      replace t6 := t6.next b11
      replace t7 := t7.next b11
      replace t8 := t8.next b11
      replace t10 := t10.next b11
      replace fx := fx.next b11
      replace hcg := fx.cell
      go_wp2_with fail
      refine (ref9_Norm p _ x1 _ HP.out s1 (by omega)).mono ?_; rintro e w12 ⟨r12, z12, rfl, o12, m12, v12, l12, b12⟩
      replace s1 := s1.next b12
      replace s2 := s2.next b12
      replace tq := tq.next b12
      replace tr := tr.next b12
      replace t5 := t5.next b12
      replace t6 := t6.next b12
      replace t7 := t7.next b12
      replace t8 := t8.next b12
      replace t10 := t10.next b12
      replace fx := fx.next b12
      replace hcg := fx.cell
      have V12 := Lib.hid v12; clear v12
      have t12 := o12.sl
      clear o12
      go_wp2_with fail
      refine (ref9_Same _ _ z7 z12 true _ t7 t12 (by omega) (by omega) (decide_eq_true (pl_inj HP.out.pos m7 m12 (by rw [V7.out, V6.out, V5.out, V12.out, VD.out]))).symm).mono ?_; rintro e w13 ⟨rfl, q13⟩
      have b13 := q13.below w12.heap.size; clear q13
      replace s1 := s1.next b13
      replace s2 := s2.next b13
      replace tq := tq.next b13
      replace tr := tr.next b13
      replace t5 := t5.next b13
      replace t6 := t6.next b13
      replace t7 := t7.next b13
      replace t8 := t8.next b13
      replace t10 := t10.next b13
      replace t12 := t12.next b13
      replace fx := fx.next b13
      replace hcg := fx.cell
      go_wp2
      go_ret
      exact ⟨rfl, fx.below⟩
  · have H := Lib.hid h; clear h
    go_enter Try.func4, Try.ntmps4
    go_wp2_with fail
    refine (law9_awake w).mono ?_; rintro e w1 ⟨rfl, b1⟩
    go_wp2_with fail
    refine (law9_few v1 v2 (.slice none 0 0) x1 x2 [] 20 false _ (s1.next b1) (s2.next b1) (Sl.nil _ _) (decide_eq_false (fun h => H.out ⟨h.1, h.2.1⟩)).symm).mono ?_; rintro e w2 ⟨rfl, rfl⟩
    go_wp2_with fail
    refine (law9_awake w1).mono ?_; rintro e w2 ⟨rfl, b2⟩
    go_wp2
    go_ret
    exact ⟨rfl, b1.trans (b2.mono b1.size)⟩

set_option maxRecDepth 100000 in
theorem lifted (os : Os) (started : os.Started) (H : Type) (enc : TypeId × Value → H) :
    ReturnsInHanded {} Try.checked os 4 .any (Rows.polyDividesSpec.pre6 enc Try.prog Try.f4 Rows.polyDividesRow.domain false) (Rows.polyDividesSpec.post enc Try.prog Try.f4 false true false false) := by
  refine returnsInHanded_of_change (C := Try.checked) own started (by kernel_rfl) Try.func4
    (ChangeSpec.witness6 (enc := enc) (C := Try.checked) false ⟨#[], #[.int .u8 0, .slice none 0 0, .slice none 0 0], []⟩ 8 (by kernel_rfl) (by kernel_rfl) (by kernel_rfl) (by kernel_rfl)) ?_
  intro W base args ds gs before hval0 hW hcnd _
  have hval : ∀ (j : Nat) t v, Try.f4.params[j]? = some t → args[j]? = some v → Value.okWide Try.prog W .any base t v := hval0
  have hW' := hW
  obtain ⟨p, q, hA0, hV, rfl, hfz, hnd⟩ := hW
  have hA : DataW.TrodAll enc Try.prog W 0 (fun _ => true) true Try.f4.params.toList args.toList ds p := hA0
  rw [Try.params4] at hA hval
  obtain ⟨v0, vs0, d0, ds0, p0, q0, hargs, rfl, rfl, h0, r0⟩ := trodAll_cons hA
  obtain ⟨v1, vs1, d1, ds1, p1, q1, rfl, rfl, rfl, h1, r1⟩ := trodAll_cons r0
  obtain ⟨v2, vs2, d2, ds2, p2, q2, rfl, rfl, rfl, h2, r2⟩ := trodAll_cons r1
  obtain ⟨rfl, rfl, rfl⟩ := trodAll_nil r2
  obtain rfl : args = #[v0, v1, v2] := by cases args; simp_all
  obtain ⟨rfl, rfl⟩ := trodVars_none hV
  have k0 := h0
  have lt0 : ∀ x ∈ p0, x.block < W.heap.size := by obtain ⟨m, hm⟩ := k0; exact DataW.trod_lt m _ _ _ hm
  obtain ⟨i0, rfl, rfl, rfl, wi0⟩ := open_int Try.underlying5 (hval 0 5 v0 rfl rfl) h0
  obtain ⟨x0, rfl⟩ := Int.eq_ofNat_of_zero_le (wf_u8_bounds wi0).1
  have k1 := h1
  have lt1 : ∀ x ∈ p1, x.block < W.heap.size := by obtain ⟨m, hm⟩ := k1; exact DataW.trod_lt m _ _ _ hm
  obtain ⟨x1, s1, -⟩ := open_words Try.underlying23 Try.underlying26 (by kernel_rfl) (hval 1 23 v1 rfl rfl) h1
  have k2 := h2
  have lt2 : ∀ x ∈ p2, x.block < W.heap.size := by obtain ⟨m, hm⟩ := k2; exact DataW.trod_lt m _ _ _ hm
  obtain ⟨x2, s2, -⟩ := open_words Try.underlying23 Try.underlying26 (by kernel_rfl) (hval 2 23 v2 rfl rfl) h2
  clear hA0 hval0
  refine (walk x0 v1 x1 v2 x2 W  s1 s2).mono fun e W' ⟨he, bel⟩ => ?_
  subst he
  exact ⟨_, rfl, _, _, _, [], _, [], hW', trodAll_mk1 (shut_bool Try.underlying4 _), (trodAll_cons_mk (Below.trod laidOut (by kernel_rfl) (of_decide_eq_true (by kernel_rfl)) k0 bel lt0) (trodAll_cons_mk (Below.trod laidOut (by kernel_rfl) (of_decide_eq_true (by kernel_rfl)) k1 bel lt1) (trodAll_cons_mk (Below.trod laidOut (by kernel_rfl) (of_decide_eq_true (by kernel_rfl)) k2 bel lt2) trodAll_mk0))), rfl, bel.frame _, fun h => by cases h⟩

theorem over : Rows.polyDividesRow.holds Try.pinned (OpenSpec.ofChange Rows.polyDividesSpec) :=
  OpenClaim.holds_of_wide 4 Try.f4 rfl rfl rfl rfl rfl rfl rfl ⟨rfl, rfl, rfl, rfl, rfl⟩ rfl rfl rfl rfl rfl (by kernel_rfl) Try.func4 (by kernel_rfl)
    (of_decide_eq_true (by kernel_rfl)) (by unfold Func.isWrapper; first | (rw [if_pos (by decide +kernel)]; kernel_rfl) | (rw [if_neg (by decide +kernel)]; exact ⟨rfl, rfl⟩))
    (fun os started H enc _ => lifted os started H enc)

theorem proved : Rows.PolyDividesSaid := over
#print axioms proved
end Go.Proofs.Ytjpioijlpgmlfaa.polyDivides
