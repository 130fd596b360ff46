/- For every number and two lists the law PolyXgcd returns true, whatever they are. -/
import Derived.Test.YtjpioijlpgmlfaaRows
import Derived.Test.YtjpioijlpgmlfaaOpen
import Derived.Test.YtjpioijlpgmlfaaFxg2
namespace Go.Proofs.Ytjpioijlpgmlfaa.polyXgcd
open Go.ChangeShapes Go.WideShapes Go.ChangeAt Go.RowKit
open Go.ChangeMaps (open_string shut_string)

theorem own : ownKnob Try.prog.godebug = none := by kernel_rfl
theorem laidOut : laidOutB Try.prog = true := by kernel_rfl

set_option maxHeartbeats 4000000 in
theorem walk (x0 : Nat) (v1 : Value) (x1 : List Nat) (v2 : Value) (x2 : List Nat) (w : World) (s1 : Sl .u64 w v1 x1) (s2 : Sl .u64 w v2 x2) :
    Calls Try.prog 8 #[.int .u8 x0, v1, v2] w (LawOk w) := by
  obtain ⟨p, ep⟩ : ∃ p, p = Ps (x0 % 12) := ⟨_, rfl⟩
  have hp : FP p := by rw [ep]; exact Ps_FP (by omega)
  have ht : Trial p := by rw [ep]; exact Ps_trial (by omega)
  have cOf : ∀ w : World, Calls Try.prog 12 #[.int .u8 x0] w fun e w' => e = .returned (.agg #[.int .u64 (p : Nat)]) ∧ Below w.heap.size w w' := fun w => by rw [ep]; exact law9_Of x0 w
  have cP : ∀ w : World, Calls Try.prog 17 #[.int .u8 x0] w fun e w' => e = .returned (.int .u64 (p : Nat)) ∧ w = w' := fun w => by rw [ep]; exact ref8_P x0 w
  have hp2 := hp.1
  have hp3 := hp.2
  have HP := Lib.hid hp; have HT := Lib.hid ht; have COF := Lib.hid cOf; have CP := Lib.hid cP
  clear hp ht cOf cP ep
  by_cases h : (x1.length : Int) ≤ 12 ∧ (x2.length : Int) ≤ 12
  · obtain ⟨h1, h2⟩ := h
    go_enter Try.func8, Try.ntmps8
    have B : Below w.heap.size w w := Below.refl _ _
    go_wp2_with fail
    refine (law9_awake _).mono ?_; rintro e w1 ⟨rfl, b1⟩
    replace s1 := s1.next b1
    replace s2 := s2.next b1
    replace B := B.trans (b1.mono B.size)
    go_wp2_with fail
    refine (law9_few v1 v2 (.slice none 0 0) x1 x2 [] 12 true _ s1 s2 (Sl.nil _ _) (decide_eq_true ⟨h1, h2, by simp⟩).symm).mono ?_; rintro e wx ⟨rfl, rfl⟩
    go_wp2_with fail
    refine (COF.out _).mono ?_; rintro e w2 ⟨rfl, b2⟩
    replace s1 := s1.next b2
    replace s2 := s2.next b2
    replace B := B.trans (b2.mono B.size)
    go_wp2_with fail
    refine (CP.out _).mono ?_; rintro e wx ⟨rfl, rfl⟩
    go_upto_region 4 with (fail)
    have fx : Fx p w (w2.alloc (.cells #[.int .u64 p] 28)) w2.heap.size := Fx.box B
    have bb := (Below.refl w2.heap.size w2).alloc (Nat.le_refl _) (.cells #[.int .u64 p] 28)
    replace s1 := s1.next bb
    replace s2 := s2.next bb
    generalize w2.alloc (.cells #[.int .u64 p] 28) = w3 at *
    obtain ⟨g, eg⟩ : ∃ g, g = w2.heap.size := ⟨_, rfl⟩
    rw [← eg] at fx ⊢
    clear eg bb B
    have hcg := fx.cell
    go_wp2_with fail
    refine (fp_Xgcd p _ _ x1 x2 _ HP.out HT.out s1 s2 (by omega) (by omega)).mono ?_; rintro e w4 ⟨rg, rs, rt, zg, zs, zt, rfl, sg, ss, st, mg, ms, mt, hg, hc, hn0, hn1, lg, ls, lt, b4⟩
    replace s1 := s1.next b4
    replace s2 := s2.next b4
    replace fx := fx.next b4
    replace hcg := fx.cell
    have HG := Lib.hid hg; have HC := Lib.hid hc; have HN0 := Lib.hid hn0; have HN1 := Lib.hid hn1
    clear hg hc hn0 hn1
    obtain ⟨ao, b0, oo, co, rfl, -, -⟩ := id ss
    obtain ⟨a1, b1', o1, c1, rfl, -, -⟩ := id st
    go_wp2_with fail
    refine (ref9_Norm p _ x1 _ HP.out s1 (by omega)).mono ?_; rintro e w5 ⟨r5, z5, rfl, o5, m5, v5, l5, b5⟩
    replace s1 := s1.next b5
    replace s2 := s2.next b5
    replace sg := sg.next b5
    replace ss := ss.next b5
    replace st := st.next b5
    replace fx := fx.next b5
    replace hcg := fx.cell
    have V5 := Lib.hid v5; clear v5
    have t5 := o5.sl
    clear o5
    go_wp2_with fail
    refine (ref9_Mul p _ _ zs z5 _ HP.out ss t5 (by omega) (by omega)).mono ?_; rintro e w6 ⟨r6, z6, rfl, o6, m6, v6, l6, b6⟩
    replace s1 := s1.next b6
    replace s2 := s2.next b6
    replace sg := sg.next b6
    replace ss := ss.next b6
    replace st := st.next b6
    replace t5 := t5.next b6
    replace fx := fx.next b6
    replace hcg := fx.cell
    have V6 := Lib.hid v6; clear v6
    have t6 := o6.sl
    clear o6
    go_wp2_with fail
    refine (ref9_Norm p _ x2 _ HP.out s2 (by omega)).mono ?_; rintro e w7 ⟨r7, z7, rfl, o7, m7, v7, l7, b7⟩
    replace s1 := s1.next b7
    replace s2 := s2.next b7
    replace sg := sg.next b7
    replace ss := ss.next b7
    replace st := st.next b7
    replace t5 := t5.next b7
    replace t6 := t6.next b7
    replace fx := fx.next b7
    replace hcg := fx.cell
    have V7 := Lib.hid v7; clear v7
    have t7 := o7.sl
    clear o7
    go_wp2_with fail
    refine (ref9_Mul p _ _ zt z7 _ HP.out st t7 (by omega) (by omega)).mono ?_; rintro e w8 ⟨r8, z8, rfl, o8, m8, v8, l8, b8⟩
    replace s1 := s1.next b8
    replace s2 := s2.next b8
    replace sg := sg.next b8
    replace ss := ss.next b8
    replace st := st.next b8
    replace t5 := t5.next b8
    replace t6 := t6.next b8
    replace t7 := t7.next b8
    replace fx := fx.next b8
    replace hcg := fx.cell
    have V8 := Lib.hid v8; clear v8
    have t8 := o8.sl
    clear o8
    go_wp2_with fail
    refine (ref9_Add p _ _ z6 z8 _ HP.out t6 t8 (by omega) (by omega)).mono ?_; rintro e w9 ⟨r9, z9, rfl, o9, m9, v9, l9, b9⟩
    replace s1 := s1.next b9
    replace s2 := s2.next b9
    replace sg := sg.next b9
    replace ss := ss.next b9
    replace st := st.next b9
    replace t5 := t5.next b9
    replace t6 := t6.next b9
    replace t7 := t7.next b9
    replace t8 := t8.next b9
    replace fx := fx.next b9
    replace hcg := fx.cell
    have V9 := Lib.hid v9; clear v9
    have t9 := o9.sl
    clear o9
    go_wp2_with fail
    refine (law9_is _ _ zg z9 true _ sg t9 (by omega) (by omega) (decide_eq_true (pl_inj HP.out.pos mg m9 (by rw [V9.out, V6.out, V8.out, V5.out, V7.out]; exact HC.out))).symm).mono ?_; rintro e w10 ⟨rfl, q10⟩
    have b10 := q10.below w9.heap.size; clear q10
    replace s1 := s1.next b10
    replace s2 := s2.next b10
    replace sg := sg.next b10
    replace ss := ss.next b10
    replace st := st.next b10
    replace t5 := t5.next b10
    replace t6 := t6.next b10
    replace t7 := t7.next b10
    replace t8 := t8.next b10
    replace t9 := t9.next b10
    replace fx := fx.next b10
    replace hcg := fx.cell
    go_wp2_with fail
    refine (ref9_Monic _ zg true _ sg (by omega) (decide_eq_true ((nrm_mo HT.out mg).1 HG.out.1)).symm).mono ?_; rintro e wx ⟨rfl, rfl⟩
    go_wp2_with fail
    refine (fp_Gcd p _ _ x1 x2 _ HP.out HT.out s1 s2 (by omega) (by omega)).mono ?_; rintro e w11 ⟨r11, z11, rfl, o11, m11, gg11, l11, b11⟩
    replace s1 := s1.next b11
    replace s2 := s2.next b11
    replace sg := sg.next b11
    replace ss := ss.next b11
    replace st := st.next b11
    replace t5 := t5.next b11
    replace t6 := t6.next b11
    replace t7 := t7.next b11
    replace t8 := t8.next b11
    replace t9 := t9.next b11
    replace fx := fx.next b11
    replace hcg := fx.cell
    have GG := Lib.hid gg11; clear gg11; have t11 := o11.sl; clear o11
    go_wp2_with fail
    refine (law9_is _ _ z11 zg true _ t11 sg (by omega) (by omega) (decide_eq_true (pl_inj HP.out.pos m11 mg (GG.out.unique HT.out HG.out))).symm).mono ?_; rintro e w12 ⟨rfl, q12⟩
    have b12 := q12.below w11.heap.size; clear q12
    replace s1 := s1.next b12
    replace s2 := s2.next b12
    replace sg := sg.next b12
    replace ss := ss.next b12
    replace st := st.next b12
    replace t5 := t5.next b12
    replace t6 := t6.next b12
    replace t7 := t7.next b12
    replace t8 := t8.next b12
    replace t9 := t9.next b12
    replace t11 := t11.next b12
    replace fx := fx.next b12
    replace hcg := fx.cell
    go_wp2_with fail
    refine (law9_divides p _ _ zg x1 true _ HP.out HT.out sg s1 (by omega) (by omega) ⟨fun _ => HG.out.2.1, fun _ => rfl⟩).mono ?_; rintro e w13 ⟨rfl, b13⟩
    replace s1 := s1.next b13
    replace s2 := s2.next b13
    replace sg := sg.next b13
    replace ss := ss.next b13
    replace st := st.next b13
    replace t5 := t5.next b13
    replace t6 := t6.next b13
    replace t7 := t7.next b13
    replace t8 := t8.next b13
    replace t9 := t9.next b13
    replace t11 := t11.next b13
    replace fx := fx.next b13
    replace hcg := fx.cell
    go_wp2_with fail
    refine (law9_divides p _ _ zg x2 true _ HP.out HT.out sg s2 (by omega) (by omega) ⟨fun _ => HG.out.2.2.1, fun _ => rfl⟩).mono ?_; rintro e w14 ⟨rfl, b14⟩
    replace s1 := s1.next b14
    replace s2 := s2.next b14
    replace sg := sg.next b14
    replace ss := ss.next b14
    replace st := st.next b14
    replace t5 := t5.next b14
    replace t6 := t6.next b14
    replace t7 := t7.next b14
    replace t8 := t8.next b14
    replace t9 := t9.next b14
    replace t11 := t11.next b14
    replace fx := fx.next b14
    replace hcg := fx.cell
    obtain ⟨Z, eZ⟩ : ∃ Z, Z = nl p x2 := ⟨_, rfl⟩
    have EZ := Lib.hid eZ; clear eZ
    go_wp2_with fail
    refine (fp_Degree p _ x2 Z _ HP.out s2 (by omega) EZ.out).mono ?_; rintro e w15 ⟨rfl, b15⟩
    replace s1 := s1.next b15
    replace s2 := s2.next b15
    replace sg := sg.next b15
    replace ss := ss.next b15
    replace st := st.next b15
    replace t5 := t5.next b15
    replace t6 := t6.next b15
    replace t7 := t7.next b15
    replace t8 := t8.next b15
    replace t9 := t9.next b15
    replace t11 := t11.next b15
    replace fx := fx.next b15
    replace hcg := fx.cell
    by_cases hz : Z.length = 0
    · obtain rfl : Z = [] := List.length_eq_zero_iff.mp hz
      have h0 := HN0.out EZ.out.symm
      obtain ⟨rfl, hs1⟩ := h0
      have hs2 : decide ((zs.length : Int) ≤ 1) = true := decide_eq_true (by omega)
      clear hz
      go_wp2
      go_ret
      exact ⟨rfl, fx.below⟩
    · have hz1 : ¬ (Z.length : Int) - 1 < 0 := by omega
      have hz2 : decide ((Z.length : Int) - 1 < 0) = false := decide_eq_false hz1
      have hne : nl p x2 ≠ [] := fun h => hz (by rw [EZ.out, h]; rfl)
      have hgne : pl p zg ≠ 0 := fun h => by
        have := (gcd_nil (h ▸ HG.out)).2
        exact hne ((nl_nil HP.out.pos).2 this)
      have hgn : nl p zg ≠ [] := fun h => hgne ((nl_nil HP.out.pos).1 h)
      go_wp2_with fail
      refine (fp_DivMod p _ _ x2 zg _ HP.out HT.out s2 sg (by omega) (by omega) hgn).mono ?_; rintro e w16 ⟨rq, rr, zq, zr, rfl, oq, or, mq, mr, vd, ld, lq, lr, b16⟩
      replace s1 := s1.next b16
      replace s2 := s2.next b16
      replace sg := sg.next b16
      replace ss := ss.next b16
      replace st := st.next b16
      replace t5 := t5.next b16
      replace t6 := t6.next b16
      replace t7 := t7.next b16
      replace t8 := t8.next b16
      replace t9 := t9.next b16
      replace t11 := t11.next b16
      replace fx := fx.next b16
      replace hcg := fx.cell
      have hlt : zs.length < zq.length := by
        obtain ⟨zp, mp, hp, hl⟩ := HN1.out hne
        obtain ⟨ng, hng⟩ := (nrm_ln HP.out.pos mg).pos hgne
        have lnG : Ln (pl p zg) (ng + 1) := by rw [← hng]; exact nrm_ln HP.out.pos mg
        rw [nl_of HP.out.pos mg] at ld
        have h0 := (dv_rem HT.out lnG (dlt_mono (pl_dlt p zr) (by omega)) vd).1 HG.out.2.2.1
        rw [h0, CR.add_zero, hp] at vd
        have h1 : pl p zp = pl p zq := mul_cancel HT.out hgne (by rw [CR.mul_comm (pl p zg), vd, CR.mul_comm])
        rw [← pl_inj HP.out.pos mp mq h1]; exact hl
      have hd : decide ((zs.length : Int) < (zq.length : Int)) = true := decide_eq_true (by omega)
      obtain ⟨a2, b2', o2, c2, rfl, -, -⟩ := oq.sl
      clear vd ld hz1 hz2 hne hgne hgn
      go_wp2
      go_ret
      exact ⟨rfl, fx.below⟩
  · have H := Lib.hid h; clear h
    go_enter Try.func8, Try.ntmps8
    go_wp2_with fail
    refine (law9_awake w).mono ?_; rintro e w1 ⟨rfl, b1⟩
    go_wp2_with fail
    refine (law9_few v1 v2 (.slice none 0 0) x1 x2 [] 12 false _ (s1.next b1) (s2.next b1) (Sl.nil _ _) (decide_eq_false (fun h => H.out ⟨h.1, h.2.1⟩)).symm).mono ?_; rintro e w2 ⟨rfl, rfl⟩
    go_wp2_with fail
    refine (law9_awake w1).mono ?_; rintro e w2 ⟨rfl, b2⟩
    go_wp2
    go_ret
    exact ⟨rfl, b1.trans (b2.mono b1.size)⟩

set_option maxRecDepth 100000 in
theorem lifted (os : Os) (started : os.Started) (H : Type) (enc : TypeId × Value → H) :
    ReturnsInHanded {} Try.checked os 8 .any (Rows.polyXgcdSpec.pre6 enc Try.prog Try.f8 Rows.polyXgcdRow.domain false) (Rows.polyXgcdSpec.post enc Try.prog Try.f8 false true false false) := by
  refine returnsInHanded_of_change (C := Try.checked) own started (by kernel_rfl) Try.func8
    (ChangeSpec.witness6 (enc := enc) (C := Try.checked) false ⟨#[], #[.int .u8 0, .slice none 0 0, .slice none 0 0], []⟩ 8 (by kernel_rfl) (by kernel_rfl) (by kernel_rfl) (by kernel_rfl)) ?_
  intro W base args ds gs before hval0 hW hcnd _
  have hval : ∀ (j : Nat) t v, Try.f8.params[j]? = some t → args[j]? = some v → Value.okWide Try.prog W .any base t v := hval0
  have hW' := hW
  obtain ⟨p, q, hA0, hV, rfl, hfz, hnd⟩ := hW
  have hA : DataW.TrodAll enc Try.prog W 0 (fun _ => true) true Try.f8.params.toList args.toList ds p := hA0
  rw [Try.params8] at hA hval
  obtain ⟨v0, vs0, d0, ds0, p0, q0, hargs, rfl, rfl, h0, r0⟩ := trodAll_cons hA
  obtain ⟨v1, vs1, d1, ds1, p1, q1, rfl, rfl, rfl, h1, r1⟩ := trodAll_cons r0
  obtain ⟨v2, vs2, d2, ds2, p2, q2, rfl, rfl, rfl, h2, r2⟩ := trodAll_cons r1
  obtain ⟨rfl, rfl, rfl⟩ := trodAll_nil r2
  obtain rfl : args = #[v0, v1, v2] := by cases args; simp_all
  obtain ⟨rfl, rfl⟩ := trodVars_none hV
  have k0 := h0
  have lt0 : ∀ x ∈ p0, x.block < W.heap.size := by obtain ⟨m, hm⟩ := k0; exact DataW.trod_lt m _ _ _ hm
  obtain ⟨i0, rfl, rfl, rfl, wi0⟩ := open_int Try.underlying5 (hval 0 5 v0 rfl rfl) h0
  obtain ⟨x0, rfl⟩ := Int.eq_ofNat_of_zero_le (wf_u8_bounds wi0).1
  have k1 := h1
  have lt1 : ∀ x ∈ p1, x.block < W.heap.size := by obtain ⟨m, hm⟩ := k1; exact DataW.trod_lt m _ _ _ hm
  obtain ⟨x1, s1, -⟩ := open_words Try.underlying23 Try.underlying26 (by kernel_rfl) (hval 1 23 v1 rfl rfl) h1
  have k2 := h2
  have lt2 : ∀ x ∈ p2, x.block < W.heap.size := by obtain ⟨m, hm⟩ := k2; exact DataW.trod_lt m _ _ _ hm
  obtain ⟨x2, s2, -⟩ := open_words Try.underlying23 Try.underlying26 (by kernel_rfl) (hval 2 23 v2 rfl rfl) h2
  clear hA0 hval0
  refine (walk x0 v1 x1 v2 x2 W  s1 s2).mono fun e W' ⟨he, bel⟩ => ?_
  subst he
  exact ⟨_, rfl, _, _, _, [], _, [], hW', trodAll_mk1 (shut_bool Try.underlying4 _), (trodAll_cons_mk (Below.trod laidOut (by kernel_rfl) (of_decide_eq_true (by kernel_rfl)) k0 bel lt0) (trodAll_cons_mk (Below.trod laidOut (by kernel_rfl) (of_decide_eq_true (by kernel_rfl)) k1 bel lt1) (trodAll_cons_mk (Below.trod laidOut (by kernel_rfl) (of_decide_eq_true (by kernel_rfl)) k2 bel lt2) trodAll_mk0))), rfl, bel.frame _, fun h => by cases h⟩

theorem over : Rows.polyXgcdRow.holds Try.pinned (OpenSpec.ofChange Rows.polyXgcdSpec) :=
  OpenClaim.holds_of_wide 8 Try.f8 rfl rfl rfl rfl rfl rfl rfl ⟨rfl, rfl, rfl, rfl, rfl⟩ rfl rfl rfl rfl rfl (by kernel_rfl) Try.func8 (by kernel_rfl)
    (of_decide_eq_true (by kernel_rfl)) (by unfold Func.isWrapper; first | (rw [if_pos (by decide +kernel)]; kernel_rfl) | (rw [if_neg (by decide +kernel)]; exact ⟨rfl, rfl⟩))
    (fun os started H enc _ => lifted os started H enc)

theorem proved : Rows.PolyXgcdSaid := over
#print axioms proved
end Go.Proofs.Ytjpioijlpgmlfaa.polyXgcd
