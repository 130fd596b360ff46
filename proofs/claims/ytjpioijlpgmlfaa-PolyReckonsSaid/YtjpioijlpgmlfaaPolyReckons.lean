/- For every number and two lists the law PolyReckons returns true, whatever they are. -/
import Derived.Test.YtjpioijlpgmlfaaRows
import Derived.Test.YtjpioijlpgmlfaaOpen
import Derived.Test.YtjpioijlpgmlfaaFref2
namespace Go.Proofs.Ytjpioijlpgmlfaa.polyReckons
open Go.ChangeShapes Go.WideShapes Go.ChangeAt Go.RowKit
open Go.ChangeMaps (open_string shut_string)

theorem own : ownKnob Try.prog.godebug = none := by kernel_rfl
theorem laidOut : laidOutB Try.prog = true := by kernel_rfl

theorem pl_one (p x : Nat) : pl p [x] = mon (Zp.of p x) 0 := by
  have := pl_snoc p [] x
  rwa [List.nil_append, pl_nil, CR.zero_add] at this

theorem evl_tr (p : Nat) (x : Zp p) (xs : List Nat) : evl p x (tr xs) = evl p x xs := by
  induction xs with
  | nil => rfl
  | cons a bs ih =>
    rw [tr_cons]
    split
    · rename_i h
      show (0 : Zp p) = Zp.of p a + evl p x bs * x
      rw [← ih, h.1, h.2, evl, Zp.of_zero, CR.zero_mul, CR.zero_add]
    · rw [evl, evl, ih]

theorem evl_nl (p : Nat) (x : Zp p) (xs : List Nat) : evl p x (nl p xs) = evl p x xs := by
  unfold nl
  rw [evl_tr]
  induction xs with
  | nil => rfl
  | cons a bs ih => rw [List.map_cons, evl, evl, ih, Zp.of_mod]

set_option maxHeartbeats 4000000 in
theorem walk (x0 : Nat) (v1 : Value) (x1 : List Nat) (v2 : Value) (x2 : List Nat) (w : World) (s1 : Sl .u64 w v1 x1) (s2 : Sl .u64 w v2 x2) :
    Calls Try.prog 5 #[.int .u8 x0, v1, v2] w (LawOk w) := by
  obtain ⟨p, ep⟩ : ∃ p, p = Ps (x0 % 12) := ⟨_, rfl⟩
  have hp : FP p := by rw [ep]; exact Ps_FP (by omega)
  have ht : Trial p := by rw [ep]; exact Ps_trial (by omega)
  have cOf : ∀ w : World, Calls Try.prog 12 #[.int .u8 x0] w fun e w' => e = .returned (.agg #[.int .u64 (p : Nat)]) ∧ Below w.heap.size w w' := fun w => by rw [ep]; exact law9_Of x0 w
  have cP : ∀ w : World, Calls Try.prog 17 #[.int .u8 x0] w fun e w' => e = .returned (.int .u64 (p : Nat)) ∧ w = w' := fun w => by rw [ep]; exact ref8_P x0 w
  have hp2 := hp.1
  have hp3 := hp.2
  have HP := Lib.hid hp; have HT := Lib.hid ht; have COF := Lib.hid cOf; have CP := Lib.hid cP
  clear hp ht cOf cP ep
  by_cases h : (x1.length : Int) ≤ 20 ∧ (x2.length : Int) ≤ 20
  · obtain ⟨h1, h2⟩ := h
    by_cases hb0 : 0 < x2.length
    · obtain ⟨c, ec⟩ : ∃ c, c = x2.getD 0 0 := ⟨_, rfl⟩
      obtain ⟨cm, ecm⟩ : ∃ cm, cm = c % p := ⟨_, rfl⟩
      obtain ⟨z, ez⟩ : ∃ z, z = (evl p (Zp.of p c) x1).val := ⟨_, rfl⟩
      have hcm : (c : Int).tmod (p : Int) = (cm : Int) := by rw [ecm]; rfl
      have CM := Lib.hid (show pl p [cm] = mon (Zp.of p c) 0 by rw [pl_one, ecm, Zp.of_mod])
      have EZ := Lib.hid ez
      have hz : ((p : Int) == 0) = false := by simpa using (show p ≠ 0 by omega)
      have hz1 : ¬ p = 0 := by omega
      have hz2 : ¬ (p : Int) = 0 := by omega
      clear ecm ez
      go_enter Try.func5, Try.ntmps5
      have B : Below w.heap.size w w := Below.refl _ _
      go_wp2_with fail
      refine (law9_awake _).mono ?_; rintro e w1 ⟨rfl, b1⟩
      replace s1 := s1.next b1
      replace s2 := s2.next b1
      replace B := B.trans (b1.mono B.size)
      go_wp2_with fail
      refine (law9_few v1 v2 (.slice none 0 0) x1 x2 [] 20 true _ s1 s2 (Sl.nil _ _) (decide_eq_true ⟨h1, h2, by simp⟩).symm).mono ?_; rintro e wx ⟨rfl, rfl⟩
      go_wp2_with fail
      refine (COF.out _).mono ?_; rintro e w2 ⟨rfl, b2⟩
      replace s1 := s1.next b2
      replace s2 := s2.next b2
      replace B := B.trans (b2.mono B.size)
      go_wp2_with fail
      refine (CP.out _).mono ?_; rintro e wx ⟨rfl, rfl⟩
      go_wp2_with fail
      have fx : Fx p w (w2.alloc (.cells #[.int .u64 p] 28)) w2.heap.size := Fx.box B
      have bb := (Below.refl w2.heap.size w2).alloc (Nat.le_refl _) (.cells #[.int .u64 p] 28)
      replace s1 := s1.next bb
      replace s2 := s2.next bb
      generalize w2.alloc (.cells #[.int .u64 p] 28) = w3 at *
      obtain ⟨g, eg⟩ : ∃ g, g = w2.heap.size := ⟨_, rfl⟩
      rw [← eg] at fx ⊢
      clear eg bb B
      have hcg := fx.cell
      go_wp2_with fail
      refine (ref9_Norm p _ x1 _ HP.out s1 (by omega)).mono ?_; rintro e w4 ⟨r4, z4, rfl, o4, m4, v4, l4, b4⟩
      replace s1 := s1.next b4
      replace s2 := s2.next b4
      replace fx := fx.next b4
      replace hcg := fx.cell
      have V4 := Lib.hid v4; clear v4
      have t4 := o4.sl
      clear o4
      go_wp2_with fail
      refine (ref9_Norm p _ x2 _ HP.out s2 (by omega)).mono ?_; rintro e w5 ⟨r5, z5, rfl, o5, m5, v5, l5, b5⟩
      replace s1 := s1.next b5
      replace s2 := s2.next b5
      replace t4 := t4.next b5
      replace fx := fx.next b5
      replace hcg := fx.cell
      have V5 := Lib.hid v5; clear v5
      have t5 := o5.sl
      clear o5
      have EX := Lib.hid (nl_is HP.out.pos m4 V4.out)
      have EY := Lib.hid (nl_is HP.out.pos m5 V5.out)
      obtain ⟨ao, bo, oo, co, rfl, -, -⟩ := id t4
      obtain ⟨β, hβ⟩ : ∃ β, β = decide (z4 = z5) := ⟨_, rfl⟩
      have HB := Lib.hid hβ; clear hβ
      obtain ⟨bo2, bb2, ob2, cb2, rfl, lb2, kb2⟩ := id s2
      have hcb := kb2.cell 0 hb0
      obtain rfl := kb2.ao (by intro h; subst h; simp at hb0)
      rw [← ec, Nat.add_zero] at hcb
      clear ec
      have csc : ∀ w' : World, Sl .u64 w' v1 x1 → Calls Try.prog 28 #[.agg #[.int .u64 p], v1, .int .u64 (c : Int)] w' (RetP p w' x1.length (pl p x1 * mon (Zp.of p c) 0)) := fun w' h => fp_Scale p c v1 x1 w' HP.out h (by omega)
      have cev : ∀ w' : World, Sl .u64 w' v1 x1 → Calls Try.prog 29 #[.agg #[.int .u64 p], v1, .int .u64 (c : Int)] w' (fun e w'' => e = .returned (.int .u64 z) ∧ Below w'.heap.size w' w'') := fun w' h => fp_Eval p c z v1 x1 w' HP.out h (by omega) EZ.out
      have crv : ∀ (w' : World) (v' : Value), Sl .u64 w' v' z4 → Calls Try.prog 30 #[v', .int .u64 (c : Int), .int .u64 p] w' (fun e w'' => e = .returned (.int .u64 z) ∧ Drawn w' w'') := fun w' v' h => ref9_Eval p c z v' z4 w' HP.out h (by omega) (by rw [EX.out, evl_nl]; exact EZ.out)
      have CSC := Lib.hid csc; have CEV := Lib.hid cev; have CRV := Lib.hid crv
      clear csc cev crv
      go_wp2_with fail
      refine (fp_Norm p _ x1 _ HP.out s1 (by omega)).mono ?_; rintro e w6 ⟨r6, z6, rfl, o6, m6, v6, l6, b6⟩
      replace s1 := s1.next b6
      replace s2 := s2.next b6
      replace t4 := t4.next b6
      replace t5 := t5.next b6
      replace fx := fx.next b6
      replace hcg := fx.cell
      have V6 := Lib.hid v6; clear v6
      have t6 := o6.sl
      clear o6
      clear hcb
      go_wp2_with fail
      refine (law9_is _ _ z6 z4 true _ t6 t4 (by omega) (by omega) (decide_eq_true (pl_inj HP.out.pos m6 m4 (by rw [V6.out, V4.out]))).symm).mono ?_; rintro e w7 ⟨rfl, q7⟩
      have b7 := q7.below w6.heap.size; clear q7
      replace s1 := s1.next b7
      replace s2 := s2.next b7
      replace t4 := t4.next b7
      replace t5 := t5.next b7
      replace t6 := t6.next b7
      replace fx := fx.next b7
      replace hcg := fx.cell
      go_wp2_with fail
      refine (fp_Degree p _ x1 z4 _ HP.out s1 (by omega) (EX.out)).mono ?_; rintro e w8 ⟨rfl, b8⟩
      replace s1 := s1.next b8
      replace s2 := s2.next b8
      replace t4 := t4.next b8
      replace t5 := t5.next b8
      replace t6 := t6.next b8
      replace fx := fx.next b8
      replace hcg := fx.cell
      go_wp2_with fail
      refine (fp_Same p _ _ x1 x2 β _ HP.out s1 s2 (by omega) (by omega) (by rw [← EX.out, ← EY.out]; exact HB.out)).mono ?_; rintro e w9 ⟨rfl, b9⟩
      replace s1 := s1.next b9
      replace s2 := s2.next b9
      replace t4 := t4.next b9
      replace t5 := t5.next b9
      replace t6 := t6.next b9
      replace fx := fx.next b9
      replace hcg := fx.cell
      go_wp2_with fail
      refine (ref9_Same _ _ z4 z5 β _ t4 t5 (by omega) (by omega) HB.out).mono ?_; rintro e w10 ⟨rfl, q10⟩
      have b10 := q10.below w9.heap.size; clear q10
      replace s1 := s1.next b10
      replace s2 := s2.next b10
      replace t4 := t4.next b10
      replace t5 := t5.next b10
      replace t6 := t6.next b10
      replace fx := fx.next b10
      replace hcg := fx.cell
      go_wp2_with fail
      refine (fp_Add p _ _ x1 x2 _ HP.out s1 s2 (by omega) (by omega)).mono ?_; rintro e w11 ⟨r11, z11, rfl, o11, m11, v11, l11, b11⟩
      replace s1 := s1.next b11
      replace s2 := s2.next b11
      replace t4 := t4.next b11
      replace t5 := t5.next b11
      replace t6 := t6.next b11
      replace fx := fx.next b11
      replace hcg := fx.cell
      have V11 := Lib.hid v11; clear v11
      have t11 := o11.sl
      clear o11
      go_wp2_with fail
      refine (ref9_Add p _ _ z4 z5 _ HP.out t4 t5 (by omega) (by omega)).mono ?_; rintro e w12 ⟨r12, z12, rfl, o12, m12, v12, l12, b12⟩
      replace s1 := s1.next b12
      replace s2 := s2.next b12
      replace t4 := t4.next b12
      replace t5 := t5.next b12
      replace t6 := t6.next b12
      replace t11 := t11.next b12
      replace fx := fx.next b12
      replace hcg := fx.cell
      have V12 := Lib.hid v12; clear v12
      have t12 := o12.sl
      clear o12
      go_wp2_with fail
      refine (law9_is _ _ z11 z12 true _ t11 t12 (by omega) (by omega) (decide_eq_true (pl_inj HP.out.pos m11 m12 (by rw [V11.out, V12.out, V4.out, V5.out]))).symm).mono ?_; rintro e w13 ⟨rfl, q13⟩
      have b13 := q13.below w12.heap.size; clear q13
      replace s1 := s1.next b13
      replace s2 := s2.next b13
      replace t4 := t4.next b13
      replace t5 := t5.next b13
      replace t6 := t6.next b13
      replace t11 := t11.next b13
      replace t12 := t12.next b13
      replace fx := fx.next b13
      replace hcg := fx.cell
      go_upto_region 10 with (fail)
      clear hcg
      replace s1 := s1.drew
      replace s2 := s2.drew
      replace t4 := t4.drew
      replace t5 := t5.drew
      replace t6 := t6.drew
      replace t11 := t11.drew
      replace t12 := t12.drew
      replace fx := fx.drew
      refine startL (S := (fun w' => Below ((w13).drew).heap.size ((w13).drew) w')) (by kernel_rfl) (Below.refl _ _) (fun hHeld => ?_)
      refine takeL 0 (v := ?_) rfl (by kernel_rfl) (by kernel_rfl) (by kernel_rfl) (fun _ _ _ h => h) ⟨by rfl, ?_⟩ (by assumption) ?_
      rotate_left
      · intro w hS; have f1 := fx.at hS; go_simp <;> with_reducible rfl
      simp only [Act.put, List.setIfInBounds_toArray, List.set_cons_zero, List.set_cons_succ]
      refine takeL 1 (v := ?_) rfl (by kernel_rfl) (by kernel_rfl) (by kernel_rfl) (fun _ _ _ h => h) ⟨by rfl, ?_⟩ (by assumption) ?_
      rotate_left
      · intro w hS; go_simp <;> with_reducible rfl
      simp only [Act.put, List.setIfInBounds_toArray, List.set_cons_zero, List.set_cons_succ]
      refine takeL 2 (v := ?_) rfl (by kernel_rfl) (by kernel_rfl) (by kernel_rfl) (fun _ _ _ h => h) ⟨by rfl, ?_⟩ (by assumption) ?_
      rotate_left
      · intro w hS; go_simp <;> with_reducible rfl
      simp only [Act.put, List.setIfInBounds_toArray, List.set_cons_zero, List.set_cons_succ]
      refine takeL 4 (v := ?_) rfl (by kernel_rfl) (by kernel_rfl) (by kernel_rfl) (fun _ _ _ h => h) ⟨by rfl, ?_⟩ (by assumption) ?_
      rotate_left
      · intro w hS; go_simp <;> with_reducible rfl
      simp only [Act.put, List.setIfInBounds_toArray, List.set_cons_zero, List.set_cons_succ]
      refine takeL 5 (v := ?_) rfl (by kernel_rfl) (by kernel_rfl) (by kernel_rfl) (fun _ _ _ h => h) ⟨by rfl, ?_⟩ (by assumption) ?_
      rotate_left
      · intro w hS; go_simp <;> with_reducible rfl
      simp only [Act.put, List.setIfInBounds_toArray, List.set_cons_zero, List.set_cons_succ]
      refine takeL 6 (v := ?_) rfl (by kernel_rfl) (by kernel_rfl) (by kernel_rfl) (fun _ _ _ h => h) ⟨by rfl, ?_⟩ (by assumption) ?_
      rotate_left
      · intro w hS; go_simp <;> with_reducible rfl
      simp only [Act.put, List.setIfInBounds_toArray, List.set_cons_zero, List.set_cons_succ]
      refine takeL 8 (v := ?_) rfl (by kernel_rfl) (by kernel_rfl) (by kernel_rfl) (fun _ _ _ h => h) ⟨by rfl, ?_⟩ (by assumption) ?_
      rotate_left
      · intro w hS; go_simp <;> with_reducible rfl
      simp only [Act.put, List.setIfInBounds_toArray, List.set_cons_zero, List.set_cons_succ]
      refine oneL 3 rfl (by kernel_rfl) (by rfl) (fun K hK => ?_)
      go_simp
      go_at_call 26
      (with_reducible refine (fp_Sub p _ _ x1 x2 _ HP.out (s1.next hHeld) (s2.next hHeld) (by omega) (by omega)).mono ?_); rintro e w14 ⟨r14, z14, rfl, o14, m14, v14, l14, b14⟩
      have V14 := Lib.hid v14; clear v14; have t14 := o14.sl; clear o14
      refine hK.out _ _ (hHeld.trans (b14.mono hHeld.size)) (fun hHeld => ?_)
      clear hK K
      try simp only [Act.put, List.setIfInBounds_toArray, List.set_cons_zero, List.set_cons_succ]
      refine oneL 7 rfl (by kernel_rfl) (by rfl) (fun K hK => ?_)
      go_simp
      go_at_call 27
      (with_reducible refine (ref9_Neg p _ z5 _ HP.out (t5.next hHeld) (by omega)).mono ?_); rintro e w15 ⟨r15, z15, rfl, o15, m15, v15, l15, b15⟩
      have V15 := Lib.hid v15; clear v15; have t15 := o15.sl; clear o15; replace t14 := t14.next b15
      refine hK.out _ _ (hHeld.trans (b15.mono hHeld.size)) (fun hHeld => ?_)
      clear hK K
      try simp only [Act.put, List.setIfInBounds_toArray, List.set_cons_zero, List.set_cons_succ]
      refine oneL 9 rfl (by kernel_rfl) (by rfl) (fun K hK => ?_)
      go_simp
      go_at_call 20
      (with_reducible refine (ref9_Add p _ _ z4 z15 _ HP.out (t4.next hHeld) t15 (by omega) (by omega)).mono ?_); rintro e w16 ⟨r16, z16, rfl, o16, m16, v16, l16, b16⟩
      have V16 := Lib.hid v16; clear v16; have t16 := o16.sl; clear o16; replace t14 := t14.next b16; replace t15 := t15.next b16
      refine hK.out _ _ (hHeld.trans (b16.mono hHeld.size)) (fun hHeld => ?_)
      clear hK K
      try simp only [Act.put, List.setIfInBounds_toArray, List.set_cons_zero, List.set_cons_succ]
      refine oneL 10 rfl (by kernel_rfl) (by rfl) (fun K hK => ?_)
      go_simp
      go_at_call 22
      (with_reducible refine (law9_is _ _ z14 z16 true _ t14 t16 (by omega) (by omega) (decide_eq_true (pl_inj HP.out.pos m14 m16 (by rw [V14.out, V16.out, V15.out, V4.out, V5.out, CR.sub_eq]))).symm).mono ?_); rintro e w17 ⟨rfl, q17⟩
      have b17 := q17.below (w16).heap.size; clear q17; replace t14 := t14.next b17; replace t15 := t15.next b17; replace t16 := t16.next b17
      refine hK.out _ _ (hHeld.trans (b17.mono hHeld.size)) (fun hHeld => ?_)
      clear hK K
      try simp only [Act.put, List.setIfInBounds_toArray, List.set_cons_zero, List.set_cons_succ]
      refine takeL 11 (v := ?_) rfl (by kernel_rfl) (by kernel_rfl) (by kernel_rfl) (fun _ _ _ h => h) ⟨by rfl, ?_⟩ (by assumption) ?_
      rotate_left
      · intro w hS; go_simp <;> with_reducible rfl
      simp only [Act.put, List.setIfInBounds_toArray, List.set_cons_zero, List.set_cons_succ]
      refine takeL 12 (v := ?_) rfl (by kernel_rfl) (by kernel_rfl) (by kernel_rfl) (fun _ _ _ h => h) ⟨by rfl, ?_⟩ (by assumption) ?_
      rotate_left
      · intro w hS; have f1 := fx.at hS; go_simp <;> with_reducible rfl
      simp only [Act.put, List.setIfInBounds_toArray, List.set_cons_zero, List.set_cons_succ]
      refine takeL 13 (v := ?_) rfl (by kernel_rfl) (by kernel_rfl) (by kernel_rfl) (fun _ _ _ h => h) ⟨by rfl, ?_⟩ (by assumption) ?_
      rotate_left
      · intro w hS; go_simp <;> with_reducible rfl
      simp only [Act.put, List.setIfInBounds_toArray, List.set_cons_zero, List.set_cons_succ]
      refine takeL 14 (v := ?_) rfl (by kernel_rfl) (by kernel_rfl) (by kernel_rfl) (fun _ _ _ h => h) ⟨by rfl, ?_⟩ (by assumption) ?_
      rotate_left
      · intro w hS; go_simp <;> with_reducible rfl
      simp only [Act.put, List.setIfInBounds_toArray, List.set_cons_zero, List.set_cons_succ]
      refine takeL 16 (v := ?_) rfl (by kernel_rfl) (by kernel_rfl) (by kernel_rfl) (fun _ _ _ h => h) ⟨by rfl, ?_⟩ (by assumption) ?_
      rotate_left
      · intro w hS; go_simp <;> with_reducible rfl
      simp only [Act.put, List.setIfInBounds_toArray, List.set_cons_zero, List.set_cons_succ]
      refine takeL 17 (v := ?_) rfl (by kernel_rfl) (by kernel_rfl) (by kernel_rfl) (fun _ _ _ h => h) ⟨by rfl, ?_⟩ (by assumption) ?_
      rotate_left
      · intro w hS; go_simp <;> with_reducible rfl
      simp only [Act.put, List.setIfInBounds_toArray, List.set_cons_zero, List.set_cons_succ]
      refine takeL 18 (v := ?_) rfl (by kernel_rfl) (by kernel_rfl) (by kernel_rfl) (fun _ _ _ h => h) ⟨by rfl, ?_⟩ (by assumption) ?_
      rotate_left
      · intro w hS; go_simp <;> with_reducible rfl
      simp only [Act.put, List.setIfInBounds_toArray, List.set_cons_zero, List.set_cons_succ]
      refine oneL 15 rfl (by kernel_rfl) (by rfl) (fun K hK => ?_)
      go_simp
      go_at_call 14
      (with_reducible refine (fp_Mul p _ _ x1 x2 _ HP.out (s1.next hHeld) (s2.next hHeld) (by omega) (by omega)).mono ?_); rintro e w18 ⟨r18, z18, rfl, o18, m18, v18, l18, b18⟩
      have V18 := Lib.hid v18; clear v18; have t18 := o18.sl; clear o18; replace t14 := t14.next b18; replace t15 := t15.next b18; replace t16 := t16.next b18
      refine hK.out _ _ (hHeld.trans (b18.mono hHeld.size)) (fun hHeld => ?_)
      clear hK K
      try simp only [Act.put, List.setIfInBounds_toArray, List.set_cons_zero, List.set_cons_succ]
      refine oneL 19 rfl (by kernel_rfl) (by rfl) (fun K hK => ?_)
      go_simp
      go_at_call 21
      (with_reducible refine (ref9_Mul p _ _ z4 z5 _ HP.out (t4.next hHeld) (t5.next hHeld) (by omega) (by omega)).mono ?_); rintro e w19 ⟨r19, z19, rfl, o19, m19, v19, l19, b19⟩
      have V19 := Lib.hid v19; clear v19; have t19 := o19.sl; clear o19; replace t14 := t14.next b19; replace t15 := t15.next b19; replace t16 := t16.next b19; replace t18 := t18.next b19
      refine hK.out _ _ (hHeld.trans (b19.mono hHeld.size)) (fun hHeld => ?_)
      clear hK K
      try simp only [Act.put, List.setIfInBounds_toArray, List.set_cons_zero, List.set_cons_succ]
      refine oneL 20 rfl (by kernel_rfl) (by rfl) (fun K hK => ?_)
      go_simp
      go_at_call 22
      (with_reducible refine (law9_is _ _ z18 z19 true _ t18 t19 (by omega) (by omega) (decide_eq_true (pl_inj HP.out.pos m18 m19 (by rw [V18.out, V19.out, V4.out, V5.out]))).symm).mono ?_); rintro e w20 ⟨rfl, q20⟩
      have b20 := q20.below (w19).heap.size; clear q20; replace t14 := t14.next b20; replace t15 := t15.next b20; replace t16 := t16.next b20; replace t18 := t18.next b20; replace t19 := t19.next b20
      refine hK.out _ _ (hHeld.trans (b20.mono hHeld.size)) (fun hHeld => ?_)
      clear hK K
      try simp only [Act.put, List.setIfInBounds_toArray, List.set_cons_zero, List.set_cons_succ]
      refine takeL 21 (v := ?_) rfl (by kernel_rfl) (by kernel_rfl) (by kernel_rfl) (fun _ _ _ h => h) ⟨by rfl, ?_⟩ (by assumption) ?_
      rotate_left
      · intro w hS; go_simp <;> with_reducible rfl
      simp only [Act.put, List.setIfInBounds_toArray, List.set_cons_zero, List.set_cons_succ]
      refine takeL 22 (v := ?_) rfl (by kernel_rfl) (by kernel_rfl) (by kernel_rfl) (fun _ _ _ h => h) ⟨by rfl, ?_⟩ (by assumption) ?_
      rotate_left
      · intro w hS; go_simp <;> with_reducible rfl
      simp only [Act.put, List.setIfInBounds_toArray, List.set_cons_zero, List.set_cons_succ]
      refine takeL 23 (v := ?_) rfl (by kernel_rfl) (by kernel_rfl) (by kernel_rfl) (fun _ _ _ h => h) ⟨by rfl, ?_⟩ (by assumption) ?_
      rotate_left
      · intro w hS; have f1 := fx.at hS; go_simp <;> with_reducible rfl
      simp only [Act.put, List.setIfInBounds_toArray, List.set_cons_zero, List.set_cons_succ]
      refine takeL 24 (v := ?_) rfl (by kernel_rfl) (by kernel_rfl) (by kernel_rfl) (fun _ _ _ h => h) ⟨by rfl, ?_⟩ (by assumption) ?_
      rotate_left
      · intro w hS; go_simp <;> with_reducible rfl
      simp only [Act.put, List.setIfInBounds_toArray, List.set_cons_zero, List.set_cons_succ]
      refine takeL 25 (v := ?_) rfl (by kernel_rfl) (by kernel_rfl) (by kernel_rfl) (fun _ _ _ h => h) ⟨by rfl, ?_⟩ (by assumption) ?_
      rotate_left
      · intro w hS; go_simp <;> with_reducible rfl
      simp only [Act.put, List.setIfInBounds_toArray, List.set_cons_zero, List.set_cons_succ]
      refine takeL 27 (v := ?_) rfl (by kernel_rfl) (by kernel_rfl) (by kernel_rfl) (fun _ _ _ h => h) ⟨by rfl, ?_⟩ (by assumption) ?_
      rotate_left
      · intro w hS; go_simp <;> with_reducible rfl
      simp only [Act.put, List.setIfInBounds_toArray, List.set_cons_zero, List.set_cons_succ]
      refine takeL 28 (v := ?_) rfl (by kernel_rfl) (by kernel_rfl) (by kernel_rfl) (fun _ _ _ h => h) ⟨by rfl, ?_⟩ (by assumption) ?_
      rotate_left
      · intro w hS; go_simp <;> with_reducible rfl
      simp only [Act.put, List.setIfInBounds_toArray, List.set_cons_zero, List.set_cons_succ]
      refine takeL 29 (v := ?_) rfl (by kernel_rfl) (by kernel_rfl) (by kernel_rfl) (fun _ _ _ h => h) ⟨by rfl, ?_⟩ (by assumption) ?_
      rotate_left
      · intro w hS; go_simp <;> with_reducible rfl
      simp only [Act.put, List.setIfInBounds_toArray, List.set_cons_zero, List.set_cons_succ]
      refine takeL 30 (v := ?_) rfl (by kernel_rfl) (by kernel_rfl) (by kernel_rfl) (fun _ _ _ h => h) ⟨by rfl, ?_⟩ (by assumption) ?_
      rotate_left
      · intro w hS; go_simp <;> with_reducible rfl
      simp only [Act.put, List.setIfInBounds_toArray, List.set_cons_zero, List.set_cons_succ]
      refine takeL 32 (v := ?_) rfl (by kernel_rfl) (by kernel_rfl) (by kernel_rfl) (fun _ _ _ h => h) ⟨by rfl, ?_⟩ (by assumption) ?_
      rotate_left
      · intro w hS; go_simp <;> with_reducible rfl
      simp only [Act.put, List.setIfInBounds_toArray, List.set_cons_zero, List.set_cons_succ]
      refine twoL 26 31 rfl rfl (by kernel_rfl) (by rfl) (by rfl) (fun K hK => ?_) (fun K hK => ?_)
      · go_simp
        go_at_call 28
        (with_reducible refine (CSC.out _ (s1.next hHeld)).mono ?_); rintro e w21 ⟨r21, z21, rfl, o21, m21, v21, l21, b21⟩
        have V21 := Lib.hid v21; clear v21; have t21 := o21.sl; clear o21; replace t14 := t14.next b21; replace t15 := t15.next b21; replace t16 := t16.next b21; replace t18 := t18.next b21; replace t19 := t19.next b21
        refine hK.out _ _ (hHeld.trans (b21.mono hHeld.size)) (fun hHeld => ?_)
        clear hK K
        try simp only [Act.put, List.setIfInBounds_toArray, List.set_cons_zero, List.set_cons_succ]
        refine oneL 31 rfl (by kernel_rfl) (by rfl) (fun K hK => ?_)
        go_simp
        have t22 : Sl .u64 ((w21).alloc (.cells #[.int .u64 cm] 26)) (.slice (some ⟨(w21).heap.size, 0, none⟩) 1 1) [cm] := (own_lit1 (w21) cm).sl
        have b22 := (Below.refl (w21).heap.size (w21)).alloc (Nat.le_refl _) (.cells #[.int .u64 cm] 26)
        generalize (w21).alloc (.cells #[.int .u64 cm] 26) = w22 at *
        replace t14 := t14.next b22
        replace t15 := t15.next b22
        replace t16 := t16.next b22
        replace t18 := t18.next b22
        replace t19 := t19.next b22
        replace t21 := t21.next b22
        refine hK.out _ _ (hHeld.trans (b22.mono hHeld.size)) (fun hHeld => ?_)
        clear hK K
        try simp only [Act.put, List.setIfInBounds_toArray, List.set_cons_zero, List.set_cons_succ]
        refine oneL 33 rfl (by kernel_rfl) (by rfl) (fun K hK => ?_)
        go_simp
        go_at_call 21
        (with_reducible refine (ref9_Mul p _ _ z4 [cm] _ HP.out (t4.next hHeld) t22 (by omega) (by simp)).mono ?_); rintro e w23 ⟨r23, z23, rfl, o23, m23, v23, l23, b23⟩
        have V23 := Lib.hid v23; clear v23; have t23 := o23.sl; clear o23; replace t14 := t14.next b23; replace t15 := t15.next b23; replace t16 := t16.next b23; replace t18 := t18.next b23; replace t19 := t19.next b23; replace t21 := t21.next b23; replace t22 := t22.next b23
        refine hK.out _ _ (hHeld.trans (b23.mono hHeld.size)) (fun hHeld => ?_)
        clear hK K
        try simp only [Act.put, List.setIfInBounds_toArray, List.set_cons_zero, List.set_cons_succ]
        refine oneL 34 rfl (by kernel_rfl) (by rfl) (fun K hK => ?_)
        go_simp
        go_at_call 22
        (with_reducible refine (law9_is _ _ z21 z23 true _ t21 t23 (by omega) (by simp at *; omega) (decide_eq_true (pl_inj HP.out.pos m21 m23 (by rw [V21.out, V23.out, V4.out, CM.out]))).symm).mono ?_); rintro e w24 ⟨rfl, q24⟩
        have b24 := q24.below (w23).heap.size; clear q24; replace t14 := t14.next b24; replace t15 := t15.next b24; replace t16 := t16.next b24; replace t18 := t18.next b24; replace t19 := t19.next b24; replace t21 := t21.next b24; replace t22 := t22.next b24; replace t23 := t23.next b24
        refine hK.out _ _ (hHeld.trans (b24.mono hHeld.size)) (fun hHeld => ?_)
        clear hK K
        try simp only [Act.put, List.setIfInBounds_toArray, List.set_cons_zero, List.set_cons_succ]
        refine takeL 35 (v := ?_) rfl (by kernel_rfl) (by kernel_rfl) (by kernel_rfl) (fun _ _ _ h => h) ⟨by rfl, ?_⟩ (by assumption) ?_
        rotate_left
        · intro w hS; go_simp <;> with_reducible rfl
        simp only [Act.put, List.setIfInBounds_toArray, List.set_cons_zero, List.set_cons_succ]
        refine takeL 36 (v := ?_) rfl (by kernel_rfl) (by kernel_rfl) (by kernel_rfl) (fun _ _ _ h => h) ⟨by rfl, ?_⟩ (by assumption) ?_
        rotate_left
        · intro w hS; go_simp <;> with_reducible rfl
        simp only [Act.put, List.setIfInBounds_toArray, List.set_cons_zero, List.set_cons_succ]
        refine takeL 37 (v := ?_) rfl (by kernel_rfl) (by kernel_rfl) (by kernel_rfl) (fun _ _ _ h => h) ⟨by rfl, ?_⟩ (by assumption) ?_
        rotate_left
        · intro w hS; have f1 := fx.at hS; go_simp <;> with_reducible rfl
        simp only [Act.put, List.setIfInBounds_toArray, List.set_cons_zero, List.set_cons_succ]
        refine takeL 38 (v := ?_) rfl (by kernel_rfl) (by kernel_rfl) (by kernel_rfl) (fun _ _ _ h => h) ⟨by rfl, ?_⟩ (by assumption) ?_
        rotate_left
        · intro w hS; go_simp <;> with_reducible rfl
        simp only [Act.put, List.setIfInBounds_toArray, List.set_cons_zero, List.set_cons_succ]
        refine takeL 39 (v := ?_) rfl (by kernel_rfl) (by kernel_rfl) (by kernel_rfl) (fun _ _ _ h => h) ⟨by rfl, ?_⟩ (by assumption) ?_
        rotate_left
        · intro w hS; go_simp <;> with_reducible rfl
        simp only [Act.put, List.setIfInBounds_toArray, List.set_cons_zero, List.set_cons_succ]
        refine takeL 41 (v := ?_) rfl (by kernel_rfl) (by kernel_rfl) (by kernel_rfl) (fun _ _ _ h => h) ⟨by rfl, ?_⟩ (by assumption) ?_
        rotate_left
        · intro w hS; go_simp <;> with_reducible rfl
        simp only [Act.put, List.setIfInBounds_toArray, List.set_cons_zero, List.set_cons_succ]
        refine takeL 42 (v := ?_) rfl (by kernel_rfl) (by kernel_rfl) (by kernel_rfl) (fun _ _ _ h => h) ⟨by rfl, ?_⟩ (by assumption) ?_
        rotate_left
        · intro w hS; go_simp <;> with_reducible rfl
        simp only [Act.put, List.setIfInBounds_toArray, List.set_cons_zero, List.set_cons_succ]
        refine takeL 43 (v := ?_) rfl (by kernel_rfl) (by kernel_rfl) (by kernel_rfl) (fun _ _ _ h => h) ⟨by rfl, ?_⟩ (by assumption) ?_
        rotate_left
        · intro w hS; go_simp <;> with_reducible rfl
        simp only [Act.put, List.setIfInBounds_toArray, List.set_cons_zero, List.set_cons_succ]
        refine oneL 40 rfl (by kernel_rfl) (by rfl) (fun K hK => ?_)
        go_simp
        go_at_call 29
        (with_reducible refine (CEV.out _ (s1.next hHeld)).mono ?_); rintro e w25 ⟨rfl, b25⟩
        skip; replace t14 := t14.next b25; replace t15 := t15.next b25; replace t16 := t16.next b25; replace t18 := t18.next b25; replace t19 := t19.next b25; replace t21 := t21.next b25; replace t22 := t22.next b25; replace t23 := t23.next b25
        refine hK.out _ _ (hHeld.trans (b25.mono hHeld.size)) (fun hHeld => ?_)
        clear hK K
        try simp only [Act.put, List.setIfInBounds_toArray, List.set_cons_zero, List.set_cons_succ]
        refine oneL 44 rfl (by kernel_rfl) (by rfl) (fun K hK => ?_)
        go_simp
        go_at_call 30
        (with_reducible refine (CRV.out _ _ (t4.next hHeld)).mono ?_); rintro e w26 ⟨rfl, q26⟩
        have b26 := q26.below (w25).heap.size; clear q26; replace t14 := t14.next b26; replace t15 := t15.next b26; replace t16 := t16.next b26; replace t18 := t18.next b26; replace t19 := t19.next b26; replace t21 := t21.next b26; replace t22 := t22.next b26; replace t23 := t23.next b26
        refine hK.out _ _ (hHeld.trans (b26.mono hHeld.size)) (fun hHeld => ?_)
        clear hK K
        try simp only [Act.put, List.setIfInBounds_toArray, List.set_cons_zero, List.set_cons_succ]
        refine takeL 45 (v := ?_) rfl (by kernel_rfl) (by kernel_rfl) (by kernel_rfl) (fun _ _ _ h => h) ⟨by rfl, ?_⟩ (by assumption) ?_
        rotate_left
        · intro w hS; go_simp <;> with_reducible rfl
        simp only [Act.put, List.setIfInBounds_toArray, List.set_cons_zero, List.set_cons_succ]
        refine takeL 46 (v := ?_) rfl (by kernel_rfl) (by kernel_rfl) (by kernel_rfl) (fun _ _ _ h => h) ⟨by rfl, ?_⟩ (by assumption) ?_
        rotate_left
        · intro w hS; go_simp <;> with_reducible rfl
        simp only [Act.put, List.setIfInBounds_toArray, List.set_cons_zero, List.set_cons_succ]
        refine takeL 47 (v := ?_) rfl (by kernel_rfl) (by kernel_rfl) (by kernel_rfl) (fun _ _ _ h => h) ⟨by rfl, ?_⟩ (by assumption) ?_
        rotate_left
        · intro w hS; go_simp <;> with_reducible rfl
        simp only [Act.put, List.setIfInBounds_toArray, List.set_cons_zero, List.set_cons_succ]
        refine doneL (by kernel_rfl) ?_ _
        replace s1 := s1.next hHeld
        replace s2 := s2.next hHeld
        replace t4 := t4.next hHeld
        replace t5 := t5.next hHeld
        replace t6 := t6.next hHeld
        replace t11 := t11.next hHeld
        replace t12 := t12.next hHeld
        replace fx := fx.next hHeld
        have hcg := fx.cell
        clear hHeld
        go_wp2
        go_ret
        exact ⟨rfl, fx.below⟩
      · go_simp
        have t21 : Sl .u64 ((w20).alloc (.cells #[.int .u64 cm] 26)) (.slice (some ⟨(w20).heap.size, 0, none⟩) 1 1) [cm] := (own_lit1 (w20) cm).sl
        have b21 := (Below.refl (w20).heap.size (w20)).alloc (Nat.le_refl _) (.cells #[.int .u64 cm] 26)
        generalize (w20).alloc (.cells #[.int .u64 cm] 26) = w21 at *
        replace t14 := t14.next b21
        replace t15 := t15.next b21
        replace t16 := t16.next b21
        replace t18 := t18.next b21
        replace t19 := t19.next b21
        refine hK.out _ _ (hHeld.trans (b21.mono hHeld.size)) (fun hHeld => ?_)
        clear hK K
        try simp only [Act.put, List.setIfInBounds_toArray, List.set_cons_zero, List.set_cons_succ]
        refine oneL 26 rfl (by kernel_rfl) (by rfl) (fun K hK => ?_)
        go_simp
        go_at_call 28
        (with_reducible refine (CSC.out _ (s1.next hHeld)).mono ?_); rintro e w22 ⟨r22, z22, rfl, o22, m22, v22, l22, b22⟩
        have V22 := Lib.hid v22; clear v22; have t22 := o22.sl; clear o22; replace t14 := t14.next b22; replace t15 := t15.next b22; replace t16 := t16.next b22; replace t18 := t18.next b22; replace t19 := t19.next b22; replace t21 := t21.next b22
        refine hK.out _ _ (hHeld.trans (b22.mono hHeld.size)) (fun hHeld => ?_)
        clear hK K
        try simp only [Act.put, List.setIfInBounds_toArray, List.set_cons_zero, List.set_cons_succ]
        refine oneL 33 rfl (by kernel_rfl) (by rfl) (fun K hK => ?_)
        go_simp
        go_at_call 21
        (with_reducible refine (ref9_Mul p _ _ z4 [cm] _ HP.out (t4.next hHeld) t21 (by omega) (by simp)).mono ?_); rintro e w23 ⟨r23, z23, rfl, o23, m23, v23, l23, b23⟩
        have V23 := Lib.hid v23; clear v23; have t23 := o23.sl; clear o23; replace t14 := t14.next b23; replace t15 := t15.next b23; replace t16 := t16.next b23; replace t18 := t18.next b23; replace t19 := t19.next b23; replace t21 := t21.next b23; replace t22 := t22.next b23
        refine hK.out _ _ (hHeld.trans (b23.mono hHeld.size)) (fun hHeld => ?_)
        clear hK K
        try simp only [Act.put, List.setIfInBounds_toArray, List.set_cons_zero, List.set_cons_succ]
        refine oneL 34 rfl (by kernel_rfl) (by rfl) (fun K hK => ?_)
        go_simp
        go_at_call 22
        (with_reducible refine (law9_is _ _ z22 z23 true _ t22 t23 (by omega) (by simp at *; omega) (decide_eq_true (pl_inj HP.out.pos m22 m23 (by rw [V22.out, V23.out, V4.out, CM.out]))).symm).mono ?_); rintro e w24 ⟨rfl, q24⟩
        have b24 := q24.below (w23).heap.size; clear q24; replace t14 := t14.next b24; replace t15 := t15.next b24; replace t16 := t16.next b24; replace t18 := t18.next b24; replace t19 := t19.next b24; replace t21 := t21.next b24; replace t22 := t22.next b24; replace t23 := t23.next b24
        refine hK.out _ _ (hHeld.trans (b24.mono hHeld.size)) (fun hHeld => ?_)
        clear hK K
        try simp only [Act.put, List.setIfInBounds_toArray, List.set_cons_zero, List.set_cons_succ]
        refine takeL 35 (v := ?_) rfl (by kernel_rfl) (by kernel_rfl) (by kernel_rfl) (fun _ _ _ h => h) ⟨by rfl, ?_⟩ (by assumption) ?_
        rotate_left
        · intro w hS; go_simp <;> with_reducible rfl
        simp only [Act.put, List.setIfInBounds_toArray, List.set_cons_zero, List.set_cons_succ]
        refine takeL 36 (v := ?_) rfl (by kernel_rfl) (by kernel_rfl) (by kernel_rfl) (fun _ _ _ h => h) ⟨by rfl, ?_⟩ (by assumption) ?_
        rotate_left
        · intro w hS; go_simp <;> with_reducible rfl
        simp only [Act.put, List.setIfInBounds_toArray, List.set_cons_zero, List.set_cons_succ]
        refine takeL 37 (v := ?_) rfl (by kernel_rfl) (by kernel_rfl) (by kernel_rfl) (fun _ _ _ h => h) ⟨by rfl, ?_⟩ (by assumption) ?_
        rotate_left
        · intro w hS; have f1 := fx.at hS; go_simp <;> with_reducible rfl
        simp only [Act.put, List.setIfInBounds_toArray, List.set_cons_zero, List.set_cons_succ]
        refine takeL 38 (v := ?_) rfl (by kernel_rfl) (by kernel_rfl) (by kernel_rfl) (fun _ _ _ h => h) ⟨by rfl, ?_⟩ (by assumption) ?_
        rotate_left
        · intro w hS; go_simp <;> with_reducible rfl
        simp only [Act.put, List.setIfInBounds_toArray, List.set_cons_zero, List.set_cons_succ]
        refine takeL 39 (v := ?_) rfl (by kernel_rfl) (by kernel_rfl) (by kernel_rfl) (fun _ _ _ h => h) ⟨by rfl, ?_⟩ (by assumption) ?_
        rotate_left
        · intro w hS; go_simp <;> with_reducible rfl
        simp only [Act.put, List.setIfInBounds_toArray, List.set_cons_zero, List.set_cons_succ]
        refine takeL 41 (v := ?_) rfl (by kernel_rfl) (by kernel_rfl) (by kernel_rfl) (fun _ _ _ h => h) ⟨by rfl, ?_⟩ (by assumption) ?_
        rotate_left
        · intro w hS; go_simp <;> with_reducible rfl
        simp only [Act.put, List.setIfInBounds_toArray, List.set_cons_zero, List.set_cons_succ]
        refine takeL 42 (v := ?_) rfl (by kernel_rfl) (by kernel_rfl) (by kernel_rfl) (fun _ _ _ h => h) ⟨by rfl, ?_⟩ (by assumption) ?_
        rotate_left
        · intro w hS; go_simp <;> with_reducible rfl
        simp only [Act.put, List.setIfInBounds_toArray, List.set_cons_zero, List.set_cons_succ]
        refine takeL 43 (v := ?_) rfl (by kernel_rfl) (by kernel_rfl) (by kernel_rfl) (fun _ _ _ h => h) ⟨by rfl, ?_⟩ (by assumption) ?_
        rotate_left
        · intro w hS; go_simp <;> with_reducible rfl
        simp only [Act.put, List.setIfInBounds_toArray, List.set_cons_zero, List.set_cons_succ]
        refine oneL 40 rfl (by kernel_rfl) (by rfl) (fun K hK => ?_)
        go_simp
        go_at_call 29
        (with_reducible refine (CEV.out _ (s1.next hHeld)).mono ?_); rintro e w25 ⟨rfl, b25⟩
        skip; replace t14 := t14.next b25; replace t15 := t15.next b25; replace t16 := t16.next b25; replace t18 := t18.next b25; replace t19 := t19.next b25; replace t21 := t21.next b25; replace t22 := t22.next b25; replace t23 := t23.next b25
        refine hK.out _ _ (hHeld.trans (b25.mono hHeld.size)) (fun hHeld => ?_)
        clear hK K
        try simp only [Act.put, List.setIfInBounds_toArray, List.set_cons_zero, List.set_cons_succ]
        refine oneL 44 rfl (by kernel_rfl) (by rfl) (fun K hK => ?_)
        go_simp
        go_at_call 30
        (with_reducible refine (CRV.out _ _ (t4.next hHeld)).mono ?_); rintro e w26 ⟨rfl, q26⟩
        have b26 := q26.below (w25).heap.size; clear q26; replace t14 := t14.next b26; replace t15 := t15.next b26; replace t16 := t16.next b26; replace t18 := t18.next b26; replace t19 := t19.next b26; replace t21 := t21.next b26; replace t22 := t22.next b26; replace t23 := t23.next b26
        refine hK.out _ _ (hHeld.trans (b26.mono hHeld.size)) (fun hHeld => ?_)
        clear hK K
        try simp only [Act.put, List.setIfInBounds_toArray, List.set_cons_zero, List.set_cons_succ]
        refine takeL 45 (v := ?_) rfl (by kernel_rfl) (by kernel_rfl) (by kernel_rfl) (fun _ _ _ h => h) ⟨by rfl, ?_⟩ (by assumption) ?_
        rotate_left
        · intro w hS; go_simp <;> with_reducible rfl
        simp only [Act.put, List.setIfInBounds_toArray, List.set_cons_zero, List.set_cons_succ]
        refine takeL 46 (v := ?_) rfl (by kernel_rfl) (by kernel_rfl) (by kernel_rfl) (fun _ _ _ h => h) ⟨by rfl, ?_⟩ (by assumption) ?_
        rotate_left
        · intro w hS; go_simp <;> with_reducible rfl
        simp only [Act.put, List.setIfInBounds_toArray, List.set_cons_zero, List.set_cons_succ]
        refine takeL 47 (v := ?_) rfl (by kernel_rfl) (by kernel_rfl) (by kernel_rfl) (fun _ _ _ h => h) ⟨by rfl, ?_⟩ (by assumption) ?_
        rotate_left
        · intro w hS; go_simp <;> with_reducible rfl
        simp only [Act.put, List.setIfInBounds_toArray, List.set_cons_zero, List.set_cons_succ]
        refine doneL (by kernel_rfl) ?_ _
        replace s1 := s1.next hHeld
        replace s2 := s2.next hHeld
        replace t4 := t4.next hHeld
        replace t5 := t5.next hHeld
        replace t6 := t6.next hHeld
        replace t11 := t11.next hHeld
        replace t12 := t12.next hHeld
        replace fx := fx.next hHeld
        have hcg := fx.cell
        clear hHeld
        go_wp2
        go_ret
        exact ⟨rfl, fx.below⟩
    · obtain ⟨c, ec⟩ : ∃ c, c = 3 := ⟨_, rfl⟩
      obtain ⟨cm, ecm⟩ : ∃ cm, cm = c % p := ⟨_, rfl⟩
      obtain ⟨z, ez⟩ : ∃ z, z = (evl p (Zp.of p c) x1).val := ⟨_, rfl⟩
      have hcm : (c : Int).tmod (p : Int) = (cm : Int) := by rw [ecm]; rfl
      have CM := Lib.hid (show pl p [cm] = mon (Zp.of p c) 0 by rw [pl_one, ecm, Zp.of_mod])
      have EZ := Lib.hid ez
      have hz : ((p : Int) == 0) = false := by simpa using (show p ≠ 0 by omega)
      have hz1 : ¬ p = 0 := by omega
      have hz2 : ¬ (p : Int) = 0 := by omega
      clear ecm ez
      subst ec
      go_enter Try.func5, Try.ntmps5
      have B : Below w.heap.size w w := Below.refl _ _
      go_wp2_with fail
      refine (law9_awake _).mono ?_; rintro e w1 ⟨rfl, b1⟩
      replace s1 := s1.next b1
      replace s2 := s2.next b1
      replace B := B.trans (b1.mono B.size)
      go_wp2_with fail
      refine (law9_few v1 v2 (.slice none 0 0) x1 x2 [] 20 true _ s1 s2 (Sl.nil _ _) (decide_eq_true ⟨h1, h2, by simp⟩).symm).mono ?_; rintro e wx ⟨rfl, rfl⟩
      go_wp2_with fail
      refine (COF.out _).mono ?_; rintro e w2 ⟨rfl, b2⟩
      replace s1 := s1.next b2
      replace s2 := s2.next b2
      replace B := B.trans (b2.mono B.size)
      go_wp2_with fail
      refine (CP.out _).mono ?_; rintro e wx ⟨rfl, rfl⟩
      go_wp2_with fail
      have fx : Fx p w (w2.alloc (.cells #[.int .u64 p] 28)) w2.heap.size := Fx.box B
      have bb := (Below.refl w2.heap.size w2).alloc (Nat.le_refl _) (.cells #[.int .u64 p] 28)
      replace s1 := s1.next bb
      replace s2 := s2.next bb
      generalize w2.alloc (.cells #[.int .u64 p] 28) = w3 at *
      obtain ⟨g, eg⟩ : ∃ g, g = w2.heap.size := ⟨_, rfl⟩
      rw [← eg] at fx ⊢
      clear eg bb B
      have hcg := fx.cell
      go_wp2_with fail
      refine (ref9_Norm p _ x1 _ HP.out s1 (by omega)).mono ?_; rintro e w4 ⟨r4, z4, rfl, o4, m4, v4, l4, b4⟩
      replace s1 := s1.next b4
      replace s2 := s2.next b4
      replace fx := fx.next b4
      replace hcg := fx.cell
      have V4 := Lib.hid v4; clear v4
      have t4 := o4.sl
      clear o4
      go_wp2_with fail
      refine (ref9_Norm p _ x2 _ HP.out s2 (by omega)).mono ?_; rintro e w5 ⟨r5, z5, rfl, o5, m5, v5, l5, b5⟩
      replace s1 := s1.next b5
      replace s2 := s2.next b5
      replace t4 := t4.next b5
      replace fx := fx.next b5
      replace hcg := fx.cell
      have V5 := Lib.hid v5; clear v5
      have t5 := o5.sl
      clear o5
      have EX := Lib.hid (nl_is HP.out.pos m4 V4.out)
      have EY := Lib.hid (nl_is HP.out.pos m5 V5.out)
      obtain ⟨ao, bo, oo, co, rfl, -, -⟩ := id t4
      obtain ⟨β, hβ⟩ : ∃ β, β = decide (z4 = z5) := ⟨_, rfl⟩
      have HB := Lib.hid hβ; clear hβ
      obtain ⟨bo2, bb2, ob2, cb2, rfl, lb2, kb2⟩ := id s2
      replace hcm : (3 : Int).tmod (p : Int) = (cm : Int) := hcm
      have csc : ∀ w' : World, Sl .u64 w' v1 x1 → Calls Try.prog 28 #[.agg #[.int .u64 p], v1, .int .u64 (3 : Int)] w' (RetP p w' x1.length (pl p x1 * mon (Zp.of p 3) 0)) := fun w' h => fp_Scale p 3 v1 x1 w' HP.out h (by omega)
      have cev : ∀ w' : World, Sl .u64 w' v1 x1 → Calls Try.prog 29 #[.agg #[.int .u64 p], v1, .int .u64 (3 : Int)] w' (fun e w'' => e = .returned (.int .u64 z) ∧ Below w'.heap.size w' w'') := fun w' h => fp_Eval p 3 z v1 x1 w' HP.out h (by omega) EZ.out
      have crv : ∀ (w' : World) (v' : Value), Sl .u64 w' v' z4 → Calls Try.prog 30 #[v', .int .u64 (3 : Int), .int .u64 p] w' (fun e w'' => e = .returned (.int .u64 z) ∧ Drawn w' w'') := fun w' v' h => ref9_Eval p 3 z v' z4 w' HP.out h (by omega) (by rw [EX.out, evl_nl]; exact EZ.out)
      have CSC := Lib.hid csc; have CEV := Lib.hid cev; have CRV := Lib.hid crv
      clear csc cev crv
      go_wp2_with fail
      refine (fp_Norm p _ x1 _ HP.out s1 (by omega)).mono ?_; rintro e w6 ⟨r6, z6, rfl, o6, m6, v6, l6, b6⟩
      replace s1 := s1.next b6
      replace s2 := s2.next b6
      replace t4 := t4.next b6
      replace t5 := t5.next b6
      replace fx := fx.next b6
      replace hcg := fx.cell
      have V6 := Lib.hid v6; clear v6
      have t6 := o6.sl
      clear o6
      go_wp2_with fail
      refine (law9_is _ _ z6 z4 true _ t6 t4 (by omega) (by omega) (decide_eq_true (pl_inj HP.out.pos m6 m4 (by rw [V6.out, V4.out]))).symm).mono ?_; rintro e w7 ⟨rfl, q7⟩
      have b7 := q7.below w6.heap.size; clear q7
      replace s1 := s1.next b7
      replace s2 := s2.next b7
      replace t4 := t4.next b7
      replace t5 := t5.next b7
      replace t6 := t6.next b7
      replace fx := fx.next b7
      replace hcg := fx.cell
      go_wp2_with fail
      refine (fp_Degree p _ x1 z4 _ HP.out s1 (by omega) (EX.out)).mono ?_; rintro e w8 ⟨rfl, b8⟩
      replace s1 := s1.next b8
      replace s2 := s2.next b8
      replace t4 := t4.next b8
      replace t5 := t5.next b8
      replace t6 := t6.next b8
      replace fx := fx.next b8
      replace hcg := fx.cell
      go_wp2_with fail
      refine (fp_Same p _ _ x1 x2 β _ HP.out s1 s2 (by omega) (by omega) (by rw [← EX.out, ← EY.out]; exact HB.out)).mono ?_; rintro e w9 ⟨rfl, b9⟩
      replace s1 := s1.next b9
      replace s2 := s2.next b9
      replace t4 := t4.next b9
      replace t5 := t5.next b9
      replace t6 := t6.next b9
      replace fx := fx.next b9
      replace hcg := fx.cell
      go_wp2_with fail
      refine (ref9_Same _ _ z4 z5 β _ t4 t5 (by omega) (by omega) HB.out).mono ?_; rintro e w10 ⟨rfl, q10⟩
      have b10 := q10.below w9.heap.size; clear q10
      replace s1 := s1.next b10
      replace s2 := s2.next b10
      replace t4 := t4.next b10
      replace t5 := t5.next b10
      replace t6 := t6.next b10
      replace fx := fx.next b10
      replace hcg := fx.cell
      go_wp2_with fail
      refine (fp_Add p _ _ x1 x2 _ HP.out s1 s2 (by omega) (by omega)).mono ?_; rintro e w11 ⟨r11, z11, rfl, o11, m11, v11, l11, b11⟩
      replace s1 := s1.next b11
      replace s2 := s2.next b11
      replace t4 := t4.next b11
      replace t5 := t5.next b11
      replace t6 := t6.next b11
      replace fx := fx.next b11
      replace hcg := fx.cell
      have V11 := Lib.hid v11; clear v11
      have t11 := o11.sl
      clear o11
      go_wp2_with fail
      refine (ref9_Add p _ _ z4 z5 _ HP.out t4 t5 (by omega) (by omega)).mono ?_; rintro e w12 ⟨r12, z12, rfl, o12, m12, v12, l12, b12⟩
      replace s1 := s1.next b12
      replace s2 := s2.next b12
      replace t4 := t4.next b12
      replace t5 := t5.next b12
      replace t6 := t6.next b12
      replace t11 := t11.next b12
      replace fx := fx.next b12
      replace hcg := fx.cell
      have V12 := Lib.hid v12; clear v12
      have t12 := o12.sl
      clear o12
      go_wp2_with fail
      refine (law9_is _ _ z11 z12 true _ t11 t12 (by omega) (by omega) (decide_eq_true (pl_inj HP.out.pos m11 m12 (by rw [V11.out, V12.out, V4.out, V5.out]))).symm).mono ?_; rintro e w13 ⟨rfl, q13⟩
      have b13 := q13.below w12.heap.size; clear q13
      replace s1 := s1.next b13
      replace s2 := s2.next b13
      replace t4 := t4.next b13
      replace t5 := t5.next b13
      replace t6 := t6.next b13
      replace t11 := t11.next b13
      replace t12 := t12.next b13
      replace fx := fx.next b13
      replace hcg := fx.cell
      go_upto_region 10 with (fail)
      clear hcg
      replace s1 := s1.drew
      replace s2 := s2.drew
      replace t4 := t4.drew
      replace t5 := t5.drew
      replace t6 := t6.drew
      replace t11 := t11.drew
      replace t12 := t12.drew
      replace fx := fx.drew
      refine startL (S := (fun w' => Below ((w13).drew).heap.size ((w13).drew) w')) (by kernel_rfl) (Below.refl _ _) (fun hHeld => ?_)
      refine takeL 0 (v := ?_) rfl (by kernel_rfl) (by kernel_rfl) (by kernel_rfl) (fun _ _ _ h => h) ⟨by rfl, ?_⟩ (by assumption) ?_
      rotate_left
      · intro w hS; have f1 := fx.at hS; go_simp <;> with_reducible rfl
      simp only [Act.put, List.setIfInBounds_toArray, List.set_cons_zero, List.set_cons_succ]
      refine takeL 1 (v := ?_) rfl (by kernel_rfl) (by kernel_rfl) (by kernel_rfl) (fun _ _ _ h => h) ⟨by rfl, ?_⟩ (by assumption) ?_
      rotate_left
      · intro w hS; go_simp <;> with_reducible rfl
      simp only [Act.put, List.setIfInBounds_toArray, List.set_cons_zero, List.set_cons_succ]
      refine takeL 2 (v := ?_) rfl (by kernel_rfl) (by kernel_rfl) (by kernel_rfl) (fun _ _ _ h => h) ⟨by rfl, ?_⟩ (by assumption) ?_
      rotate_left
      · intro w hS; go_simp <;> with_reducible rfl
      simp only [Act.put, List.setIfInBounds_toArray, List.set_cons_zero, List.set_cons_succ]
      refine takeL 4 (v := ?_) rfl (by kernel_rfl) (by kernel_rfl) (by kernel_rfl) (fun _ _ _ h => h) ⟨by rfl, ?_⟩ (by assumption) ?_
      rotate_left
      · intro w hS; go_simp <;> with_reducible rfl
      simp only [Act.put, List.setIfInBounds_toArray, List.set_cons_zero, List.set_cons_succ]
      refine takeL 5 (v := ?_) rfl (by kernel_rfl) (by kernel_rfl) (by kernel_rfl) (fun _ _ _ h => h) ⟨by rfl, ?_⟩ (by assumption) ?_
      rotate_left
      · intro w hS; go_simp <;> with_reducible rfl
      simp only [Act.put, List.setIfInBounds_toArray, List.set_cons_zero, List.set_cons_succ]
      refine takeL 6 (v := ?_) rfl (by kernel_rfl) (by kernel_rfl) (by kernel_rfl) (fun _ _ _ h => h) ⟨by rfl, ?_⟩ (by assumption) ?_
      rotate_left
      · intro w hS; go_simp <;> with_reducible rfl
      simp only [Act.put, List.setIfInBounds_toArray, List.set_cons_zero, List.set_cons_succ]
      refine takeL 8 (v := ?_) rfl (by kernel_rfl) (by kernel_rfl) (by kernel_rfl) (fun _ _ _ h => h) ⟨by rfl, ?_⟩ (by assumption) ?_
      rotate_left
      · intro w hS; go_simp <;> with_reducible rfl
      simp only [Act.put, List.setIfInBounds_toArray, List.set_cons_zero, List.set_cons_succ]
      refine oneL 3 rfl (by kernel_rfl) (by rfl) (fun K hK => ?_)
      go_simp
      go_at_call 26
      (with_reducible refine (fp_Sub p _ _ x1 x2 _ HP.out (s1.next hHeld) (s2.next hHeld) (by omega) (by omega)).mono ?_); rintro e w14 ⟨r14, z14, rfl, o14, m14, v14, l14, b14⟩
      have V14 := Lib.hid v14; clear v14; have t14 := o14.sl; clear o14
      refine hK.out _ _ (hHeld.trans (b14.mono hHeld.size)) (fun hHeld => ?_)
      clear hK K
      try simp only [Act.put, List.setIfInBounds_toArray, List.set_cons_zero, List.set_cons_succ]
      refine oneL 7 rfl (by kernel_rfl) (by rfl) (fun K hK => ?_)
      go_simp
      go_at_call 27
      (with_reducible refine (ref9_Neg p _ z5 _ HP.out (t5.next hHeld) (by omega)).mono ?_); rintro e w15 ⟨r15, z15, rfl, o15, m15, v15, l15, b15⟩
      have V15 := Lib.hid v15; clear v15; have t15 := o15.sl; clear o15; replace t14 := t14.next b15
      refine hK.out _ _ (hHeld.trans (b15.mono hHeld.size)) (fun hHeld => ?_)
      clear hK K
      try simp only [Act.put, List.setIfInBounds_toArray, List.set_cons_zero, List.set_cons_succ]
      refine oneL 9 rfl (by kernel_rfl) (by rfl) (fun K hK => ?_)
      go_simp
      go_at_call 20
      (with_reducible refine (ref9_Add p _ _ z4 z15 _ HP.out (t4.next hHeld) t15 (by omega) (by omega)).mono ?_); rintro e w16 ⟨r16, z16, rfl, o16, m16, v16, l16, b16⟩
      have V16 := Lib.hid v16; clear v16; have t16 := o16.sl; clear o16; replace t14 := t14.next b16; replace t15 := t15.next b16
      refine hK.out _ _ (hHeld.trans (b16.mono hHeld.size)) (fun hHeld => ?_)
      clear hK K
      try simp only [Act.put, List.setIfInBounds_toArray, List.set_cons_zero, List.set_cons_succ]
      refine oneL 10 rfl (by kernel_rfl) (by rfl) (fun K hK => ?_)
      go_simp
      go_at_call 22
      (with_reducible refine (law9_is _ _ z14 z16 true _ t14 t16 (by omega) (by omega) (decide_eq_true (pl_inj HP.out.pos m14 m16 (by rw [V14.out, V16.out, V15.out, V4.out, V5.out, CR.sub_eq]))).symm).mono ?_); rintro e w17 ⟨rfl, q17⟩
      have b17 := q17.below (w16).heap.size; clear q17; replace t14 := t14.next b17; replace t15 := t15.next b17; replace t16 := t16.next b17
      refine hK.out _ _ (hHeld.trans (b17.mono hHeld.size)) (fun hHeld => ?_)
      clear hK K
      try simp only [Act.put, List.setIfInBounds_toArray, List.set_cons_zero, List.set_cons_succ]
      refine takeL 11 (v := ?_) rfl (by kernel_rfl) (by kernel_rfl) (by kernel_rfl) (fun _ _ _ h => h) ⟨by rfl, ?_⟩ (by assumption) ?_
      rotate_left
      · intro w hS; go_simp <;> with_reducible rfl
      simp only [Act.put, List.setIfInBounds_toArray, List.set_cons_zero, List.set_cons_succ]
      refine takeL 12 (v := ?_) rfl (by kernel_rfl) (by kernel_rfl) (by kernel_rfl) (fun _ _ _ h => h) ⟨by rfl, ?_⟩ (by assumption) ?_
      rotate_left
      · intro w hS; have f1 := fx.at hS; go_simp <;> with_reducible rfl
      simp only [Act.put, List.setIfInBounds_toArray, List.set_cons_zero, List.set_cons_succ]
      refine takeL 13 (v := ?_) rfl (by kernel_rfl) (by kernel_rfl) (by kernel_rfl) (fun _ _ _ h => h) ⟨by rfl, ?_⟩ (by assumption) ?_
      rotate_left
      · intro w hS; go_simp <;> with_reducible rfl
      simp only [Act.put, List.setIfInBounds_toArray, List.set_cons_zero, List.set_cons_succ]
      refine takeL 14 (v := ?_) rfl (by kernel_rfl) (by kernel_rfl) (by kernel_rfl) (fun _ _ _ h => h) ⟨by rfl, ?_⟩ (by assumption) ?_
      rotate_left
      · intro w hS; go_simp <;> with_reducible rfl
      simp only [Act.put, List.setIfInBounds_toArray, List.set_cons_zero, List.set_cons_succ]
      refine takeL 16 (v := ?_) rfl (by kernel_rfl) (by kernel_rfl) (by kernel_rfl) (fun _ _ _ h => h) ⟨by rfl, ?_⟩ (by assumption) ?_
      rotate_left
      · intro w hS; go_simp <;> with_reducible rfl
      simp only [Act.put, List.setIfInBounds_toArray, List.set_cons_zero, List.set_cons_succ]
      refine takeL 17 (v := ?_) rfl (by kernel_rfl) (by kernel_rfl) (by kernel_rfl) (fun _ _ _ h => h) ⟨by rfl, ?_⟩ (by assumption) ?_
      rotate_left
      · intro w hS; go_simp <;> with_reducible rfl
      simp only [Act.put, List.setIfInBounds_toArray, List.set_cons_zero, List.set_cons_succ]
      refine takeL 18 (v := ?_) rfl (by kernel_rfl) (by kernel_rfl) (by kernel_rfl) (fun _ _ _ h => h) ⟨by rfl, ?_⟩ (by assumption) ?_
      rotate_left
      · intro w hS; go_simp <;> with_reducible rfl
      simp only [Act.put, List.setIfInBounds_toArray, List.set_cons_zero, List.set_cons_succ]
      refine oneL 15 rfl (by kernel_rfl) (by rfl) (fun K hK => ?_)
      go_simp
      go_at_call 14
      (with_reducible refine (fp_Mul p _ _ x1 x2 _ HP.out (s1.next hHeld) (s2.next hHeld) (by omega) (by omega)).mono ?_); rintro e w18 ⟨r18, z18, rfl, o18, m18, v18, l18, b18⟩
      have V18 := Lib.hid v18; clear v18; have t18 := o18.sl; clear o18; replace t14 := t14.next b18; replace t15 := t15.next b18; replace t16 := t16.next b18
      refine hK.out _ _ (hHeld.trans (b18.mono hHeld.size)) (fun hHeld => ?_)
      clear hK K
      try simp only [Act.put, List.setIfInBounds_toArray, List.set_cons_zero, List.set_cons_succ]
      refine oneL 19 rfl (by kernel_rfl) (by rfl) (fun K hK => ?_)
      go_simp
      go_at_call 21
      (with_reducible refine (ref9_Mul p _ _ z4 z5 _ HP.out (t4.next hHeld) (t5.next hHeld) (by omega) (by omega)).mono ?_); rintro e w19 ⟨r19, z19, rfl, o19, m19, v19, l19, b19⟩
      have V19 := Lib.hid v19; clear v19; have t19 := o19.sl; clear o19; replace t14 := t14.next b19; replace t15 := t15.next b19; replace t16 := t16.next b19; replace t18 := t18.next b19
      refine hK.out _ _ (hHeld.trans (b19.mono hHeld.size)) (fun hHeld => ?_)
      clear hK K
      try simp only [Act.put, List.setIfInBounds_toArray, List.set_cons_zero, List.set_cons_succ]
      refine oneL 20 rfl (by kernel_rfl) (by rfl) (fun K hK => ?_)
      go_simp
      go_at_call 22
      (with_reducible refine (law9_is _ _ z18 z19 true _ t18 t19 (by omega) (by omega) (decide_eq_true (pl_inj HP.out.pos m18 m19 (by rw [V18.out, V19.out, V4.out, V5.out]))).symm).mono ?_); rintro e w20 ⟨rfl, q20⟩
      have b20 := q20.below (w19).heap.size; clear q20; replace t14 := t14.next b20; replace t15 := t15.next b20; replace t16 := t16.next b20; replace t18 := t18.next b20; replace t19 := t19.next b20
      refine hK.out _ _ (hHeld.trans (b20.mono hHeld.size)) (fun hHeld => ?_)
      clear hK K
      try simp only [Act.put, List.setIfInBounds_toArray, List.set_cons_zero, List.set_cons_succ]
      refine takeL 21 (v := ?_) rfl (by kernel_rfl) (by kernel_rfl) (by kernel_rfl) (fun _ _ _ h => h) ⟨by rfl, ?_⟩ (by assumption) ?_
      rotate_left
      · intro w hS; go_simp <;> with_reducible rfl
      simp only [Act.put, List.setIfInBounds_toArray, List.set_cons_zero, List.set_cons_succ]
      refine takeL 22 (v := ?_) rfl (by kernel_rfl) (by kernel_rfl) (by kernel_rfl) (fun _ _ _ h => h) ⟨by rfl, ?_⟩ (by assumption) ?_
      rotate_left
      · intro w hS; go_simp <;> with_reducible rfl
      simp only [Act.put, List.setIfInBounds_toArray, List.set_cons_zero, List.set_cons_succ]
      refine takeL 23 (v := ?_) rfl (by kernel_rfl) (by kernel_rfl) (by kernel_rfl) (fun _ _ _ h => h) ⟨by rfl, ?_⟩ (by assumption) ?_
      rotate_left
      · intro w hS; have f1 := fx.at hS; go_simp <;> with_reducible rfl
      simp only [Act.put, List.setIfInBounds_toArray, List.set_cons_zero, List.set_cons_succ]
      refine takeL 24 (v := ?_) rfl (by kernel_rfl) (by kernel_rfl) (by kernel_rfl) (fun _ _ _ h => h) ⟨by rfl, ?_⟩ (by assumption) ?_
      rotate_left
      · intro w hS; go_simp <;> with_reducible rfl
      simp only [Act.put, List.setIfInBounds_toArray, List.set_cons_zero, List.set_cons_succ]
      refine takeL 25 (v := ?_) rfl (by kernel_rfl) (by kernel_rfl) (by kernel_rfl) (fun _ _ _ h => h) ⟨by rfl, ?_⟩ (by assumption) ?_
      rotate_left
      · intro w hS; go_simp <;> with_reducible rfl
      simp only [Act.put, List.setIfInBounds_toArray, List.set_cons_zero, List.set_cons_succ]
      refine takeL 27 (v := ?_) rfl (by kernel_rfl) (by kernel_rfl) (by kernel_rfl) (fun _ _ _ h => h) ⟨by rfl, ?_⟩ (by assumption) ?_
      rotate_left
      · intro w hS; go_simp <;> with_reducible rfl
      simp only [Act.put, List.setIfInBounds_toArray, List.set_cons_zero, List.set_cons_succ]
      refine takeL 28 (v := ?_) rfl (by kernel_rfl) (by kernel_rfl) (by kernel_rfl) (fun _ _ _ h => h) ⟨by rfl, ?_⟩ (by assumption) ?_
      rotate_left
      · intro w hS; go_simp <;> with_reducible rfl
      simp only [Act.put, List.setIfInBounds_toArray, List.set_cons_zero, List.set_cons_succ]
      refine takeL 29 (v := ?_) rfl (by kernel_rfl) (by kernel_rfl) (by kernel_rfl) (fun _ _ _ h => h) ⟨by rfl, ?_⟩ (by assumption) ?_
      rotate_left
      · intro w hS; go_simp <;> with_reducible rfl
      simp only [Act.put, List.setIfInBounds_toArray, List.set_cons_zero, List.set_cons_succ]
      refine takeL 30 (v := ?_) rfl (by kernel_rfl) (by kernel_rfl) (by kernel_rfl) (fun _ _ _ h => h) ⟨by rfl, ?_⟩ (by assumption) ?_
      rotate_left
      · intro w hS; go_simp <;> with_reducible rfl
      simp only [Act.put, List.setIfInBounds_toArray, List.set_cons_zero, List.set_cons_succ]
      refine takeL 32 (v := ?_) rfl (by kernel_rfl) (by kernel_rfl) (by kernel_rfl) (fun _ _ _ h => h) ⟨by rfl, ?_⟩ (by assumption) ?_
      rotate_left
      · intro w hS; go_simp <;> with_reducible rfl
      simp only [Act.put, List.setIfInBounds_toArray, List.set_cons_zero, List.set_cons_succ]
      refine twoL 26 31 rfl rfl (by kernel_rfl) (by rfl) (by rfl) (fun K hK => ?_) (fun K hK => ?_)
      · go_simp
        go_at_call 28
        (with_reducible refine (CSC.out _ (s1.next hHeld)).mono ?_); rintro e w21 ⟨r21, z21, rfl, o21, m21, v21, l21, b21⟩
        have V21 := Lib.hid v21; clear v21; have t21 := o21.sl; clear o21; replace t14 := t14.next b21; replace t15 := t15.next b21; replace t16 := t16.next b21; replace t18 := t18.next b21; replace t19 := t19.next b21
        refine hK.out _ _ (hHeld.trans (b21.mono hHeld.size)) (fun hHeld => ?_)
        clear hK K
        try simp only [Act.put, List.setIfInBounds_toArray, List.set_cons_zero, List.set_cons_succ]
        refine oneL 31 rfl (by kernel_rfl) (by rfl) (fun K hK => ?_)
        go_simp
        have t22 : Sl .u64 ((w21).alloc (.cells #[.int .u64 cm] 26)) (.slice (some ⟨(w21).heap.size, 0, none⟩) 1 1) [cm] := (own_lit1 (w21) cm).sl
        have b22 := (Below.refl (w21).heap.size (w21)).alloc (Nat.le_refl _) (.cells #[.int .u64 cm] 26)
        generalize (w21).alloc (.cells #[.int .u64 cm] 26) = w22 at *
        replace t14 := t14.next b22
        replace t15 := t15.next b22
        replace t16 := t16.next b22
        replace t18 := t18.next b22
        replace t19 := t19.next b22
        replace t21 := t21.next b22
        refine hK.out _ _ (hHeld.trans (b22.mono hHeld.size)) (fun hHeld => ?_)
        clear hK K
        try simp only [Act.put, List.setIfInBounds_toArray, List.set_cons_zero, List.set_cons_succ]
        refine oneL 33 rfl (by kernel_rfl) (by rfl) (fun K hK => ?_)
        go_simp
        go_at_call 21
        (with_reducible refine (ref9_Mul p _ _ z4 [cm] _ HP.out (t4.next hHeld) t22 (by omega) (by simp)).mono ?_); rintro e w23 ⟨r23, z23, rfl, o23, m23, v23, l23, b23⟩
        have V23 := Lib.hid v23; clear v23; have t23 := o23.sl; clear o23; replace t14 := t14.next b23; replace t15 := t15.next b23; replace t16 := t16.next b23; replace t18 := t18.next b23; replace t19 := t19.next b23; replace t21 := t21.next b23; replace t22 := t22.next b23
        refine hK.out _ _ (hHeld.trans (b23.mono hHeld.size)) (fun hHeld => ?_)
        clear hK K
        try simp only [Act.put, List.setIfInBounds_toArray, List.set_cons_zero, List.set_cons_succ]
        refine oneL 34 rfl (by kernel_rfl) (by rfl) (fun K hK => ?_)
        go_simp
        go_at_call 22
        (with_reducible refine (law9_is _ _ z21 z23 true _ t21 t23 (by omega) (by simp at *; omega) (decide_eq_true (pl_inj HP.out.pos m21 m23 (by rw [V21.out, V23.out, V4.out, CM.out]))).symm).mono ?_); rintro e w24 ⟨rfl, q24⟩
        have b24 := q24.below (w23).heap.size; clear q24; replace t14 := t14.next b24; replace t15 := t15.next b24; replace t16 := t16.next b24; replace t18 := t18.next b24; replace t19 := t19.next b24; replace t21 := t21.next b24; replace t22 := t22.next b24; replace t23 := t23.next b24
        refine hK.out _ _ (hHeld.trans (b24.mono hHeld.size)) (fun hHeld => ?_)
        clear hK K
        try simp only [Act.put, List.setIfInBounds_toArray, List.set_cons_zero, List.set_cons_succ]
        refine takeL 35 (v := ?_) rfl (by kernel_rfl) (by kernel_rfl) (by kernel_rfl) (fun _ _ _ h => h) ⟨by rfl, ?_⟩ (by assumption) ?_
        rotate_left
        · intro w hS; go_simp <;> with_reducible rfl
        simp only [Act.put, List.setIfInBounds_toArray, List.set_cons_zero, List.set_cons_succ]
        refine takeL 36 (v := ?_) rfl (by kernel_rfl) (by kernel_rfl) (by kernel_rfl) (fun _ _ _ h => h) ⟨by rfl, ?_⟩ (by assumption) ?_
        rotate_left
        · intro w hS; go_simp <;> with_reducible rfl
        simp only [Act.put, List.setIfInBounds_toArray, List.set_cons_zero, List.set_cons_succ]
        refine takeL 37 (v := ?_) rfl (by kernel_rfl) (by kernel_rfl) (by kernel_rfl) (fun _ _ _ h => h) ⟨by rfl, ?_⟩ (by assumption) ?_
        rotate_left
        · intro w hS; have f1 := fx.at hS; go_simp <;> with_reducible rfl
        simp only [Act.put, List.setIfInBounds_toArray, List.set_cons_zero, List.set_cons_succ]
        refine takeL 38 (v := ?_) rfl (by kernel_rfl) (by kernel_rfl) (by kernel_rfl) (fun _ _ _ h => h) ⟨by rfl, ?_⟩ (by assumption) ?_
        rotate_left
        · intro w hS; go_simp <;> with_reducible rfl
        simp only [Act.put, List.setIfInBounds_toArray, List.set_cons_zero, List.set_cons_succ]
        refine takeL 39 (v := ?_) rfl (by kernel_rfl) (by kernel_rfl) (by kernel_rfl) (fun _ _ _ h => h) ⟨by rfl, ?_⟩ (by assumption) ?_
        rotate_left
        · intro w hS; go_simp <;> with_reducible rfl
        simp only [Act.put, List.setIfInBounds_toArray, List.set_cons_zero, List.set_cons_succ]
        refine takeL 41 (v := ?_) rfl (by kernel_rfl) (by kernel_rfl) (by kernel_rfl) (fun _ _ _ h => h) ⟨by rfl, ?_⟩ (by assumption) ?_
        rotate_left
        · intro w hS; go_simp <;> with_reducible rfl
        simp only [Act.put, List.setIfInBounds_toArray, List.set_cons_zero, List.set_cons_succ]
        refine takeL 42 (v := ?_) rfl (by kernel_rfl) (by kernel_rfl) (by kernel_rfl) (fun _ _ _ h => h) ⟨by rfl, ?_⟩ (by assumption) ?_
        rotate_left
        · intro w hS; go_simp <;> with_reducible rfl
        simp only [Act.put, List.setIfInBounds_toArray, List.set_cons_zero, List.set_cons_succ]
        refine takeL 43 (v := ?_) rfl (by kernel_rfl) (by kernel_rfl) (by kernel_rfl) (fun _ _ _ h => h) ⟨by rfl, ?_⟩ (by assumption) ?_
        rotate_left
        · intro w hS; go_simp <;> with_reducible rfl
        simp only [Act.put, List.setIfInBounds_toArray, List.set_cons_zero, List.set_cons_succ]
        refine oneL 40 rfl (by kernel_rfl) (by rfl) (fun K hK => ?_)
        go_simp
        go_at_call 29
        (with_reducible refine (CEV.out _ (s1.next hHeld)).mono ?_); rintro e w25 ⟨rfl, b25⟩
        skip; replace t14 := t14.next b25; replace t15 := t15.next b25; replace t16 := t16.next b25; replace t18 := t18.next b25; replace t19 := t19.next b25; replace t21 := t21.next b25; replace t22 := t22.next b25; replace t23 := t23.next b25
        refine hK.out _ _ (hHeld.trans (b25.mono hHeld.size)) (fun hHeld => ?_)
        clear hK K
        try simp only [Act.put, List.setIfInBounds_toArray, List.set_cons_zero, List.set_cons_succ]
        refine oneL 44 rfl (by kernel_rfl) (by rfl) (fun K hK => ?_)
        go_simp
        go_at_call 30
        (with_reducible refine (CRV.out _ _ (t4.next hHeld)).mono ?_); rintro e w26 ⟨rfl, q26⟩
        have b26 := q26.below (w25).heap.size; clear q26; replace t14 := t14.next b26; replace t15 := t15.next b26; replace t16 := t16.next b26; replace t18 := t18.next b26; replace t19 := t19.next b26; replace t21 := t21.next b26; replace t22 := t22.next b26; replace t23 := t23.next b26
        refine hK.out _ _ (hHeld.trans (b26.mono hHeld.size)) (fun hHeld => ?_)
        clear hK K
        try simp only [Act.put, List.setIfInBounds_toArray, List.set_cons_zero, List.set_cons_succ]
        refine takeL 45 (v := ?_) rfl (by kernel_rfl) (by kernel_rfl) (by kernel_rfl) (fun _ _ _ h => h) ⟨by rfl, ?_⟩ (by assumption) ?_
        rotate_left
        · intro w hS; go_simp <;> with_reducible rfl
        simp only [Act.put, List.setIfInBounds_toArray, List.set_cons_zero, List.set_cons_succ]
        refine takeL 46 (v := ?_) rfl (by kernel_rfl) (by kernel_rfl) (by kernel_rfl) (fun _ _ _ h => h) ⟨by rfl, ?_⟩ (by assumption) ?_
        rotate_left
        · intro w hS; go_simp <;> with_reducible rfl
        simp only [Act.put, List.setIfInBounds_toArray, List.set_cons_zero, List.set_cons_succ]
        refine takeL 47 (v := ?_) rfl (by kernel_rfl) (by kernel_rfl) (by kernel_rfl) (fun _ _ _ h => h) ⟨by rfl, ?_⟩ (by assumption) ?_
        rotate_left
        · intro w hS; go_simp <;> with_reducible rfl
        simp only [Act.put, List.setIfInBounds_toArray, List.set_cons_zero, List.set_cons_succ]
        refine doneL (by kernel_rfl) ?_ _
        replace s1 := s1.next hHeld
        replace s2 := s2.next hHeld
        replace t4 := t4.next hHeld
        replace t5 := t5.next hHeld
        replace t6 := t6.next hHeld
        replace t11 := t11.next hHeld
        replace t12 := t12.next hHeld
        replace fx := fx.next hHeld
        have hcg := fx.cell
        clear hHeld
        go_wp2
        go_ret
        exact ⟨rfl, fx.below⟩
      · go_simp
        have t21 : Sl .u64 ((w20).alloc (.cells #[.int .u64 cm] 26)) (.slice (some ⟨(w20).heap.size, 0, none⟩) 1 1) [cm] := (own_lit1 (w20) cm).sl
        have b21 := (Below.refl (w20).heap.size (w20)).alloc (Nat.le_refl _) (.cells #[.int .u64 cm] 26)
        generalize (w20).alloc (.cells #[.int .u64 cm] 26) = w21 at *
        replace t14 := t14.next b21
        replace t15 := t15.next b21
        replace t16 := t16.next b21
        replace t18 := t18.next b21
        replace t19 := t19.next b21
        refine hK.out _ _ (hHeld.trans (b21.mono hHeld.size)) (fun hHeld => ?_)
        clear hK K
        try simp only [Act.put, List.setIfInBounds_toArray, List.set_cons_zero, List.set_cons_succ]
        refine oneL 26 rfl (by kernel_rfl) (by rfl) (fun K hK => ?_)
        go_simp
        go_at_call 28
        (with_reducible refine (CSC.out _ (s1.next hHeld)).mono ?_); rintro e w22 ⟨r22, z22, rfl, o22, m22, v22, l22, b22⟩
        have V22 := Lib.hid v22; clear v22; have t22 := o22.sl; clear o22; replace t14 := t14.next b22; replace t15 := t15.next b22; replace t16 := t16.next b22; replace t18 := t18.next b22; replace t19 := t19.next b22; replace t21 := t21.next b22
        refine hK.out _ _ (hHeld.trans (b22.mono hHeld.size)) (fun hHeld => ?_)
        clear hK K
        try simp only [Act.put, List.setIfInBounds_toArray, List.set_cons_zero, List.set_cons_succ]
        refine oneL 33 rfl (by kernel_rfl) (by rfl) (fun K hK => ?_)
        go_simp
        go_at_call 21
        (with_reducible refine (ref9_Mul p _ _ z4 [cm] _ HP.out (t4.next hHeld) t21 (by omega) (by simp)).mono ?_); rintro e w23 ⟨r23, z23, rfl, o23, m23, v23, l23, b23⟩
        have V23 := Lib.hid v23; clear v23; have t23 := o23.sl; clear o23; replace t14 := t14.next b23; replace t15 := t15.next b23; replace t16 := t16.next b23; replace t18 := t18.next b23; replace t19 := t19.next b23; replace t21 := t21.next b23; replace t22 := t22.next b23
        refine hK.out _ _ (hHeld.trans (b23.mono hHeld.size)) (fun hHeld => ?_)
        clear hK K
        try simp only [Act.put, List.setIfInBounds_toArray, List.set_cons_zero, List.set_cons_succ]
        refine oneL 34 rfl (by kernel_rfl) (by rfl) (fun K hK => ?_)
        go_simp
        go_at_call 22
        (with_reducible refine (law9_is _ _ z22 z23 true _ t22 t23 (by omega) (by simp at *; omega) (decide_eq_true (pl_inj HP.out.pos m22 m23 (by rw [V22.out, V23.out, V4.out, CM.out]))).symm).mono ?_); rintro e w24 ⟨rfl, q24⟩
        have b24 := q24.below (w23).heap.size; clear q24; replace t14 := t14.next b24; replace t15 := t15.next b24; replace t16 := t16.next b24; replace t18 := t18.next b24; replace t19 := t19.next b24; replace t21 := t21.next b24; replace t22 := t22.next b24; replace t23 := t23.next b24
        refine hK.out _ _ (hHeld.trans (b24.mono hHeld.size)) (fun hHeld => ?_)
        clear hK K
        try simp only [Act.put, List.setIfInBounds_toArray, List.set_cons_zero, List.set_cons_succ]
        refine takeL 35 (v := ?_) rfl (by kernel_rfl) (by kernel_rfl) (by kernel_rfl) (fun _ _ _ h => h) ⟨by rfl, ?_⟩ (by assumption) ?_
        rotate_left
        · intro w hS; go_simp <;> with_reducible rfl
        simp only [Act.put, List.setIfInBounds_toArray, List.set_cons_zero, List.set_cons_succ]
        refine takeL 36 (v := ?_) rfl (by kernel_rfl) (by kernel_rfl) (by kernel_rfl) (fun _ _ _ h => h) ⟨by rfl, ?_⟩ (by assumption) ?_
        rotate_left
        · intro w hS; go_simp <;> with_reducible rfl
        simp only [Act.put, List.setIfInBounds_toArray, List.set_cons_zero, List.set_cons_succ]
        refine takeL 37 (v := ?_) rfl (by kernel_rfl) (by kernel_rfl) (by kernel_rfl) (fun _ _ _ h => h) ⟨by rfl, ?_⟩ (by assumption) ?_
        rotate_left
        · intro w hS; have f1 := fx.at hS; go_simp <;> with_reducible rfl
        simp only [Act.put, List.setIfInBounds_toArray, List.set_cons_zero, List.set_cons_succ]
        refine takeL 38 (v := ?_) rfl (by kernel_rfl) (by kernel_rfl) (by kernel_rfl) (fun _ _ _ h => h) ⟨by rfl, ?_⟩ (by assumption) ?_
        rotate_left
        · intro w hS; go_simp <;> with_reducible rfl
        simp only [Act.put, List.setIfInBounds_toArray, List.set_cons_zero, List.set_cons_succ]
        refine takeL 39 (v := ?_) rfl (by kernel_rfl) (by kernel_rfl) (by kernel_rfl) (fun _ _ _ h => h) ⟨by rfl, ?_⟩ (by assumption) ?_
        rotate_left
        · intro w hS; go_simp <;> with_reducible rfl
        simp only [Act.put, List.setIfInBounds_toArray, List.set_cons_zero, List.set_cons_succ]
        refine takeL 41 (v := ?_) rfl (by kernel_rfl) (by kernel_rfl) (by kernel_rfl) (fun _ _ _ h => h) ⟨by rfl, ?_⟩ (by assumption) ?_
        rotate_left
        · intro w hS; go_simp <;> with_reducible rfl
        simp only [Act.put, List.setIfInBounds_toArray, List.set_cons_zero, List.set_cons_succ]
        refine takeL 42 (v := ?_) rfl (by kernel_rfl) (by kernel_rfl) (by kernel_rfl) (fun _ _ _ h => h) ⟨by rfl, ?_⟩ (by assumption) ?_
        rotate_left
        · intro w hS; go_simp <;> with_reducible rfl
        simp only [Act.put, List.setIfInBounds_toArray, List.set_cons_zero, List.set_cons_succ]
        refine takeL 43 (v := ?_) rfl (by kernel_rfl) (by kernel_rfl) (by kernel_rfl) (fun _ _ _ h => h) ⟨by rfl, ?_⟩ (by assumption) ?_
        rotate_left
        · intro w hS; go_simp <;> with_reducible rfl
        simp only [Act.put, List.setIfInBounds_toArray, List.set_cons_zero, List.set_cons_succ]
        refine oneL 40 rfl (by kernel_rfl) (by rfl) (fun K hK => ?_)
        go_simp
        go_at_call 29
        (with_reducible refine (CEV.out _ (s1.next hHeld)).mono ?_); rintro e w25 ⟨rfl, b25⟩
        skip; replace t14 := t14.next b25; replace t15 := t15.next b25; replace t16 := t16.next b25; replace t18 := t18.next b25; replace t19 := t19.next b25; replace t21 := t21.next b25; replace t22 := t22.next b25; replace t23 := t23.next b25
        refine hK.out _ _ (hHeld.trans (b25.mono hHeld.size)) (fun hHeld => ?_)
        clear hK K
        try simp only [Act.put, List.setIfInBounds_toArray, List.set_cons_zero, List.set_cons_succ]
        refine oneL 44 rfl (by kernel_rfl) (by rfl) (fun K hK => ?_)
        go_simp
        go_at_call 30
        (with_reducible refine (CRV.out _ _ (t4.next hHeld)).mono ?_); rintro e w26 ⟨rfl, q26⟩
        have b26 := q26.below (w25).heap.size; clear q26; replace t14 := t14.next b26; replace t15 := t15.next b26; replace t16 := t16.next b26; replace t18 := t18.next b26; replace t19 := t19.next b26; replace t21 := t21.next b26; replace t22 := t22.next b26; replace t23 := t23.next b26
        refine hK.out _ _ (hHeld.trans (b26.mono hHeld.size)) (fun hHeld => ?_)
        clear hK K
        try simp only [Act.put, List.setIfInBounds_toArray, List.set_cons_zero, List.set_cons_succ]
        refine takeL 45 (v := ?_) rfl (by kernel_rfl) (by kernel_rfl) (by kernel_rfl) (fun _ _ _ h => h) ⟨by rfl, ?_⟩ (by assumption) ?_
        rotate_left
        · intro w hS; go_simp <;> with_reducible rfl
        simp only [Act.put, List.setIfInBounds_toArray, List.set_cons_zero, List.set_cons_succ]
        refine takeL 46 (v := ?_) rfl (by kernel_rfl) (by kernel_rfl) (by kernel_rfl) (fun _ _ _ h => h) ⟨by rfl, ?_⟩ (by assumption) ?_
        rotate_left
        · intro w hS; go_simp <;> with_reducible rfl
        simp only [Act.put, List.setIfInBounds_toArray, List.set_cons_zero, List.set_cons_succ]
        refine takeL 47 (v := ?_) rfl (by kernel_rfl) (by kernel_rfl) (by kernel_rfl) (fun _ _ _ h => h) ⟨by rfl, ?_⟩ (by assumption) ?_
        rotate_left
        · intro w hS; go_simp <;> with_reducible rfl
        simp only [Act.put, List.setIfInBounds_toArray, List.set_cons_zero, List.set_cons_succ]
        refine doneL (by kernel_rfl) ?_ _
        replace s1 := s1.next hHeld
        replace s2 := s2.next hHeld
        replace t4 := t4.next hHeld
        replace t5 := t5.next hHeld
        replace t6 := t6.next hHeld
        replace t11 := t11.next hHeld
        replace t12 := t12.next hHeld
        replace fx := fx.next hHeld
        have hcg := fx.cell
        clear hHeld
        go_wp2
        go_ret
        exact ⟨rfl, fx.below⟩
  · have H := Lib.hid h; clear h
    go_enter Try.func5, Try.ntmps5
    go_wp2_with fail
    refine (law9_awake w).mono ?_; rintro e w1 ⟨rfl, b1⟩
    go_wp2_with fail
    refine (law9_few v1 v2 (.slice none 0 0) x1 x2 [] 20 false _ (s1.next b1) (s2.next b1) (Sl.nil _ _) (decide_eq_false (fun h => H.out ⟨h.1, h.2.1⟩)).symm).mono ?_; rintro e w2 ⟨rfl, rfl⟩
    go_wp2_with fail
    refine (law9_awake w1).mono ?_; rintro e w2 ⟨rfl, b2⟩
    go_wp2
    go_ret
    exact ⟨rfl, b1.trans (b2.mono b1.size)⟩

set_option maxRecDepth 100000 in
theorem lifted (os : Os) (started : os.Started) (H : Type) (enc : TypeId × Value → H) :
    ReturnsInHanded {} Try.checked os 5 .any (Rows.polyReckonsSpec.pre6 enc Try.prog Try.f5 Rows.polyReckonsRow.domain false) (Rows.polyReckonsSpec.post enc Try.prog Try.f5 false true false false) := by
  refine returnsInHanded_of_change (C := Try.checked) own started (by kernel_rfl) Try.func5
    (ChangeSpec.witness6 (enc := enc) (C := Try.checked) false ⟨#[], #[.int .u8 0, .slice none 0 0, .slice none 0 0], []⟩ 8 (by kernel_rfl) (by kernel_rfl) (by kernel_rfl) (by kernel_rfl)) ?_
  intro W base args ds gs before hval0 hW hcnd _
  have hval : ∀ (j : Nat) t v, Try.f5.params[j]? = some t → args[j]? = some v → Value.okWide Try.prog W .any base t v := hval0
  have hW' := hW
  obtain ⟨p, q, hA0, hV, rfl, hfz, hnd⟩ := hW
  have hA : DataW.TrodAll enc Try.prog W 0 (fun _ => true) true Try.f5.params.toList args.toList ds p := hA0
  rw [Try.params5] at hA hval
  obtain ⟨v0, vs0, d0, ds0, p0, q0, hargs, rfl, rfl, h0, r0⟩ := trodAll_cons hA
  obtain ⟨v1, vs1, d1, ds1, p1, q1, rfl, rfl, rfl, h1, r1⟩ := trodAll_cons r0
  obtain ⟨v2, vs2, d2, ds2, p2, q2, rfl, rfl, rfl, h2, r2⟩ := trodAll_cons r1
  obtain ⟨rfl, rfl, rfl⟩ := trodAll_nil r2
  obtain rfl : args = #[v0, v1, v2] := by cases args; simp_all
  obtain ⟨rfl, rfl⟩ := trodVars_none hV
  have k0 := h0
  have lt0 : ∀ x ∈ p0, x.block < W.heap.size := by obtain ⟨m, hm⟩ := k0; exact DataW.trod_lt m _ _ _ hm
  obtain ⟨i0, rfl, rfl, rfl, wi0⟩ := open_int Try.underlying5 (hval 0 5 v0 rfl rfl) h0
  obtain ⟨x0, rfl⟩ := Int.eq_ofNat_of_zero_le (wf_u8_bounds wi0).1
  have k1 := h1
  have lt1 : ∀ x ∈ p1, x.block < W.heap.size := by obtain ⟨m, hm⟩ := k1; exact DataW.trod_lt m _ _ _ hm
  obtain ⟨x1, s1, -⟩ := open_words Try.underlying23 Try.underlying26 (by kernel_rfl) (hval 1 23 v1 rfl rfl) h1
  have k2 := h2
  have lt2 : ∀ x ∈ p2, x.block < W.heap.size := by obtain ⟨m, hm⟩ := k2; exact DataW.trod_lt m _ _ _ hm
  obtain ⟨x2, s2, -⟩ := open_words Try.underlying23 Try.underlying26 (by kernel_rfl) (hval 2 23 v2 rfl rfl) h2
  clear hA0 hval0
  refine (walk x0 v1 x1 v2 x2 W  s1 s2).mono fun e W' ⟨he, bel⟩ => ?_
  subst he
  exact ⟨_, rfl, _, _, _, [], _, [], hW', trodAll_mk1 (shut_bool Try.underlying4 _), (trodAll_cons_mk (Below.trod laidOut (by kernel_rfl) (of_decide_eq_true (by kernel_rfl)) k0 bel lt0) (trodAll_cons_mk (Below.trod laidOut (by kernel_rfl) (of_decide_eq_true (by kernel_rfl)) k1 bel lt1) (trodAll_cons_mk (Below.trod laidOut (by kernel_rfl) (of_decide_eq_true (by kernel_rfl)) k2 bel lt2) trodAll_mk0))), rfl, bel.frame _, fun h => by cases h⟩

theorem over : Rows.polyReckonsRow.holds Try.pinned (OpenSpec.ofChange Rows.polyReckonsSpec) :=
  OpenClaim.holds_of_wide 5 Try.f5 rfl rfl rfl rfl rfl rfl rfl ⟨rfl, rfl, rfl, rfl, rfl⟩ rfl rfl rfl rfl rfl (by kernel_rfl) Try.func5 (by kernel_rfl)
    (of_decide_eq_true (by kernel_rfl)) (by unfold Func.isWrapper; first | (rw [if_pos (by decide +kernel)]; kernel_rfl) | (rw [if_neg (by decide +kernel)]; exact ⟨rfl, rfl⟩))
    (fun os started H enc _ => lifted os started H enc)

theorem proved : Rows.PolyReckonsSaid := over
#print axioms proved
end Go.Proofs.Ytjpioijlpgmlfaa.polyReckons
