/- For every number and two lists the law PolyDerives returns true, whatever they are. -/
import Derived.Test.YtjpioijlpgmlfaaRows
import Derived.Test.YtjpioijlpgmlfaaOpen
import Derived.Test.YtjpioijlpgmlfaaFlaw
namespace Go.Proofs.Ytjpioijlpgmlfaa.polyDerives
open Go.ChangeShapes Go.WideShapes Go.ChangeAt Go.RowKit
open Go.ChangeMaps (open_string shut_string)

theorem own : ownKnob Try.prog.godebug = none := by kernel_rfl
theorem laidOut : laidOutB Try.prog = true := by kernel_rfl

set_option maxHeartbeats 4000000 in
theorem walk (x0 : Nat) (v1 : Value) (x1 : List Nat) (v2 : Value) (x2 : List Nat) (w : World) (s1 : Sl .u64 w v1 x1) (s2 : Sl .u64 w v2 x2) :
    Calls Try.prog 3 #[.int .u8 x0, v1, v2] w (LawOk w) := by
  by_cases h : (x1.length : Int) ≤ 12 ∧ (x2.length : Int) ≤ 12
  · obtain ⟨h1, h2⟩ := h
    go_enter Try.func3, Try.ntmps3
    have B : Below w.heap.size w w := Below.refl _ _
    go_wp2_with fail
    refine (law9_awake _).mono ?_; rintro e w1 ⟨rfl, b1⟩
    replace s1 := s1.next b1
    replace s2 := s2.next b1
    replace B := B.trans (b1.mono B.size)
    go_wp2_with fail
    refine (law9_few v1 v2 (.slice none 0 0) x1 x2 [] 12 true _ s1 s2 (Sl.nil _ _) (decide_eq_true ⟨h1, h2, by simp⟩).symm).mono ?_; rintro e wx ⟨rfl, rfl⟩
    go_wp2_with fail
    refine (law9_Of x0 _).mono ?_; rintro e w2 ⟨rfl, b2⟩
    replace s1 := s1.next b2
    replace s2 := s2.next b2
    replace B := B.trans (b2.mono B.size)
    have hp := Ps_FP (k := x0 % 12) (by omega)
    obtain ⟨p, ep⟩ : ∃ p, p = Ps (x0 % 12) := ⟨_, rfl⟩
    rw [← ep] at hp ⊢
    clear ep
    have HP := Lib.hid hp; clear hp
    go_upto_region 4 with (fail)
    have fx : Fx p w (w2.alloc (.cells #[.int .u64 p] 28)) w2.heap.size := Fx.box B
    have bb := (Below.refl w2.heap.size w2).alloc (Nat.le_refl _) (.cells #[.int .u64 p] 28)
    replace s1 := s1.next bb
    replace s2 := s2.next bb
    generalize w2.alloc (.cells #[.int .u64 p] 28) = w3 at *
    obtain ⟨g, eg⟩ : ∃ g, g = w2.heap.size := ⟨_, rfl⟩
    rw [← eg] at fx ⊢
    clear eg bb b2 b1 B
    
    go_upto_region 4 with (fail)
    obtain ⟨wd, hwd⟩ : ∃ wd, wd = w3.drew := ⟨_, rfl⟩
    replace s1 := s1.drew
    replace s2 := s2.drew
    replace fx := fx.drew
    refine startL (S := (fun w' => Below w3.drew.heap.size w3.drew w')) (by kernel_rfl) (Below.refl _ _) (fun hHeld => ?_)
    refine takeL 0 (v := ?_) rfl (by kernel_rfl) (by kernel_rfl) (by kernel_rfl) (fun _ _ _ h => h) ⟨by rfl, ?_⟩ (by assumption) ?_
    rotate_left
    · intro w hS; have f1 := fx.at hS; go_simp <;> with_reducible rfl
    simp only [Act.put, List.setIfInBounds_toArray, List.set_cons_zero, List.set_cons_succ]
    refine takeL 1 (v := ?_) rfl (by kernel_rfl) (by kernel_rfl) (by kernel_rfl) (fun _ _ _ h => h) ⟨by rfl, ?_⟩ (by assumption) ?_
    rotate_left
    · intro w hS; have f1 := fx.at hS; go_simp <;> with_reducible rfl
    simp only [Act.put, List.setIfInBounds_toArray, List.set_cons_zero, List.set_cons_succ]
    refine takeL 2 (v := ?_) rfl (by kernel_rfl) (by kernel_rfl) (by kernel_rfl) (fun _ _ _ h => h) ⟨by rfl, ?_⟩ (by assumption) ?_
    rotate_left
    · intro w hS; go_simp <;> with_reducible rfl
    simp only [Act.put, List.setIfInBounds_toArray, List.set_cons_zero, List.set_cons_succ]
    refine takeL 3 (v := ?_) rfl (by kernel_rfl) (by kernel_rfl) (by kernel_rfl) (fun _ _ _ h => h) ⟨by rfl, ?_⟩ (by assumption) ?_
    rotate_left
    · intro w hS; go_simp <;> with_reducible rfl
    simp only [Act.put, List.setIfInBounds_toArray, List.set_cons_zero, List.set_cons_succ]
    refine oneL 4 rfl (by kernel_rfl) (by rfl) (fun K hK => ?_)
    go_simp
    go_at_call 14
    refine (fp_Mul p v1 v2 x1 x2 _ HP.out (s1.next hHeld) (s2.next hHeld) (by omega) (by omega)).mono ?_; rintro e w4 ⟨r4, z4, rfl, o4, m4, v4, l4, b4⟩
    have V4 := Lib.hid v4; clear v4; have t4 := o4.sl; clear o4
    refine hK.out _ _ (hHeld.trans (b4.mono hHeld.size)) (fun hHeld => ?_)
    clear hK K
    try simp only [Act.put, List.setIfInBounds_toArray, List.set_cons_zero, List.set_cons_succ]
    refine oneL 5 rfl (by kernel_rfl) (by rfl) (fun K hK => ?_)
    go_simp
    go_at_call 13
    refine (fp_Derive p r4 z4 _ HP.out t4 (by omega)).mono ?_; rintro e w5 ⟨r5, z5, rfl, o5, m5, v5, l5, b5⟩
    have V5 := Lib.hid v5; clear v5; have t5 := o5.sl; clear o5; replace t4 := t4.next b5
    refine hK.out _ _ (hHeld.trans (b5.mono hHeld.size)) (fun hHeld => ?_)
    clear hK K
    try simp only [Act.put, List.setIfInBounds_toArray, List.set_cons_zero, List.set_cons_succ]
    refine takeL 6 (v := ?_) rfl (by kernel_rfl) (by kernel_rfl) (by kernel_rfl) (fun _ _ _ h => h) ⟨by rfl, ?_⟩ (by assumption) ?_
    rotate_left
    · intro w hS; go_simp <;> with_reducible rfl
    simp only [Act.put, List.setIfInBounds_toArray, List.set_cons_zero, List.set_cons_succ]
    refine doneL (by kernel_rfl) ?_ _
    replace s1 := s1.next hHeld
    replace s2 := s2.next hHeld
    replace fx := fx.next hHeld
    clear hHeld hwd wd
    go_upto_region 5 with (fail)
    obtain ⟨wd, hwd⟩ : ∃ wd, wd = w5.drew := ⟨_, rfl⟩
    replace s1 := s1.drew
    replace s2 := s2.drew
    replace t4 := t4.drew
    replace t5 := t5.drew
    replace fx := fx.drew
    refine startL (S := (fun w' => Below w5.drew.heap.size w5.drew w')) (by kernel_rfl) (Below.refl _ _) (fun hHeld => ?_)
    refine takeL 0 (v := ?_) rfl (by kernel_rfl) (by kernel_rfl) (by kernel_rfl) (fun _ _ _ h => h) ⟨by rfl, ?_⟩ (by assumption) ?_
    rotate_left
    · intro w hS; have f1 := fx.at hS; go_simp <;> with_reducible rfl
    simp only [Act.put, List.setIfInBounds_toArray, List.set_cons_zero, List.set_cons_succ]
    refine takeL 1 (v := ?_) rfl (by kernel_rfl) (by kernel_rfl) (by kernel_rfl) (fun _ _ _ h => h) ⟨by rfl, ?_⟩ (by assumption) ?_
    rotate_left
    · intro w hS; have f1 := fx.at hS; go_simp <;> with_reducible rfl
    simp only [Act.put, List.setIfInBounds_toArray, List.set_cons_zero, List.set_cons_succ]
    refine takeL 2 (v := ?_) rfl (by kernel_rfl) (by kernel_rfl) (by kernel_rfl) (fun _ _ _ h => h) ⟨by rfl, ?_⟩ (by assumption) ?_
    rotate_left
    · intro w hS; have f1 := fx.at hS; go_simp <;> with_reducible rfl
    simp only [Act.put, List.setIfInBounds_toArray, List.set_cons_zero, List.set_cons_succ]
    refine takeL 3 (v := ?_) rfl (by kernel_rfl) (by kernel_rfl) (by kernel_rfl) (fun _ _ _ h => h) ⟨by rfl, ?_⟩ (by assumption) ?_
    rotate_left
    · intro w hS; go_simp <;> with_reducible rfl
    simp only [Act.put, List.setIfInBounds_toArray, List.set_cons_zero, List.set_cons_succ]
    refine takeL 5 (v := ?_) rfl (by kernel_rfl) (by kernel_rfl) (by kernel_rfl) (fun _ _ _ h => h) ⟨by rfl, ?_⟩ (by assumption) ?_
    rotate_left
    · intro w hS; go_simp <;> with_reducible rfl
    simp only [Act.put, List.setIfInBounds_toArray, List.set_cons_zero, List.set_cons_succ]
    refine takeL 7 (v := ?_) rfl (by kernel_rfl) (by kernel_rfl) (by kernel_rfl) (fun _ _ _ h => h) ⟨by rfl, ?_⟩ (by assumption) ?_
    rotate_left
    · intro w hS; have f1 := fx.at hS; go_simp <;> with_reducible rfl
    simp only [Act.put, List.setIfInBounds_toArray, List.set_cons_zero, List.set_cons_succ]
    refine takeL 8 (v := ?_) rfl (by kernel_rfl) (by kernel_rfl) (by kernel_rfl) (fun _ _ _ h => h) ⟨by rfl, ?_⟩ (by assumption) ?_
    rotate_left
    · intro w hS; go_simp <;> with_reducible rfl
    simp only [Act.put, List.setIfInBounds_toArray, List.set_cons_zero, List.set_cons_succ]
    refine takeL 9 (v := ?_) rfl (by kernel_rfl) (by kernel_rfl) (by kernel_rfl) (fun _ _ _ h => h) ⟨by rfl, ?_⟩ (by assumption) ?_
    rotate_left
    · intro w hS; have f1 := fx.at hS; go_simp <;> with_reducible rfl
    simp only [Act.put, List.setIfInBounds_toArray, List.set_cons_zero, List.set_cons_succ]
    refine takeL 10 (v := ?_) rfl (by kernel_rfl) (by kernel_rfl) (by kernel_rfl) (fun _ _ _ h => h) ⟨by rfl, ?_⟩ (by assumption) ?_
    rotate_left
    · intro w hS; go_simp <;> with_reducible rfl
    simp only [Act.put, List.setIfInBounds_toArray, List.set_cons_zero, List.set_cons_succ]
    refine oneL 4 rfl (by kernel_rfl) (by rfl) (fun K hK => ?_)
    go_simp
    go_at_call 13
    refine (fp_Derive p v1 x1 _ HP.out (s1.next hHeld) (by omega)).mono ?_; rintro e w6 ⟨r6, z6, rfl, o6, m6, v6, l6, b6⟩
    have V6 := Lib.hid v6; clear v6; have t6 := o6.sl; clear o6
    refine hK.out _ _ (hHeld.trans (b6.mono hHeld.size)) (fun hHeld => ?_)
    clear hK K
    try simp only [Act.put, List.setIfInBounds_toArray, List.set_cons_zero, List.set_cons_succ]
    refine oneL 6 rfl (by kernel_rfl) (by rfl) (fun K hK => ?_)
    go_simp
    go_at_call 14
    refine (fp_Mul p r6 v2 z6 x2 _ HP.out t6 (s2.next hHeld) (by omega) (by omega)).mono ?_; rintro e w7 ⟨r7, z7, rfl, o7, m7, v7, l7, b7⟩
    have V7 := Lib.hid v7; clear v7; have t7 := o7.sl; clear o7; replace t6 := t6.next b7
    refine hK.out _ _ (hHeld.trans (b7.mono hHeld.size)) (fun hHeld => ?_)
    clear hK K
    try simp only [Act.put, List.setIfInBounds_toArray, List.set_cons_zero, List.set_cons_succ]
    refine oneL 11 rfl (by kernel_rfl) (by rfl) (fun K hK => ?_)
    go_simp
    go_at_call 13
    refine (fp_Derive p v2 x2 _ HP.out (s2.next hHeld) (by omega)).mono ?_; rintro e w8 ⟨r8, z8, rfl, o8, m8, v8, l8, b8⟩
    have V8 := Lib.hid v8; clear v8; have t8 := o8.sl; clear o8; replace t6 := t6.next b8; replace t7 := t7.next b8
    refine hK.out _ _ (hHeld.trans (b8.mono hHeld.size)) (fun hHeld => ?_)
    clear hK K
    try simp only [Act.put, List.setIfInBounds_toArray, List.set_cons_zero, List.set_cons_succ]
    refine oneL 12 rfl (by kernel_rfl) (by rfl) (fun K hK => ?_)
    go_simp
    go_at_call 14
    refine (fp_Mul p v1 r8 x1 z8 _ HP.out (s1.next hHeld) t8 (by omega) (by omega)).mono ?_; rintro e w9 ⟨r9, z9, rfl, o9, m9, v9, l9, b9⟩
    have V9 := Lib.hid v9; clear v9; have t9 := o9.sl; clear o9; replace t6 := t6.next b9; replace t7 := t7.next b9; replace t8 := t8.next b9
    refine hK.out _ _ (hHeld.trans (b9.mono hHeld.size)) (fun hHeld => ?_)
    clear hK K
    try simp only [Act.put, List.setIfInBounds_toArray, List.set_cons_zero, List.set_cons_succ]
    refine oneL 13 rfl (by kernel_rfl) (by rfl) (fun K hK => ?_)
    go_simp
    go_at_call 15
    refine (fp_Add p r7 r9 z7 z9 _ HP.out t7 t9 (by omega) (by omega)).mono ?_; rintro e w10 ⟨r10, z10, rfl, o10, m10, v10, l10, b10⟩
    have V10 := Lib.hid v10; clear v10; have t10 := o10.sl; clear o10; replace t6 := t6.next b10; replace t7 := t7.next b10; replace t8 := t8.next b10; replace t9 := t9.next b10
    refine hK.out _ _ (hHeld.trans (b10.mono hHeld.size)) (fun hHeld => ?_)
    clear hK K
    try simp only [Act.put, List.setIfInBounds_toArray, List.set_cons_zero, List.set_cons_succ]
    refine takeL 14 (v := ?_) rfl (by kernel_rfl) (by kernel_rfl) (by kernel_rfl) (fun _ _ _ h => h) ⟨by rfl, ?_⟩ (by assumption) ?_
    rotate_left
    · intro w hS; go_simp <;> with_reducible rfl
    simp only [Act.put, List.setIfInBounds_toArray, List.set_cons_zero, List.set_cons_succ]
    refine doneL (by kernel_rfl) ?_ _
    replace s1 := s1.next hHeld
    replace s2 := s2.next hHeld
    replace t4 := t4.next hHeld
    replace t5 := t5.next hHeld
    replace fx := fx.next hHeld
    clear hHeld hwd wd
    go_upto_region 6 with (fail)
    obtain ⟨wd, hwd⟩ : ∃ wd, wd = w10.drew := ⟨_, rfl⟩
    replace s1 := s1.drew
    replace s2 := s2.drew
    replace t4 := t4.drew
    replace t5 := t5.drew
    replace t6 := t6.drew
    replace t7 := t7.drew
    replace t8 := t8.drew
    replace t9 := t9.drew
    replace t10 := t10.drew
    replace fx := fx.drew
    refine startL (S := (fun w' => Below w10.drew.heap.size w10.drew w')) (by kernel_rfl) (Below.refl _ _) (fun hHeld => ?_)
    refine takeL 0 (v := ?_) rfl (by kernel_rfl) (by kernel_rfl) (by kernel_rfl) (fun _ _ _ h => h) ⟨by rfl, ?_⟩ (by assumption) ?_
    rotate_left
    · intro w hS; have f1 := fx.at hS; go_simp <;> with_reducible rfl
    simp only [Act.put, List.setIfInBounds_toArray, List.set_cons_zero, List.set_cons_succ]
    refine takeL 1 (v := ?_) rfl (by kernel_rfl) (by kernel_rfl) (by kernel_rfl) (fun _ _ _ h => h) ⟨by rfl, ?_⟩ (by assumption) ?_
    rotate_left
    · intro w hS; have f1 := fx.at hS; go_simp <;> with_reducible rfl
    simp only [Act.put, List.setIfInBounds_toArray, List.set_cons_zero, List.set_cons_succ]
    refine takeL 2 (v := ?_) rfl (by kernel_rfl) (by kernel_rfl) (by kernel_rfl) (fun _ _ _ h => h) ⟨by rfl, ?_⟩ (by assumption) ?_
    rotate_left
    · intro w hS; go_simp <;> with_reducible rfl
    simp only [Act.put, List.setIfInBounds_toArray, List.set_cons_zero, List.set_cons_succ]
    refine takeL 4 (v := ?_) rfl (by kernel_rfl) (by kernel_rfl) (by kernel_rfl) (fun _ _ _ h => h) ⟨by rfl, ?_⟩ (by assumption) ?_
    rotate_left
    · intro w hS; have f1 := fx.at hS; go_simp <;> with_reducible rfl
    simp only [Act.put, List.setIfInBounds_toArray, List.set_cons_zero, List.set_cons_succ]
    refine takeL 5 (v := ?_) rfl (by kernel_rfl) (by kernel_rfl) (by kernel_rfl) (fun _ _ _ h => h) ⟨by rfl, ?_⟩ (by assumption) ?_
    rotate_left
    · intro w hS; go_simp <;> with_reducible rfl
    simp only [Act.put, List.setIfInBounds_toArray, List.set_cons_zero, List.set_cons_succ]
    refine oneL 3 rfl (by kernel_rfl) (by rfl) (fun K hK => ?_)
    go_simp
    go_at_call 13
    refine (fp_Derive p v1 x1 _ HP.out (s1.next hHeld) (by omega)).mono ?_; rintro e w11 ⟨r11, z11, rfl, o11, m11, v11, l11, b11⟩
    have V11 := Lib.hid v11; clear v11; have t11 := o11.sl; clear o11
    refine hK.out _ _ (hHeld.trans (b11.mono hHeld.size)) (fun hHeld => ?_)
    clear hK K
    try simp only [Act.put, List.setIfInBounds_toArray, List.set_cons_zero, List.set_cons_succ]
    refine oneL 6 rfl (by kernel_rfl) (by rfl) (fun K hK => ?_)
    go_simp
    go_at_call 13
    refine (fp_Derive p v2 x2 _ HP.out (s2.next hHeld) (by omega)).mono ?_; rintro e w12 ⟨r12, z12, rfl, o12, m12, v12, l12, b12⟩
    have V12 := Lib.hid v12; clear v12; have t12 := o12.sl; clear o12; replace t11 := t11.next b12
    refine hK.out _ _ (hHeld.trans (b12.mono hHeld.size)) (fun hHeld => ?_)
    clear hK K
    try simp only [Act.put, List.setIfInBounds_toArray, List.set_cons_zero, List.set_cons_succ]
    refine oneL 7 rfl (by kernel_rfl) (by rfl) (fun K hK => ?_)
    go_simp
    go_at_call 15
    refine (fp_Add p r11 r12 z11 z12 _ HP.out t11 t12 (by omega) (by omega)).mono ?_; rintro e w13 ⟨r13, z13, rfl, o13, m13, v13, l13, b13⟩
    have V13 := Lib.hid v13; clear v13; have t13 := o13.sl; clear o13; replace t11 := t11.next b13; replace t12 := t12.next b13
    refine hK.out _ _ (hHeld.trans (b13.mono hHeld.size)) (fun hHeld => ?_)
    clear hK K
    try simp only [Act.put, List.setIfInBounds_toArray, List.set_cons_zero, List.set_cons_succ]
    refine takeL 8 (v := ?_) rfl (by kernel_rfl) (by kernel_rfl) (by kernel_rfl) (fun _ _ _ h => h) ⟨by rfl, ?_⟩ (by assumption) ?_
    rotate_left
    · intro w hS; go_simp <;> with_reducible rfl
    simp only [Act.put, List.setIfInBounds_toArray, List.set_cons_zero, List.set_cons_succ]
    refine doneL (by kernel_rfl) ?_ _
    replace s1 := s1.next hHeld
    replace s2 := s2.next hHeld
    replace t4 := t4.next hHeld
    replace t5 := t5.next hHeld
    replace t6 := t6.next hHeld
    replace t7 := t7.next hHeld
    replace t8 := t8.next hHeld
    replace t9 := t9.next hHeld
    replace t10 := t10.next hHeld
    replace fx := fx.next hHeld
    clear hHeld hwd wd
    go_upto_region 7 with (fail)
    obtain ⟨wd, hwd⟩ : ∃ wd, wd = w13.drew := ⟨_, rfl⟩
    replace s1 := s1.drew
    replace s2 := s2.drew
    replace t4 := t4.drew
    replace t5 := t5.drew
    replace t6 := t6.drew
    replace t7 := t7.drew
    replace t8 := t8.drew
    replace t9 := t9.drew
    replace t10 := t10.drew
    replace t11 := t11.drew
    replace t12 := t12.drew
    replace t13 := t13.drew
    replace fx := fx.drew
    refine startL (S := (fun w' => Below w13.drew.heap.size w13.drew w')) (by kernel_rfl) (Below.refl _ _) (fun hHeld => ?_)
    refine takeL 0 (v := ?_) rfl (by kernel_rfl) (by kernel_rfl) (by kernel_rfl) (fun _ _ _ h => h) ⟨by rfl, ?_⟩ (by assumption) ?_
    rotate_left
    · intro w hS; go_simp <;> with_reducible rfl
    simp only [Act.put, List.setIfInBounds_toArray, List.set_cons_zero, List.set_cons_succ]
    refine takeL 1 (v := ?_) rfl (by kernel_rfl) (by kernel_rfl) (by kernel_rfl) (fun _ _ _ h => h) ⟨by rfl, ?_⟩ (by assumption) ?_
    rotate_left
    · intro w hS; go_simp <;> with_reducible rfl
    simp only [Act.put, List.setIfInBounds_toArray, List.set_cons_zero, List.set_cons_succ]
    refine oneL 2 rfl (by kernel_rfl) (by rfl) (fun K hK => ?_)
    go_simp
    go_at_call 16
    refine (ref9_Same r5 r10 z5 z10 true _ (t5.next hHeld) (t10.next hHeld) (by omega) (by omega) (decide_eq_true (pl_inj HP.out.pos m5 m10 (by rw [V5.out, V4.out, V10.out, V7.out, V9.out, V6.out, V8.out, der_mul]))).symm).mono ?_; rintro e w14 ⟨rfl, q14⟩
    have b14 := q14.below (w13.drew).heap.size; clear q14
    refine hK.out _ _ (hHeld.trans (b14.mono hHeld.size)) (fun hHeld => ?_)
    clear hK K
    try simp only [Act.put, List.setIfInBounds_toArray, List.set_cons_zero, List.set_cons_succ]
    refine takeL 3 (v := ?_) rfl (by kernel_rfl) (by kernel_rfl) (by kernel_rfl) (fun _ _ _ h => h) ⟨by rfl, ?_⟩ (by assumption) ?_
    rotate_left
    · intro w hS; go_simp <;> with_reducible rfl
    simp only [Act.put, List.setIfInBounds_toArray, List.set_cons_zero, List.set_cons_succ]
    refine takeL 4 (v := ?_) rfl (by kernel_rfl) (by kernel_rfl) (by kernel_rfl) (fun _ _ _ h => h) ⟨by rfl, ?_⟩ (by assumption) ?_
    rotate_left
    · intro w hS; have f1 := fx.at hS; go_simp <;> with_reducible rfl
    simp only [Act.put, List.setIfInBounds_toArray, List.set_cons_zero, List.set_cons_succ]
    refine takeL 5 (v := ?_) rfl (by kernel_rfl) (by kernel_rfl) (by kernel_rfl) (fun _ _ _ h => h) ⟨by rfl, ?_⟩ (by assumption) ?_
    rotate_left
    · intro w hS; have f1 := fx.at hS; go_simp <;> with_reducible rfl
    simp only [Act.put, List.setIfInBounds_toArray, List.set_cons_zero, List.set_cons_succ]
    refine takeL 6 (v := ?_) rfl (by kernel_rfl) (by kernel_rfl) (by kernel_rfl) (fun _ _ _ h => h) ⟨by rfl, ?_⟩ (by assumption) ?_
    rotate_left
    · intro w hS; go_simp <;> with_reducible rfl
    simp only [Act.put, List.setIfInBounds_toArray, List.set_cons_zero, List.set_cons_succ]
    refine takeL 7 (v := ?_) rfl (by kernel_rfl) (by kernel_rfl) (by kernel_rfl) (fun _ _ _ h => h) ⟨by rfl, ?_⟩ (by assumption) ?_
    rotate_left
    · intro w hS; go_simp <;> with_reducible rfl
    simp only [Act.put, List.setIfInBounds_toArray, List.set_cons_zero, List.set_cons_succ]
    refine takeL 10 (v := ?_) rfl (by kernel_rfl) (by kernel_rfl) (by kernel_rfl) (fun _ _ _ h => h) ⟨by rfl, ?_⟩ (by assumption) ?_
    rotate_left
    · intro w hS; go_simp <;> with_reducible rfl
    simp only [Act.put, List.setIfInBounds_toArray, List.set_cons_zero, List.set_cons_succ]
    refine oneL 8 rfl (by kernel_rfl) (by rfl) (fun K hK => ?_)
    go_simp
    go_at_call 15
    refine (fp_Add p v1 v2 x1 x2 _ HP.out (s1.next hHeld) (s2.next hHeld) (by omega) (by omega)).mono ?_; rintro e w15 ⟨r15, z15, rfl, o15, m15, v15, l15, b15⟩
    have V15 := Lib.hid v15; clear v15; have t15 := o15.sl; clear o15
    refine hK.out _ _ (hHeld.trans (b15.mono hHeld.size)) (fun hHeld => ?_)
    clear hK K
    try simp only [Act.put, List.setIfInBounds_toArray, List.set_cons_zero, List.set_cons_succ]
    refine oneL 9 rfl (by kernel_rfl) (by rfl) (fun K hK => ?_)
    go_simp
    go_at_call 13
    refine (fp_Derive p r15 z15 _ HP.out t15 (by omega)).mono ?_; rintro e w16 ⟨r16, z16, rfl, o16, m16, v16, l16, b16⟩
    have V16 := Lib.hid v16; clear v16; have t16 := o16.sl; clear o16; replace t15 := t15.next b16
    refine hK.out _ _ (hHeld.trans (b16.mono hHeld.size)) (fun hHeld => ?_)
    clear hK K
    try simp only [Act.put, List.setIfInBounds_toArray, List.set_cons_zero, List.set_cons_succ]
    refine oneL 11 rfl (by kernel_rfl) (by rfl) (fun K hK => ?_)
    go_simp
    go_at_call 16
    refine (ref9_Same r16 r13 z16 z13 true _ t16 (t13.next hHeld) (by omega) (by omega) (decide_eq_true (pl_inj HP.out.pos m16 m13 (by rw [V16.out, V15.out, V13.out, V11.out, V12.out, der_add]))).symm).mono ?_; rintro e w17 ⟨rfl, q17⟩
    have b17 := q17.below (w16).heap.size; clear q17; replace t15 := t15.next b17; replace t16 := t16.next b17
    refine hK.out _ _ (hHeld.trans (b17.mono hHeld.size)) (fun hHeld => ?_)
    clear hK K
    try simp only [Act.put, List.setIfInBounds_toArray, List.set_cons_zero, List.set_cons_succ]
    refine takeL 12 (v := ?_) rfl (by kernel_rfl) (by kernel_rfl) (by kernel_rfl) (fun _ _ _ h => h) ⟨by rfl, ?_⟩ (by assumption) ?_
    rotate_left
    · intro w hS; go_simp <;> with_reducible rfl
    simp only [Act.put, List.setIfInBounds_toArray, List.set_cons_zero, List.set_cons_succ]
    refine takeL 13 (v := ?_) rfl (by kernel_rfl) (by kernel_rfl) (by kernel_rfl) (fun _ _ _ h => h) ⟨by rfl, ?_⟩ (by assumption) ?_
    rotate_left
    · intro w hS; go_simp <;> with_reducible rfl
    simp only [Act.put, List.setIfInBounds_toArray, List.set_cons_zero, List.set_cons_succ]
    refine takeL 14 (v := ?_) rfl (by kernel_rfl) (by kernel_rfl) (by kernel_rfl) (fun _ _ _ h => h) ⟨by rfl, ?_⟩ (by assumption) ?_
    rotate_left
    · intro w hS; have f1 := fx.at hS; go_simp <;> with_reducible rfl
    simp only [Act.put, List.setIfInBounds_toArray, List.set_cons_zero, List.set_cons_succ]
    refine oneL 15 rfl (by kernel_rfl) (by rfl) (fun K hK => ?_)
    go_simp
    have t18 : Sl .u64 ((w17).alloc (.cells #[.int .u64 7] 26)) (.slice (some ⟨(w17).heap.size, 0, none⟩) 1 1) [7] := (own_lit1 (w17) 7).sl
    have b18 := (Below.refl (w17).heap.size (w17)).alloc (Nat.le_refl _) (.cells #[.int .u64 7] 26)
    generalize (w17).alloc (.cells #[.int .u64 7] 26) = w18 at *
    replace t15 := t15.next b18
    replace t16 := t16.next b18
    refine hK.out _ _ (hHeld.trans (b18.mono hHeld.size)) (fun hHeld => ?_)
    clear hK K
    try simp only [Act.put, List.setIfInBounds_toArray, List.set_cons_zero, List.set_cons_succ]
    refine oneL 16 rfl (by kernel_rfl) (by rfl) (fun K hK => ?_)
    go_simp
    go_at_call 13
    refine (fp_Derive p _ [7] _ HP.out t18 (by simp)).mono ?_; rintro e w19 ⟨r19, z19, rfl, o19, m19, v19, l19, b19⟩
    have V19 := Lib.hid v19; clear v19; have t19 := o19.sl; clear o19; replace t15 := t15.next b19; replace t16 := t16.next b19; replace t18 := t18.next b19
    obtain rfl : z19 = [] := pl_zero HP.out.pos m19 (by rw [V19.out]; exact der_start p [7])
    obtain ⟨ao, bo, oo, co, rfl, -, -⟩ := id t19
    refine hK.out _ _ (hHeld.trans (b19.mono hHeld.size)) (fun hHeld => ?_)
    clear hK K
    try simp only [Act.put, List.setIfInBounds_toArray, List.set_cons_zero, List.set_cons_succ]
    refine takeL 17 (v := ?_) rfl (by kernel_rfl) (by kernel_rfl) (by kernel_rfl) (fun _ _ _ h => h) ⟨by rfl, ?_⟩ (by assumption) ?_
    rotate_left
    · intro w hS; go_simp <;> with_reducible rfl
    simp only [Act.put, List.setIfInBounds_toArray, List.set_cons_zero, List.set_cons_succ]
    refine takeL 18 (v := ?_) rfl (by kernel_rfl) (by kernel_rfl) (by kernel_rfl) (fun _ _ _ h => h) ⟨by rfl, ?_⟩ (by assumption) ?_
    rotate_left
    · intro w hS; go_simp <;> with_reducible rfl
    simp only [Act.put, List.setIfInBounds_toArray, List.set_cons_zero, List.set_cons_succ]
    refine takeL 19 (v := ?_) rfl (by kernel_rfl) (by kernel_rfl) (by kernel_rfl) (fun _ _ _ h => h) ⟨by rfl, ?_⟩ (by assumption) ?_
    rotate_left
    · intro w hS; go_simp <;> with_reducible rfl
    simp only [Act.put, List.setIfInBounds_toArray, List.set_cons_zero, List.set_cons_succ]
    refine takeL 20 (v := ?_) rfl (by kernel_rfl) (by kernel_rfl) (by kernel_rfl) (fun _ _ _ h => h) ⟨by rfl, ?_⟩ (by assumption) ?_
    rotate_left
    · intro w hS; go_simp <;> with_reducible rfl
    simp only [Act.put, List.setIfInBounds_toArray, List.set_cons_zero, List.set_cons_succ]
    refine doneL (by kernel_rfl) ?_ _
    replace s1 := s1.next hHeld
    replace s2 := s2.next hHeld
    replace t4 := t4.next hHeld
    replace t5 := t5.next hHeld
    replace t6 := t6.next hHeld
    replace t7 := t7.next hHeld
    replace t8 := t8.next hHeld
    replace t9 := t9.next hHeld
    replace t10 := t10.next hHeld
    replace t11 := t11.next hHeld
    replace t12 := t12.next hHeld
    replace t13 := t13.next hHeld
    replace fx := fx.next hHeld
    clear hHeld hwd wd
    go_wp2
    go_ret
    exact ⟨rfl, fx.below⟩

  · have H := Lib.hid h; clear h
    go_enter Try.func3, Try.ntmps3
    go_wp2_with fail
    refine (law9_awake w).mono ?_; rintro e w1 ⟨rfl, b1⟩
    go_wp2_with fail
    refine (law9_few v1 v2 (.slice none 0 0) x1 x2 [] 12 false _ (s1.next b1) (s2.next b1) (Sl.nil _ _) (decide_eq_false (fun h => H.out ⟨h.1, h.2.1⟩)).symm).mono ?_; rintro e w2 ⟨rfl, rfl⟩
    go_wp2_with fail
    refine (law9_awake w1).mono ?_; rintro e w2 ⟨rfl, b2⟩
    go_wp2
    go_ret
    exact ⟨rfl, b1.trans (b2.mono b1.size)⟩

set_option maxRecDepth 100000 in
theorem lifted (os : Os) (started : os.Started) (H : Type) (enc : TypeId × Value → H) :
    ReturnsInHanded {} Try.checked os 3 .any (Rows.polyDerivesSpec.pre6 enc Try.prog Try.f3 Rows.polyDerivesRow.domain false) (Rows.polyDerivesSpec.post enc Try.prog Try.f3 false true false false) := by
  refine returnsInHanded_of_change (C := Try.checked) own started (by kernel_rfl) Try.func3
    (ChangeSpec.witness6 (enc := enc) (C := Try.checked) false ⟨#[], #[.int .u8 0, .slice none 0 0, .slice none 0 0], []⟩ 8 (by kernel_rfl) (by kernel_rfl) (by kernel_rfl) (by kernel_rfl)) ?_
  intro W base args ds gs before hval0 hW hcnd _
  have hval : ∀ (j : Nat) t v, Try.f3.params[j]? = some t → args[j]? = some v → Value.okWide Try.prog W .any base t v := hval0
  have hW' := hW
  obtain ⟨p, q, hA0, hV, rfl, hfz, hnd⟩ := hW
  have hA : DataW.TrodAll enc Try.prog W 0 (fun _ => true) true Try.f3.params.toList args.toList ds p := hA0
  rw [Try.params3] at hA hval
  obtain ⟨v0, vs0, d0, ds0, p0, q0, hargs, rfl, rfl, h0, r0⟩ := trodAll_cons hA
  obtain ⟨v1, vs1, d1, ds1, p1, q1, rfl, rfl, rfl, h1, r1⟩ := trodAll_cons r0
  obtain ⟨v2, vs2, d2, ds2, p2, q2, rfl, rfl, rfl, h2, r2⟩ := trodAll_cons r1
  obtain ⟨rfl, rfl, rfl⟩ := trodAll_nil r2
  obtain rfl : args = #[v0, v1, v2] := by cases args; simp_all
  obtain ⟨rfl, rfl⟩ := trodVars_none hV
  have k0 := h0
  have lt0 : ∀ x ∈ p0, x.block < W.heap.size := by obtain ⟨m, hm⟩ := k0; exact DataW.trod_lt m _ _ _ hm
  obtain ⟨i0, rfl, rfl, rfl, wi0⟩ := open_int Try.underlying5 (hval 0 5 v0 rfl rfl) h0
  obtain ⟨x0, rfl⟩ := Int.eq_ofNat_of_zero_le (wf_u8_bounds wi0).1
  have k1 := h1
  have lt1 : ∀ x ∈ p1, x.block < W.heap.size := by obtain ⟨m, hm⟩ := k1; exact DataW.trod_lt m _ _ _ hm
  obtain ⟨x1, s1, -⟩ := open_words Try.underlying23 Try.underlying26 (by kernel_rfl) (hval 1 23 v1 rfl rfl) h1
  have k2 := h2
  have lt2 : ∀ x ∈ p2, x.block < W.heap.size := by obtain ⟨m, hm⟩ := k2; exact DataW.trod_lt m _ _ _ hm
  obtain ⟨x2, s2, -⟩ := open_words Try.underlying23 Try.underlying26 (by kernel_rfl) (hval 2 23 v2 rfl rfl) h2
  clear hA0 hval0
  refine (walk x0 v1 x1 v2 x2 W  s1 s2).mono fun e W' ⟨he, bel⟩ => ?_
  subst he
  exact ⟨_, rfl, _, _, _, [], _, [], hW', trodAll_mk1 (shut_bool Try.underlying4 _), (trodAll_cons_mk (Below.trod laidOut (by kernel_rfl) (of_decide_eq_true (by kernel_rfl)) k0 bel lt0) (trodAll_cons_mk (Below.trod laidOut (by kernel_rfl) (of_decide_eq_true (by kernel_rfl)) k1 bel lt1) (trodAll_cons_mk (Below.trod laidOut (by kernel_rfl) (of_decide_eq_true (by kernel_rfl)) k2 bel lt2) trodAll_mk0))), rfl, bel.frame _, fun h => by cases h⟩

theorem over : Rows.polyDerivesRow.holds Try.pinned (OpenSpec.ofChange Rows.polyDerivesSpec) :=
  OpenClaim.holds_of_wide 3 Try.f3 rfl rfl rfl rfl rfl rfl rfl ⟨rfl, rfl, rfl, rfl, rfl⟩ rfl rfl rfl rfl rfl (by kernel_rfl) Try.func3 (by kernel_rfl)
    (of_decide_eq_true (by kernel_rfl)) (by unfold Func.isWrapper; first | (rw [if_pos (by decide +kernel)]; kernel_rfl) | (rw [if_neg (by decide +kernel)]; exact ⟨rfl, rfl⟩))
    (fun os started H enc _ => lifted os started H enc)

theorem proved : Rows.PolyDerivesSaid := over
#print axioms proved
end Go.Proofs.Ytjpioijlpgmlfaa.polyDerives
