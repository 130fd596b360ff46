/- For all three naturals the law NatRing returns true, whatever they are. -/
import Derived.Test.YtnnidjhhcnmnnaaRows
import Derived.Test.YtnnidjhhcnmnnaaOpen
import Derived.Test.YtnnidjhhcnmnnaaLaw1
namespace Go.Proofs.Ytnnidjhhcnmnnaa.natRing
open Go.ChangeShapes Go.WideShapes Go.ChangeAt Go.RowKit
open Go.ChangeMaps (open_string shut_string)

theorem own : ownKnob Try.prog.godebug = none := by kernel_rfl
theorem laidOut : laidOutB Try.prog = true := by kernel_rfl

set_option maxHeartbeats 2000000 in
theorem walk (v0 : Value) (x0 : List Nat) (v1 : Value) (x1 : List Nat) (v2 : Value) (x2 : List Nat) (w : World) (s0 : Sl .u64 w v0 x0) (f0 : wf W64 x0) (s1 : Sl .u64 w v1 x1) (f1 : wf W64 x1) (s2 : Sl .u64 w v2 x2) (f2 : wf W64 x2) :
    Calls Try.prog 6 #[v0, v1, v2] w (LawOk w) := by
  by_cases h : (x0.length : Int) ≤ 10 ∧ (x1.length : Int) ≤ 10 ∧ (x2.length : Int) ≤ 10
  · obtain ⟨h0, h1, h2⟩ := h
    go_enter Try.func6, Try.ntmps6
    go_wp2_with fail
    refine (law1_awake w).mono ?_; rintro e w1 ⟨rfl, b1⟩
    replace s0 := s0.next b1
    replace s1 := s1.next b1
    replace s2 := s2.next b1
    have B := b1
    go_wp2_with fail
    refine (law1_few_yes v0 v1 v2 x0 x1 x2 10 _ s0 s1 s2 (by omega) (by omega) (by omega)).mono ?_; rintro e w2 ⟨rfl, rfl⟩
    go_wp2_with fail
    refine (nat_Add v1 v2 x1 x2 _ s1 s2 (by omega) (by omega) f1 f2).mono ?_; rintro e w2 ⟨r2, z2, rfl, o2, m2, v2, l2, b2⟩
    have V2 := Lib.hid v2; clear v2
    replace s0 := s0.next b2
    replace s1 := s1.next b2
    replace s2 := s2.next b2
    replace B := B.trans (b2.mono B.size)
    have t2 := o2.sl
    clear o2
    go_wp2_with fail
    refine (nat_Mul v0 r2 x0 z2 _ s0 t2 (by omega) (by omega) f0 m2.1).mono ?_; rintro e w3 ⟨r3, z3, rfl, o3, m3, v3, l3, b3⟩
    have V3 := Lib.hid v3; clear v3
    replace s0 := s0.next b3
    replace s1 := s1.next b3
    replace s2 := s2.next b3
    replace t2 := t2.next b3
    replace B := B.trans (b3.mono B.size)
    have t3 := o3.sl
    clear o3
    go_wp2_with fail
    refine (nat_Mul v0 v1 x0 x1 _ s0 s1 (by omega) (by omega) f0 f1).mono ?_; rintro e w4 ⟨r4, z4, rfl, o4, m4, v4, l4, b4⟩
    have V4 := Lib.hid v4; clear v4
    replace s0 := s0.next b4
    replace s1 := s1.next b4
    replace s2 := s2.next b4
    replace t2 := t2.next b4
    replace t3 := t3.next b4
    replace B := B.trans (b4.mono B.size)
    have t4 := o4.sl
    clear o4
    go_wp2_with fail
    refine (nat_Mul v0 v2 x0 x2 _ s0 s2 (by omega) (by omega) f0 f2).mono ?_; rintro e w5 ⟨r5, z5, rfl, o5, m5, v5, l5, b5⟩
    have V5 := Lib.hid v5; clear v5
    replace s0 := s0.next b5
    replace s1 := s1.next b5
    replace s2 := s2.next b5
    replace t2 := t2.next b5
    replace t3 := t3.next b5
    replace t4 := t4.next b5
    replace B := B.trans (b5.mono B.size)
    have t5 := o5.sl
    clear o5
    go_wp2_with fail
    refine (nat_Add r4 r5 z4 z5 _ t4 t5 (by omega) (by omega) m4.1 m5.1).mono ?_; rintro e w6 ⟨r6, z6, rfl, o6, m6, v6, l6, b6⟩
    have V6 := Lib.hid v6; clear v6
    replace s0 := s0.next b6
    replace s1 := s1.next b6
    replace s2 := s2.next b6
    replace t2 := t2.next b6
    replace t3 := t3.next b6
    replace t4 := t4.next b6
    replace t5 := t5.next b6
    replace B := B.trans (b6.mono B.size)
    have t6 := o6.sl
    clear o6
    go_wp2_with fail
    refine (nat_Mul v1 v2 x1 x2 _ s1 s2 (by omega) (by omega) f1 f2).mono ?_; rintro e w7 ⟨r7, z7, rfl, o7, m7, v7, l7, b7⟩
    have V7 := Lib.hid v7; clear v7
    replace s0 := s0.next b7
    replace s1 := s1.next b7
    replace s2 := s2.next b7
    replace t2 := t2.next b7
    replace t3 := t3.next b7
    replace t4 := t4.next b7
    replace t5 := t5.next b7
    replace t6 := t6.next b7
    replace B := B.trans (b7.mono B.size)
    have t7 := o7.sl
    clear o7
    go_wp2_with fail
    refine (nat_Mul v0 r7 x0 z7 _ s0 t7 (by omega) (by omega) f0 m7.1).mono ?_; rintro e w8 ⟨r8, z8, rfl, o8, m8, v8, l8, b8⟩
    have V8 := Lib.hid v8; clear v8
    replace s0 := s0.next b8
    replace s1 := s1.next b8
    replace s2 := s2.next b8
    replace t2 := t2.next b8
    replace t3 := t3.next b8
    replace t4 := t4.next b8
    replace t5 := t5.next b8
    replace t6 := t6.next b8
    replace t7 := t7.next b8
    replace B := B.trans (b8.mono B.size)
    have t8 := o8.sl
    clear o8
    go_wp2_with fail
    refine (nat_Mul v0 v1 x0 x1 _ s0 s1 (by omega) (by omega) f0 f1).mono ?_; rintro e w9 ⟨r9, z9, rfl, o9, m9, v9, l9, b9⟩
    have V9 := Lib.hid v9; clear v9
    replace s0 := s0.next b9
    replace s1 := s1.next b9
    replace s2 := s2.next b9
    replace t2 := t2.next b9
    replace t3 := t3.next b9
    replace t4 := t4.next b9
    replace t5 := t5.next b9
    replace t6 := t6.next b9
    replace t7 := t7.next b9
    replace t8 := t8.next b9
    replace B := B.trans (b9.mono B.size)
    have t9 := o9.sl
    clear o9
    go_wp2_with fail
    refine (nat_Mul r9 v2 z9 x2 _ t9 s2 (by omega) (by omega) m9.1 f2).mono ?_; rintro e w10 ⟨r10, z10, rfl, o10, m10, v10, l10, b10⟩
    have V10 := Lib.hid v10; clear v10
    replace s0 := s0.next b10
    replace s1 := s1.next b10
    replace s2 := s2.next b10
    replace t2 := t2.next b10
    replace t3 := t3.next b10
    replace t4 := t4.next b10
    replace t5 := t5.next b10
    replace t6 := t6.next b10
    replace t7 := t7.next b10
    replace t8 := t8.next b10
    replace t9 := t9.next b10
    replace B := B.trans (b10.mono B.size)
    have t10 := o10.sl
    clear o10
    go_wp2_with fail
    refine (nat_Add v1 v2 x1 x2 _ s1 s2 (by omega) (by omega) f1 f2).mono ?_; rintro e w11 ⟨r11, z11, rfl, o11, m11, v11, l11, b11⟩
    have V11 := Lib.hid v11; clear v11
    replace s0 := s0.next b11
    replace s1 := s1.next b11
    replace s2 := s2.next b11
    replace t2 := t2.next b11
    replace t3 := t3.next b11
    replace t4 := t4.next b11
    replace t5 := t5.next b11
    replace t6 := t6.next b11
    replace t7 := t7.next b11
    replace t8 := t8.next b11
    replace t9 := t9.next b11
    replace t10 := t10.next b11
    replace B := B.trans (b11.mono B.size)
    have t11 := o11.sl
    clear o11
    go_wp2_with fail
    refine (nat_Add v0 r11 x0 z11 _ s0 t11 (by omega) (by omega) f0 m11.1).mono ?_; rintro e w12 ⟨r12, z12, rfl, o12, m12, v12, l12, b12⟩
    have V12 := Lib.hid v12; clear v12
    replace s0 := s0.next b12
    replace s1 := s1.next b12
    replace s2 := s2.next b12
    replace t2 := t2.next b12
    replace t3 := t3.next b12
    replace t4 := t4.next b12
    replace t5 := t5.next b12
    replace t6 := t6.next b12
    replace t7 := t7.next b12
    replace t8 := t8.next b12
    replace t9 := t9.next b12
    replace t10 := t10.next b12
    replace t11 := t11.next b12
    replace B := B.trans (b12.mono B.size)
    have t12 := o12.sl
    clear o12
    go_wp2_with fail
    refine (nat_Add v0 v1 x0 x1 _ s0 s1 (by omega) (by omega) f0 f1).mono ?_; rintro e w13 ⟨r13, z13, rfl, o13, m13, v13, l13, b13⟩
    have V13 := Lib.hid v13; clear v13
    replace s0 := s0.next b13
    replace s1 := s1.next b13
    replace s2 := s2.next b13
    replace t2 := t2.next b13
    replace t3 := t3.next b13
    replace t4 := t4.next b13
    replace t5 := t5.next b13
    replace t6 := t6.next b13
    replace t7 := t7.next b13
    replace t8 := t8.next b13
    replace t9 := t9.next b13
    replace t10 := t10.next b13
    replace t11 := t11.next b13
    replace t12 := t12.next b13
    replace B := B.trans (b13.mono B.size)
    have t13 := o13.sl
    clear o13
    go_wp2_with fail
    refine (nat_Add r13 v2 z13 x2 _ t13 s2 (by omega) (by omega) m13.1 f2).mono ?_; rintro e w14 ⟨r14, z14, rfl, o14, m14, v14, l14, b14⟩
    have V14 := Lib.hid v14; clear v14
    replace s0 := s0.next b14
    replace s1 := s1.next b14
    replace s2 := s2.next b14
    replace t2 := t2.next b14
    replace t3 := t3.next b14
    replace t4 := t4.next b14
    replace t5 := t5.next b14
    replace t6 := t6.next b14
    replace t7 := t7.next b14
    replace t8 := t8.next b14
    replace t9 := t9.next b14
    replace t10 := t10.next b14
    replace t11 := t11.next b14
    replace t12 := t12.next b14
    replace t13 := t13.next b14
    replace B := B.trans (b14.mono B.size)
    have t14 := o14.sl
    clear o14
    go_wp2_with fail
    refine (nat_Cmp_is r3 r6 z3 z6 _ t3 t6 (by omega) (by omega) m3.1 m6.1 0 (cmpN_eq (by rw [V3.out, V2.out, V6.out, V4.out, V5.out, Nat.mul_add]))).mono ?_; rintro e w15 ⟨rfl, q15⟩
    have b15 := q15.below w14.heap.size; clear q15
    replace s0 := s0.next b15
    replace s1 := s1.next b15
    replace s2 := s2.next b15
    replace t2 := t2.next b15
    replace t3 := t3.next b15
    replace t4 := t4.next b15
    replace t5 := t5.next b15
    replace t6 := t6.next b15
    replace t7 := t7.next b15
    replace t8 := t8.next b15
    replace t9 := t9.next b15
    replace t10 := t10.next b15
    replace t11 := t11.next b15
    replace t12 := t12.next b15
    replace t13 := t13.next b15
    replace t14 := t14.next b15
    replace B := B.trans (b15.mono B.size)
    go_wp2_with fail
    refine (nat_Cmp_is r8 r10 z8 z10 _ t8 t10 (by omega) (by omega) m8.1 m10.1 0 (cmpN_eq (by rw [V8.out, V7.out, V10.out, V9.out, Nat.mul_assoc]))).mono ?_; rintro e w16 ⟨rfl, q16⟩
    have b16 := q16.below w15.heap.size; clear q16
    replace s0 := s0.next b16
    replace s1 := s1.next b16
    replace s2 := s2.next b16
    replace t2 := t2.next b16
    replace t3 := t3.next b16
    replace t4 := t4.next b16
    replace t5 := t5.next b16
    replace t6 := t6.next b16
    replace t7 := t7.next b16
    replace t8 := t8.next b16
    replace t9 := t9.next b16
    replace t10 := t10.next b16
    replace t11 := t11.next b16
    replace t12 := t12.next b16
    replace t13 := t13.next b16
    replace t14 := t14.next b16
    replace B := B.trans (b16.mono B.size)
    go_wp2_with fail
    refine (nat_Cmp_is r12 r14 z12 z14 _ t12 t14 (by omega) (by omega) m12.1 m14.1 0 (cmpN_eq (by rw [V12.out, V11.out, V14.out, V13.out, Nat.add_assoc]))).mono ?_; rintro e w17 ⟨rfl, q17⟩
    have b17 := q17.below w16.heap.size; clear q17
    replace s0 := s0.next b17
    replace s1 := s1.next b17
    replace s2 := s2.next b17
    replace t2 := t2.next b17
    replace t3 := t3.next b17
    replace t4 := t4.next b17
    replace t5 := t5.next b17
    replace t6 := t6.next b17
    replace t7 := t7.next b17
    replace t8 := t8.next b17
    replace t9 := t9.next b17
    replace t10 := t10.next b17
    replace t11 := t11.next b17
    replace t12 := t12.next b17
    replace t13 := t13.next b17
    replace t14 := t14.next b17
    replace B := B.trans (b17.mono B.size)
    go_wp2_with fail
    refine (nat_Mul v0 v1 x0 x1 _ s0 s1 (by omega) (by omega) f0 f1).mono ?_; rintro e w18 ⟨r18, z18, rfl, o18, m18, v18, l18, b18⟩
    have V18 := Lib.hid v18; clear v18
    replace s0 := s0.next b18
    replace s1 := s1.next b18
    replace s2 := s2.next b18
    replace t2 := t2.next b18
    replace t3 := t3.next b18
    replace t4 := t4.next b18
    replace t5 := t5.next b18
    replace t6 := t6.next b18
    replace t7 := t7.next b18
    replace t8 := t8.next b18
    replace t9 := t9.next b18
    replace t10 := t10.next b18
    replace t11 := t11.next b18
    replace t12 := t12.next b18
    replace t13 := t13.next b18
    replace t14 := t14.next b18
    replace B := B.trans (b18.mono B.size)
    have t18 := o18.sl
    clear o18
    go_wp2_with fail
    refine (nat_Mul v1 v0 x1 x0 _ s1 s0 (by omega) (by omega) f1 f0).mono ?_; rintro e w19 ⟨r19, z19, rfl, o19, m19, v19, l19, b19⟩
    have V19 := Lib.hid v19; clear v19
    replace s0 := s0.next b19
    replace s1 := s1.next b19
    replace s2 := s2.next b19
    replace t2 := t2.next b19
    replace t3 := t3.next b19
    replace t4 := t4.next b19
    replace t5 := t5.next b19
    replace t6 := t6.next b19
    replace t7 := t7.next b19
    replace t8 := t8.next b19
    replace t9 := t9.next b19
    replace t10 := t10.next b19
    replace t11 := t11.next b19
    replace t12 := t12.next b19
    replace t13 := t13.next b19
    replace t14 := t14.next b19
    replace t18 := t18.next b19
    replace B := B.trans (b19.mono B.size)
    have t19 := o19.sl
    clear o19
    go_wp2_with fail
    refine (nat_Cmp_is r18 r19 z18 z19 _ t18 t19 (by omega) (by omega) m18.1 m19.1 0 (cmpN_eq (by rw [V18.out, V19.out, Nat.mul_comm]))).mono ?_; rintro e w20 ⟨rfl, q20⟩
    have b20 := q20.below w19.heap.size; clear q20
    replace s0 := s0.next b20
    replace s1 := s1.next b20
    replace s2 := s2.next b20
    replace t2 := t2.next b20
    replace t3 := t3.next b20
    replace t4 := t4.next b20
    replace t5 := t5.next b20
    replace t6 := t6.next b20
    replace t7 := t7.next b20
    replace t8 := t8.next b20
    replace t9 := t9.next b20
    replace t10 := t10.next b20
    replace t11 := t11.next b20
    replace t12 := t12.next b20
    replace t13 := t13.next b20
    replace t14 := t14.next b20
    replace t18 := t18.next b20
    replace t19 := t19.next b20
    replace B := B.trans (b20.mono B.size)
    go_wp2_with fail
    refine (nat_Add v0 v1 x0 x1 _ s0 s1 (by omega) (by omega) f0 f1).mono ?_; rintro e w21 ⟨r21, z21, rfl, o21, m21, v21, l21, b21⟩
    have V21 := Lib.hid v21; clear v21
    replace s0 := s0.next b21
    replace s1 := s1.next b21
    replace s2 := s2.next b21
    replace t2 := t2.next b21
    replace t3 := t3.next b21
    replace t4 := t4.next b21
    replace t5 := t5.next b21
    replace t6 := t6.next b21
    replace t7 := t7.next b21
    replace t8 := t8.next b21
    replace t9 := t9.next b21
    replace t10 := t10.next b21
    replace t11 := t11.next b21
    replace t12 := t12.next b21
    replace t13 := t13.next b21
    replace t14 := t14.next b21
    replace t18 := t18.next b21
    replace t19 := t19.next b21
    replace B := B.trans (b21.mono B.size)
    have t21 := o21.sl
    clear o21
    go_wp2_with fail
    refine (nat_Add v1 v0 x1 x0 _ s1 s0 (by omega) (by omega) f1 f0).mono ?_; rintro e w22 ⟨r22, z22, rfl, o22, m22, v22, l22, b22⟩
    have V22 := Lib.hid v22; clear v22
    replace s0 := s0.next b22
    replace s1 := s1.next b22
    replace s2 := s2.next b22
    replace t2 := t2.next b22
    replace t3 := t3.next b22
    replace t4 := t4.next b22
    replace t5 := t5.next b22
    replace t6 := t6.next b22
    replace t7 := t7.next b22
    replace t8 := t8.next b22
    replace t9 := t9.next b22
    replace t10 := t10.next b22
    replace t11 := t11.next b22
    replace t12 := t12.next b22
    replace t13 := t13.next b22
    replace t14 := t14.next b22
    replace t18 := t18.next b22
    replace t19 := t19.next b22
    replace t21 := t21.next b22
    replace B := B.trans (b22.mono B.size)
    have t22 := o22.sl
    clear o22
    go_wp2_with fail
    refine (nat_Cmp_is r21 r22 z21 z22 _ t21 t22 (by omega) (by omega) m21.1 m22.1 0 (cmpN_eq (by rw [V21.out, V22.out, Nat.add_comm]))).mono ?_; rintro e w23 ⟨rfl, q23⟩
    have b23 := q23.below w22.heap.size; clear q23
    replace s0 := s0.next b23
    replace s1 := s1.next b23
    replace s2 := s2.next b23
    replace t2 := t2.next b23
    replace t3 := t3.next b23
    replace t4 := t4.next b23
    replace t5 := t5.next b23
    replace t6 := t6.next b23
    replace t7 := t7.next b23
    replace t8 := t8.next b23
    replace t9 := t9.next b23
    replace t10 := t10.next b23
    replace t11 := t11.next b23
    replace t12 := t12.next b23
    replace t13 := t13.next b23
    replace t14 := t14.next b23
    replace t18 := t18.next b23
    replace t19 := t19.next b23
    replace t21 := t21.next b23
    replace t22 := t22.next b23
    replace B := B.trans (b23.mono B.size)
    go_wp2_with fail
    refine (nat_Of 1 (by decide) _).mono ?_; rintro e w24 ⟨r24, z24, rfl, o24, m24, v24, l24, b24⟩
    have V24 := Lib.hid v24; clear v24
    replace s0 := s0.next b24
    replace s1 := s1.next b24
    replace s2 := s2.next b24
    replace t2 := t2.next b24
    replace t3 := t3.next b24
    replace t4 := t4.next b24
    replace t5 := t5.next b24
    replace t6 := t6.next b24
    replace t7 := t7.next b24
    replace t8 := t8.next b24
    replace t9 := t9.next b24
    replace t10 := t10.next b24
    replace t11 := t11.next b24
    replace t12 := t12.next b24
    replace t13 := t13.next b24
    replace t14 := t14.next b24
    replace t18 := t18.next b24
    replace t19 := t19.next b24
    replace t21 := t21.next b24
    replace t22 := t22.next b24
    replace B := B.trans (b24.mono B.size)
    have t24 := o24.sl
    clear o24
    go_wp2_with fail
    refine (nat_Mul v0 r24 x0 z24 _ s0 t24 (by omega) (by omega) f0 m24.1).mono ?_; rintro e w25 ⟨r25, z25, rfl, o25, m25, v25, l25, b25⟩
    have V25 := Lib.hid v25; clear v25
    replace s0 := s0.next b25
    replace s1 := s1.next b25
    replace s2 := s2.next b25
    replace t2 := t2.next b25
    replace t3 := t3.next b25
    replace t4 := t4.next b25
    replace t5 := t5.next b25
    replace t6 := t6.next b25
    replace t7 := t7.next b25
    replace t8 := t8.next b25
    replace t9 := t9.next b25
    replace t10 := t10.next b25
    replace t11 := t11.next b25
    replace t12 := t12.next b25
    replace t13 := t13.next b25
    replace t14 := t14.next b25
    replace t18 := t18.next b25
    replace t19 := t19.next b25
    replace t21 := t21.next b25
    replace t22 := t22.next b25
    replace t24 := t24.next b25
    replace B := B.trans (b25.mono B.size)
    have t25 := o25.sl
    clear o25
    go_wp2_with fail
    refine (nat_Cmp_is r25 v0 z25 x0 _ t25 s0 (by omega) (by omega) m25.1 f0 0 (cmpN_eq (by rw [V25.out, V24.out, Nat.mul_one]))).mono ?_; rintro e w26 ⟨rfl, q26⟩
    have b26 := q26.below w25.heap.size; clear q26
    replace s0 := s0.next b26
    replace s1 := s1.next b26
    replace s2 := s2.next b26
    replace t2 := t2.next b26
    replace t3 := t3.next b26
    replace t4 := t4.next b26
    replace t5 := t5.next b26
    replace t6 := t6.next b26
    replace t7 := t7.next b26
    replace t8 := t8.next b26
    replace t9 := t9.next b26
    replace t10 := t10.next b26
    replace t11 := t11.next b26
    replace t12 := t12.next b26
    replace t13 := t13.next b26
    replace t14 := t14.next b26
    replace t18 := t18.next b26
    replace t19 := t19.next b26
    replace t21 := t21.next b26
    replace t22 := t22.next b26
    replace t24 := t24.next b26
    replace t25 := t25.next b26
    replace B := B.trans (b26.mono B.size)
    go_wp2_with fail
    refine (nat_Mul v0 (.slice none 0 0) x0 [] _ s0 (Sl.nil .u64 _) (by omega) (by simp) f0 (wf_nil _)).mono ?_; rintro e w27 ⟨r27, z27, rfl, o27, m27, v27, l27, b27⟩
    have hz : z27 = [] := nrm_nv_zero (by decide) m27 (by rw [v27]; simp [nv])
    subst hz
    replace B := B.trans (b27.mono B.size)
    obtain ⟨ao, bb, off, cap, rfl, -, -⟩ := o27.sl
    clear v27 l27 m27
    go_wp2
    go_ret
    exact ⟨rfl, B⟩
  · have H := Lib.hid h; clear h
    go_enter Try.func6, Try.ntmps6
    go_wp2_with fail
    refine (law1_awake w).mono ?_; rintro e w1 ⟨rfl, b1⟩
    go_wp2_with fail
    refine (law1_few_no v0 v1 v2 x0 x1 x2 10 _ (s0.next b1) (s1.next b1) (s2.next b1) H.out).mono ?_; rintro e w2 ⟨rfl, rfl⟩
    go_wp2_with fail
    refine (law1_awake w1).mono ?_; rintro e w2 ⟨rfl, b2⟩
    go_wp2
    go_ret
    exact ⟨rfl, b1.trans (b2.mono b1.size)⟩

set_option maxRecDepth 100000 in
theorem lifted (os : Os) (started : os.Started) (H : Type) (enc : TypeId × Value → H) :
    ReturnsInHanded {} Try.checked os 6 .any (Rows.natRingSpec.pre6 enc Try.prog Try.f6 Rows.natRingRow.domain false) (Rows.natRingSpec.post enc Try.prog Try.f6 false true false false) := by
  refine returnsInHanded_of_change (C := Try.checked) own started (by kernel_rfl) Try.func6
    (ChangeSpec.witness6 (enc := enc) (C := Try.checked) false ⟨#[], #[.slice none 0 0, .slice none 0 0, .slice none 0 0], []⟩ 8 (by kernel_rfl) (by kernel_rfl) (by kernel_rfl) (by kernel_rfl)) ?_
  intro W base args ds gs before hval0 hW hcnd _
  have hval : ∀ (j : Nat) t v, Try.f6.params[j]? = some t → args[j]? = some v → Value.okWide Try.prog W .any base t v := hval0
  have hW' := hW
  obtain ⟨p, q, hA0, hV, rfl, hfz, hnd⟩ := hW
  have hA : DataW.TrodAll enc Try.prog W 0 (fun _ => true) true Try.f6.params.toList args.toList ds p := hA0
  rw [Try.params6] at hA hval
  obtain ⟨v0, vs0, d0, ds0, p0, q0, hargs, rfl, rfl, h0, r0⟩ := trodAll_cons hA
  obtain ⟨v1, vs1, d1, ds1, p1, q1, rfl, rfl, rfl, h1, r1⟩ := trodAll_cons r0
  obtain ⟨v2, vs2, d2, ds2, p2, q2, rfl, rfl, rfl, h2, r2⟩ := trodAll_cons r1
  obtain ⟨rfl, rfl, rfl⟩ := trodAll_nil r2
  obtain rfl : args = #[v0, v1, v2] := by cases args; simp_all
  obtain ⟨rfl, rfl⟩ := trodVars_none hV
  have k0 := h0
  have lt0 : ∀ x ∈ p0, x.block < W.heap.size := by obtain ⟨m, hm⟩ := k0; exact DataW.trod_lt m _ _ _ hm
  obtain ⟨x0, s0, f0⟩ := open_words Try.underlying23 Try.underlying32 (by kernel_rfl) (hval 0 23 v0 rfl rfl) h0
  have k1 := h1
  have lt1 : ∀ x ∈ p1, x.block < W.heap.size := by obtain ⟨m, hm⟩ := k1; exact DataW.trod_lt m _ _ _ hm
  obtain ⟨x1, s1, f1⟩ := open_words Try.underlying23 Try.underlying32 (by kernel_rfl) (hval 1 23 v1 rfl rfl) h1
  have k2 := h2
  have lt2 : ∀ x ∈ p2, x.block < W.heap.size := by obtain ⟨m, hm⟩ := k2; exact DataW.trod_lt m _ _ _ hm
  obtain ⟨x2, s2, f2⟩ := open_words Try.underlying23 Try.underlying32 (by kernel_rfl) (hval 2 23 v2 rfl rfl) h2
  clear hA0 hval0
  refine (walk v0 x0 v1 x1 v2 x2 W s0 f0 s1 f1 s2 f2).mono fun e W' ⟨he, bel⟩ => ?_
  subst he
  exact ⟨_, rfl, _, _, _, [], _, [], hW', trodAll_mk1 (shut_bool Try.underlying4 _), (trodAll_cons_mk (Below.trod laidOut (by kernel_rfl) (of_decide_eq_true (by kernel_rfl)) k0 bel lt0) (trodAll_cons_mk (Below.trod laidOut (by kernel_rfl) (of_decide_eq_true (by kernel_rfl)) k1 bel lt1) (trodAll_cons_mk (Below.trod laidOut (by kernel_rfl) (of_decide_eq_true (by kernel_rfl)) k2 bel lt2) trodAll_mk0))), rfl, bel.frame _, fun h => by cases h⟩

theorem over : Rows.natRingRow.holds Try.pinned (OpenSpec.ofChange Rows.natRingSpec) :=
  OpenClaim.holds_of_wide 6 Try.f6 rfl rfl rfl rfl rfl rfl rfl ⟨rfl, rfl, rfl, rfl, rfl⟩ rfl rfl rfl rfl rfl (by kernel_rfl) Try.func6 (by kernel_rfl)
    (of_decide_eq_true (by kernel_rfl)) (by unfold Func.isWrapper; first | (rw [if_pos (by decide +kernel)]; kernel_rfl) | (rw [if_neg (by decide +kernel)]; exact ⟨rfl, rfl⟩))
    (fun os started H enc _ => lifted os started H enc)

theorem proved : Rows.NatRingSaid := over
#print axioms proved
end Go.Proofs.Ytnnidjhhcnmnnaa.natRing
