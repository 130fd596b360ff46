/- For all three naturals the law NatOrder returns true, whatever they are. -/
import Derived.Test.YtnnidjhhcnmnnaaRows
import Derived.Test.YtnnidjhhcnmnnaaOpen
import Derived.Test.YtnnidjhhcnmnnaaLaw1
namespace Go.Proofs.Ytnnidjhhcnmnnaa.natOrder
open Go.ChangeShapes Go.WideShapes Go.ChangeAt Go.RowKit
open Go.ChangeMaps (open_string shut_string)

theorem own : ownKnob Try.prog.godebug = none := by kernel_rfl
theorem laidOut : laidOutB Try.prog = true := by kernel_rfl

theorem cmpN_add (a b c : Nat) : cmpN (a + c) (b + c) = cmpN a b := by unfold cmpN; split <;> split <;> (try split) <;> (try split) <;> omega
theorem cmpN_swap (a b : Nat) : cmpN a b = -cmpN b a := by unfold cmpN; split <;> split <;> (try split) <;> (try split) <;> omega
theorem cmpN_mul (a b c : Nat) (h : 0 < c) : cmpN (a * c) (b * c) = cmpN a b := by
  rcases Nat.lt_trichotomy a b with h1 | h1 | h1
  · rw [cmpN_lt h1, cmpN_lt (Nat.mul_lt_mul_of_pos_right h1 h)]
  · rw [cmpN_eq h1, cmpN_eq (by rw [h1])]
  · rw [cmpN_gt h1, cmpN_gt (Nat.mul_lt_mul_of_pos_right h1 h)]
theorem cmpN_le {a b : Nat} : cmpN a b ≤ 0 ↔ a ≤ b := by unfold cmpN; split <;> (try split) <;> omega
theorem cmpN_bd (a b : Nat) : -1 ≤ cmpN a b ∧ cmpN a b ≤ 1 := by unfold cmpN; split <;> (try split) <;> omega
theorem cmpN_trans {a b c : Nat} {x y z : Int} (hx : cmpN a b = x) (hy : cmpN b c = y) (hz : cmpN a c = z) (h1 : x ≤ 0) (h2 : y ≤ 0) : z ≤ 0 := by
  subst hx hy hz
  rw [cmpN_le] at *; omega

set_option maxHeartbeats 4000000 in
theorem walk (v0 : Value) (x0 : List Nat) (v1 : Value) (x1 : List Nat) (v2 : Value) (x2 : List Nat) (w : World) (s0 : Sl .u64 w v0 x0) (f0 : wf W64 x0) (s1 : Sl .u64 w v1 x1) (f1 : wf W64 x1) (s2 : Sl .u64 w v2 x2) (f2 : wf W64 x2) :
    Calls Try.prog 7 #[v0, v1, v2] w (LawOk w) := by
  by_cases h : (x0.length : Int) ≤ 10 ∧ (x1.length : Int) ≤ 10 ∧ (x2.length : Int) ≤ 10
  · obtain ⟨h0, h1, h2⟩ := h
    obtain ⟨x, hx⟩ : ∃ x, cmpN (nv W64 x0) (nv W64 x1) = x := ⟨_, rfl⟩
    obtain ⟨y, hy⟩ : ∃ y, cmpN (nv W64 x1) (nv W64 x2) = y := ⟨_, rfl⟩
    obtain ⟨z, hz⟩ : ∃ z, cmpN (nv W64 x0) (nv W64 x2) = z := ⟨_, rfl⟩
    have hb := cmpN_bd (nv W64 x0) (nv W64 x1)
    rw [hx] at hb
    obtain ⟨hb1, hb2⟩ := hb
    have HX := Lib.hid hx
    have HY := Lib.hid hy
    have HZ := Lib.hid hz
    clear hx hy hz
    go_enter Try.func7, Try.ntmps7
    go_wp2_with fail
    refine (law1_awake w).mono ?_; rintro e w1 ⟨rfl, b1⟩
    replace s0 := s0.next b1
    replace s1 := s1.next b1
    replace s2 := s2.next b1
    have B := b1
    go_wp2_with fail
    refine (law1_few_yes v0 v1 v2 x0 x1 x2 10 _ s0 s1 s2 (by omega) (by omega) (by omega)).mono ?_; rintro e w2 ⟨rfl, rfl⟩
    go_wp2_with fail
    refine (nat_Add v0 v1 x0 x1 _ s0 s1 (by omega) (by omega) f0 f1).mono ?_; rintro e w2 ⟨r2, z2, rfl, o2, m2, v2, l2, b2⟩
    have V2 := Lib.hid v2; clear v2
    replace s0 := s0.next b2
    replace s1 := s1.next b2
    replace s2 := s2.next b2
    replace B := B.trans (b2.mono B.size)
    have t2 := o2.sl
    clear o2
    go_wp2_with fail
    refine (nat_Sub_yes r2 v1 z2 x1 _ t2 s1 (by omega) (by omega) m2.1 f1 (by rw [V2.out]; omega)).mono ?_; rintro e w3 ⟨r3, z3, rfl, o3, m3, v3, l3, b3⟩
    have V3 := Lib.hid v3; clear v3
    replace s0 := s0.next b3
    replace s1 := s1.next b3
    replace s2 := s2.next b3
    replace t2 := t2.next b3
    replace B := B.trans (b3.mono B.size)
    have t3 := o3.sl
    clear o3
    go_wp2_with fail
    refine (nat_Cmp_is v0 v1 x0 x1 _ s0 s1 (by omega) (by omega) f0 f1 x (HX.out)).mono ?_; rintro e w4 ⟨rfl, q4⟩
    have b4 := q4.below w3.heap.size; clear q4
    replace s0 := s0.next b4
    replace s1 := s1.next b4
    replace s2 := s2.next b4
    replace t2 := t2.next b4
    replace t3 := t3.next b4
    replace B := B.trans (b4.mono B.size)
    go_wp2_with fail
    refine (nat_Cmp_is v1 v2 x1 x2 _ s1 s2 (by omega) (by omega) f1 f2 y (HY.out)).mono ?_; rintro e w5 ⟨rfl, q5⟩
    have b5 := q5.below w4.heap.size; clear q5
    replace s0 := s0.next b5
    replace s1 := s1.next b5
    replace s2 := s2.next b5
    replace t2 := t2.next b5
    replace t3 := t3.next b5
    replace B := B.trans (b5.mono B.size)
    go_wp2_with fail
    refine (nat_Cmp_is v0 v2 x0 x2 _ s0 s2 (by omega) (by omega) f0 f2 z (HZ.out)).mono ?_; rintro e w6 ⟨rfl, q6⟩
    have b6 := q6.below w5.heap.size; clear q6
    replace s0 := s0.next b6
    replace s1 := s1.next b6
    replace s2 := s2.next b6
    replace t2 := t2.next b6
    replace t3 := t3.next b6
    replace B := B.trans (b6.mono B.size)
    go_wp2_with fail
    refine (nat_Cmp_is r3 v0 z3 x0 _ t3 s0 (by omega) (by omega) m3.1 f0 0 (cmpN_eq (by rw [V3.out, V2.out]; omega))).mono ?_; rintro e w7 ⟨rfl, q7⟩
    have b7 := q7.below w6.heap.size; clear q7
    replace s0 := s0.next b7
    replace s1 := s1.next b7
    replace s2 := s2.next b7
    replace t2 := t2.next b7
    replace t3 := t3.next b7
    replace B := B.trans (b7.mono B.size)
    go_wp2_with fail
    refine (nat_Add v0 v2 x0 x2 _ s0 s2 (by omega) (by omega) f0 f2).mono ?_; rintro e w8 ⟨r8, z8, rfl, o8, m8, v8, l8, b8⟩
    have V8 := Lib.hid v8; clear v8
    replace s0 := s0.next b8
    replace s1 := s1.next b8
    replace s2 := s2.next b8
    replace t2 := t2.next b8
    replace t3 := t3.next b8
    replace B := B.trans (b8.mono B.size)
    have t8 := o8.sl
    clear o8
    go_wp2_with fail
    refine (nat_Add v1 v2 x1 x2 _ s1 s2 (by omega) (by omega) f1 f2).mono ?_; rintro e w9 ⟨r9, z9, rfl, o9, m9, v9, l9, b9⟩
    have V9 := Lib.hid v9; clear v9
    replace s0 := s0.next b9
    replace s1 := s1.next b9
    replace s2 := s2.next b9
    replace t2 := t2.next b9
    replace t3 := t3.next b9
    replace t8 := t8.next b9
    replace B := B.trans (b9.mono B.size)
    have t9 := o9.sl
    clear o9
    go_wp2_with fail
    refine (nat_Cmp_is r8 r9 z8 z9 _ t8 t9 (by omega) (by omega) m8.1 m9.1 x (by rw [V8.out, V9.out, cmpN_add]; exact HX.out)).mono ?_; rintro e w10 ⟨rfl, q10⟩
    have b10 := q10.below w9.heap.size; clear q10
    replace s0 := s0.next b10
    replace s1 := s1.next b10
    replace s2 := s2.next b10
    replace t2 := t2.next b10
    replace t3 := t3.next b10
    replace t8 := t8.next b10
    replace t9 := t9.next b10
    replace B := B.trans (b10.mono B.size)
    by_cases hx : x ≤ 0
    · by_cases hy : y ≤ 0
      · have hz := cmpN_trans HX.out HY.out HZ.out hx hy
        go_wp2_with fail
        refine (nat_Cmp_is v1 v0 x1 x0 _ s1 s0 (by omega) (by omega) f1 f0 (-x) (by rw [cmpN_swap, HX.out])).mono ?_; rintro e w11 ⟨rfl, q11⟩
        have b11 := q11.below w10.heap.size; clear q11
        replace s0 := s0.next b11
        replace s1 := s1.next b11
        replace s2 := s2.next b11
        replace t2 := t2.next b11
        replace t3 := t3.next b11
        replace t8 := t8.next b11
        replace t9 := t9.next b11
        replace B := B.trans (b11.mono B.size)
        go_wp2_with fail
        refine (nat_Norm v2 x2 _ s2 (by omega) f2).mono ?_; rintro e w12 ⟨r12, z12, rfl, o12, m12, v12, l12, b12⟩
        have V12 := Lib.hid v12; clear v12
        replace s0 := s0.next b12
        replace s1 := s1.next b12
        replace s2 := s2.next b12
        replace t2 := t2.next b12
        replace t3 := t3.next b12
        replace t8 := t8.next b12
        replace t9 := t9.next b12
        replace B := B.trans (b12.mono B.size)
        by_cases hz : z12 = []
        · subst hz
          obtain ⟨ao, bb, off, cap, rfl, -, -⟩ := o12.sl
          clear l12 m12 o12
          go_wp2
          go_ret
          exact ⟨rfl, B⟩
        · have hp : 0 < nv W64 x2 := by rw [← V12.out]; exact Nat.pos_of_ne_zero (fun h => hz (nrm_nv_zero (by decide) m12 h))
          have HP := Lib.hid hp; clear hp
          have hne : (((z12.length : Nat) : Int) == 0) = false := by simpa using hz
          obtain ⟨ao, bb, off, cap, rfl, -, -⟩ := o12.sl
          clear hz o12
          go_wp2_with fail
          refine (nat_Mul v0 v2 x0 x2 _ s0 s2 (by omega) (by omega) f0 f2).mono ?_; rintro e w13 ⟨r13, z13, rfl, o13, m13, v13, l13, b13⟩
          have V13 := Lib.hid v13; clear v13
          replace s0 := s0.next b13
          replace s1 := s1.next b13
          replace s2 := s2.next b13
          replace t2 := t2.next b13
          replace t3 := t3.next b13
          replace t8 := t8.next b13
          replace t9 := t9.next b13
          replace B := B.trans (b13.mono B.size)
          have t13 := o13.sl
          clear o13
          go_wp2_with fail
          refine (nat_Mul v1 v2 x1 x2 _ s1 s2 (by omega) (by omega) f1 f2).mono ?_; rintro e w14 ⟨r14, z14, rfl, o14, m14, v14, l14, b14⟩
          have V14 := Lib.hid v14; clear v14
          replace s0 := s0.next b14
          replace s1 := s1.next b14
          replace s2 := s2.next b14
          replace t2 := t2.next b14
          replace t3 := t3.next b14
          replace t8 := t8.next b14
          replace t9 := t9.next b14
          replace t13 := t13.next b14
          replace B := B.trans (b14.mono B.size)
          have t14 := o14.sl
          clear o14
          go_wp2_with fail
          refine (nat_Cmp_is r13 r14 z13 z14 _ t13 t14 (by omega) (by omega) m13.1 m14.1 x (by rw [V13.out, V14.out, cmpN_mul _ _ _ HP.out]; exact HX.out)).mono ?_; rintro e w15 ⟨rfl, q15⟩
          have b15 := q15.below w14.heap.size; clear q15
          replace s0 := s0.next b15
          replace s1 := s1.next b15
          replace s2 := s2.next b15
          replace t2 := t2.next b15
          replace t3 := t3.next b15
          replace t8 := t8.next b15
          replace t9 := t9.next b15
          replace t13 := t13.next b15
          replace t14 := t14.next b15
          replace B := B.trans (b15.mono B.size)
          go_wp2
          go_ret
          exact ⟨rfl, B⟩
      · skip
        go_wp2_with fail
        refine (nat_Cmp_is v1 v0 x1 x0 _ s1 s0 (by omega) (by omega) f1 f0 (-x) (by rw [cmpN_swap, HX.out])).mono ?_; rintro e w11 ⟨rfl, q11⟩
        have b11 := q11.below w10.heap.size; clear q11
        replace s0 := s0.next b11
        replace s1 := s1.next b11
        replace s2 := s2.next b11
        replace t2 := t2.next b11
        replace t3 := t3.next b11
        replace t8 := t8.next b11
        replace t9 := t9.next b11
        replace B := B.trans (b11.mono B.size)
        go_wp2_with fail
        refine (nat_Norm v2 x2 _ s2 (by omega) f2).mono ?_; rintro e w12 ⟨r12, z12, rfl, o12, m12, v12, l12, b12⟩
        have V12 := Lib.hid v12; clear v12
        replace s0 := s0.next b12
        replace s1 := s1.next b12
        replace s2 := s2.next b12
        replace t2 := t2.next b12
        replace t3 := t3.next b12
        replace t8 := t8.next b12
        replace t9 := t9.next b12
        replace B := B.trans (b12.mono B.size)
        by_cases hz : z12 = []
        · subst hz
          obtain ⟨ao, bb, off, cap, rfl, -, -⟩ := o12.sl
          clear l12 m12 o12
          go_wp2
          go_ret
          exact ⟨rfl, B⟩
        · have hp : 0 < nv W64 x2 := by rw [← V12.out]; exact Nat.pos_of_ne_zero (fun h => hz (nrm_nv_zero (by decide) m12 h))
          have HP := Lib.hid hp; clear hp
          have hne : (((z12.length : Nat) : Int) == 0) = false := by simpa using hz
          obtain ⟨ao, bb, off, cap, rfl, -, -⟩ := o12.sl
          clear hz o12
          go_wp2_with fail
          refine (nat_Mul v0 v2 x0 x2 _ s0 s2 (by omega) (by omega) f0 f2).mono ?_; rintro e w13 ⟨r13, z13, rfl, o13, m13, v13, l13, b13⟩
          have V13 := Lib.hid v13; clear v13
          replace s0 := s0.next b13
          replace s1 := s1.next b13
          replace s2 := s2.next b13
          replace t2 := t2.next b13
          replace t3 := t3.next b13
          replace t8 := t8.next b13
          replace t9 := t9.next b13
          replace B := B.trans (b13.mono B.size)
          have t13 := o13.sl
          clear o13
          go_wp2_with fail
          refine (nat_Mul v1 v2 x1 x2 _ s1 s2 (by omega) (by omega) f1 f2).mono ?_; rintro e w14 ⟨r14, z14, rfl, o14, m14, v14, l14, b14⟩
          have V14 := Lib.hid v14; clear v14
          replace s0 := s0.next b14
          replace s1 := s1.next b14
          replace s2 := s2.next b14
          replace t2 := t2.next b14
          replace t3 := t3.next b14
          replace t8 := t8.next b14
          replace t9 := t9.next b14
          replace t13 := t13.next b14
          replace B := B.trans (b14.mono B.size)
          have t14 := o14.sl
          clear o14
          go_wp2_with fail
          refine (nat_Cmp_is r13 r14 z13 z14 _ t13 t14 (by omega) (by omega) m13.1 m14.1 x (by rw [V13.out, V14.out, cmpN_mul _ _ _ HP.out]; exact HX.out)).mono ?_; rintro e w15 ⟨rfl, q15⟩
          have b15 := q15.below w14.heap.size; clear q15
          replace s0 := s0.next b15
          replace s1 := s1.next b15
          replace s2 := s2.next b15
          replace t2 := t2.next b15
          replace t3 := t3.next b15
          replace t8 := t8.next b15
          replace t9 := t9.next b15
          replace t13 := t13.next b15
          replace t14 := t14.next b15
          replace B := B.trans (b15.mono B.size)
          go_wp2
          go_ret
          exact ⟨rfl, B⟩
    · skip
      go_wp2_with fail
      refine (nat_Cmp_is v1 v0 x1 x0 _ s1 s0 (by omega) (by omega) f1 f0 (-x) (by rw [cmpN_swap, HX.out])).mono ?_; rintro e w11 ⟨rfl, q11⟩
      have b11 := q11.below w10.heap.size; clear q11
      replace s0 := s0.next b11
      replace s1 := s1.next b11
      replace s2 := s2.next b11
      replace t2 := t2.next b11
      replace t3 := t3.next b11
      replace t8 := t8.next b11
      replace t9 := t9.next b11
      replace B := B.trans (b11.mono B.size)
      go_wp2_with fail
      refine (nat_Norm v2 x2 _ s2 (by omega) f2).mono ?_; rintro e w12 ⟨r12, z12, rfl, o12, m12, v12, l12, b12⟩
      have V12 := Lib.hid v12; clear v12
      replace s0 := s0.next b12
      replace s1 := s1.next b12
      replace s2 := s2.next b12
      replace t2 := t2.next b12
      replace t3 := t3.next b12
      replace t8 := t8.next b12
      replace t9 := t9.next b12
      replace B := B.trans (b12.mono B.size)
      by_cases hz : z12 = []
      · subst hz
        obtain ⟨ao, bb, off, cap, rfl, -, -⟩ := o12.sl
        clear l12 m12 o12
        go_wp2
        go_ret
        exact ⟨rfl, B⟩
      · have hp : 0 < nv W64 x2 := by rw [← V12.out]; exact Nat.pos_of_ne_zero (fun h => hz (nrm_nv_zero (by decide) m12 h))
        have HP := Lib.hid hp; clear hp
        have hne : (((z12.length : Nat) : Int) == 0) = false := by simpa using hz
        obtain ⟨ao, bb, off, cap, rfl, -, -⟩ := o12.sl
        clear hz o12
        go_wp2_with fail
        refine (nat_Mul v0 v2 x0 x2 _ s0 s2 (by omega) (by omega) f0 f2).mono ?_; rintro e w13 ⟨r13, z13, rfl, o13, m13, v13, l13, b13⟩
        have V13 := Lib.hid v13; clear v13
        replace s0 := s0.next b13
        replace s1 := s1.next b13
        replace s2 := s2.next b13
        replace t2 := t2.next b13
        replace t3 := t3.next b13
        replace t8 := t8.next b13
        replace t9 := t9.next b13
        replace B := B.trans (b13.mono B.size)
        have t13 := o13.sl
        clear o13
        go_wp2_with fail
        refine (nat_Mul v1 v2 x1 x2 _ s1 s2 (by omega) (by omega) f1 f2).mono ?_; rintro e w14 ⟨r14, z14, rfl, o14, m14, v14, l14, b14⟩
        have V14 := Lib.hid v14; clear v14
        replace s0 := s0.next b14
        replace s1 := s1.next b14
        replace s2 := s2.next b14
        replace t2 := t2.next b14
        replace t3 := t3.next b14
        replace t8 := t8.next b14
        replace t9 := t9.next b14
        replace t13 := t13.next b14
        replace B := B.trans (b14.mono B.size)
        have t14 := o14.sl
        clear o14
        go_wp2_with fail
        refine (nat_Cmp_is r13 r14 z13 z14 _ t13 t14 (by omega) (by omega) m13.1 m14.1 x (by rw [V13.out, V14.out, cmpN_mul _ _ _ HP.out]; exact HX.out)).mono ?_; rintro e w15 ⟨rfl, q15⟩
        have b15 := q15.below w14.heap.size; clear q15
        replace s0 := s0.next b15
        replace s1 := s1.next b15
        replace s2 := s2.next b15
        replace t2 := t2.next b15
        replace t3 := t3.next b15
        replace t8 := t8.next b15
        replace t9 := t9.next b15
        replace t13 := t13.next b15
        replace t14 := t14.next b15
        replace B := B.trans (b15.mono B.size)
        go_wp2
        go_ret
        exact ⟨rfl, B⟩

  · have H := Lib.hid h; clear h
    go_enter Try.func7, Try.ntmps7
    go_wp2_with fail
    refine (law1_awake w).mono ?_; rintro e w1 ⟨rfl, b1⟩
    go_wp2_with fail
    refine (law1_few_no v0 v1 v2 x0 x1 x2 10 _ (s0.next b1) (s1.next b1) (s2.next b1) H.out).mono ?_; rintro e w2 ⟨rfl, rfl⟩
    go_wp2_with fail
    refine (law1_awake w1).mono ?_; rintro e w2 ⟨rfl, b2⟩
    go_wp2
    go_ret
    exact ⟨rfl, b1.trans (b2.mono b1.size)⟩

set_option maxRecDepth 100000 in
theorem lifted (os : Os) (started : os.Started) (H : Type) (enc : TypeId × Value → H) :
    ReturnsInHanded {} Try.checked os 7 .any (Rows.natOrderSpec.pre6 enc Try.prog Try.f7 Rows.natOrderRow.domain false) (Rows.natOrderSpec.post enc Try.prog Try.f7 false true false false) := by
  refine returnsInHanded_of_change (C := Try.checked) own started (by kernel_rfl) Try.func7
    (ChangeSpec.witness6 (enc := enc) (C := Try.checked) false ⟨#[], #[.slice none 0 0, .slice none 0 0, .slice none 0 0], []⟩ 8 (by kernel_rfl) (by kernel_rfl) (by kernel_rfl) (by kernel_rfl)) ?_
  intro W base args ds gs before hval0 hW hcnd _
  have hval : ∀ (j : Nat) t v, Try.f7.params[j]? = some t → args[j]? = some v → Value.okWide Try.prog W .any base t v := hval0
  have hW' := hW
  obtain ⟨p, q, hA0, hV, rfl, hfz, hnd⟩ := hW
  have hA : DataW.TrodAll enc Try.prog W 0 (fun _ => true) true Try.f7.params.toList args.toList ds p := hA0
  rw [Try.params7] at hA hval
  obtain ⟨v0, vs0, d0, ds0, p0, q0, hargs, rfl, rfl, h0, r0⟩ := trodAll_cons hA
  obtain ⟨v1, vs1, d1, ds1, p1, q1, rfl, rfl, rfl, h1, r1⟩ := trodAll_cons r0
  obtain ⟨v2, vs2, d2, ds2, p2, q2, rfl, rfl, rfl, h2, r2⟩ := trodAll_cons r1
  obtain ⟨rfl, rfl, rfl⟩ := trodAll_nil r2
  obtain rfl : args = #[v0, v1, v2] := by cases args; simp_all
  obtain ⟨rfl, rfl⟩ := trodVars_none hV
  have k0 := h0
  have lt0 : ∀ x ∈ p0, x.block < W.heap.size := by obtain ⟨m, hm⟩ := k0; exact DataW.trod_lt m _ _ _ hm
  obtain ⟨x0, s0, f0⟩ := open_words Try.underlying23 Try.underlying32 (by kernel_rfl) (hval 0 23 v0 rfl rfl) h0
  have k1 := h1
  have lt1 : ∀ x ∈ p1, x.block < W.heap.size := by obtain ⟨m, hm⟩ := k1; exact DataW.trod_lt m _ _ _ hm
  obtain ⟨x1, s1, f1⟩ := open_words Try.underlying23 Try.underlying32 (by kernel_rfl) (hval 1 23 v1 rfl rfl) h1
  have k2 := h2
  have lt2 : ∀ x ∈ p2, x.block < W.heap.size := by obtain ⟨m, hm⟩ := k2; exact DataW.trod_lt m _ _ _ hm
  obtain ⟨x2, s2, f2⟩ := open_words Try.underlying23 Try.underlying32 (by kernel_rfl) (hval 2 23 v2 rfl rfl) h2
  clear hA0 hval0
  refine (walk v0 x0 v1 x1 v2 x2 W s0 f0 s1 f1 s2 f2).mono fun e W' ⟨he, bel⟩ => ?_
  subst he
  exact ⟨_, rfl, _, _, _, [], _, [], hW', trodAll_mk1 (shut_bool Try.underlying4 _), (trodAll_cons_mk (Below.trod laidOut (by kernel_rfl) (of_decide_eq_true (by kernel_rfl)) k0 bel lt0) (trodAll_cons_mk (Below.trod laidOut (by kernel_rfl) (of_decide_eq_true (by kernel_rfl)) k1 bel lt1) (trodAll_cons_mk (Below.trod laidOut (by kernel_rfl) (of_decide_eq_true (by kernel_rfl)) k2 bel lt2) trodAll_mk0))), rfl, bel.frame _, fun h => by cases h⟩

theorem over : Rows.natOrderRow.holds Try.pinned (OpenSpec.ofChange Rows.natOrderSpec) :=
  OpenClaim.holds_of_wide 7 Try.f7 rfl rfl rfl rfl rfl rfl rfl ⟨rfl, rfl, rfl, rfl, rfl⟩ rfl rfl rfl rfl rfl (by kernel_rfl) Try.func7 (by kernel_rfl)
    (of_decide_eq_true (by kernel_rfl)) (by unfold Func.isWrapper; first | (rw [if_pos (by decide +kernel)]; kernel_rfl) | (rw [if_neg (by decide +kernel)]; exact ⟨rfl, rfl⟩))
    (fun os started H enc _ => lifted os started H enc)

theorem proved : Rows.NatOrderSaid := over
#print axioms proved
end Go.Proofs.Ytnnidjhhcnmnnaa.natOrder
