/- For all naturals and whole numbers the law MulPowers returns true, whatever they are. -/
import Derived.Test.YtnnidjhhcnmnnaaRows
import Derived.Test.YtnnidjhhcnmnnaaOpen
import Derived.Test.YtnnidjhhcnmnnaaLaw2
namespace Go.Proofs.Ytnnidjhhcnmnnaa.mulPowers
open Go.ChangeShapes Go.WideShapes Go.ChangeAt Go.RowKit
open Go.ChangeMaps (open_string shut_string)

theorem own : ownKnob Try.prog.godebug = none := by kernel_rfl
theorem laidOut : laidOutB Try.prog = true := by kernel_rfl

set_option maxHeartbeats 2000000 in
theorem walk_no (v0 : Value) (x0 : List Nat) (n : Int) (w : World) (s0 : Sl .u64 w v0 x0) (f0 : wf W64 x0) (h0 : x0.length ≤ 4) (c : Nat) (ec : bl (nv W64 x0) = c) (hno : n < 0 ∨ (0 < c ∧ (1048576 : Int) / c < n)) :
    Calls Try.prog 11 #[v0, .int .i64 n] w (LawOk w) := by
  obtain ⟨ao, ba, oa, ca, rfl, la, ka⟩ := s0
  have s0 : Sl .u64 w (.slice ao x0.length ca) x0 := ⟨ao, ba, oa, ca, rfl, la, ka⟩
  clear ka
  have HNO := Lib.hid (fun (w' : World) (s : Sl .u64 w' (.slice ao x0.length ca) x0) => mul_Pow_no _ x0 n w' s (by omega) f0 (by rw [ec]; exact hno))
  have EC := Lib.hid ec; clear ec
  by_cases hneg : n < 0
  · clear hno
    go_enter Try.func11, Try.ntmps11
    go_wp2_with fail
    refine (law2_awake w).mono ?_; rintro e w1 ⟨rfl, b1⟩
    replace s0 := s0.next b1
    have B := b1
    go_wp2_with fail
    refine (ref_From (.slice ao x0.length ca) x0 _ s0 (by omega) f0).mono ?_; rintro e w2 ⟨r2, z2, rfl, o2, m2, v2, l2, b2⟩
    have V2 := Lib.hid v2; clear v2
    replace s0 := s0.next b2
    replace B := B.trans (b2.mono B.size)
    have t2 := o2.sl
    clear o2
    have hbits := ref_Bits r2 z2 w2 t2 (by omega) m2.1
    rw [V2.out] at hbits
    rw [EC.out] at hbits
    have HBI := Lib.hid hbits; clear hbits
    go_wp2_with fail
    refine HBI.out.mono ?_; rintro e w3 ⟨rfl, b3⟩
    clear HBI
    replace s0 := s0.next b3
    replace t2 := t2.next b3
    replace B := B.trans (b3.mono B.size)
    go_wp2_with fail
    refine ((HNO.out _ s0)).mono ?_; rintro e wx ⟨rfl, rfl⟩
    go_wp2
    go_ret
    exact ⟨rfl, B⟩
  · obtain ⟨hc0, hc1⟩ : 0 < c ∧ (1048576 : Int) / c < n := hno.resolve_left hneg
    clear hno
    have hn0 : 0 ≤ n := by omega
    have hfalse : ((c : Int) == 0 || decide (n ≤ 1048576 / (c : Int))) = false := by
      have h1 : ((c : Int) == 0) = false := by simpa using (show c ≠ 0 by omega)
      rw [h1, Bool.false_or]; exact decide_eq_false (by omega)
    go_enter Try.func11, Try.ntmps11
    go_wp2_with fail
    refine (law2_awake w).mono ?_; rintro e w1 ⟨rfl, b1⟩
    replace s0 := s0.next b1
    have B := b1
    go_wp2_with fail
    refine (ref_From (.slice ao x0.length ca) x0 _ s0 (by omega) f0).mono ?_; rintro e w2 ⟨r2, z2, rfl, o2, m2, v2, l2, b2⟩
    have V2 := Lib.hid v2; clear v2
    replace s0 := s0.next b2
    replace B := B.trans (b2.mono B.size)
    have t2 := o2.sl
    clear o2
    have hbits := ref_Bits r2 z2 w2 t2 (by omega) m2.1
    rw [V2.out] at hbits
    rw [EC.out] at hbits
    have HBI := Lib.hid hbits; clear hbits
    go_wp2_with fail
    refine HBI.out.mono ?_; rintro e w3 ⟨rfl, b3⟩
    clear HBI
    replace s0 := s0.next b3
    replace t2 := t2.next b3
    replace B := B.trans (b3.mono B.size)
    go_wp2_with fail
    refine ((HNO.out _ s0)).mono ?_; rintro e wx ⟨rfl, rfl⟩
    go_wp2
    go_ret
    exact ⟨rfl, B⟩

set_option maxHeartbeats 2000000 in
theorem walk_big (v0 : Value) (x0 : List Nat) (n : Nat) (w : World) (s0 : Sl .u64 w v0 x0) (f0 : wf W64 x0) (h0 : x0.length ≤ 4) (c : Nat) (ec : bl (nv W64 x0) = c) (hn2 : (n : Int) ≤ 9223372036854775807) (hy : c = 0 ∨ (n : Int) ≤ 1048576 / (c : Nat)) (hb : 2 ≤ c) (hn : 20 < n) :
    Calls Try.prog 11 #[v0, .int .i64 n] w (LawOk w) := by
  obtain ⟨ao, ba, oa, ca, rfl, la, ka⟩ := s0
  have s0 : Sl .u64 w (.slice ao x0.length ca) x0 := ⟨ao, ba, oa, ca, rfl, la, ka⟩
  clear ka
  have HYES := Lib.hid (fun (w' : World) (s : Sl .u64 w' (.slice ao x0.length ca) x0) => mul_Pow_ok _ x0 n w' s (by omega) f0 hn2 (by rw [ec]; exact hy))
  have EC := Lib.hid ec; clear ec
  have hn0 : (0 : Int) ≤ (n : Int) := Int.natCast_nonneg _
  by_cases hc : c = 0
  · omega

  · replace hy := hy.resolve_left hc
    have hcp : 0 < c := Nat.pos_of_ne_zero hc
    have hcb : ((c : Int) == 0) = false := by simpa using hc
    go_enter Try.func11, Try.ntmps11
    go_wp2_with fail
    refine (law2_awake w).mono ?_; rintro e w1 ⟨rfl, b1⟩
    replace s0 := s0.next b1
    have B := b1
    go_wp2_with fail
    refine (ref_From (.slice ao x0.length ca) x0 _ s0 (by omega) f0).mono ?_; rintro e w2 ⟨r2, z2, rfl, o2, m2, v2, l2, b2⟩
    have V2 := Lib.hid v2; clear v2
    replace s0 := s0.next b2
    replace B := B.trans (b2.mono B.size)
    have t2 := o2.sl
    clear o2
    have hbits := ref_Bits r2 z2 w2 t2 (by omega) m2.1
    rw [V2.out] at hbits
    rw [EC.out] at hbits
    have HBI := Lib.hid hbits; clear hbits
    go_wp2_with fail
    refine HBI.out.mono ?_; rintro e w3 ⟨rfl, b3⟩
    clear HBI
    replace s0 := s0.next b3
    replace t2 := t2.next b3
    replace B := B.trans (b3.mono B.size)
    go_wp2_with fail
    refine (HYES.out w3 s0).mono ?_; rintro e w4 ⟨r4, z4, rfl, o4, m4, v4, l4, b4⟩
    have V4 := Lib.hid v4; clear v4
    replace s0 := s0.next b4
    replace t2 := t2.next b4
    replace B := B.trans (b4.mono B.size)
    have t4 := o4.sl
    clear o4
    go_wp2
    go_ret
    exact ⟨rfl, B⟩

set_option maxHeartbeats 2000000 in
theorem walk_is (v0 : Value) (x0 : List Nat) (n : Nat) (w : World) (s0 : Sl .u64 w v0 x0) (f0 : wf W64 x0) (h0 : x0.length ≤ 4) (c : Nat) (ec : bl (nv W64 x0) = c) (hn2 : (n : Int) ≤ 9223372036854775807) (hy : c = 0 ∨ (n : Int) ≤ 1048576 / (c : Nat)) (hb : c ≤ 1) (hn : 20 < n) :
    Calls Try.prog 11 #[v0, .int .i64 n] w (LawOk w) := by
  obtain ⟨ao, ba, oa, ca, rfl, la, ka⟩ := s0
  have s0 : Sl .u64 w (.slice ao x0.length ca) x0 := ⟨ao, ba, oa, ca, rfl, la, ka⟩
  clear ka
  have HYES := Lib.hid (fun (w' : World) (s : Sl .u64 w' (.slice ao x0.length ca) x0) => mul_Pow_ok _ x0 n w' s (by omega) f0 hn2 (by rw [ec]; exact hy))
  have ep : nv W64 x0 ^ n = nv W64 x0 := by
    have h1 := (isBl_bl (nv W64 x0)).1
    have h2 : 2 ^ bl (nv W64 x0) ≤ 2 ^ 1 := Nat.pow_le_pow_right (by decide) (by omega)
    rcases (show nv W64 x0 = 0 ∨ nv W64 x0 = 1 by omega) with h | h
    · rw [h]; exact Nat.zero_pow (by omega)
    · rw [h]; exact Nat.one_pow _
  have EP := Lib.hid ep; clear ep
  have EC := Lib.hid ec; clear ec
  have hn0 : (0 : Int) ≤ (n : Int) := Int.natCast_nonneg _
  by_cases hc : c = 0
  · subst hc
    clear hy
    go_enter Try.func11, Try.ntmps11
    go_wp2_with fail
    refine (law2_awake w).mono ?_; rintro e w1 ⟨rfl, b1⟩
    replace s0 := s0.next b1
    have B := b1
    go_wp2_with fail
    refine (ref_From (.slice ao x0.length ca) x0 _ s0 (by omega) f0).mono ?_; rintro e w2 ⟨r2, z2, rfl, o2, m2, v2, l2, b2⟩
    have V2 := Lib.hid v2; clear v2
    replace s0 := s0.next b2
    replace B := B.trans (b2.mono B.size)
    have t2 := o2.sl
    clear o2
    have hbits := ref_Bits r2 z2 w2 t2 (by omega) m2.1
    rw [V2.out] at hbits
    rw [EC.out] at hbits
    have HBI := Lib.hid hbits; clear hbits
    go_wp2_with fail
    refine HBI.out.mono ?_; rintro e w3 ⟨rfl, b3⟩
    clear HBI
    replace s0 := s0.next b3
    replace t2 := t2.next b3
    replace B := B.trans (b3.mono B.size)
    go_wp2_with fail
    refine (HYES.out w3 s0).mono ?_; rintro e w4 ⟨r4, z4, rfl, o4, m4, v4, l4, b4⟩
    have V4 := Lib.hid v4; clear v4
    replace s0 := s0.next b4
    replace t2 := t2.next b4
    replace B := B.trans (b4.mono B.size)
    have t4 := o4.sl
    clear o4
    go_wp2_with fail
    refine (law2_is r4 r2 z4 z2 _ t4 t2 (by omega) (by omega) m2.1 m4 (by rw [V4.out, V2.out, EP.out])).mono ?_; rintro e w5 ⟨rfl, b5⟩
    replace s0 := s0.next b5
    replace t2 := t2.next b5
    replace t4 := t4.next b5
    replace B := B.trans (b5.mono B.size)
    go_wp2
    go_ret
    exact ⟨rfl, B⟩
  · replace hy := hy.resolve_left hc
    have hcp : 0 < c := Nat.pos_of_ne_zero hc
    have hcb : ((c : Int) == 0) = false := by simpa using hc
    go_enter Try.func11, Try.ntmps11
    go_wp2_with fail
    refine (law2_awake w).mono ?_; rintro e w1 ⟨rfl, b1⟩
    replace s0 := s0.next b1
    have B := b1
    go_wp2_with fail
    refine (ref_From (.slice ao x0.length ca) x0 _ s0 (by omega) f0).mono ?_; rintro e w2 ⟨r2, z2, rfl, o2, m2, v2, l2, b2⟩
    have V2 := Lib.hid v2; clear v2
    replace s0 := s0.next b2
    replace B := B.trans (b2.mono B.size)
    have t2 := o2.sl
    clear o2
    have hbits := ref_Bits r2 z2 w2 t2 (by omega) m2.1
    rw [V2.out] at hbits
    rw [EC.out] at hbits
    have HBI := Lib.hid hbits; clear hbits
    go_wp2_with fail
    refine HBI.out.mono ?_; rintro e w3 ⟨rfl, b3⟩
    clear HBI
    replace s0 := s0.next b3
    replace t2 := t2.next b3
    replace B := B.trans (b3.mono B.size)
    go_wp2_with fail
    refine (HYES.out w3 s0).mono ?_; rintro e w4 ⟨r4, z4, rfl, o4, m4, v4, l4, b4⟩
    have V4 := Lib.hid v4; clear v4
    replace s0 := s0.next b4
    replace t2 := t2.next b4
    replace B := B.trans (b4.mono B.size)
    have t4 := o4.sl
    clear o4
    go_wp2_with fail
    refine (law2_is r4 r2 z4 z2 _ t4 t2 (by omega) (by omega) m2.1 m4 (by rw [V4.out, V2.out, EP.out])).mono ?_; rintro e w5 ⟨rfl, b5⟩
    replace s0 := s0.next b5
    replace t2 := t2.next b5
    replace t4 := t4.next b5
    replace B := B.trans (b5.mono B.size)
    go_wp2
    go_ret
    exact ⟨rfl, B⟩

set_option maxHeartbeats 2000000 in
theorem walk_pow (v0 : Value) (x0 : List Nat) (n : Nat) (w : World) (s0 : Sl .u64 w v0 x0) (f0 : wf W64 x0) (h0 : x0.length ≤ 4) (c : Nat) (ec : bl (nv W64 x0) = c) (hn2 : (n : Int) ≤ 9223372036854775807) (hy : c = 0 ∨ (n : Int) ≤ 1048576 / (c : Nat)) (hn : n ≤ 20) :
    Calls Try.prog 11 #[v0, .int .i64 n] w (LawOk w) := by
  obtain ⟨ao, ba, oa, ca, rfl, la, ka⟩ := s0
  have s0 : Sl .u64 w (.slice ao x0.length ca) x0 := ⟨ao, ba, oa, ca, rfl, la, ka⟩
  clear ka
  have HYES := Lib.hid (fun (w' : World) (s : Sl .u64 w' (.slice ao x0.length ca) x0) => mul_Pow_ok _ x0 n w' s (by omega) f0 hn2 (by rw [ec]; exact hy))
  have EC := Lib.hid ec; clear ec
  have hn0 : (0 : Int) ≤ (n : Int) := Int.natCast_nonneg _
  by_cases hc : c = 0
  · subst hc
    clear hy
    go_enter Try.func11, Try.ntmps11
    go_wp2_with fail
    refine (law2_awake w).mono ?_; rintro e w1 ⟨rfl, b1⟩
    replace s0 := s0.next b1
    have B := b1
    go_wp2_with fail
    refine (ref_From (.slice ao x0.length ca) x0 _ s0 (by omega) f0).mono ?_; rintro e w2 ⟨r2, z2, rfl, o2, m2, v2, l2, b2⟩
    have V2 := Lib.hid v2; clear v2
    replace s0 := s0.next b2
    replace B := B.trans (b2.mono B.size)
    have t2 := o2.sl
    clear o2
    have hbits := ref_Bits r2 z2 w2 t2 (by omega) m2.1
    rw [V2.out] at hbits
    rw [EC.out] at hbits
    have HBI := Lib.hid hbits; clear hbits
    go_wp2_with fail
    refine HBI.out.mono ?_; rintro e w3 ⟨rfl, b3⟩
    clear HBI
    replace s0 := s0.next b3
    replace t2 := t2.next b3
    replace B := B.trans (b3.mono B.size)
    go_wp2_with fail
    refine (HYES.out w3 s0).mono ?_; rintro e w4 ⟨r4, z4, rfl, o4, m4, v4, l4, b4⟩
    have V4 := Lib.hid v4; clear v4
    replace s0 := s0.next b4
    replace t2 := t2.next b4
    replace B := B.trans (b4.mono B.size)
    have t4 := o4.sl
    clear o4
    go_wp2_with fail
    refine (ref2_Pow r2 z2 n _ t2 (by omega) m2.1 (by omega)).mono ?_; rintro e w5 ⟨r5, z5, rfl, o5, m5, v5, l5, b5⟩
    have V5 := Lib.hid v5; clear v5
    replace s0 := s0.next b5
    replace t2 := t2.next b5
    replace t4 := t4.next b5
    replace B := B.trans (b5.mono B.size)
    have t5 := o5.sl
    clear o5
    have hlq : z5.length ≤ 100000 := by have h1 := Nat.mul_le_mul (show n ≤ 20 by omega) (show z2.length ≤ 16 by omega); omega
    go_wp2_with fail
    refine (law2_is r4 r5 z4 z5 _ t4 t5 (by omega) (by omega) m5.1 m4 (by rw [V4.out, V5.out, V2.out])).mono ?_; rintro e w6 ⟨rfl, b6⟩
    replace s0 := s0.next b6
    replace t2 := t2.next b6
    replace t4 := t4.next b6
    replace t5 := t5.next b6
    replace B := B.trans (b6.mono B.size)
    go_wp2
    go_ret
    exact ⟨rfl, B⟩
  · replace hy := hy.resolve_left hc
    have hcp : 0 < c := Nat.pos_of_ne_zero hc
    have hcb : ((c : Int) == 0) = false := by simpa using hc
    go_enter Try.func11, Try.ntmps11
    go_wp2_with fail
    refine (law2_awake w).mono ?_; rintro e w1 ⟨rfl, b1⟩
    replace s0 := s0.next b1
    have B := b1
    go_wp2_with fail
    refine (ref_From (.slice ao x0.length ca) x0 _ s0 (by omega) f0).mono ?_; rintro e w2 ⟨r2, z2, rfl, o2, m2, v2, l2, b2⟩
    have V2 := Lib.hid v2; clear v2
    replace s0 := s0.next b2
    replace B := B.trans (b2.mono B.size)
    have t2 := o2.sl
    clear o2
    have hbits := ref_Bits r2 z2 w2 t2 (by omega) m2.1
    rw [V2.out] at hbits
    rw [EC.out] at hbits
    have HBI := Lib.hid hbits; clear hbits
    go_wp2_with fail
    refine HBI.out.mono ?_; rintro e w3 ⟨rfl, b3⟩
    clear HBI
    replace s0 := s0.next b3
    replace t2 := t2.next b3
    replace B := B.trans (b3.mono B.size)
    go_wp2_with fail
    refine (HYES.out w3 s0).mono ?_; rintro e w4 ⟨r4, z4, rfl, o4, m4, v4, l4, b4⟩
    have V4 := Lib.hid v4; clear v4
    replace s0 := s0.next b4
    replace t2 := t2.next b4
    replace B := B.trans (b4.mono B.size)
    have t4 := o4.sl
    clear o4
    go_wp2_with fail
    refine (ref2_Pow r2 z2 n _ t2 (by omega) m2.1 (by omega)).mono ?_; rintro e w5 ⟨r5, z5, rfl, o5, m5, v5, l5, b5⟩
    have V5 := Lib.hid v5; clear v5
    replace s0 := s0.next b5
    replace t2 := t2.next b5
    replace t4 := t4.next b5
    replace B := B.trans (b5.mono B.size)
    have t5 := o5.sl
    clear o5
    have hlq : z5.length ≤ 100000 := by have h1 := Nat.mul_le_mul (show n ≤ 20 by omega) (show z2.length ≤ 16 by omega); omega
    go_wp2_with fail
    refine (law2_is r4 r5 z4 z5 _ t4 t5 (by omega) (by omega) m5.1 m4 (by rw [V4.out, V5.out, V2.out])).mono ?_; rintro e w6 ⟨rfl, b6⟩
    replace s0 := s0.next b6
    replace t2 := t2.next b6
    replace t4 := t4.next b6
    replace t5 := t5.next b6
    replace B := B.trans (b6.mono B.size)
    go_wp2
    go_ret
    exact ⟨rfl, B⟩

theorem walk (v0 : Value) (x0 : List Nat) (n : Int) (w : World) (s0 : Sl .u64 w v0 x0) (f0 : wf W64 x0) (bn : -9223372036854775808 ≤ n ∧ n ≤ 9223372036854775807) :
    Calls Try.prog 11 #[v0, .int .i64 n] w (LawOk w) := by
  by_cases h0 : x0.length ≤ 4
  · by_cases hno : n < 0 ∨ (0 < bl (nv W64 x0) ∧ (1048576 : Int) / (bl (nv W64 x0) : Nat) < n)
    · exact walk_no v0 x0 n w s0 f0 h0 _ rfl hno
    · obtain ⟨m, rfl⟩ := Int.eq_ofNat_of_zero_le (show 0 ≤ n by omega)
      have hy : bl (nv W64 x0) = 0 ∨ (m : Int) ≤ 1048576 / (bl (nv W64 x0) : Nat) := by omega
      by_cases h1 : m ≤ 20
      · exact walk_pow v0 x0 m w s0 f0 h0 _ rfl bn.2 hy h1
      · by_cases h2 : 2 ≤ bl (nv W64 x0)
        · exact walk_big v0 x0 m w s0 f0 h0 _ rfl bn.2 hy h2 (by omega)
        · exact walk_is v0 x0 m w s0 f0 h0 _ rfl bn.2 hy (by omega) (by omega)
  · obtain ⟨bn1, bn2⟩ := bn
    obtain ⟨ao, ba, oa, ca, rfl, la, ka⟩ := s0
    have s0 : Sl .u64 w (.slice ao x0.length ca) x0 := ⟨ao, ba, oa, ca, rfl, la, ka⟩
    clear ka
    go_enter Try.func11, Try.ntmps11
    go_wp2_with fail
    refine (law2_awake w).mono ?_; rintro e w1 ⟨rfl, b1⟩
    go_wp2_with fail
    refine (law2_awake w1).mono ?_; rintro e w2 ⟨rfl, b2⟩
    go_wp2
    go_ret
    exact ⟨rfl, b1.trans (b2.mono b1.size)⟩

set_option maxRecDepth 100000 in
theorem lifted (os : Os) (started : os.Started) (H : Type) (enc : TypeId × Value → H) :
    ReturnsInHanded {} Try.checked os 11 .any (Rows.mulPowersSpec.pre6 enc Try.prog Try.f11 Rows.mulPowersRow.domain false) (Rows.mulPowersSpec.post enc Try.prog Try.f11 false true false false) := by
  refine returnsInHanded_of_change (C := Try.checked) own started (by kernel_rfl) Try.func11
    (ChangeSpec.witness6 (enc := enc) (C := Try.checked) false ⟨#[], #[.slice none 0 0, .int .i64 0], []⟩ 8 (by kernel_rfl) (by kernel_rfl) (by kernel_rfl) (by kernel_rfl)) ?_
  intro W base args ds gs before hval0 hW hcnd _
  have hval : ∀ (j : Nat) t v, Try.f11.params[j]? = some t → args[j]? = some v → Value.okWide Try.prog W .any base t v := hval0
  have hW' := hW
  obtain ⟨p, q, hA0, hV, rfl, hfz, hnd⟩ := hW
  have hA : DataW.TrodAll enc Try.prog W 0 (fun _ => true) true Try.f11.params.toList args.toList ds p := hA0
  rw [Try.params11] at hA hval
  obtain ⟨v0, vs0, d0, ds0, p0, q0, hargs, rfl, rfl, h0, r0⟩ := trodAll_cons hA
  obtain ⟨v1, vs1, d1, ds1, p1, q1, rfl, rfl, rfl, h1, r1⟩ := trodAll_cons r0
  obtain ⟨rfl, rfl, rfl⟩ := trodAll_nil r1
  obtain rfl : args = #[v0, v1] := by cases args; simp_all
  obtain ⟨rfl, rfl⟩ := trodVars_none hV
  have k0 := h0
  have lt0 : ∀ x ∈ p0, x.block < W.heap.size := by obtain ⟨m, hm⟩ := k0; exact DataW.trod_lt m _ _ _ hm
  obtain ⟨x0, s0, f0⟩ := open_words Try.underlying23 Try.underlying32 (by kernel_rfl) (hval 0 23 v0 rfl rfl) h0
  have k1 := h1
  have lt1 : ∀ x ∈ p1, x.block < W.heap.size := by obtain ⟨m, hm⟩ := k1; exact DataW.trod_lt m _ _ _ hm
  obtain ⟨x1, rfl, rfl, rfl, wi1⟩ := open_int Try.underlying3 (hval 1 3 v1 rfl rfl) h1
  clear hA0 hval0
  refine (walk v0 x0 x1 W s0 f0 (wf_i64_bounds wi1)).mono fun e W' ⟨he, bel⟩ => ?_
  subst he
  exact ⟨_, rfl, _, _, _, [], _, [], hW', trodAll_mk1 (shut_bool Try.underlying4 _), (trodAll_cons_mk (Below.trod laidOut (by kernel_rfl) (of_decide_eq_true (by kernel_rfl)) k0 bel lt0) (trodAll_cons_mk (Below.trod laidOut (by kernel_rfl) (of_decide_eq_true (by kernel_rfl)) k1 bel lt1) trodAll_mk0)), rfl, bel.frame _, fun h => by cases h⟩

theorem over : Rows.mulPowersRow.holds Try.pinned (OpenSpec.ofChange Rows.mulPowersSpec) :=
  OpenClaim.holds_of_wide 11 Try.f11 rfl rfl rfl rfl rfl rfl rfl ⟨rfl, rfl, rfl, rfl, rfl⟩ rfl rfl rfl rfl rfl (by kernel_rfl) Try.func11 (by kernel_rfl)
    (of_decide_eq_true (by kernel_rfl)) (by unfold Func.isWrapper; first | (rw [if_pos (by decide +kernel)]; kernel_rfl) | (rw [if_neg (by decide +kernel)]; exact ⟨rfl, rfl⟩))
    (fun os started H enc _ => lifted os started H enc)

theorem proved : Rows.MulPowersSaid := over
#print axioms proved
end Go.Proofs.Ytnnidjhhcnmnnaa.mulPowers
