/- For all naturals and whole numbers the law NatShifts returns true, whatever they are. -/
import Derived.Test.YtnnidjhhcnmnnaaRows
import Derived.Test.YtnnidjhhcnmnnaaOpen
import Derived.Test.YtnnidjhhcnmnnaaNat5
import Derived.Test.YtnnidjhhcnmnnaaRef5
namespace Go.Proofs.Ytnnidjhhcnmnnaa.natShifts
open Go.ChangeShapes Go.WideShapes Go.ChangeAt Go.RowKit
open Go.ChangeMaps (open_string shut_string)

theorem own : ownKnob Try.prog.godebug = none := by kernel_rfl
theorem laidOut : laidOutB Try.prog = true := by kernel_rfl

theorem nat_Shl_no (v : Value) (n : Int) (w : World) (hn : n < 0 ∨ 1048576 < n) :
    Calls Try.prog 17 #[v, .int .i64 n] w fun e w' => e = .returned (.tuple #[.slice none 0 0, .bool false]) ∧ w = w' := by
  by_cases h : n < 0
  · clear hn
    go_enter Try.func17, Try.ntmps17
    go_wp2
    go_ret2
    exact ⟨rfl, rfl⟩
  · have h2 : 1048576 < n := by omega
    clear hn
    go_enter Try.func17, Try.ntmps17
    go_wp2
    go_ret2
    exact ⟨rfl, rfl⟩
theorem nat_Shr_no (v : Value) (n : Int) (w : World) (h : n < 0) :
    Calls Try.prog 18 #[v, .int .i64 n] w fun e w' => e = .returned (.tuple #[.slice none 0 0, .bool false]) ∧ w = w' := by
  go_enter Try.func18, Try.ntmps18
  go_wp2
  go_ret2
  exact ⟨rfl, rfl⟩
theorem shr_big {xs : List Nat} {m : Nat} (hx : wf W64 xs) (hl : xs.length ≤ 20) (hm : 1280 ≤ m) : nv W64 xs / 2 ^ m = 0 := by
  refine Nat.div_eq_of_lt ?_
  have h1 := nv_lt xs hx
  rw [show W64 = 2 ^ 64 from rfl, ← Nat.pow_mul] at h1
  exact Nat.lt_of_lt_of_le h1 (Nat.pow_le_pow_right (by decide) (by omega))

theorem walk_neg (v0 : Value) (x0 : List Nat) (n : Int) (w : World) (s0 : Sl .u64 w v0 x0) (f0 : wf W64 x0) (hl : x0.length ≤ 20) (hn : n < 0) :
    Calls Try.prog 3 #[v0, .int .i64 n] w (LawOk w) := by
    obtain ⟨ao, b, off, cap, hv, hcap, hcs⟩ := s0
    have s0 : Sl .u64 w (.slice ao x0.length cap) x0 := ⟨ao, b, off, cap, rfl, hcap, hcs⟩
    subst hv
    clear hcs
    go_enter Try.func3, Try.ntmps3
    go_wp2_with fail
    refine (law1_awake w).mono ?_; rintro e w1 ⟨rfl, b1⟩
    replace s0 := s0.next b1
    have B := b1
    go_wp2_with fail
    refine (ref_From (.slice ao x0.length cap) x0 _ s0 (by omega) f0).mono ?_; rintro e w2 ⟨r2, z2, rfl, o2, m2, v2, l2, b2⟩
    have V2 := Lib.hid v2; clear v2
    replace s0 := s0.next b2
    replace B := B.trans (b2.mono B.size)
    have t2 := o2.sl
    go_wp2_with fail
    refine (nat_Shl_no (.slice ao x0.length cap) n _ (by omega)).mono ?_; rintro e wx ⟨rfl, rfl⟩
    go_wp2_with fail
    refine (nat_Shr_no (.slice ao x0.length cap) n _ (by omega)).mono ?_; rintro e wx ⟨rfl, rfl⟩
    go_wp2
    go_ret
    exact ⟨rfl, B⟩

set_option maxHeartbeats 1000000 in
theorem walk_mid (v0 : Value) (x0 : List Nat) (m : Nat) (w : World) (s0 : Sl .u64 w v0 x0) (f0 : wf W64 x0) (hl : x0.length ≤ 20) (hn : m ≤ 2000) :
    Calls Try.prog 3 #[v0, .int .i64 m] w (LawOk w) := by
      obtain ⟨ao, b, off, cap, hv, hcap, hcs⟩ := s0
      have s0 : Sl .u64 w (.slice ao x0.length cap) x0 := ⟨ao, b, off, cap, rfl, hcap, hcs⟩
      subst hv
      clear hcs
      have hm0 : (0 : Int) ≤ (m : Int) := Int.natCast_nonneg _
      go_enter Try.func3, Try.ntmps3
      go_wp2_with fail
      refine (law1_awake w).mono ?_; rintro e w1 ⟨rfl, b1⟩
      replace s0 := s0.next b1
      have B := b1
      go_wp2_with fail
      refine (ref_From (.slice ao x0.length cap) x0 _ s0 (by omega) f0).mono ?_; rintro e w2 ⟨r2, z2, rfl, o2, m2, v2, l2, b2⟩
      have V2 := Lib.hid v2; clear v2
      replace s0 := s0.next b2
      replace B := B.trans (b2.mono B.size)
      have t2 := o2.sl
      go_wp2_with fail
      refine (nat_Shl (.slice ao x0.length cap) x0 m _ s0 (by omega) f0 (by omega)).mono ?_; rintro e w3 ⟨r3, z3, rfl, o3, m3, v3, l3, b3⟩
      have V3 := Lib.hid v3; clear v3
      replace s0 := s0.next b3
      replace t2 := t2.next b3
      replace o2 := o2.next b3
      replace B := B.trans (b3.mono B.size)
      have t3 := o3.sl
      clear o3
      go_wp2_with fail
      refine (nat_Shr (.slice ao x0.length cap) x0 m _ s0 (by omega) f0 (by omega)).mono ?_; rintro e w4 ⟨r4, z4, rfl, o4, m4, v4, l4, b4⟩
      have V4 := Lib.hid v4; clear v4
      replace s0 := s0.next b4
      replace t2 := t2.next b4
      replace o2 := o2.next b4
      replace t3 := t3.next b4
      replace B := B.trans (b4.mono B.size)
      have t4 := o4.sl
      clear o4
      go_wp2_with fail
      refine (ref_Twice r2 z2 m _ _ o2 (by omega) m2.1 (by omega)).mono ?_; rintro e w5 ⟨r5, z5, rfl, o5, m5, v5, l5, b5⟩
      have V5 := Lib.hid v5; clear v5
      replace s0 := s0.next b5
      replace t2 := t2.next b5
      replace o2 := o2.next b5
      replace t3 := t3.next b5
      replace t4 := t4.next b5
      replace B := B.trans (b5.mono B.size)
      have t5 := o5.sl
      clear o5
      go_wp2_with fail
      refine (law1_is r3 r5 z3 z5 _ t3 t5 (by omega) (by omega) m5.1 m3 (by rw [V3.out, V5.out, V2.out])).mono ?_; rintro e w6 ⟨rfl, b6⟩
      replace s0 := s0.next b6
      replace t2 := t2.next b6
      replace o2 := o2.next b6
      replace t3 := t3.next b6
      replace t4 := t4.next b6
      replace t5 := t5.next b6
      replace B := B.trans (b6.mono B.size)
      go_wp2_with fail
      refine (ref_Half r2 z2 m _ t2 (by omega) m2.1 (by omega)).mono ?_; rintro e w7 ⟨r7, z7, rfl, o7, m7, v7, l7, b7⟩
      have V7 := Lib.hid v7; clear v7
      replace s0 := s0.next b7
      replace t2 := t2.next b7
      replace o2 := o2.next b7
      replace t3 := t3.next b7
      replace t4 := t4.next b7
      replace t5 := t5.next b7
      replace B := B.trans (b7.mono B.size)
      have t7 := o7.sl
      clear o7
      go_wp2_with fail
      refine (law1_is r4 r7 z4 z7 _ t4 t7 (by omega) (by omega) m7.1 m4 (by rw [V4.out, V7.out, V2.out])).mono ?_; rintro e w8 ⟨rfl, b8⟩
      replace s0 := s0.next b8
      replace t2 := t2.next b8
      replace o2 := o2.next b8
      replace t3 := t3.next b8
      replace t4 := t4.next b8
      replace t5 := t5.next b8
      replace t7 := t7.next b8
      replace B := B.trans (b8.mono B.size)
      go_wp2
      go_ret
      exact ⟨rfl, B⟩

set_option maxHeartbeats 1000000 in
theorem walk_big (v0 : Value) (x0 : List Nat) (m : Nat) (w : World) (s0 : Sl .u64 w v0 x0) (f0 : wf W64 x0) (hl : x0.length ≤ 20) (hn : 1048576 < m) (hn2 : (m : Int) ≤ 9223372036854775807) :
    Calls Try.prog 3 #[v0, .int .i64 m] w (LawOk w) := by
      obtain ⟨ao, b, off, cap, hv, hcap, hcs⟩ := s0
      have s0 : Sl .u64 w (.slice ao x0.length cap) x0 := ⟨ao, b, off, cap, rfl, hcap, hcs⟩
      subst hv
      clear hcs
      have hm0 : (0 : Int) ≤ (m : Int) := Int.natCast_nonneg _
      go_enter Try.func3, Try.ntmps3
      go_wp2_with fail
      refine (law1_awake w).mono ?_; rintro e w1 ⟨rfl, b1⟩
      replace s0 := s0.next b1
      have B := b1
      go_wp2_with fail
      refine (ref_From (.slice ao x0.length cap) x0 _ s0 (by omega) f0).mono ?_; rintro e w2 ⟨r2, z2, rfl, o2, m2, v2, l2, b2⟩
      have V2 := Lib.hid v2; clear v2
      replace s0 := s0.next b2
      replace B := B.trans (b2.mono B.size)
      have t2 := o2.sl
      go_wp2_with fail
      refine (nat_Shl_no (.slice ao x0.length cap) (m : Int) _ (by omega)).mono ?_; rintro e wx ⟨rfl, rfl⟩
      go_wp2_with fail
      refine (nat_Shr (.slice ao x0.length cap) x0 m _ s0 (by omega) f0 (by omega)).mono ?_; rintro e w3 ⟨r3, z3, rfl, o3, m3, v3, l3, b3⟩
      have V3 := Lib.hid v3; clear v3
      replace s0 := s0.next b3
      replace t2 := t2.next b3
      replace o2 := o2.next b3
      replace B := B.trans (b3.mono B.size)
      have t3 := o3.sl
      clear o3
      have hz : z3 = [] := nrm_nv_zero (by decide) m3 (by rw [V3.out]; exact shr_big f0 (by omega) (by omega))
      subst hz
      obtain ⟨ao2, b2, off2, cap2, rfl, -, -⟩ := t3
      clear l3 m3
      go_wp2
      go_ret
      exact ⟨rfl, B⟩

theorem walk (v0 : Value) (x0 : List Nat) (n : Int) (w : World) (s0 : Sl .u64 w v0 x0) (f0 : wf W64 x0) (bn : -9223372036854775808 ≤ n ∧ n ≤ 9223372036854775807) :
    Calls Try.prog 3 #[v0, .int .i64 n] w (LawOk w) := by
  by_cases h : x0.length ≤ 20
  · by_cases hneg : n < 0
    · exact walk_neg v0 x0 n w s0 f0 h hneg
    · obtain ⟨m, rfl⟩ := Int.eq_ofNat_of_zero_le (show 0 ≤ n by omega)
      by_cases h1 : m ≤ 2000
      · exact walk_mid v0 x0 m w s0 f0 h h1
      · by_cases h2 : 1048576 < m
        · exact walk_big v0 x0 m w s0 f0 h h2 bn.2
        · have h3 : (2000 : Int) < m := by omega
          have h4 : (m : Int) ≤ 1048576 := by omega
          clear bn h2 h1 hneg
          obtain ⟨ao, b, off, cap, rfl, -, -⟩ := s0
          go_enter Try.func3, Try.ntmps3
          go_wp2_with fail
          refine (law1_awake w).mono ?_; rintro e w1 ⟨rfl, b1⟩
          go_wp2_with fail
          refine (law1_awake w1).mono ?_; rintro e w2 ⟨rfl, b2⟩
          go_wp2
          go_ret
          exact ⟨rfl, b1.trans (b2.mono b1.size)⟩
  · obtain ⟨ao, b, off, cap, rfl, -, -⟩ := s0
    obtain ⟨bn1, bn2⟩ := bn
    go_enter Try.func3, Try.ntmps3
    go_wp2_with fail
    refine (law1_awake w).mono ?_; rintro e w1 ⟨rfl, b1⟩
    go_wp2_with fail
    refine (law1_awake w1).mono ?_; rintro e w2 ⟨rfl, b2⟩
    go_wp2
    go_ret
    exact ⟨rfl, b1.trans (b2.mono b1.size)⟩

set_option maxRecDepth 100000 in
theorem lifted (os : Os) (started : os.Started) (H : Type) (enc : TypeId × Value → H) :
    ReturnsInHanded {} Try.checked os 3 .any (Rows.natShiftsSpec.pre6 enc Try.prog Try.f3 Rows.natShiftsRow.domain false) (Rows.natShiftsSpec.post enc Try.prog Try.f3 false true false false) := by
  refine returnsInHanded_of_change (C := Try.checked) own started (by kernel_rfl) Try.func3
    (ChangeSpec.witness6 (enc := enc) (C := Try.checked) false ⟨#[], #[.slice none 0 0, .int .i64 0], []⟩ 8 (by kernel_rfl) (by kernel_rfl) (by kernel_rfl) (by kernel_rfl)) ?_
  intro W base args ds gs before hval0 hW hcnd _
  have hval : ∀ (j : Nat) t v, Try.f3.params[j]? = some t → args[j]? = some v → Value.okWide Try.prog W .any base t v := hval0
  have hW' := hW
  obtain ⟨p, q, hA0, hV, rfl, hfz, hnd⟩ := hW
  have hA : DataW.TrodAll enc Try.prog W 0 (fun _ => true) true Try.f3.params.toList args.toList ds p := hA0
  rw [Try.params3] at hA hval
  obtain ⟨v0, vs0, d0, ds0, p0, q0, hargs, rfl, rfl, h0, r0⟩ := trodAll_cons hA
  obtain ⟨v1, vs1, d1, ds1, p1, q1, rfl, rfl, rfl, h1, r1⟩ := trodAll_cons r0
  obtain ⟨rfl, rfl, rfl⟩ := trodAll_nil r1
  obtain rfl : args = #[v0, v1] := by cases args; simp_all
  obtain ⟨rfl, rfl⟩ := trodVars_none hV
  have k0 := h0
  have lt0 : ∀ x ∈ p0, x.block < W.heap.size := by obtain ⟨m, hm⟩ := k0; exact DataW.trod_lt m _ _ _ hm
  obtain ⟨x0, s0, f0⟩ := open_words Try.underlying23 Try.underlying32 (by kernel_rfl) (hval 0 23 v0 rfl rfl) h0
  have k1 := h1
  have lt1 : ∀ x ∈ p1, x.block < W.heap.size := by obtain ⟨m, hm⟩ := k1; exact DataW.trod_lt m _ _ _ hm
  obtain ⟨x1, rfl, rfl, rfl, wi1⟩ := open_int Try.underlying3 (hval 1 3 v1 rfl rfl) h1
  clear hA0 hval0
  refine (walk v0 x0 x1 W s0 f0 (wf_i64_bounds wi1)).mono fun e W' ⟨he, bel⟩ => ?_
  subst he
  exact ⟨_, rfl, _, _, _, [], _, [], hW', trodAll_mk1 (shut_bool Try.underlying4 _), (trodAll_cons_mk (Below.trod laidOut (by kernel_rfl) (of_decide_eq_true (by kernel_rfl)) k0 bel lt0) (trodAll_cons_mk (Below.trod laidOut (by kernel_rfl) (of_decide_eq_true (by kernel_rfl)) k1 bel lt1) trodAll_mk0)), rfl, bel.frame _, fun h => by cases h⟩

theorem over : Rows.natShiftsRow.holds Try.pinned (OpenSpec.ofChange Rows.natShiftsSpec) :=
  OpenClaim.holds_of_wide 3 Try.f3 rfl rfl rfl rfl rfl rfl rfl ⟨rfl, rfl, rfl, rfl, rfl⟩ rfl rfl rfl rfl rfl (by kernel_rfl) Try.func3 (by kernel_rfl)
    (of_decide_eq_true (by kernel_rfl)) (by unfold Func.isWrapper; first | (rw [if_pos (by decide +kernel)]; kernel_rfl) | (rw [if_neg (by decide +kernel)]; exact ⟨rfl, rfl⟩))
    (fun os started H enc _ => lifted os started H enc)

theorem proved : Rows.NatShiftsSaid := over
#print axioms proved
end Go.Proofs.Ytnnidjhhcnmnnaa.natShifts
