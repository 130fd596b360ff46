/- For all naturals and two bytes the law MulRules returns true, whatever they are. -/
import Derived.Test.YtnnidjhhcnmnnaaRows
import Derived.Test.YtnnidjhhcnmnnaaOpen
import Derived.Test.YtnnidjhhcnmnnaaLaw2
namespace Go.Proofs.Ytnnidjhhcnmnnaa.mulRules
open Go.ChangeShapes Go.WideShapes Go.ChangeAt Go.RowKit
open Go.ChangeMaps (open_string shut_string)

theorem own : ownKnob Try.prog.godebug = none := by kernel_rfl
theorem laidOut : laidOutB Try.prog = true := by kernel_rfl

theorem pow_of (v : Value) (xs : List Nat) (n : Nat) (hn : n ≤ 60) (hl : xs.length ≤ 3) (hx : wf W64 xs) : ∀ w, Sl .u64 w v xs → Calls Try.prog 40 #[v, .int .i64 n] w (RetPB w (nv W64 xs ^ n)) := by
  intro w hv
  have h1 : bl (nv W64 xs) ≤ 64 * xs.length := bl_len rfl hx
  refine mul_Pow_ok v xs n w hv (by omega) hx (by omega) ?_
  by_cases h0 : bl (nv W64 xs) = 0
  · exact Or.inl h0
  · refine Or.inr ?_
    rw [Int.le_ediv_iff_mul_le (by omega), ← Int.natCast_mul]
    have h2 : n * bl (nv W64 xs) ≤ 60 * 192 := Nat.mul_le_mul hn (by omega)
    omega

set_option maxHeartbeats 2000000 in
theorem walk (v0 : Value) (x0 : List Nat) (p q : Nat) (w : World) (s0 : Sl .u64 w v0 x0) (f0 : wf W64 x0) (hp : p < 256) (hq : q < 256) :
    Calls Try.prog 12 #[v0, .int .u8 p, .int .u8 q] w (LawOk w) := by
  obtain ⟨ao, ba, oa, ca, rfl, la, ka⟩ := s0
  have s0 : Sl .u64 w (.slice ao x0.length ca) x0 := ⟨ao, ba, oa, ca, rfl, la, ka⟩
  clear ka
  by_cases h0 : x0.length ≤ 3
  · obtain ⟨m, em⟩ : ∃ m, m = p % 30 := ⟨_, rfl⟩
    obtain ⟨n, en⟩ : ∃ n, n = q % 30 := ⟨_, rfl⟩
    obtain ⟨t, et⟩ : ∃ t, t = m + n := ⟨_, rfl⟩
    have e1 : (p : Int) % 30 = (m : Int) := by omega
    have e2 : (q : Int) % 30 = (n : Int) := by omega
    have e3 : (m : Int) + (n : Int) = (t : Int) := by omega
    have hm : m < 30 := by omega
    have hn : n < 30 := by omega
    have P1 := Lib.hid (pow_of (.slice ao x0.length ca) x0 m (by omega) h0 f0)
    have P2 := Lib.hid (pow_of (.slice ao x0.length ca) x0 n (by omega) h0 f0)
    have P3 := Lib.hid (pow_of (.slice ao x0.length ca) x0 t (by omega) h0 f0)
    have HP1 := P1; have HP2 := P2; have HP3 := P3
    clear P1 P2 P3 em en
    have ET := Lib.hid et; clear et
    go_enter Try.func12, Try.ntmps12
    go_wp2_with fail
    refine (law2_awake w).mono ?_; rintro e w1 ⟨rfl, b1⟩
    replace s0 := s0.next b1
    have B := b1
    go_wp2_with fail
    refine (HP1.out w1 s0).mono ?_; rintro e w2 ⟨r2, z2, rfl, o2, m2, v2, l2, b2⟩
    have V2 := Lib.hid v2; clear v2
    replace s0 := s0.next b2
    replace B := B.trans (b2.mono B.size)
    have t2 := o2.sl
    clear o2
    go_wp2_with fail
    refine (HP2.out w2 s0).mono ?_; rintro e w3 ⟨r3, z3, rfl, o3, m3, v3, l3, b3⟩
    have V3 := Lib.hid v3; clear v3
    replace s0 := s0.next b3
    replace t2 := t2.next b3
    replace B := B.trans (b3.mono B.size)
    have t3 := o3.sl
    clear o3
    go_wp2_with fail
    refine (HP3.out w3 s0).mono ?_; rintro e w4 ⟨r4, z4, rfl, o4, m4, v4, l4, b4⟩
    have V4 := Lib.hid v4; clear v4
    replace s0 := s0.next b4
    replace t2 := t2.next b4
    replace t3 := t3.next b4
    replace B := B.trans (b4.mono B.size)
    have t4 := o4.sl
    clear o4
    go_wp2_with fail
    refine (mul_Mul r2 r3 z2 z3 _ t2 t3 (by omega) (by omega) m2.1 m3.1).mono ?_; rintro e w5 ⟨r5, z5, rfl, o5, m5, v5, l5, b5⟩
    have V5 := Lib.hid v5; clear v5
    replace s0 := s0.next b5
    replace t2 := t2.next b5
    replace t3 := t3.next b5
    replace t4 := t4.next b5
    replace B := B.trans (b5.mono B.size)
    have t5 := o5.sl
    clear o5
    go_wp2_with fail
    refine (nat_Cmp_is r5 r4 z5 z4 _ t5 t4 (by omega) (by omega) m5.1 m4.1 0 (cmpN_eq (by rw [V5.out, V2.out, V3.out, V4.out, ET.out, Nat.pow_add]))).mono ?_; rintro e w6 ⟨rfl, q6⟩
    have b6 := q6.below w5.heap.size; clear q6
    replace s0 := s0.next b6
    replace t2 := t2.next b6
    replace t3 := t3.next b6
    replace t4 := t4.next b6
    replace t5 := t5.next b6
    replace B := B.trans (b6.mono B.size)
    go_wp2
    go_ret
    exact ⟨rfl, B⟩
  · skip
    go_enter Try.func12, Try.ntmps12
    go_wp2_with fail
    refine (law2_awake w).mono ?_; rintro e w1 ⟨rfl, b1⟩
    go_wp2_with fail
    refine (law2_awake w1).mono ?_; rintro e w2 ⟨rfl, b2⟩
    go_wp2
    go_ret
    exact ⟨rfl, b1.trans (b2.mono b1.size)⟩

set_option maxRecDepth 100000 in
theorem lifted (os : Os) (started : os.Started) (H : Type) (enc : TypeId × Value → H) :
    ReturnsInHanded {} Try.checked os 12 .any (Rows.mulRulesSpec.pre6 enc Try.prog Try.f12 Rows.mulRulesRow.domain false) (Rows.mulRulesSpec.post enc Try.prog Try.f12 false true false false) := by
  refine returnsInHanded_of_change (C := Try.checked) own started (by kernel_rfl) Try.func12
    (ChangeSpec.witness6 (enc := enc) (C := Try.checked) false ⟨#[], #[.slice none 0 0, .int .u8 0, .int .u8 0], []⟩ 8 (by kernel_rfl) (by kernel_rfl) (by kernel_rfl) (by kernel_rfl)) ?_
  intro W base args ds gs before hval0 hW hcnd _
  have hval : ∀ (j : Nat) t v, Try.f12.params[j]? = some t → args[j]? = some v → Value.okWide Try.prog W .any base t v := hval0
  have hW' := hW
  obtain ⟨p, q, hA0, hV, rfl, hfz, hnd⟩ := hW
  have hA : DataW.TrodAll enc Try.prog W 0 (fun _ => true) true Try.f12.params.toList args.toList ds p := hA0
  rw [Try.params12] at hA hval
  obtain ⟨v0, vs0, d0, ds0, p0, q0, hargs, rfl, rfl, h0, r0⟩ := trodAll_cons hA
  obtain ⟨v1, vs1, d1, ds1, p1, q1, rfl, rfl, rfl, h1, r1⟩ := trodAll_cons r0
  obtain ⟨v2, vs2, d2, ds2, p2, q2, rfl, rfl, rfl, h2, r2⟩ := trodAll_cons r1
  obtain ⟨rfl, rfl, rfl⟩ := trodAll_nil r2
  obtain rfl : args = #[v0, v1, v2] := by cases args; simp_all
  obtain ⟨rfl, rfl⟩ := trodVars_none hV
  have k0 := h0
  have lt0 : ∀ x ∈ p0, x.block < W.heap.size := by obtain ⟨m, hm⟩ := k0; exact DataW.trod_lt m _ _ _ hm
  obtain ⟨x0, s0, f0⟩ := open_words Try.underlying23 Try.underlying32 (by kernel_rfl) (hval 0 23 v0 rfl rfl) h0
  have k1 := h1
  have lt1 : ∀ x ∈ p1, x.block < W.heap.size := by obtain ⟨m, hm⟩ := k1; exact DataW.trod_lt m _ _ _ hm
  obtain ⟨i1, rfl, rfl, rfl, wi1⟩ := open_int Try.underlying5 (hval 1 5 v1 rfl rfl) h1
  obtain ⟨x1, rfl⟩ := Int.eq_ofNat_of_zero_le (wf_u8_bounds wi1).1
  have k2 := h2
  have lt2 : ∀ x ∈ p2, x.block < W.heap.size := by obtain ⟨m, hm⟩ := k2; exact DataW.trod_lt m _ _ _ hm
  obtain ⟨i2, rfl, rfl, rfl, wi2⟩ := open_int Try.underlying5 (hval 2 5 v2 rfl rfl) h2
  obtain ⟨x2, rfl⟩ := Int.eq_ofNat_of_zero_le (wf_u8_bounds wi2).1
  clear hA0 hval0
  refine (walk v0 x0 x1 x2 W s0 f0 (by have := wf_u8_bounds wi1; omega) (by have := wf_u8_bounds wi2; omega)).mono fun e W' ⟨he, bel⟩ => ?_
  subst he
  exact ⟨_, rfl, _, _, _, [], _, [], hW', trodAll_mk1 (shut_bool Try.underlying4 _), (trodAll_cons_mk (Below.trod laidOut (by kernel_rfl) (of_decide_eq_true (by kernel_rfl)) k0 bel lt0) (trodAll_cons_mk (Below.trod laidOut (by kernel_rfl) (of_decide_eq_true (by kernel_rfl)) k1 bel lt1) (trodAll_cons_mk (Below.trod laidOut (by kernel_rfl) (of_decide_eq_true (by kernel_rfl)) k2 bel lt2) trodAll_mk0))), rfl, bel.frame _, fun h => by cases h⟩

theorem over : Rows.mulRulesRow.holds Try.pinned (OpenSpec.ofChange Rows.mulRulesSpec) :=
  OpenClaim.holds_of_wide 12 Try.f12 rfl rfl rfl rfl rfl rfl rfl ⟨rfl, rfl, rfl, rfl, rfl⟩ rfl rfl rfl rfl rfl (by kernel_rfl) Try.func12 (by kernel_rfl)
    (of_decide_eq_true (by kernel_rfl)) (by unfold Func.isWrapper; first | (rw [if_pos (by decide +kernel)]; kernel_rfl) | (rw [if_neg (by decide +kernel)]; exact ⟨rfl, rfl⟩))
    (fun os started H enc _ => lifted os started H enc)

theorem proved : Rows.MulRulesSaid := over
#print axioms proved
end Go.Proofs.Ytnnidjhhcnmnnaa.mulRules
