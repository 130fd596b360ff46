/- For all two naturals the law MulSame returns true, whatever they are. -/
import Derived.Test.YtnnidjhhcnmnnaaRows
import Derived.Test.YtnnidjhhcnmnnaaOpen
import Derived.Test.YtnnidjhhcnmnnaaLaw2
namespace Go.Proofs.Ytnnidjhhcnmnnaa.mulSame
open Go.ChangeShapes Go.WideShapes Go.ChangeAt Go.RowKit
open Go.ChangeMaps (open_string shut_string)

theorem own : ownKnob Try.prog.godebug = none := by kernel_rfl
theorem laidOut : laidOutB Try.prog = true := by kernel_rfl

set_option maxHeartbeats 2000000 in
theorem walk (v0 : Value) (x0 : List Nat) (v1 : Value) (x1 : List Nat) (w : World) (s0 : Sl .u64 w v0 x0) (f0 : wf W64 x0) (s1 : Sl .u64 w v1 x1) (f1 : wf W64 x1) :
    Calls Try.prog 10 #[v0, v1] w (LawOk w) := by
  obtain ⟨ao, ba, oa, ca, rfl, la, ka⟩ := s0
  have s0 : Sl .u64 w (.slice ao x0.length ca) x0 := ⟨ao, ba, oa, ca, rfl, la, ka⟩
  clear ka
  obtain ⟨bo, bb, ob, cb, rfl, lb, kb⟩ := s1
  have s1 : Sl .u64 w (.slice bo x1.length cb) x1 := ⟨bo, bb, ob, cb, rfl, lb, kb⟩
  clear kb
  by_cases h0 : x0.length ≤ 100
  · by_cases h1 : x1.length ≤ 100
    · skip
      go_enter Try.func10, Try.ntmps10
      go_wp2_with fail
      refine (law2_awake w).mono ?_; rintro e w1 ⟨rfl, b1⟩
      replace s0 := s0.next b1
      replace s1 := s1.next b1
      have B := b1
      go_wp2_with fail
      refine (mul_Mul (.slice ao x0.length ca) (.slice bo x1.length cb) x0 x1 _ s0 s1 (by omega) (by omega) f0 f1).mono ?_; rintro e w2 ⟨r2, z2, rfl, o2, m2, v2, l2, b2⟩
      have V2 := Lib.hid v2; clear v2
      replace s0 := s0.next b2
      replace s1 := s1.next b2
      replace B := B.trans (b2.mono B.size)
      have t2 := o2.sl
      clear o2
      go_wp2_with fail
      refine (nat_Mul (.slice ao x0.length ca) (.slice bo x1.length cb) x0 x1 _ s0 s1 (by omega) (by omega) f0 f1).mono ?_; rintro e w3 ⟨r3, z3, rfl, o3, m3, v3, l3, b3⟩
      have V3 := Lib.hid v3; clear v3
      replace s0 := s0.next b3
      replace s1 := s1.next b3
      replace t2 := t2.next b3
      replace B := B.trans (b3.mono B.size)
      have t3 := o3.sl
      clear o3
      have hz3 : z3 = z2 := nrm_inj (by decide) m3 m2 (by rw [V3.out, V2.out])
      go_wp2_with fail
      refine (ref_Same_yes r2 r3 z2 _ t2 (hz3 ▸ t3) (by omega)).mono ?_; rintro e w4 ⟨rfl, q4⟩
      have b4 := q4.below w3.heap.size; clear q4
      replace s0 := s0.next b4
      replace s1 := s1.next b4
      replace t2 := t2.next b4
      replace t3 := t3.next b4
      replace B := B.trans (b4.mono B.size)
      go_wp2_with fail
      refine (mul_Mul (.slice bo x1.length cb) (.slice ao x0.length ca) x1 x0 _ s1 s0 (by omega) (by omega) f1 f0).mono ?_; rintro e w5 ⟨r5, z5, rfl, o5, m5, v5, l5, b5⟩
      have V5 := Lib.hid v5; clear v5
      replace s0 := s0.next b5
      replace s1 := s1.next b5
      replace t2 := t2.next b5
      replace t3 := t3.next b5
      replace B := B.trans (b5.mono B.size)
      have t5 := o5.sl
      clear o5
      go_wp2_with fail
      refine (nat_Mul (.slice ao x0.length ca) (.slice bo x1.length cb) x0 x1 _ s0 s1 (by omega) (by omega) f0 f1).mono ?_; rintro e w6 ⟨r6, z6, rfl, o6, m6, v6, l6, b6⟩
      have V6 := Lib.hid v6; clear v6
      replace s0 := s0.next b6
      replace s1 := s1.next b6
      replace t2 := t2.next b6
      replace t3 := t3.next b6
      replace t5 := t5.next b6
      replace B := B.trans (b6.mono B.size)
      have t6 := o6.sl
      clear o6
      have hz6 : z6 = z5 := nrm_inj (by decide) m6 m5 (by rw [V6.out, V5.out, Nat.mul_comm])
      go_wp2_with fail
      refine (ref_Same_yes r5 r6 z5 _ t5 (hz6 ▸ t6) (by omega)).mono ?_; rintro e w7 ⟨rfl, q7⟩
      have b7 := q7.below w6.heap.size; clear q7
      replace s0 := s0.next b7
      replace s1 := s1.next b7
      replace t2 := t2.next b7
      replace t3 := t3.next b7
      replace t5 := t5.next b7
      replace t6 := t6.next b7
      replace B := B.trans (b7.mono B.size)
      go_wp2
      go_ret
      exact ⟨rfl, B⟩
    · skip
      go_enter Try.func10, Try.ntmps10
      go_wp2_with fail
      refine (law2_awake w).mono ?_; rintro e w1 ⟨rfl, b1⟩
      go_wp2_with fail
      refine (law2_awake w1).mono ?_; rintro e w2 ⟨rfl, b2⟩
      go_wp2
      go_ret
      exact ⟨rfl, b1.trans (b2.mono b1.size)⟩
  · skip
    go_enter Try.func10, Try.ntmps10
    go_wp2_with fail
    refine (law2_awake w).mono ?_; rintro e w1 ⟨rfl, b1⟩
    go_wp2_with fail
    refine (law2_awake w1).mono ?_; rintro e w2 ⟨rfl, b2⟩
    go_wp2
    go_ret
    exact ⟨rfl, b1.trans (b2.mono b1.size)⟩

set_option maxRecDepth 100000 in
theorem lifted (os : Os) (started : os.Started) (H : Type) (enc : TypeId × Value → H) :
    ReturnsInHanded {} Try.checked os 10 .any (Rows.mulSameSpec.pre6 enc Try.prog Try.f10 Rows.mulSameRow.domain false) (Rows.mulSameSpec.post enc Try.prog Try.f10 false true false false) := by
  refine returnsInHanded_of_change (C := Try.checked) own started (by kernel_rfl) Try.func10
    (ChangeSpec.witness6 (enc := enc) (C := Try.checked) false ⟨#[], #[.slice none 0 0, .slice none 0 0], []⟩ 8 (by kernel_rfl) (by kernel_rfl) (by kernel_rfl) (by kernel_rfl)) ?_
  intro W base args ds gs before hval0 hW hcnd _
  have hval : ∀ (j : Nat) t v, Try.f10.params[j]? = some t → args[j]? = some v → Value.okWide Try.prog W .any base t v := hval0
  have hW' := hW
  obtain ⟨p, q, hA0, hV, rfl, hfz, hnd⟩ := hW
  have hA : DataW.TrodAll enc Try.prog W 0 (fun _ => true) true Try.f10.params.toList args.toList ds p := hA0
  rw [Try.params10] at hA hval
  obtain ⟨v0, vs0, d0, ds0, p0, q0, hargs, rfl, rfl, h0, r0⟩ := trodAll_cons hA
  obtain ⟨v1, vs1, d1, ds1, p1, q1, rfl, rfl, rfl, h1, r1⟩ := trodAll_cons r0
  obtain ⟨rfl, rfl, rfl⟩ := trodAll_nil r1
  obtain rfl : args = #[v0, v1] := by cases args; simp_all
  obtain ⟨rfl, rfl⟩ := trodVars_none hV
  have k0 := h0
  have lt0 : ∀ x ∈ p0, x.block < W.heap.size := by obtain ⟨m, hm⟩ := k0; exact DataW.trod_lt m _ _ _ hm
  obtain ⟨x0, s0, f0⟩ := open_words Try.underlying23 Try.underlying32 (by kernel_rfl) (hval 0 23 v0 rfl rfl) h0
  have k1 := h1
  have lt1 : ∀ x ∈ p1, x.block < W.heap.size := by obtain ⟨m, hm⟩ := k1; exact DataW.trod_lt m _ _ _ hm
  obtain ⟨x1, s1, f1⟩ := open_words Try.underlying23 Try.underlying32 (by kernel_rfl) (hval 1 23 v1 rfl rfl) h1
  clear hA0 hval0
  refine (walk v0 x0 v1 x1 W s0 f0 s1 f1).mono fun e W' ⟨he, bel⟩ => ?_
  subst he
  exact ⟨_, rfl, _, _, _, [], _, [], hW', trodAll_mk1 (shut_bool Try.underlying4 _), (trodAll_cons_mk (Below.trod laidOut (by kernel_rfl) (of_decide_eq_true (by kernel_rfl)) k0 bel lt0) (trodAll_cons_mk (Below.trod laidOut (by kernel_rfl) (of_decide_eq_true (by kernel_rfl)) k1 bel lt1) trodAll_mk0)), rfl, bel.frame _, fun h => by cases h⟩

theorem over : Rows.mulSameRow.holds Try.pinned (OpenSpec.ofChange Rows.mulSameSpec) :=
  OpenClaim.holds_of_wide 10 Try.f10 rfl rfl rfl rfl rfl rfl rfl ⟨rfl, rfl, rfl, rfl, rfl⟩ rfl rfl rfl rfl rfl (by kernel_rfl) Try.func10 (by kernel_rfl)
    (of_decide_eq_true (by kernel_rfl)) (by unfold Func.isWrapper; first | (rw [if_pos (by decide +kernel)]; kernel_rfl) | (rw [if_neg (by decide +kernel)]; exact ⟨rfl, rfl⟩))
    (fun os started H enc _ => lifted os started H enc)

theorem proved : Rows.MulSameSaid := over
#print axioms proved
end Go.Proofs.Ytnnidjhhcnmnnaa.mulSame
