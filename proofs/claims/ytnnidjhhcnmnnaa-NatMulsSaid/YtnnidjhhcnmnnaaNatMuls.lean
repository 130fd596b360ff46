/- For all two naturals and two words the law NatMuls returns true, whatever they are. -/
import Derived.Test.YtnnidjhhcnmnnaaRows
import Derived.Test.YtnnidjhhcnmnnaaOpen
import Derived.Test.YtnnidjhhcnmnnaaRef4
namespace Go.Proofs.Ytnnidjhhcnmnnaa.natMuls
open Go.ChangeShapes Go.WideShapes Go.ChangeAt Go.RowKit
open Go.ChangeMaps (open_string shut_string)

theorem own : ownKnob Try.prog.godebug = none := by kernel_rfl
theorem laidOut : laidOutB Try.prog = true := by kernel_rfl

/-- What the two digits' lists of the words are. -/
def MulsCut (wa wx : World) (p q : Nat) (a b : Value) : Prop :=
  ∃ za zb, Sl .i64 wx a za ∧ Nrm D16 za ∧ nv D16 za = p ∧ za.length ≤ 4 ∧ Sl .i64 wx b zb ∧ Nrm D16 zb ∧ nv D16 zb = q ∧ zb.length ≤ 4 ∧ Below wa.heap.size wa wx

set_option maxHeartbeats 4000000 in
theorem walk (v0 : Value) (x0 : List Nat) (v1 : Value) (x1 : List Nat) (p q : Nat) (w : World) (s0 : Sl .u64 w v0 x0) (f0 : wf W64 x0) (s1 : Sl .u64 w v1 x1) (f1 : wf W64 x1) (hp : p < W64) (hq : q < W64) :
    Calls Try.prog 4 #[v0, v1, .agg #[.int .u64 p, .int .u64 q]] w (LawOk w) := by
  have B : Below w.heap.size w (w.alloc (.cells #[.int .u64 p, .int .u64 q] 33)) := (Below.refl _ _).alloc (Nat.le_refl _) _
  have ho : Own .u64 33 (w.alloc (.cells #[.int .u64 p, .int .u64 q] 33)) w.heap.size (.slice (some ⟨w.heap.size, 0, none⟩) 2 2) [p, q] := World.ownsRow_lit w #[.int .u64 p, .int .u64 q] 2 (Nat.le_refl _) (by unfold maxLen; omega) rfl
  have hcp := ho.cellAt 0 (by simp)
  have hcq := ho.cellAt 1 (by simp)
  have hg : w.heap.size < (w.alloc (.cells #[.int .u64 p, .int .u64 q] 33)).heap.size := by simp
  have sp : Sl .u64 (w.alloc (.cells #[.int .u64 p, .int .u64 q] 33)) (.slice (some ⟨w.heap.size, 0, none⟩) 1 2) [p] := Sl.one hcp (by omega)
  have sq : Sl .u64 (w.alloc (.cells #[.int .u64 p, .int .u64 q] 33)) (.slice (some ⟨w.heap.size, 1, none⟩) 1 1) [q] := Sl.one hcq (by omega)
  replace s0 := s0.next B
  replace s1 := s1.next B
  replace hcp : (w.alloc (.cells #[.int .u64 p, .int .u64 q] 33)).cell? ⟨w.heap.size, 0, none⟩ = some (.int .u64 p) := hcp
  replace hcq : (w.alloc (.cells #[.int .u64 p, .int .u64 q] 33)).cell? ⟨w.heap.size, 1, none⟩ = some (.int .u64 q) := hcq
  clear ho
  by_cases h : (x0.length : Int) ≤ 20 ∧ (x1.length : Int) ≤ 20 ∧ (([] : List Nat).length : Int) ≤ 20
  · obtain ⟨h0, h1, -⟩ := h
    go_enter Try.func4, Try.ntmps4
    go_wp2_with fail
    generalize w.alloc (.cells #[.int .u64 p, .int .u64 q] 33) = wb at *
    obtain ⟨g, eg⟩ : ∃ g, g = w.heap.size := ⟨_, rfl⟩
    rw [← eg] at hcp hcq hg sp sq ⊢
    have EG := Lib.hid eg; clear eg
    refine (law1_awake wb).mono ?_; rintro e w1 ⟨rfl, b1⟩
    replace s0 := s0.next b1
    replace s1 := s1.next b1
    replace sp := sp.next b1
    replace sq := sq.next b1
    replace B := B.trans (b1.mono B.size)
    go_wp2_with fail
    refine (law1_few_yes v0 v1 (.slice none 0 0) x0 x1 [] 20 _ s0 s1 (Sl.nil .u64 _) (by omega) (by omega) (by simp)).mono ?_; rintro e wx ⟨rfl, rfl⟩
    go_wp2_with fail
    refine (ref_From v0 x0 _ s0 (by omega) f0).mono ?_; rintro e w2 ⟨r2, z2, rfl, o2, m2, v2, l2, b2⟩
    have V2 := Lib.hid v2; clear v2
    replace s0 := s0.next b2
    replace s1 := s1.next b2
    replace sp := sp.next b2
    replace sq := sq.next b2
    replace B := B.trans (b2.mono B.size)
    have t2 := o2.sl
    clear o2
    go_wp2_with fail
    refine (ref_From v1 x1 _ s1 (by omega) f1).mono ?_; rintro e w3 ⟨r3, z3, rfl, o3, m3, v3, l3, b3⟩
    have V3 := Lib.hid v3; clear v3
    replace s0 := s0.next b3
    replace s1 := s1.next b3
    replace sp := sp.next b3
    replace sq := sq.next b3
    replace t2 := t2.next b3
    replace B := B.trans (b3.mono B.size)
    have t3 := o3.sl
    clear o3
    replace hcp := (b1.cell (p := ⟨g, 0, none⟩) (by exact hg)).trans hcp
    replace hcp := (b2.cell (p := ⟨g, 0, none⟩) (by have := b1.size; exact Nat.lt_of_lt_of_le hg (by omega))).trans hcp
    replace hcp := (b3.cell (p := ⟨g, 0, none⟩) (by have := b1.size; have := b2.size; exact Nat.lt_of_lt_of_le hg (by omega))).trans hcp
    replace hcq := (b1.cell (p := ⟨g, 1, none⟩) (by exact hg)).trans hcq
    replace hcq := (b2.cell (p := ⟨g, 1, none⟩) (by have := b1.size; exact Nat.lt_of_lt_of_le hg (by omega))).trans hcq
    replace hcq := (b3.cell (p := ⟨g, 1, none⟩) (by have := b1.size; have := b2.size; exact Nat.lt_of_lt_of_le hg (by omega))).trans hcq
    have hg3 : g < w3.heap.size := by have := b1.size; have := b2.size; have := b3.size; omega
    go_upto_region 4 with (fail)
    go_cut [9, 10] (fun a b wx => MulsCut w3 wx p q a b)
    case first =>
      have sp1 : Sl .u64 w3.drew _ [p] := sp.drawn ⟨1, rfl⟩
      have sq1 : Sl .u64 w3.drew _ [q] := sq.drawn ⟨1, rfl⟩
      go_region_with (first
        | (go_at_call_of 16 (Value.slice (some ⟨g, 0, none⟩) 1 2); refine (ref_From _ [p] _ sp1 (by simp) (wf_cons hp (wf_nil _))).mono ?_; rintro e wa ⟨ra, za, rfl, oa, ma, va, la, ba⟩)
        | (go_at_call_of 16 (Value.slice (some ⟨g, 1, none⟩) 1 1); refine (ref_From _ [q] _ (sq1.next ba) (by simp) (wf_cons hq (wf_nil _))).mono ?_; rintro e wb2 ⟨rb, zb, rfl, ob, mb, vb, lb, bb⟩))
      all_goals (go_wp2_with fail; go_meet)
      all_goals exact ⟨za, zb, (oa.next bb).sl, ma, by rw [va]; simp [nv], la, ob.sl, mb, by rw [vb]; simp [nv], lb, (Drawn.below ⟨1, rfl⟩ _).trans (ba.trans (bb.mono ba.size))⟩
    case rest =>
      obtain ⟨za, zb, ta, na, va, la, tb, nb, vb, lb, b4⟩ := hcut
      have VA := Lib.hid va; clear va
      have VB := Lib.hid vb; clear vb
      replace s0 := s0.next b4
      replace s1 := s1.next b4
      replace t2 := t2.next b4
      replace t3 := t3.next b4
      replace B := B.trans (b4.mono B.size)
      replace hcp := (b4.cell (p := ⟨g, 0, none⟩) (by exact hg3)).trans hcp
      replace hcq := (b4.cell (p := ⟨g, 1, none⟩) (by exact hg3)).trans hcq
      clear sp sq
      replace hg3 := Nat.lt_of_lt_of_le hg3 b4.size
      go_wp2_with fail
      refine (nat_Mul v0 v1 x0 x1 _ s0 s1 (by omega) (by omega) f0 f1).mono ?_; rintro e w5 ⟨r5, z5, rfl, o5, m5, v5, l5, b5⟩
      have V5 := Lib.hid v5; clear v5
      replace s0 := s0.next b5
      replace s1 := s1.next b5
      replace t2 := t2.next b5
      replace t3 := t3.next b5
      replace ta := ta.next b5
      replace tb := tb.next b5
      replace B := B.trans (b5.mono B.size)
      have t5 := o5.sl
      clear o5
      replace hcp := (b5.cell (p := ⟨g, 0, none⟩) (by exact hg3)).trans hcp
      replace hcq := (b5.cell (p := ⟨g, 1, none⟩) (by exact hg3)).trans hcq
      replace hg3 := Nat.lt_of_lt_of_le hg3 b5.size
      go_wp2_with fail
      refine (ref_Mul r2 r3 z2 z3 _ t2 t3 (by omega) (by omega) m2.1 m3.1).mono ?_; rintro e w6 ⟨r6, z6, rfl, o6, m6, v6, l6, b6⟩
      have V6 := Lib.hid v6; clear v6
      replace s0 := s0.next b6
      replace s1 := s1.next b6
      replace t2 := t2.next b6
      replace t3 := t3.next b6
      replace ta := ta.next b6
      replace tb := tb.next b6
      replace t5 := t5.next b6
      replace B := B.trans (b6.mono B.size)
      have t6 := o6.sl
      clear o6
      replace hcp := (b6.cell (p := ⟨g, 0, none⟩) (by exact hg3)).trans hcp
      replace hcq := (b6.cell (p := ⟨g, 1, none⟩) (by exact hg3)).trans hcq
      replace hg3 := Nat.lt_of_lt_of_le hg3 b6.size
      go_wp2_with fail
      refine (law1_is r5 r6 z5 z6 _ t5 t6 (by omega) (by omega) m6.1 m5 (by rw [V5.out, V6.out, V2.out, V3.out])).mono ?_; rintro e w7 ⟨rfl, b7⟩
      replace s0 := s0.next b7
      replace s1 := s1.next b7
      replace t2 := t2.next b7
      replace t3 := t3.next b7
      replace ta := ta.next b7
      replace tb := tb.next b7
      replace t5 := t5.next b7
      replace t6 := t6.next b7
      replace B := B.trans (b7.mono B.size)
      replace hcp := (b7.cell (p := ⟨g, 0, none⟩) (by exact hg3)).trans hcp
      replace hcq := (b7.cell (p := ⟨g, 1, none⟩) (by exact hg3)).trans hcq
      replace hg3 := Nat.lt_of_lt_of_le hg3 b7.size
      go_wp2_with fail
      refine (nat_MulAdd v0 x0 p q _ s0 (by omega) f0 hp hq).mono ?_; rintro e w8 ⟨r8, z8, rfl, o8, m8, v8, l8, b8⟩
      have V8 := Lib.hid v8; clear v8
      replace s0 := s0.next b8
      replace s1 := s1.next b8
      replace t2 := t2.next b8
      replace t3 := t3.next b8
      replace ta := ta.next b8
      replace tb := tb.next b8
      replace t5 := t5.next b8
      replace t6 := t6.next b8
      replace B := B.trans (b8.mono B.size)
      have t8 := o8.sl
      clear o8
      go_wp2_with fail
      refine (ref_Mul r2 _ z2 za _ t2 ta (by omega) (by omega) m2.1 na.1).mono ?_; rintro e w9 ⟨r9, z9, rfl, o9, m9, v9, l9, b9⟩
      have V9 := Lib.hid v9; clear v9
      replace s0 := s0.next b9
      replace s1 := s1.next b9
      replace t2 := t2.next b9
      replace t3 := t3.next b9
      replace ta := ta.next b9
      replace tb := tb.next b9
      replace t5 := t5.next b9
      replace t6 := t6.next b9
      replace t8 := t8.next b9
      replace B := B.trans (b9.mono B.size)
      have t9 := o9.sl
      clear o9
      go_wp2_with fail
      refine (ref_Add r9 _ z9 zb _ t9 tb (by omega) (by omega) m9.1 nb.1).mono ?_; rintro e w10 ⟨r10, z10, rfl, o10, m10, v10, l10, b10⟩
      have V10 := Lib.hid v10; clear v10
      replace s0 := s0.next b10
      replace s1 := s1.next b10
      replace t2 := t2.next b10
      replace t3 := t3.next b10
      replace ta := ta.next b10
      replace tb := tb.next b10
      replace t5 := t5.next b10
      replace t6 := t6.next b10
      replace t8 := t8.next b10
      replace t9 := t9.next b10
      replace B := B.trans (b10.mono B.size)
      have t10 := o10.sl
      clear o10
      go_wp2_with fail
      refine (law1_is r8 r10 z8 z10 _ t8 t10 (by omega) (by omega) m10.1 m8 (by rw [V8.out, V10.out, V9.out, V2.out, VA.out, VB.out])).mono ?_; rintro e w11 ⟨rfl, b11⟩
      replace s0 := s0.next b11
      replace s1 := s1.next b11
      replace t2 := t2.next b11
      replace t3 := t3.next b11
      replace ta := ta.next b11
      replace tb := tb.next b11
      replace t5 := t5.next b11
      replace t6 := t6.next b11
      replace t8 := t8.next b11
      replace t9 := t9.next b11
      replace t10 := t10.next b11
      replace B := B.trans (b11.mono B.size)
      go_wp2
      go_ret
      exact ⟨rfl, B⟩
  · have H := Lib.hid h; clear h
    go_enter Try.func4, Try.ntmps4
    go_wp2_with fail
    generalize w.alloc (.cells #[.int .u64 p, .int .u64 q] 33) = wb at *
    refine (law1_awake wb).mono ?_; rintro e w1 ⟨rfl, b1⟩
    go_wp2_with fail
    refine (law1_few_no v0 v1 (.slice none 0 0) x0 x1 [] 20 _ (s0.next b1) (s1.next b1) (Sl.nil .u64 _) H.out).mono ?_; rintro e w2 ⟨rfl, rfl⟩
    go_wp2_with fail
    refine (law1_awake w1).mono ?_; rintro e w2 ⟨rfl, b2⟩
    go_wp2
    go_ret
    exact ⟨rfl, (B.trans (b1.mono B.size)).trans (b2.mono (Nat.le_trans B.size b1.size))⟩

set_option maxRecDepth 100000 in
theorem lifted (os : Os) (started : os.Started) (H : Type) (enc : TypeId × Value → H) :
    ReturnsInHanded {} Try.checked os 4 .any (Rows.natMulsSpec.pre6 enc Try.prog Try.f4 Rows.natMulsRow.domain false) (Rows.natMulsSpec.post enc Try.prog Try.f4 false true false false) := by
  refine returnsInHanded_of_change (C := Try.checked) own started (by kernel_rfl) Try.func4
    (ChangeSpec.witness6 (enc := enc) (C := Try.checked) false ⟨#[], #[.slice none 0 0, .slice none 0 0, .agg #[.int .u64 0, .int .u64 0]], []⟩ 8 (by kernel_rfl) (by kernel_rfl) (by kernel_rfl) (by kernel_rfl)) ?_
  intro W base args ds gs before hval0 hW hcnd _
  have hval : ∀ (j : Nat) t v, Try.f4.params[j]? = some t → args[j]? = some v → Value.okWide Try.prog W .any base t v := hval0
  have hW' := hW
  obtain ⟨p, q, hA0, hV, rfl, hfz, hnd⟩ := hW
  have hA : DataW.TrodAll enc Try.prog W 0 (fun _ => true) true Try.f4.params.toList args.toList ds p := hA0
  rw [Try.params4] at hA hval
  obtain ⟨v0, vs0, d0, ds0, p0, q0, hargs, rfl, rfl, h0, r0⟩ := trodAll_cons hA
  obtain ⟨v1, vs1, d1, ds1, p1, q1, rfl, rfl, rfl, h1, r1⟩ := trodAll_cons r0
  obtain ⟨v2, vs2, d2, ds2, p2, q2, rfl, rfl, rfl, h2, r2⟩ := trodAll_cons r1
  obtain ⟨rfl, rfl, rfl⟩ := trodAll_nil r2
  obtain rfl : args = #[v0, v1, v2] := by cases args; simp_all
  obtain ⟨rfl, rfl⟩ := trodVars_none hV
  have k0 := h0
  have lt0 : ∀ x ∈ p0, x.block < W.heap.size := by obtain ⟨m, hm⟩ := k0; exact DataW.trod_lt m _ _ _ hm
  obtain ⟨x0, s0, f0⟩ := open_words Try.underlying23 Try.underlying32 (by kernel_rfl) (hval 0 23 v0 rfl rfl) h0
  have k1 := h1
  have lt1 : ∀ x ∈ p1, x.block < W.heap.size := by obtain ⟨m, hm⟩ := k1; exact DataW.trod_lt m _ _ _ hm
  obtain ⟨x1, s1, f1⟩ := open_words Try.underlying23 Try.underlying32 (by kernel_rfl) (hval 1 23 v1 rfl rfl) h1
  have k2 := h2
  have lt2 : ∀ x ∈ p2, x.block < W.heap.size := by obtain ⟨m, hm⟩ := k2; exact DataW.trod_lt m _ _ _ hm
  obtain ⟨pp2, qq2, rfl, fp2, fq2⟩ := open_pair Try.underlying33 Try.underlying32 (by kernel_rfl) (by kernel_rfl) (hval 2 33 v2 rfl rfl) h2
  clear hA0 hval0
  refine (walk v0 x0 v1 x1 pp2 qq2 W s0 f0 s1 f1 fp2 fq2).mono fun e W' ⟨he, bel⟩ => ?_
  subst he
  exact ⟨_, rfl, _, _, _, [], _, [], hW', trodAll_mk1 (shut_bool Try.underlying4 _), (trodAll_cons_mk (Below.trod laidOut (by kernel_rfl) (of_decide_eq_true (by kernel_rfl)) k0 bel lt0) (trodAll_cons_mk (Below.trod laidOut (by kernel_rfl) (of_decide_eq_true (by kernel_rfl)) k1 bel lt1) (trodAll_cons_mk (Below.trod laidOut (by kernel_rfl) (of_decide_eq_true (by kernel_rfl)) k2 bel lt2) trodAll_mk0))), rfl, bel.frame _, fun h => by cases h⟩

theorem over : Rows.natMulsRow.holds Try.pinned (OpenSpec.ofChange Rows.natMulsSpec) :=
  OpenClaim.holds_of_wide 4 Try.f4 rfl rfl rfl rfl rfl rfl rfl ⟨rfl, rfl, rfl, rfl, rfl⟩ rfl rfl rfl rfl rfl (by kernel_rfl) Try.func4 (by kernel_rfl)
    (of_decide_eq_true (by kernel_rfl)) (by unfold Func.isWrapper; first | (rw [if_pos (by decide +kernel)]; kernel_rfl) | (rw [if_neg (by decide +kernel)]; exact ⟨rfl, rfl⟩))
    (fun os started H enc _ => lifted os started H enc)

theorem proved : Rows.NatMulsSaid := over
#print axioms proved
end Go.Proofs.Ytnnidjhhcnmnnaa.natMuls
