/- For every pair of bytes and two lists the law PolyPowers returns true, whatever they are. -/
import Derived.Test.YtjpioijlpgmlfaaRows
import Derived.Test.YtjpioijlpgmlfaaOpen
import Derived.Test.YtjpioijlpgmlfaaFxg2
namespace Go.Proofs.Ytjpioijlpgmlfaa.polyPowers
open Go.ChangeShapes Go.WideShapes Go.ChangeAt Go.RowKit
open Go.ChangeMaps (open_string shut_string)

theorem own : ownKnob Try.prog.godebug = none := by kernel_rfl
theorem laidOut : laidOutB Try.prog = true := by kernel_rfl

/-- An array of two bytes, opened. -/
theorem open_bytes {H : Type} {enc : TypeId × Value → H} {P : Program} {W : World} {base : Nat} {spare : Nat → Bool} {held : Bool} {t e : TypeId} {v : Value} {d : DataW H} {p : List MemPlace}
    (ht : P.underlying t = some (.array 2 e)) (he : P.underlying e = some (.int .u8)) (hc : P.cellsOf e = 1) (hct : P.cellsOf t = 2) {r : Reach} {b0 : Nat} (hv : Value.okWide P W r b0 t v)
    (h : DataW.Trod enc P W base spare held t v d p) : ∃ x y : Nat, v = .agg #[.int .u8 x, .int .u8 y] ∧ x < 256 ∧ y < 256 := by
  obtain ⟨cs, rfl, hsz⟩ : ∃ cs, v = .agg cs ∧ cs.size = 2 := by
    unfold Value.okWide at hv; rw [ht] at hv
    obtain ⟨cs, h1, h2, _⟩ := hv
    exact ⟨cs, h1, by rw [h2, hct]⟩
  obtain ⟨fuel, hf⟩ := h
  obtain ⟨l, rfl⟩ : ∃ l, cs = ⟨l⟩ := ⟨cs.toList, by simp⟩
  match l, hsz with
  | [c0, c1], _ =>
    cases fuel with
    | zero => simp [DataW.trod] at hf
    | succ n =>
      simp only [Value.cells] at hf
      unfold DataW.trod at hf
      rw [ht] at hf
      have r2 : List.range 2 = [0, 1] := rfl
      simp [r2, hc] at hf
      obtain ⟨_, hf⟩ := hf
      cases h0 : DataW.trod enc P W base spare held n e [c0] with
      | none => simp [h0] at hf
      | some y0 =>
        cases h1 : DataW.trod enc P W base spare held n e [c1] with
        | none => simp [h0, h1] at hf
        | some y1 =>
          obtain ⟨a, e0, _, w0⟩ := DataW.trod_int he h0
          obtain ⟨b, e1, _, w1⟩ := DataW.trod_int he h1
          simp at e0 e1; subst e0 e1
          have b0 := wf_u8_bounds w0
          have b1 := wf_u8_bounds w1
          refine ⟨a.toNat, b.toNat, ?_, by omega, by omega⟩
          rw [show ((a.toNat : Nat) : Int) = a from by omega, show ((b.toNat : Nat) : Int) = b from by omega]

structure PwRel (p : Nat) (w wr : World) (g : Nat) (v1 v2 rx : Value) (x1 x2 zx : List Nat) (i : Nat) (ov : Value) (zs : List Nat) : Prop where
  fx : Fx p w wr g
  sa : Sl .u64 wr v1 x1
  sb : Sl .u64 wr v2 x2
  sx : Sl .u64 wr rx zx
  so : Sl .u64 wr ov zs
  len : zs.length ≤ 1 + 8 * i
  val : pl p zs = pw (pl p x1) i

set_option maxHeartbeats 4000000 in
theorem walk (x0 y0 : Nat) (v1 : Value) (x1 : List Nat) (v2 : Value) (x2 : List Nat) (w : World) (s1 : Sl .u64 w v1 x1) (s2 : Sl .u64 w v2 x2) :
    Calls Try.prog 6 #[.agg #[.int .u8 x0, .int .u8 y0], v1, v2] w (LawOk w) := by
  obtain ⟨p, ep⟩ : ∃ p, p = Ps (x0 % 12) := ⟨_, rfl⟩
  have hp : FP p := by rw [ep]; exact Ps_FP (by omega)
  have ht : Trial p := by rw [ep]; exact Ps_trial (by omega)
  have cOf : ∀ w : World, Calls Try.prog 12 #[.int .u8 x0] w fun e w' => e = .returned (.agg #[.int .u64 (p : Nat)]) ∧ Below w.heap.size w w' := fun w => by rw [ep]; exact law9_Of x0 w
  have cP : ∀ w : World, Calls Try.prog 17 #[.int .u8 x0] w fun e w' => e = .returned (.int .u64 (p : Nat)) ∧ w = w' := fun w => by rw [ep]; exact ref8_P x0 w
  have hp2 := hp.1
  have hp3 := hp.2
  have HP := Lib.hid hp; have HT := Lib.hid ht; have COF := Lib.hid cOf; have CP := Lib.hid cP
  clear hp ht cOf cP ep
  obtain ⟨k, ek⟩ : ∃ k, k = (IntKind.i8.wrap (y0 : Int)).tmod 31 := ⟨_, rfl⟩
  have hk1 : -31 < k := by rw [ek]; have := Int.tmod_lt_of_pos (-(IntKind.i8.wrap (y0 : Int))) (show (0 : Int) < 31 by decide); rw [Int.neg_tmod] at this; omega
  have hk2 : k < 31 := by rw [ek]; exact Int.tmod_lt_of_pos _ (by decide)
  have ek2 : (IntKind.i8.wrap (y0 : Int)).tmod 31 = k := ek.symm
  have wk : wrap64 k = k := IntWalk.wrap64_in k ⟨by omega, by omega⟩
  have wk2 : IntKind.i64.wrap k = k := IntWalk.i64_in k ⟨by omega, by omega⟩
  clear ek
  by_cases h : (x1.length : Int) ≤ 8 ∧ (x2.length : Int) ≤ 8
  · obtain ⟨h1, h2⟩ := h
    by_cases hneg : k < 0
    · have K0 : Blk 45 (w.alloc (.cells #[.int .u8 x0, .int .u8 y0] 45)).drew w.heap.size [.int .u8 x0, .int .u8 y0] := Blk.lit w 45 [.int .u8 x0, .int .u8 y0]
      have BA : Below w.heap.size w (w.alloc (.cells #[.int .u8 x0, .int .u8 y0] 45)).drew := ((Below.refl w.heap.size w).alloc (Nat.le_refl _) (.cells #[.int .u8 x0, .int .u8 y0] 45)).trans (Drawn.below (w' := (w.alloc (.cells #[.int .u8 x0, .int .u8 y0] 45)).drew) ⟨1, rfl⟩ _)
      go_enter Try.func6, Try.ntmps6
      go_upto_region 1 with (fail)
      refine startL (S := (fun w' => Below ((w.alloc (.cells #[.int .u8 x0, .int .u8 y0] 45)).drew).heap.size ((w.alloc (.cells #[.int .u8 x0, .int .u8 y0] 45)).drew) w')) (by kernel_rfl) (Below.refl _ _) (fun hHeld => ?_)
      refine takeL 0 (v := ?_) rfl (by kernel_rfl) (by kernel_rfl) (by kernel_rfl) (fun _ _ _ h => h) ⟨by rfl, ?_⟩ (by assumption) ?_
      rotate_left
      · intro w hS; go_simp <;> with_reducible rfl
      simp only [Act.put, List.setIfInBounds_toArray, List.set_cons_zero, List.set_cons_succ]
      refine takeL 1 (v := ?_) rfl (by kernel_rfl) (by kernel_rfl) (by kernel_rfl) (fun _ _ _ h => h) ⟨by rfl, ?_⟩ (by assumption) ?_
      rotate_left
      · intro w hS; have f1 := K0.at hS 0; have f2 := K0.at hS 1; go_simp <;> with_reducible rfl
      simp only [Act.put, List.setIfInBounds_toArray, List.set_cons_zero, List.set_cons_succ]
      refine takeL 2 (v := ?_) rfl (by kernel_rfl) (by kernel_rfl) (by kernel_rfl) (fun _ _ _ h => h) ⟨by rfl, ?_⟩ (by assumption) ?_
      rotate_left
      · intro w hS; go_simp <;> with_reducible rfl
      simp only [Act.put, List.setIfInBounds_toArray, List.set_cons_zero, List.set_cons_succ]
      refine takeL 3 (v := ?_) rfl (by kernel_rfl) (by kernel_rfl) (by kernel_rfl) (fun _ _ _ h => h) ⟨by rfl, ?_⟩ (by assumption) ?_
      rotate_left
      · intro w hS; have f1 := K0.at hS 0; have f2 := K0.at hS 1; go_simp <;> with_reducible rfl
      simp only [Act.put, List.setIfInBounds_toArray, List.set_cons_zero, List.set_cons_succ]
      refine takeL 4 (v := ?_) rfl (by kernel_rfl) (by kernel_rfl) (by kernel_rfl) (fun _ _ _ h => h) ⟨by rfl, ?_⟩ (by assumption) ?_
      rotate_left
      · intro w hS; go_simp <;> with_reducible rfl
      simp only [Act.put, List.setIfInBounds_toArray, List.set_cons_zero, List.set_cons_succ]
      refine takeL 5 (v := ?_) rfl (by kernel_rfl) (by kernel_rfl) (by kernel_rfl) (fun _ _ _ h => h) ⟨by rfl, ?_⟩ (by assumption) ?_
      rotate_left
      · intro w hS; go_simp <;> with_reducible rfl
      simp only [Act.put, List.setIfInBounds_toArray, List.set_cons_zero, List.set_cons_succ]
      refine takeL 6 (v := ?_) rfl (by kernel_rfl) (by kernel_rfl) (by kernel_rfl) (fun _ _ _ h => h) ⟨by rfl, ?_⟩ (by assumption) ?_
      rotate_left
      · intro w hS; go_simp <;> with_reducible rfl
      simp only [Act.put, List.setIfInBounds_toArray, List.set_cons_zero, List.set_cons_succ]
      refine doneL (by kernel_rfl) ?_ _
      clear hHeld K0
      generalize (w.alloc (.cells #[.int .u8 x0, .int .u8 y0] 45)).drew = wa at *
      replace s1 := s1.next BA
      replace s2 := s2.next BA
      have B := BA
      clear BA
      go_wp2_with fail
      refine (law9_awake _).mono ?_; rintro e w1 ⟨rfl, b1⟩
      replace s1 := s1.next b1
      replace s2 := s2.next b1
      replace B := B.trans (b1.mono B.size)
      go_wp2_with fail
      refine (law9_few v1 v2 (.slice none 0 0) x1 x2 [] 8 true _ s1 s2 (Sl.nil _ _) (decide_eq_true ⟨h1, h2, by simp⟩).symm).mono ?_; rintro e wx ⟨rfl, rfl⟩
      go_wp2_with fail
      refine (COF.out _).mono ?_; rintro e w2 ⟨rfl, b2⟩
      replace s1 := s1.next b2
      replace s2 := s2.next b2
      replace B := B.trans (b2.mono B.size)
      go_upto_region 6 with (fail)
      have fx : Fx p w (w2.alloc (.cells #[.int .u64 p] 28)) w2.heap.size := Fx.box B
      have bb := (Below.refl w2.heap.size w2).alloc (Nat.le_refl _) (.cells #[.int .u64 p] 28)
      replace s1 := s1.next bb
      replace s2 := s2.next bb
      generalize w2.alloc (.cells #[.int .u64 p] 28) = w3 at *
      obtain ⟨g, eg⟩ : ∃ g, g = w2.heap.size := ⟨_, rfl⟩
      rw [← eg] at fx ⊢
      clear eg bb B
      have hcg := fx.cell
      go_wp2_with fail
      refine (fp_PowMod_no p v1 v2 k x2 _ HP.out s2 (by omega) (Or.inl hneg)).mono ?_; rintro e w4 ⟨rfl, b4⟩
      replace s1 := s1.next b4
      replace s2 := s2.next b4
      replace fx := fx.next b4
      replace hcg := fx.cell
      go_wp2
      go_ret
      exact ⟨rfl, fx.below⟩
    · obtain ⟨K, rfl⟩ := Int.eq_ofNat_of_zero_le (show 0 ≤ k by omega)
      by_cases h0 : nl p x2 = []
      · have H0 := Lib.hid h0; clear h0
        have K0 : Blk 45 (w.alloc (.cells #[.int .u8 x0, .int .u8 y0] 45)).drew w.heap.size [.int .u8 x0, .int .u8 y0] := Blk.lit w 45 [.int .u8 x0, .int .u8 y0]
        have BA : Below w.heap.size w (w.alloc (.cells #[.int .u8 x0, .int .u8 y0] 45)).drew := ((Below.refl w.heap.size w).alloc (Nat.le_refl _) (.cells #[.int .u8 x0, .int .u8 y0] 45)).trans (Drawn.below (w' := (w.alloc (.cells #[.int .u8 x0, .int .u8 y0] 45)).drew) ⟨1, rfl⟩ _)
        go_enter Try.func6, Try.ntmps6
        go_upto_region 1 with (fail)
        refine startL (S := (fun w' => Below ((w.alloc (.cells #[.int .u8 x0, .int .u8 y0] 45)).drew).heap.size ((w.alloc (.cells #[.int .u8 x0, .int .u8 y0] 45)).drew) w')) (by kernel_rfl) (Below.refl _ _) (fun hHeld => ?_)
        refine takeL 0 (v := ?_) rfl (by kernel_rfl) (by kernel_rfl) (by kernel_rfl) (fun _ _ _ h => h) ⟨by rfl, ?_⟩ (by assumption) ?_
        rotate_left
        · intro w hS; go_simp <;> with_reducible rfl
        simp only [Act.put, List.setIfInBounds_toArray, List.set_cons_zero, List.set_cons_succ]
        refine takeL 1 (v := ?_) rfl (by kernel_rfl) (by kernel_rfl) (by kernel_rfl) (fun _ _ _ h => h) ⟨by rfl, ?_⟩ (by assumption) ?_
        rotate_left
        · intro w hS; have f1 := K0.at hS 0; have f2 := K0.at hS 1; go_simp <;> with_reducible rfl
        simp only [Act.put, List.setIfInBounds_toArray, List.set_cons_zero, List.set_cons_succ]
        refine takeL 2 (v := ?_) rfl (by kernel_rfl) (by kernel_rfl) (by kernel_rfl) (fun _ _ _ h => h) ⟨by rfl, ?_⟩ (by assumption) ?_
        rotate_left
        · intro w hS; go_simp <;> with_reducible rfl
        simp only [Act.put, List.setIfInBounds_toArray, List.set_cons_zero, List.set_cons_succ]
        refine takeL 3 (v := ?_) rfl (by kernel_rfl) (by kernel_rfl) (by kernel_rfl) (fun _ _ _ h => h) ⟨by rfl, ?_⟩ (by assumption) ?_
        rotate_left
        · intro w hS; have f1 := K0.at hS 0; have f2 := K0.at hS 1; go_simp <;> with_reducible rfl
        simp only [Act.put, List.setIfInBounds_toArray, List.set_cons_zero, List.set_cons_succ]
        refine takeL 4 (v := ?_) rfl (by kernel_rfl) (by kernel_rfl) (by kernel_rfl) (fun _ _ _ h => h) ⟨by rfl, ?_⟩ (by assumption) ?_
        rotate_left
        · intro w hS; go_simp <;> with_reducible rfl
        simp only [Act.put, List.setIfInBounds_toArray, List.set_cons_zero, List.set_cons_succ]
        refine takeL 5 (v := ?_) rfl (by kernel_rfl) (by kernel_rfl) (by kernel_rfl) (fun _ _ _ h => h) ⟨by rfl, ?_⟩ (by assumption) ?_
        rotate_left
        · intro w hS; go_simp <;> with_reducible rfl
        simp only [Act.put, List.setIfInBounds_toArray, List.set_cons_zero, List.set_cons_succ]
        refine takeL 6 (v := ?_) rfl (by kernel_rfl) (by kernel_rfl) (by kernel_rfl) (fun _ _ _ h => h) ⟨by rfl, ?_⟩ (by assumption) ?_
        rotate_left
        · intro w hS; go_simp <;> with_reducible rfl
        simp only [Act.put, List.setIfInBounds_toArray, List.set_cons_zero, List.set_cons_succ]
        refine doneL (by kernel_rfl) ?_ _
        clear hHeld K0
        generalize (w.alloc (.cells #[.int .u8 x0, .int .u8 y0] 45)).drew = wa at *
        replace s1 := s1.next BA
        replace s2 := s2.next BA
        have B := BA
        clear BA
        go_wp2_with fail
        refine (law9_awake _).mono ?_; rintro e w1 ⟨rfl, b1⟩
        replace s1 := s1.next b1
        replace s2 := s2.next b1
        replace B := B.trans (b1.mono B.size)
        go_wp2_with fail
        refine (law9_few v1 v2 (.slice none 0 0) x1 x2 [] 8 true _ s1 s2 (Sl.nil _ _) (decide_eq_true ⟨h1, h2, by simp⟩).symm).mono ?_; rintro e wx ⟨rfl, rfl⟩
        go_wp2_with fail
        refine (COF.out _).mono ?_; rintro e w2 ⟨rfl, b2⟩
        replace s1 := s1.next b2
        replace s2 := s2.next b2
        replace B := B.trans (b2.mono B.size)
        go_upto_region 6 with (fail)
        have fx : Fx p w (w2.alloc (.cells #[.int .u64 p] 28)) w2.heap.size := Fx.box B
        have bb := (Below.refl w2.heap.size w2).alloc (Nat.le_refl _) (.cells #[.int .u64 p] 28)
        replace s1 := s1.next bb
        replace s2 := s2.next bb
        generalize w2.alloc (.cells #[.int .u64 p] 28) = w3 at *
        obtain ⟨g, eg⟩ : ∃ g, g = w2.heap.size := ⟨_, rfl⟩
        rw [← eg] at fx ⊢
        clear eg bb B
        have hcg := fx.cell
        go_wp2_with fail
        refine (fp_PowMod_no p v1 v2 K x2 _ HP.out s2 (by omega) (Or.inr H0.out)).mono ?_; rintro e w4 ⟨rfl, b4⟩
        replace s1 := s1.next b4
        replace s2 := s2.next b4
        replace fx := fx.next b4
        replace hcg := fx.cell
        go_wp2_with fail
        refine (fp_Degree p _ x2 [] _ HP.out s2 (by omega) H0.out.symm).mono ?_; rintro e w5 ⟨rfl, b5⟩
        replace s1 := s1.next b5
        replace s2 := s2.next b5
        replace fx := fx.next b5
        replace hcg := fx.cell
        go_wp2
        go_ret
        exact ⟨rfl, fx.below⟩
      · have H0 := Lib.hid h0; clear h0
        have K0 : Blk 45 (w.alloc (.cells #[.int .u8 x0, .int .u8 y0] 45)).drew w.heap.size [.int .u8 x0, .int .u8 y0] := Blk.lit w 45 [.int .u8 x0, .int .u8 y0]
        have BA : Below w.heap.size w (w.alloc (.cells #[.int .u8 x0, .int .u8 y0] 45)).drew := ((Below.refl w.heap.size w).alloc (Nat.le_refl _) (.cells #[.int .u8 x0, .int .u8 y0] 45)).trans (Drawn.below (w' := (w.alloc (.cells #[.int .u8 x0, .int .u8 y0] 45)).drew) ⟨1, rfl⟩ _)
        go_enter Try.func6, Try.ntmps6
        go_upto_region 1 with (fail)
        refine startL (S := (fun w' => Below ((w.alloc (.cells #[.int .u8 x0, .int .u8 y0] 45)).drew).heap.size ((w.alloc (.cells #[.int .u8 x0, .int .u8 y0] 45)).drew) w')) (by kernel_rfl) (Below.refl _ _) (fun hHeld => ?_)
        refine takeL 0 (v := ?_) rfl (by kernel_rfl) (by kernel_rfl) (by kernel_rfl) (fun _ _ _ h => h) ⟨by rfl, ?_⟩ (by assumption) ?_
        rotate_left
        · intro w hS; go_simp <;> with_reducible rfl
        simp only [Act.put, List.setIfInBounds_toArray, List.set_cons_zero, List.set_cons_succ]
        refine takeL 1 (v := ?_) rfl (by kernel_rfl) (by kernel_rfl) (by kernel_rfl) (fun _ _ _ h => h) ⟨by rfl, ?_⟩ (by assumption) ?_
        rotate_left
        · intro w hS; have f1 := K0.at hS 0; have f2 := K0.at hS 1; go_simp <;> with_reducible rfl
        simp only [Act.put, List.setIfInBounds_toArray, List.set_cons_zero, List.set_cons_succ]
        refine takeL 2 (v := ?_) rfl (by kernel_rfl) (by kernel_rfl) (by kernel_rfl) (fun _ _ _ h => h) ⟨by rfl, ?_⟩ (by assumption) ?_
        rotate_left
        · intro w hS; go_simp <;> with_reducible rfl
        simp only [Act.put, List.setIfInBounds_toArray, List.set_cons_zero, List.set_cons_succ]
        refine takeL 3 (v := ?_) rfl (by kernel_rfl) (by kernel_rfl) (by kernel_rfl) (fun _ _ _ h => h) ⟨by rfl, ?_⟩ (by assumption) ?_
        rotate_left
        · intro w hS; have f1 := K0.at hS 0; have f2 := K0.at hS 1; go_simp <;> with_reducible rfl
        simp only [Act.put, List.setIfInBounds_toArray, List.set_cons_zero, List.set_cons_succ]
        refine takeL 4 (v := ?_) rfl (by kernel_rfl) (by kernel_rfl) (by kernel_rfl) (fun _ _ _ h => h) ⟨by rfl, ?_⟩ (by assumption) ?_
        rotate_left
        · intro w hS; go_simp <;> with_reducible rfl
        simp only [Act.put, List.setIfInBounds_toArray, List.set_cons_zero, List.set_cons_succ]
        refine takeL 5 (v := ?_) rfl (by kernel_rfl) (by kernel_rfl) (by kernel_rfl) (fun _ _ _ h => h) ⟨by rfl, ?_⟩ (by assumption) ?_
        rotate_left
        · intro w hS; go_simp <;> with_reducible rfl
        simp only [Act.put, List.setIfInBounds_toArray, List.set_cons_zero, List.set_cons_succ]
        refine takeL 6 (v := ?_) rfl (by kernel_rfl) (by kernel_rfl) (by kernel_rfl) (fun _ _ _ h => h) ⟨by rfl, ?_⟩ (by assumption) ?_
        rotate_left
        · intro w hS; go_simp <;> with_reducible rfl
        simp only [Act.put, List.setIfInBounds_toArray, List.set_cons_zero, List.set_cons_succ]
        refine doneL (by kernel_rfl) ?_ _
        clear hHeld K0
        generalize (w.alloc (.cells #[.int .u8 x0, .int .u8 y0] 45)).drew = wa at *
        replace s1 := s1.next BA
        replace s2 := s2.next BA
        have B := BA
        clear BA
        go_wp2_with fail
        refine (law9_awake _).mono ?_; rintro e w1 ⟨rfl, b1⟩
        replace s1 := s1.next b1
        replace s2 := s2.next b1
        replace B := B.trans (b1.mono B.size)
        go_wp2_with fail
        refine (law9_few v1 v2 (.slice none 0 0) x1 x2 [] 8 true _ s1 s2 (Sl.nil _ _) (decide_eq_true ⟨h1, h2, by simp⟩).symm).mono ?_; rintro e wx ⟨rfl, rfl⟩
        go_wp2_with fail
        refine (COF.out _).mono ?_; rintro e w2 ⟨rfl, b2⟩
        replace s1 := s1.next b2
        replace s2 := s2.next b2
        replace B := B.trans (b2.mono B.size)
        go_upto_region 6 with (fail)
        have fx : Fx p w (w2.alloc (.cells #[.int .u64 p] 28)) w2.heap.size := Fx.box B
        have bb := (Below.refl w2.heap.size w2).alloc (Nat.le_refl _) (.cells #[.int .u64 p] 28)
        replace s1 := s1.next bb
        replace s2 := s2.next bb
        generalize w2.alloc (.cells #[.int .u64 p] 28) = w3 at *
        obtain ⟨g, eg⟩ : ∃ g, g = w2.heap.size := ⟨_, rfl⟩
        rw [← eg] at fx ⊢
        clear eg bb B
        have hcg := fx.cell
        go_wp2_with fail
        refine (fp_PowMod p _ _ K x1 x2 _ HP.out HT.out s1 s2 (by omega) (by omega) (by omega) H0.out).mono ?_; rintro e w4 ⟨rx, zx, rfl, ox, mx, cx, lx, b4⟩
        replace s1 := s1.next b4
        replace s2 := s2.next b4
        replace fx := fx.next b4
        replace hcg := fx.cell
        have tx := ox.sl; clear ox
        have CX := Lib.hid cx; clear cx
        have hxl : zx.length ≤ 8 := by have := nl_len p x2; omega
        have LX := Lib.hid lx; clear lx
        obtain ⟨Z, eZ⟩ : ∃ Z, Z = nl p x2 := ⟨_, rfl⟩
        have hZ0 : 0 < Z.length := by rw [eZ]; exact List.length_pos_iff.2 H0.out
        have EZ := Lib.hid eZ; clear eZ
        go_wp2_with fail
        refine (fp_Degree p _ x2 Z _ HP.out s2 (by omega) EZ.out).mono ?_; rintro e w5 ⟨rfl, b5⟩
        replace s1 := s1.next b5
        replace s2 := s2.next b5
        replace tx := tx.next b5
        replace fx := fx.next b5
        replace hcg := fx.cell
        have hz1 : ¬ (Z.length : Int) - 1 < 0 := by omega
        have hz2 : decide ((Z.length : Int) - 1 < 0) = false := decide_eq_false hz1
        go_upto_region 11 with (fail)
        have l1 : Sl .u64 (w5.alloc (.cells #[.int .u64 1] 26)) (.slice (some ⟨w5.heap.size, 0, none⟩) 1 1) [1] := (own_lit1 w5 1).sl
        have bl : Below w5.heap.size w5 (w5.alloc (.cells #[.int .u64 1] 26)) := (Below.refl _ _).alloc (Nat.le_refl _) _
        have st : PwRel p w (w5.alloc (.cells #[.int .u64 1] 26)) g v1 v2 rx x1 x2 zx 0 (.slice (some ⟨w5.heap.size, 0, none⟩) 1 1) [1] :=
          ⟨fx.next bl, s1.next bl, s2.next bl, tx.next bl, l1, by simp, by rw [show pl p [1] = 1 from Pol.ext fun i => by rw [pl_c, Pol.one_def, c_mon]; cases i <;> rfl]; rfl⟩
        generalize w5.alloc (.cells #[.int .u64 1] 26) = wl at *
        clear l1 bl fx s1 s2 tx hcg hz1 hz2
        go_wp2_with fail
        go_loopw [13, 14] (fun ov iv wr => ∃ (i : Nat) (zs : List Nat), i ≤ K ∧ iv = .int .i64 i ∧ PwRel p w wr g v1 v2 rx x1 x2 zx i ov zs) (fun _ iv _ => K - (intOf iv).toNat)
        case atStart => exact ⟨0, [1], by omega, rfl, st⟩
        case round =>
          clear st
          obtain ⟨i, zs, hi, rfl, st⟩ := hrel
          have hcg := st.fx.cell
          have hlen := st.len
          by_cases hlt : i < K
          · have hlt' : (i : Int) < (K : Int) := by omega
            go_wp2_with fail
            refine (fp_Mul p _ _ zs x1 _ HP.out st.so st.sa (by omega) (by omega)).mono ?_; rintro e wn ⟨rn, zn, rfl, on, mn, vn, ln, bn⟩
            have st2 : PwRel p w wn g v1 v2 rx x1 x2 zx (i + 1) rn zn :=
              ⟨st.fx.next bn, st.sa.next bn, st.sb.next bn, st.sx.next bn, on.sl, by omega, by rw [vn, st.val, pw_succ]⟩
            clear hcg vn bn on st
            go_wp2
            go_roundw
            case rel => exact ⟨i + 1, zn, by omega, by go_num, st2⟩
            case measure => simp [intOf] <;> omega
          · obtain rfl : i = K := by omega
            go_wp2_with fail
            refine (fp_DivMod p _ _ zs x2 _ HP.out HT.out st.so st.sb (by omega) (by omega) H0.out).mono ?_; rintro e wn ⟨rq, rr, zq, zr, rfl, oq, or, mq, mr, vd, ld, lq, lr, bn⟩
            have heq : pl p zx = pl p zr := by
              obtain ⟨nm, hnm⟩ : ∃ nm, (nl p x2).length = nm + 1 := ⟨(nl p x2).length - 1, by omega⟩
              have lnM : Ln (pl p x2) (nm + 1) := by rw [← hnm, ← nl_pl]; exact nrm_ln HP.out.pos (nl_nrm HP.out.pos x2)
              have hx := LX.out
              refine Cg.unique HT.out lnM (dlt_mono (pl_dlt p zx) (by omega)) (dlt_mono (pl_dlt p zr) (by omega)) ?_
              refine CX.out.trans ?_
              rw [← st.val]
              exact (Cg.of_rem vd).symm
            have HEQ := Lib.hid heq
            clear vd ld heq hcg
            go_wp2_with fail
            refine (ref9_Same _ _ zx zr true _ (st.sx.next bn) or.sl (by omega) (by omega) (decide_eq_true (pl_inj HP.out.pos mx mr HEQ.out)).symm).mono ?_; rintro e wm ⟨rfl, qm⟩
            go_wp2
            go_ret
            exact ⟨rfl, (st.fx.next bn).below.trans (qm.below _)⟩
  · have H := Lib.hid h; clear h
    have K0 : Blk 45 (w.alloc (.cells #[.int .u8 x0, .int .u8 y0] 45)).drew w.heap.size [.int .u8 x0, .int .u8 y0] := Blk.lit w 45 [.int .u8 x0, .int .u8 y0]
    have BA : Below w.heap.size w (w.alloc (.cells #[.int .u8 x0, .int .u8 y0] 45)).drew := ((Below.refl w.heap.size w).alloc (Nat.le_refl _) (.cells #[.int .u8 x0, .int .u8 y0] 45)).trans (Drawn.below (w' := (w.alloc (.cells #[.int .u8 x0, .int .u8 y0] 45)).drew) ⟨1, rfl⟩ _)
    go_enter Try.func6, Try.ntmps6
    go_upto_region 1 with (fail)
    refine startL (S := (fun w' => Below ((w.alloc (.cells #[.int .u8 x0, .int .u8 y0] 45)).drew).heap.size ((w.alloc (.cells #[.int .u8 x0, .int .u8 y0] 45)).drew) w')) (by kernel_rfl) (Below.refl _ _) (fun hHeld => ?_)
    refine takeL 0 (v := ?_) rfl (by kernel_rfl) (by kernel_rfl) (by kernel_rfl) (fun _ _ _ h => h) ⟨by rfl, ?_⟩ (by assumption) ?_
    rotate_left
    · intro w hS; go_simp <;> with_reducible rfl
    simp only [Act.put, List.setIfInBounds_toArray, List.set_cons_zero, List.set_cons_succ]
    refine takeL 1 (v := ?_) rfl (by kernel_rfl) (by kernel_rfl) (by kernel_rfl) (fun _ _ _ h => h) ⟨by rfl, ?_⟩ (by assumption) ?_
    rotate_left
    · intro w hS; have f1 := K0.at hS 0; have f2 := K0.at hS 1; go_simp <;> with_reducible rfl
    simp only [Act.put, List.setIfInBounds_toArray, List.set_cons_zero, List.set_cons_succ]
    refine takeL 2 (v := ?_) rfl (by kernel_rfl) (by kernel_rfl) (by kernel_rfl) (fun _ _ _ h => h) ⟨by rfl, ?_⟩ (by assumption) ?_
    rotate_left
    · intro w hS; go_simp <;> with_reducible rfl
    simp only [Act.put, List.setIfInBounds_toArray, List.set_cons_zero, List.set_cons_succ]
    refine takeL 3 (v := ?_) rfl (by kernel_rfl) (by kernel_rfl) (by kernel_rfl) (fun _ _ _ h => h) ⟨by rfl, ?_⟩ (by assumption) ?_
    rotate_left
    · intro w hS; have f1 := K0.at hS 0; have f2 := K0.at hS 1; go_simp <;> with_reducible rfl
    simp only [Act.put, List.setIfInBounds_toArray, List.set_cons_zero, List.set_cons_succ]
    refine takeL 4 (v := ?_) rfl (by kernel_rfl) (by kernel_rfl) (by kernel_rfl) (fun _ _ _ h => h) ⟨by rfl, ?_⟩ (by assumption) ?_
    rotate_left
    · intro w hS; go_simp <;> with_reducible rfl
    simp only [Act.put, List.setIfInBounds_toArray, List.set_cons_zero, List.set_cons_succ]
    refine takeL 5 (v := ?_) rfl (by kernel_rfl) (by kernel_rfl) (by kernel_rfl) (fun _ _ _ h => h) ⟨by rfl, ?_⟩ (by assumption) ?_
    rotate_left
    · intro w hS; go_simp <;> with_reducible rfl
    simp only [Act.put, List.setIfInBounds_toArray, List.set_cons_zero, List.set_cons_succ]
    refine takeL 6 (v := ?_) rfl (by kernel_rfl) (by kernel_rfl) (by kernel_rfl) (fun _ _ _ h => h) ⟨by rfl, ?_⟩ (by assumption) ?_
    rotate_left
    · intro w hS; go_simp <;> with_reducible rfl
    simp only [Act.put, List.setIfInBounds_toArray, List.set_cons_zero, List.set_cons_succ]
    refine doneL (by kernel_rfl) ?_ _
    clear hHeld K0
    generalize (w.alloc (.cells #[.int .u8 x0, .int .u8 y0] 45)).drew = wa at *
    replace s1 := s1.next BA
    replace s2 := s2.next BA
    have B := BA
    clear BA
    go_wp2_with fail
    refine (law9_awake _).mono ?_; rintro e w1 ⟨rfl, b1⟩
    replace s1 := s1.next b1
    replace s2 := s2.next b1
    replace B := B.trans (b1.mono B.size)
    go_wp2_with fail
    refine (law9_few v1 v2 (.slice none 0 0) x1 x2 [] 8 false _ s1 s2 (Sl.nil _ _) (decide_eq_false (fun h => H.out ⟨h.1, h.2.1⟩)).symm).mono ?_; rintro e wx ⟨rfl, rfl⟩
    go_wp2_with fail
    refine (law9_awake _).mono ?_; rintro e w2 ⟨rfl, b2⟩
    replace s1 := s1.next b2
    replace s2 := s2.next b2
    replace B := B.trans (b2.mono B.size)
    go_wp2
    go_ret
    exact ⟨rfl, B⟩

set_option maxRecDepth 100000 in
theorem lifted (os : Os) (started : os.Started) (H : Type) (enc : TypeId × Value → H) :
    ReturnsInHanded {} Try.checked os 6 .any (Rows.polyPowersSpec.pre6 enc Try.prog Try.f6 Rows.polyPowersRow.domain false) (Rows.polyPowersSpec.post enc Try.prog Try.f6 false true false false) := by
  refine returnsInHanded_of_change (C := Try.checked) own started (by kernel_rfl) Try.func6
    (ChangeSpec.witness6 (enc := enc) (C := Try.checked) false ⟨#[], #[.agg #[.int .u8 0, .int .u8 0], .slice none 0 0, .slice none 0 0], []⟩ 8 (by kernel_rfl) (by kernel_rfl) (by kernel_rfl) (by kernel_rfl)) ?_
  intro W base args ds gs before hval0 hW hcnd _
  have hval : ∀ (j : Nat) t v, Try.f6.params[j]? = some t → args[j]? = some v → Value.okWide Try.prog W .any base t v := hval0
  have hW' := hW
  obtain ⟨p, q, hA0, hV, rfl, hfz, hnd⟩ := hW
  have hA : DataW.TrodAll enc Try.prog W 0 (fun _ => true) true Try.f6.params.toList args.toList ds p := hA0
  rw [Try.params6] at hA hval
  obtain ⟨v0, vs0, d0, ds0, p0, q0, hargs, rfl, rfl, h0, r0⟩ := trodAll_cons hA
  obtain ⟨v1, vs1, d1, ds1, p1, q1, rfl, rfl, rfl, h1, r1⟩ := trodAll_cons r0
  obtain ⟨v2, vs2, d2, ds2, p2, q2, rfl, rfl, rfl, h2, r2⟩ := trodAll_cons r1
  obtain ⟨rfl, rfl, rfl⟩ := trodAll_nil r2
  obtain rfl : args = #[v0, v1, v2] := by cases args; simp_all
  obtain ⟨rfl, rfl⟩ := trodVars_none hV
  have k0 := h0
  have lt0 : ∀ x ∈ p0, x.block < W.heap.size := by obtain ⟨m, hm⟩ := k0; exact DataW.trod_lt m _ _ _ hm
  obtain ⟨x0, y0, rfl, -, -⟩ := open_bytes Try.underlying45 Try.underlying5 (by kernel_rfl) (by kernel_rfl) (hval 0 45 v0 rfl rfl) h0
  have k1 := h1
  have lt1 : ∀ x ∈ p1, x.block < W.heap.size := by obtain ⟨m, hm⟩ := k1; exact DataW.trod_lt m _ _ _ hm
  obtain ⟨x1, s1, -⟩ := open_words Try.underlying23 Try.underlying26 (by kernel_rfl) (hval 1 23 v1 rfl rfl) h1
  have k2 := h2
  have lt2 : ∀ x ∈ p2, x.block < W.heap.size := by obtain ⟨m, hm⟩ := k2; exact DataW.trod_lt m _ _ _ hm
  obtain ⟨x2, s2, -⟩ := open_words Try.underlying23 Try.underlying26 (by kernel_rfl) (hval 2 23 v2 rfl rfl) h2
  clear hA0 hval0
  refine (walk x0 y0 v1 x1 v2 x2 W  s1 s2).mono fun e W' ⟨he, bel⟩ => ?_
  subst he
  exact ⟨_, rfl, _, _, _, [], _, [], hW', trodAll_mk1 (shut_bool Try.underlying4 _), (trodAll_cons_mk (Below.trod laidOut (by kernel_rfl) (of_decide_eq_true (by kernel_rfl)) k0 bel lt0) (trodAll_cons_mk (Below.trod laidOut (by kernel_rfl) (of_decide_eq_true (by kernel_rfl)) k1 bel lt1) (trodAll_cons_mk (Below.trod laidOut (by kernel_rfl) (of_decide_eq_true (by kernel_rfl)) k2 bel lt2) trodAll_mk0))), rfl, bel.frame _, fun h => by cases h⟩

theorem over : Rows.polyPowersRow.holds Try.pinned (OpenSpec.ofChange Rows.polyPowersSpec) :=
  OpenClaim.holds_of_wide 6 Try.f6 rfl rfl rfl rfl rfl rfl rfl ⟨rfl, rfl, rfl, rfl, rfl⟩ rfl rfl rfl rfl rfl (by kernel_rfl) Try.func6 (by kernel_rfl)
    (of_decide_eq_true (by kernel_rfl)) (by unfold Func.isWrapper; first | (rw [if_pos (by decide +kernel)]; kernel_rfl) | (rw [if_neg (by decide +kernel)]; exact ⟨rfl, rfl⟩))
    (fun os started H enc _ => lifted os started H enc)

theorem proved : Rows.PolyPowersSaid := over
#print axioms proved
end Go.Proofs.Ytjpioijlpgmlfaa.polyPowers
