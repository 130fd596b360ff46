/- Package fpoly: Irreducible. -/
import Derived.Test.YtjpioijlpgmlfaaFnext
namespace Go.Proofs.Ytjpioijlpgmlfaa
open Go.RowKit

theorem gcd_cg {p : Nat} {a f f' g : Pol (Zp p)} (h : Cg a f f') (k : IsGcd g f a) : IsGcd g f' a := by
  obtain ⟨c, hc⟩ := h
  obtain ⟨h1, h2, h3, s, t, h4⟩ := k
  have e : f' = f - a * c := by rw [← hc]; exact by_ring [f, f'] X1 (X0 - (X0 - X1)) rfl
  refine ⟨h1, by rw [e]; exact h2.sub (h3.mul' c), h3, s, t + s * c, ?_⟩
  rw [h4, e]
  exact by_ring [s, t, f, a, c] (X0 * X2 + X1 * X3) (X0 * (X2 - X3 * X4) + (X1 + X0 * X4) * X3) rfl

structure IrrRel (p : Nat) (w wr : World) (g : Nat) (xv yv : Value) (xs Y : List Nat) (L i : Nat) : Prop where
  fx : Fx p w wr g
  sx : Sl .u64 wr xv [0, 1]
  sy : Sl .u64 wr yv Y
  my : Nrm p Y
  ly : Y.length < L
  cg : Cg (pl p xs) (pl p Y) (pw (XX p) (p ^ i))
  ap : ∀ j, 1 ≤ j → j ≤ i → Apart p (pl p xs) (p ^ j)

set_option maxHeartbeats 2000000 in
theorem fp_Irreducible (p : Nat) (v : Value) (xs : List Nat) (β : Bool) (w : World) (hp : FP p) (ht : Trial p) (s0 : Sl .u64 w v xs) (hm : xs.length ≤ 1000)
    (hβ : β = true ↔ (2 ≤ (nl p xs).length ∧ ∀ i, 1 ≤ i → 2 * i ≤ (nl p xs).length - 1 → Apart p (pl p xs) (p ^ i))) :
    Calls Try.prog 39 #[.agg #[.int .u64 p], v] w fun e w' => e = .returned (.bool β) ∧ Below w.heap.size w w' := by
  have HT := Lib.hid ht; clear ht
  have hlm := nl_len p xs
  obtain ⟨Z, eZ⟩ : ∃ Z, Z = nl p xs := ⟨_, rfl⟩
  rw [← eZ] at hβ hlm
  have EZ := Lib.hid eZ; have HB := Lib.hid hβ
  clear eZ hβ
  have hp3 := hp.2
  have HP := Lib.hid hp; clear hp
  have fx := Fx.box (p := p) (Below.refl w.heap.size w)
  go_enter Try.func39, Try.ntmps39
  go_wp2_with fail
  generalize w.alloc (.cells #[.int .u64 p] 28) = wb at *
  obtain ⟨g, eg⟩ : ∃ g, g = w.heap.size := ⟨_, rfl⟩
  rw [← eg] at fx ⊢
  have hgw : w.heap.size ≤ g := by omega
  clear eg
  refine (fp_Degree p v xs Z _ HP.out (s0.next fx.below) (by omega) EZ.out).mono ?_; rintro e w2 ⟨rfl, b2⟩
  by_cases hL : Z.length < 2
  · have h1 : ((Z.length : Int) - 1 < 1) := by omega
    have hb : β = false := by
      cases hh : β with
      | false => rfl
      | true => have := (HB.out.1 hh).1; omega
    subst hb
    go_wp2
    go_ret
    exact ⟨rfl, fx.below.trans (b2.mono fx.below.size)⟩
  · have h1 : ¬ ((Z.length : Int) - 1 < 1) := by omega
    have h1' : decide ((Z.length : Int) - 1 < 1) = false := decide_eq_false h1
    obtain ⟨h, eh⟩ : ∃ h, h = (Z.length - 1) / 2 := ⟨_, rfl⟩
    have d1 : ((Z.length : Int) - 1) / 2 = (h : Int) := by omega
    have d2 : ((Z.length : Int) - 1).tdiv 2 = (h : Int) := by rw [show (Z.length : Int) - 1 = ((Z.length - 1 : Nat) : Int) by omega, eh]; rfl
    have hhb : h ≤ 1000 := by omega
    have hne : nl p xs ≠ [] := fun h => hL (by rw [EZ.out, h]; decide)
    have HNE := Lib.hid hne
    have EH := Lib.hid eh
    clear eh hne
    replace fx := fx.next b2
    clear b2
    go_upto_region 5 with (fail)
    have tx : Sl .u64 (w2.alloc (.cells #[.int .u64 0, .int .u64 1] 26)) (.slice (some ⟨w2.heap.size, 0, none⟩) 2 2) [0, 1] := (own_lit2 w2 0 1).sl
    have bl : Below w2.heap.size w2 (w2.alloc (.cells #[.int .u64 0, .int .u64 1] 26)) := (Below.refl _ _).alloc (Nat.le_refl _) (.cells #[.int .u64 0, .int .u64 1] 26)
    replace fx := fx.next bl
    generalize w2.alloc (.cells #[.int .u64 0, .int .u64 1] 26) = w3 at *
    obtain ⟨gx, egx⟩ : ∃ gx, gx = w2.heap.size := ⟨_, rfl⟩
    rw [← egx] at tx ⊢
    clear egx bl h1 h1'
    have hcg := fx.cell
    go_wp2_with fail
    refine (fp_rest p _ v [0, 1] xs _ HP.out HT.out tx (s0.next fx.below) (by simp) (by omega) HNE.out).mono ?_; rintro e w4 ⟨r4, Y, rfl, o4, m4, v4, l4, -, b4⟩
    have st : IrrRel p w w4 g (.slice (some ⟨gx, 0, none⟩) 2 2) r4 xs Y Z.length 0 :=
      ⟨fx.next b4, tx.next b4, o4.sl, m4, by rw [EZ.out]; exact l4, by
        obtain ⟨q, hq⟩ := v4
        have := Cg.of_rem hq
        rwa [show pl p [0, 1] = pw (XX p) (p ^ 0) by rw [Nat.pow_zero]; exact (CR.one_mul _).symm] at this, fun j h1 h2 => by omega⟩
    clear v4 l4 b4 o4 tx hcg m4 fx
    go_wp2_with fail
    go_loopw [20, 7] (fun iv yv wr => ∃ (i : Nat) (Y : List Nat), i ≤ h ∧ iv = .int .i64 i ∧ IrrRel p w wr g (.slice (some ⟨gx, 0, none⟩) 2 2) yv xs Y Z.length i) (fun iv _ _ => h - (intOf iv).toNat)
    case atStart => exact ⟨0, Y, Nat.zero_le _, rfl, st⟩
    case round =>
      clear st d1 d2 Y
      obtain ⟨i, Y, hi, rfl, st⟩ := hrel
      by_cases hlt : i < h
      · have hlt' : (i : Int) < (h : Int) := by omega
        have hly := st.ly
        have fd := st.fx.drew
        have ty := st.sy.drew
        have tx := st.sx.drew
        have ta := s0.next fd.below
        have cp : IntKind.i64.wrap (p : Int) = (p : Int) := IntWalk.i64_in _ ⟨by omega, by omega⟩
        have ST := Lib.hid (show Nrm p Y ∧ Cg (pl p xs) (pl p Y) (pw (XX p) (p ^ i)) ∧ (∀ j, 1 ≤ j → j ≤ i → Apart p (pl p xs) (p ^ j)) from ⟨st.my, st.cg, st.ap⟩)
        clear st
        go_upto_region 8 with (fail)
        refine startL (S := (fun w' => Below (wr.drew).heap.size (wr.drew) w')) (by kernel_rfl) (Below.refl _ _) (fun hHeld => ?_)
        refine takeL 0 (v := ?_) rfl (by kernel_rfl) (by kernel_rfl) (by kernel_rfl) (fun _ _ _ h => h) ⟨by rfl, ?_⟩ (by assumption) ?_
        rotate_left
        · intro w hS; have f1 := fd.at hS; go_simp <;> with_reducible rfl
        simp only [Act.put, List.setIfInBounds_toArray, List.set_cons_zero, List.set_cons_succ]
        refine takeL 1 (v := ?_) rfl (by kernel_rfl) (by kernel_rfl) (by kernel_rfl) (fun _ _ _ h => h) ⟨by rfl, ?_⟩ (by assumption) ?_
        rotate_left
        · intro w hS; go_simp <;> with_reducible rfl
        simp only [Act.put, List.setIfInBounds_toArray, List.set_cons_zero, List.set_cons_succ]
        refine takeL 2 (v := ?_) rfl (by kernel_rfl) (by kernel_rfl) (by kernel_rfl) (fun _ _ _ h => h) ⟨by rfl, ?_⟩ (by assumption) ?_
        rotate_left
        · intro w hS; have f1 := fd.at hS; go_simp <;> with_reducible rfl
        simp only [Act.put, List.setIfInBounds_toArray, List.set_cons_zero, List.set_cons_succ]
        refine takeL 5 (v := ?_) rfl (by kernel_rfl) (by kernel_rfl) (by kernel_rfl) (fun _ _ _ h => h) ⟨by rfl, ?_⟩ (by assumption) ?_
        rotate_left
        · intro w hS; go_simp <;> with_reducible rfl
        simp only [Act.put, List.setIfInBounds_toArray, List.set_cons_zero, List.set_cons_succ]
        refine oneL 3 rfl (by kernel_rfl) (by rfl) (fun K hK => ?_)
        go_simp
        go_at_call 53
        (with_reducible refine (gfp_P p _ HP.out).mono ?_); rintro e w5 ⟨rfl, b5⟩
        refine hK.out _ _ (hHeld.trans (b5.mono hHeld.size)) (fun hHeld => ?_)
        clear hK K
        try simp only [Act.put, List.setIfInBounds_toArray, List.set_cons_zero, List.set_cons_succ]
        refine takeL 4 (v := ?_) rfl (by kernel_rfl) (by kernel_rfl) (by kernel_rfl) (fun _ _ _ h => h) ⟨by rfl, ?_⟩ (by assumption) ?_
        rotate_left
        · intro w hS; go_simp <;> with_reducible rfl
        simp only [Act.put, List.setIfInBounds_toArray, List.set_cons_zero, List.set_cons_succ]
        refine oneL 6 rfl (by kernel_rfl) (by rfl) (fun K hK => ?_)
        go_simp
        go_at_call 31
        (with_reducible refine (fp_PowMod p _ v p Y xs _ HP.out HT.out (ty.next hHeld) (ta.next hHeld) (by omega) (by omega) (by omega) HNE.out).mono ?_); rintro e w6 ⟨r6, Y2, rfl, o6, m6, v6, l6, b6⟩
        have V6 := Lib.hid v6; have hl6 : Y2.length < Z.length := by rw [EZ.out]; exact l6
        clear v6 l6
        refine hK.out _ _ (hHeld.trans (b6.mono hHeld.size)) (fun hHeld => ?_)
        clear hK K
        try simp only [Act.put, List.setIfInBounds_toArray, List.set_cons_zero, List.set_cons_succ]
        refine takeL 7 (v := ?_) rfl (by kernel_rfl) (by kernel_rfl) (by kernel_rfl) (fun _ _ _ h => h) ⟨by rfl, ?_⟩ (by assumption) ?_
        rotate_left
        · intro w hS; go_simp <;> with_reducible rfl
        simp only [Act.put, List.setIfInBounds_toArray, List.set_cons_zero, List.set_cons_succ]
        refine takeL 8 (v := ?_) rfl (by kernel_rfl) (by kernel_rfl) (by kernel_rfl) (fun _ _ _ h => h) ⟨by rfl, ?_⟩ (by assumption) ?_
        rotate_left
        · intro w hS; go_simp <;> with_reducible rfl
        simp only [Act.put, List.setIfInBounds_toArray, List.set_cons_zero, List.set_cons_succ]
        refine takeL 9 (v := ?_) rfl (by kernel_rfl) (by kernel_rfl) (by kernel_rfl) (fun _ _ _ h => h) ⟨by rfl, ?_⟩ (by assumption) ?_
        rotate_left
        · intro w hS; go_simp <;> with_reducible rfl
        simp only [Act.put, List.setIfInBounds_toArray, List.set_cons_zero, List.set_cons_succ]
        refine takeL 10 (v := ?_) rfl (by kernel_rfl) (by kernel_rfl) (by kernel_rfl) (fun _ _ _ h => h) ⟨by rfl, ?_⟩ (by assumption) ?_
        rotate_left
        · intro w hS; go_simp <;> with_reducible rfl
        simp only [Act.put, List.setIfInBounds_toArray, List.set_cons_zero, List.set_cons_succ]
        refine doneL (by kernel_rfl) ?_ _
        replace fd := (fd.next hHeld).drew
        replace tx := (tx.next hHeld).drew
        replace ta := (ta.next hHeld).drew
        have ty2 := o6.sl.drew
        clear hHeld b5 b6 ty o6
        go_upto_region 9 with (fail)
        refine startL (S := (fun w' => Below (w6.drew).heap.size (w6.drew) w')) (by kernel_rfl) (Below.refl _ _) (fun hHeld => ?_)
        refine takeL 0 (v := ?_) rfl (by kernel_rfl) (by kernel_rfl) (by kernel_rfl) (fun _ _ _ h => h) ⟨by rfl, ?_⟩ (by assumption) ?_
        rotate_left
        · intro w hS; have f1 := fd.at hS; go_simp <;> with_reducible rfl
        simp only [Act.put, List.setIfInBounds_toArray, List.set_cons_zero, List.set_cons_succ]
        refine takeL 1 (v := ?_) rfl (by kernel_rfl) (by kernel_rfl) (by kernel_rfl) (fun _ _ _ h => h) ⟨by rfl, ?_⟩ (by assumption) ?_
        rotate_left
        · intro w hS; have f1 := fd.at hS; go_simp <;> with_reducible rfl
        simp only [Act.put, List.setIfInBounds_toArray, List.set_cons_zero, List.set_cons_succ]
        refine takeL 2 (v := ?_) rfl (by kernel_rfl) (by kernel_rfl) (by kernel_rfl) (fun _ _ _ h => h) ⟨by rfl, ?_⟩ (by assumption) ?_
        rotate_left
        · intro w hS; have f1 := fd.at hS; go_simp <;> with_reducible rfl
        simp only [Act.put, List.setIfInBounds_toArray, List.set_cons_zero, List.set_cons_succ]
        refine takeL 3 (v := ?_) rfl (by kernel_rfl) (by kernel_rfl) (by kernel_rfl) (fun _ _ _ h => h) ⟨by rfl, ?_⟩ (by assumption) ?_
        rotate_left
        · intro w hS; go_simp <;> with_reducible rfl
        simp only [Act.put, List.setIfInBounds_toArray, List.set_cons_zero, List.set_cons_succ]
        refine takeL 4 (v := ?_) rfl (by kernel_rfl) (by kernel_rfl) (by kernel_rfl) (fun _ _ _ h => h) ⟨by rfl, ?_⟩ (by assumption) ?_
        rotate_left
        · intro w hS; go_simp <;> with_reducible rfl
        simp only [Act.put, List.setIfInBounds_toArray, List.set_cons_zero, List.set_cons_succ]
        refine takeL 6 (v := ?_) rfl (by kernel_rfl) (by kernel_rfl) (by kernel_rfl) (fun _ _ _ h => h) ⟨by rfl, ?_⟩ (by assumption) ?_
        rotate_left
        · intro w hS; go_simp <;> with_reducible rfl
        simp only [Act.put, List.setIfInBounds_toArray, List.set_cons_zero, List.set_cons_succ]
        refine oneL 5 rfl (by kernel_rfl) (by rfl) (fun K hK => ?_)
        go_simp
        go_at_call 26
        (with_reducible refine (fp_Sub p _ _ Y2 [0, 1] _ HP.out (ty2.next hHeld) (tx.next hHeld) (by omega) (by simp)).mono ?_); rintro e w7 ⟨r7, D, rfl, o7, m7, v7, l7, b7⟩
        have V7 := Lib.hid v7; clear v7; have hl7 : D.length ≤ 1000 := by simp at l7; omega
        refine hK.out _ _ (hHeld.trans (b7.mono hHeld.size)) (fun hHeld => ?_)
        clear hK K
        try simp only [Act.put, List.setIfInBounds_toArray, List.set_cons_zero, List.set_cons_succ]
        refine oneL 7 rfl (by kernel_rfl) (by rfl) (fun K hK => ?_)
        go_simp
        go_at_call 33
        (with_reducible refine (fp_Gcd p _ v D xs _ HP.out HT.out o7.sl (ta.next hHeld) (by omega) (by omega)).mono ?_); rintro e w8 ⟨r8, G, rfl, o8, m8, v8, l8, b8⟩
        have V8 := Lib.hid v8; clear v8
        refine hK.out _ _ (hHeld.trans (b8.mono hHeld.size)) (fun hHeld => ?_)
        clear hK K
        try simp only [Act.put, List.setIfInBounds_toArray, List.set_cons_zero, List.set_cons_succ]
        refine oneL 8 rfl (by kernel_rfl) (by rfl) (fun K hK => ?_)
        go_simp
        go_at_call 24
        (with_reducible refine (fp_Degree p _ G G _ HP.out o8.sl (by omega) (nl_of HP.out.pos m8).symm).mono ?_); rintro e w9 ⟨rfl, b9⟩
        have hq : Cg (pl p xs) (pl p D) (pw (XX p) (p ^ (i + 1)) - XX p) := by
          rw [V7.out]
          have h1 := V6.out.trans (ST.out.2.1.pw p)
          rw [pw_pw, ← Nat.pow_succ] at h1
          have h2 := Dv.sub h1 (Dv.zero (pl p xs))
          refine (show Dv _ _ from ?_)
          rwa [CR.sub_zero, show pl p Y2 - pw (XX p) (p ^ (i + 1)) = pl p Y2 - pl p [0, 1] - (pw (XX p) (p ^ (i + 1)) - XX p) from by_ring [pl p Y2, pw (XX p) (p ^ (i + 1)), XX p] (X0 - X1) (X0 - X2 - (X1 - X2)) rfl] at h2
        have hG := gcd_cg hq V8.out
        have HG := Lib.hid hG
        clear hq hG
        by_cases hG1 : G.length = 1
        · have hz : ((G.length : Int) - 1 == 0) = true := by rw [hG1]; rfl
          have hz2 : ((G.length : Int) - 1 != 0) = false := by rw [hG1]; rfl
          have hz3 : (G.length : Int) - 1 = 0 := by omega
          have hap : Apart p (pl p xs) (p ^ (i + 1)) := fun g hg => by
            rw [hg.unique HT.out HG.out, ← hG1]; exact nrm_ln HP.out.pos m8
          have HAP := Lib.hid hap
          clear hap hG1
          refine hK.out _ _ (hHeld.trans (b9.mono hHeld.size)) (fun hHeld => ?_)
          clear hK K
          try simp only [Act.put, List.setIfInBounds_toArray, List.set_cons_zero, List.set_cons_succ]
          refine takeL 9 (v := ?_) rfl (by kernel_rfl) (by kernel_rfl) (by kernel_rfl) (fun _ _ _ h => h) ⟨by rfl, ?_⟩ (by assumption) ?_
          rotate_left
          · intro w hS; go_simp <;> with_reducible rfl
          simp only [Act.put, List.setIfInBounds_toArray, List.set_cons_zero, List.set_cons_succ]
          refine doneL (by kernel_rfl) ?_ _
          replace fd := fd.next hHeld
          have st2 : IrrRel p w w9 g (.slice (some ⟨gx, 0, none⟩) 2 2) r6 xs Y2 Z.length (i + 1) :=
            ⟨fd, tx.next hHeld, ty2.next hHeld, m6, hl6, by
              have h1 := V6.out.trans (ST.out.2.1.pw p)
              rwa [pw_pw, ← Nat.pow_succ] at h1, fun j h1 h2 => by
              by_cases hj : j = i + 1
              · rw [hj]; exact HAP.out
              · exact ST.out.2.2 j h1 (by omega)⟩
          clear hHeld b7 b8 b9 fd tx ty2 ta o7 o8 hz hz2 hz3
          go_wp2
          go_roundw
          case rel => exact ⟨i + 1, Y2, by omega, by go_num, st2⟩
          case measure => simp [intOf] <;> omega
        · have hz : ((G.length : Int) - 1 == 0) = false := beq_eq_false_iff_ne.mpr (by omega)
          have hz2 : ((G.length : Int) - 1 != 0) = true := by rw [bne, hz]; rfl
          have hb : β = false := by
            cases hh : β with
            | false => rfl
            | true =>
              have h1 := (HB.out.1 hh).2 (i + 1) (by omega) (by have := EH.out; omega) _ HG.out
              exact absurd ((nrm_ln HP.out.pos m8).unique h1) hG1
          subst hb
          clear hG1
          refine hK.out _ _ (hHeld.trans (b9.mono hHeld.size)) (fun hHeld => ?_)
          clear hK K
          try simp only [Act.put, List.setIfInBounds_toArray, List.set_cons_zero, List.set_cons_succ]
          refine takeL 9 (v := ?_) rfl (by kernel_rfl) (by kernel_rfl) (by kernel_rfl) (fun _ _ _ h => h) ⟨by rfl, ?_⟩ (by assumption) ?_
          rotate_left
          · intro w hS; go_simp <;> with_reducible rfl
          simp only [Act.put, List.setIfInBounds_toArray, List.set_cons_zero, List.set_cons_succ]
          refine doneL (by kernel_rfl) ?_ _
          replace fd := fd.next hHeld
          go_wp2
          go_ret
          exact ⟨rfl, fd.below⟩
      · obtain rfl : i = h := by omega
        have hb : β = true := HB.out.2 ⟨by omega, fun j h1 h2 => st.ap j h1 (by have := EH.out; omega)⟩
        subst hb
        go_wp2
        go_ret
        exact ⟨rfl, st.fx.below⟩

end Go.Proofs.Ytjpioijlpgmlfaa
