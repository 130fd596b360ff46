/- The statements' divides. -/
import Derived.Test.YtjpioijlpgmlfaaFpoly8
namespace Go.Proofs.Ytjpioijlpgmlfaa
open Go.RowKit

theorem dv_rem {p : Nat} (ht : Trial p) {a b q r : Pol (Zp p)} {n : Nat} (ha : Ln a (n + 1)) (hr : r.dlt n) (h : b = q * a + r) : Dv a b ↔ r = 0 := by
  constructor
  · rintro ⟨c, hc⟩
    exact (div_unique ht (q := q) (q' := c) (r := r) (r' := 0) ha hr (dlt_zero _) (by rw [← h, hc, CR.mul_comm, CR.add_zero])).2
  · intro h0
    exact ⟨q, by rw [h, h0, CR.add_zero, CR.mul_comm]⟩

theorem nl_nil {p : Nat} (hp : 0 < p) {xs : List Nat} : nl p xs = [] ↔ pl p xs = 0 := by
  constructor
  · intro h; rw [← nl_pl, h, pl_nil]
  · intro h; exact pl_zero hp (nl_nrm hp xs) (by rw [nl_pl, h])

set_option maxHeartbeats 1000000 in
theorem law9_divides (p : Nat) (v u : Value) (xs ys : List Nat) (β : Bool) (w : World) (hp : FP p) (ht : Trial p) (s0 : Sl .u64 w v xs) (s1 : Sl .u64 w u ys) (hm : xs.length ≤ 1000000) (hn : ys.length ≤ 1000000) (hβ : β = true ↔ Dv (pl p xs) (pl p ys)) :
    Calls Try.prog 35 #[.agg #[.int .u64 p], v, u] w fun e w' => e = .returned (.bool β) ∧ Below w.heap.size w w' := by
  have HB := Lib.hid hβ; clear hβ
  have HT := Lib.hid ht; clear ht
  by_cases h0 : nl p xs = []
  · have H0 := Lib.hid h0; clear h0
    have hx := (nl_nil hp.pos).1 H0.out
    have hb : β = true ↔ nl p ys = [] := by
      rw [HB.out, hx, nl_nil hp.pos]
      exact ⟨Dv.of_zero, fun h => by rw [h]; exact Dv.refl _⟩
    have HB2 := Lib.hid hb
    obtain ⟨Z, eZ⟩ : ∃ Z, Z = nl p ys := ⟨_, rfl⟩
    rw [← eZ] at hb
    have EZ := Lib.hid eZ
    clear eZ hx HB2
    have HP := Lib.hid hp; clear hp
    have HBZ := Lib.hid hb; clear hb
    have fx := Fx.box (p := p) (Below.refl w.heap.size w)
    go_enter Try.func35, Try.ntmps35
    go_wp2_with fail
    generalize w.alloc (.cells #[.int .u64 p] 28) = wb at *
    obtain ⟨g, eg⟩ : ∃ g, g = w.heap.size := ⟨_, rfl⟩
    rw [← eg] at fx ⊢
    have hgw : w.heap.size ≤ g := by omega
    clear eg
    refine (fp_DivMod_no p _ _ ys xs _ HP.out (s1.next fx.below) (s0.next fx.below) hn hm H0.out).mono ?_; rintro e w2 ⟨rfl, b2⟩
    replace fx := fx.next b2
    have hcg := fx.cell
    go_wp2_with fail
    refine (fp_Degree p _ ys Z _ HP.out (s1.next fx.below) hn EZ.out).mono ?_; rintro e w3 ⟨rfl, b3⟩
    by_cases hz : Z.length = 0
    · obtain rfl : Z = [] := List.length_eq_zero_iff.mp hz
      obtain rfl : β = true := HBZ.out.2 rfl
      clear hz
      go_wp2
      go_ret
      exact ⟨rfl, fx.below.trans (b3.mono fx.below.size)⟩
    · have hb2 : β = false := by
        cases hh : β with
        | false => rfl
        | true => exact absurd (by rw [HBZ.out.1 hh]; rfl) hz
      subst hb2
      have hz1 : ¬ (Z.length : Int) - 1 < 0 := by omega
      have hz2 : decide ((Z.length : Int) - 1 < 0) = false := decide_eq_false hz1
      go_wp2
      go_ret
      exact ⟨rfl, fx.below.trans (b3.mono fx.below.size)⟩
  · have H0 := Lib.hid h0
    have hl0 : 0 < (nl p xs).length := List.length_pos_iff.2 h0
    obtain ⟨n, hn0⟩ : ∃ n, (nl p xs).length = n + 1 := ⟨(nl p xs).length - 1, by omega⟩
    have hln : Ln (pl p xs) (n + 1) := by rw [← hn0, ← nl_pl]; exact nrm_ln hp.pos (nl_nrm hp.pos xs)
    have HLN := Lib.hid hln
    have HN0 := Lib.hid hn0
    clear h0 hl0 hln hn0
    have HP := Lib.hid hp; clear hp
    have fx := Fx.box (p := p) (Below.refl w.heap.size w)
    go_enter Try.func35, Try.ntmps35
    go_wp2_with fail
    generalize w.alloc (.cells #[.int .u64 p] 28) = wb at *
    obtain ⟨g, eg⟩ : ∃ g, g = w.heap.size := ⟨_, rfl⟩
    rw [← eg] at fx ⊢
    have hgw : w.heap.size ≤ g := by omega
    clear eg
    refine (fp_DivMod p _ _ ys xs _ HP.out HT.out (s1.next fx.below) (s0.next fx.below) hn hm H0.out).mono ?_; rintro e w2 ⟨rq2, rr2, zq2, zr2, rfl, oq2, or2, mq2, mr2, vd2, ld2, lq2, lr2, b2⟩
    have hb : β = true ↔ zr2 = [] := by
      rw [HB.out, dv_rem HT.out HLN.out (dlt_mono (pl_dlt p zr2) (by rw [HN0.out] at ld2; omega)) vd2]
      exact ⟨fun h => pl_zero HP.out.pos mr2 h, fun h => by rw [h, pl_nil]⟩
    have HBZ := Lib.hid hb
    obtain ⟨ao, ba, oa, ca, rfl, -, -⟩ := or2.sl
    clear hb vd2 ld2
    by_cases hz : zr2.length = 0
    · obtain rfl : zr2 = [] := List.length_eq_zero_iff.mp hz
      obtain rfl : β = true := HBZ.out.2 rfl
      clear hz
      go_wp2
      go_ret
      exact ⟨rfl, fx.below.trans (b2.mono fx.below.size)⟩
    · have hb2 : β = false := by
        cases hh : β with
        | false => rfl
        | true => exact absurd (by rw [HBZ.out.1 hh]; rfl) hz
      subst hb2
      have hz1 : ((zr2.length : Int) == 0) = false := beq_eq_false_iff_ne.mpr (by omega)
      clear hz
      go_wp2
      go_ret
      exact ⟨rfl, fx.below.trans (b2.mono fx.below.size)⟩

end Go.Proofs.Ytjpioijlpgmlfaa
