/- Package gfp: raise, Inv; the statements' fields. -/
import Derived.Test.YthghdjpjbngllaaFld2
namespace Go.Proofs.Ythghdjpjbngllaa
open Go.RowKit

theorem law9_Of (n : Nat) (w : World) :
    Calls Try.prog 17 #[.int .u8 n] w fun e w' => e = .returned (.agg #[.int .u64 (Ps (n % 12) : Nat)]) ∧ Below w.heap.size w w' := by
  have ht := Ps_trial (k := n % 12) (by omega)
  have hl := Ps_le (n % 12)
  have hP := fun w => ref8_P n w
  obtain ⟨p, ep⟩ : ∃ p, p = Ps (n % 12) := ⟨_, rfl⟩
  rw [← ep] at ht hl hP ⊢
  have HT := Lib.hid (show Trial p ∧ p < 2147483648 from ⟨ht, by omega⟩)
  have HP := Lib.hid hP
  clear ht hl hP ep
  have ho : Own .u64 29 (w.alloc (.cells #[.int .u64 0] 29)) w.heap.size (.slice (some ⟨w.heap.size, 0, none⟩) 1 1) [0] := World.ownsRow_lit w #[.int .u64 0] 1 (Nat.le_refl _) (by unfold maxLen; omega) rfl
  have B : Below w.heap.size w (w.alloc (.cells #[.int .u64 0] 29)) := (Below.refl _ _).alloc (Nat.le_refl _) _
  go_enter Try.func17, Try.ntmps17
  go_wp2_with fail
  generalize w.alloc (.cells #[.int .u64 0] 29) = wb at *
  obtain ⟨g, eg⟩ : ∃ g, g = w.heap.size := ⟨_, rfl⟩
  rw [← eg] at ho ⊢
  have hgw : w.heap.size ≤ g := by omega
  clear eg
  refine (HP.out _).mono ?_; rintro e w' ⟨rfl, rfl⟩
  go_wp2_with fail
  refine (gfp_New p _ HT.out.1 HT.out.2).mono ?_; rintro e w' ⟨rfl, b1⟩
  have ho2 := (ho.next b1).next ((Below.refl _ _).alloc (Nat.le_refl _) (.cells #[.int .u64 (p : Int)] 29))
  have hc := ho2.cellAt 0 (by simp)
  have hf := ho2.frozenAt 0
  have hc2 := (ho2.store 0 p).1.cellAt 0 (by simp)
  replace B := ((B.trans (b1.mono B.size)).alloc (Nat.le_trans B.size b1.size) (.cells #[.int .u64 (p : Int)] 29)).setCell (p := ⟨g, 0, none⟩) hgw (.int .u64 (p : Int))
  go_wp2
  refine bodyPost_ret (v := .agg #[.int .u64 p]) ?_ rfl ⟨rfl, B⟩
  simp [results, Try.results17, go_sem, hc2]


/-- Where the loop of raise stands. -/
def RaiseRel (w wr : World) (p g n0 : Nat) (a0 : Zp p) (a n r : Nat) : Prop :=
  Box w wr g ∧ wr.cell? ⟨g, 0, none⟩ = some (.int .u64 p) ∧ n ≤ n0 ∧ n < 18446744073709551616 ∧ r < p ∧ Zp.of p r * pw (Zp.of p a) n = a0

set_option maxHeartbeats 1000000 in
theorem gfp_raise (p a n z : Nat) (w : World) (hp : FP p) (hn : n < 18446744073709551616) (hz : z = (pw (Zp.of p a) n).val) :
    Calls Try.prog 143 #[.agg #[.int .u64 p], .int .u64 a, .int .u64 n] w fun e w' => e = .returned (.int .u64 (z : Nat)) ∧ Below w.heap.size w w' := by
  have c1 := fun w => gfp_Norm p 1 w hp
  have hm : 1 % p = 1 := Nat.mod_eq_of_lt (by have := hp.1; omega)
  have h1p : 1 < p := by have := hp.1; omega
  rw [hm] at c1
  have cm := fun (x y z : Nat) (w : World) (hz : z = (Zp.of p x * Zp.of p y).val) => gfp_Mul p x y z w hp hz
  obtain ⟨a0, ea0⟩ : ∃ a0, a0 = pw (Zp.of p a) n := ⟨_, rfl⟩
  rw [← ea0] at hz
  have hst : Zp.of p 1 * pw (Zp.of p a) n = a0 := by rw [ea0, Zp.of_one, CR.one_mul]
  clear ea0
  have HST := Lib.hid hst
  have HZ := Lib.hid hz
  have C1 := Lib.hid c1
  have CM := Lib.hid cm
  have HP := Lib.hid hp
  clear c1 cm hp hm hst hz
  have B : Below w.heap.size w (w.alloc (.cells #[.int .u64 p] 29)) := (Below.refl _ _).alloc (Nat.le_refl _) _
  have hcp : (w.alloc (.cells #[.int .u64 p] 29)).cell? ⟨w.heap.size, 0, none⟩ = some (.int .u64 p) := (World.ownsRow_lit w #[.int .u64 p] 1 (Nat.le_refl _) (by unfold maxLen; omega) rfl : Own .u64 29 (w.alloc (.cells #[.int .u64 p] 29)) w.heap.size (.slice (some ⟨w.heap.size, 0, none⟩) 1 1) [p]).cellAt 0 (by simp)
  have hg : w.heap.size < (w.alloc (.cells #[.int .u64 p] 29)).heap.size := by simp
  go_enter Try.func143, Try.ntmps143
  go_wp2_with fail
  generalize w.alloc (.cells #[.int .u64 p] 29) = wb at *
  obtain ⟨g, eg⟩ : ∃ g, g = w.heap.size := ⟨_, rfl⟩
  rw [← eg] at hcp hg ⊢
  have EG := Lib.hid eg; clear eg
  refine (C1.out _).mono ?_; rintro e w1 ⟨rfl, b1⟩
  replace hcp := (b1.cell (p := ⟨g, 0, none⟩) hg).trans hcp
  have hbx : Box w w1 g := (Box.mk hg B).next b1
  clear B hg b1
  go_wp2_with fail
  go_loopw [1, 2, 7] (fun av nv rv wr => ∃ a n' r : Nat, av = .int .u64 a ∧ nv = .int .u64 n' ∧ rv = .int .u64 r ∧ RaiseRel w wr p g n a0 a n' r) (fun _ nv _ _ => (intOf nv).toNat)
  case atStart => exact ⟨a, n, 1, rfl, rfl, rfl, hbx, hcp, Nat.le_refl _, hn, h1p, HST.out⟩
  case round =>
    obtain ⟨a, m, r, rfl, rfl, rfl, hbx, hcp, hmn, hm64, hr, hval⟩ := hrel
    have HV := Lib.hid hval; clear hval
    obtain ⟨r2, er2⟩ : ∃ r2, r2 = (Zp.of p r * Zp.of p a).val := ⟨_, rfl⟩
    obtain ⟨a2, ea2⟩ : ∃ a2, a2 = (Zp.of p a * Zp.of p a).val := ⟨_, rfl⟩
    have CRR := Lib.hid (fun w => CM.out r a r2 w er2)
    have CA := Lib.hid (fun w => CM.out a a a2 w ea2)
    have fr := Zp.fact HP.out er2
    have fa := Zp.fact HP.out ea2
    have FR := Lib.hid fr
    have FA := Lib.hid fa
    clear fr fa er2 ea2
    have hm0 : (0 : Int) ≤ (m : Int) := Int.natCast_nonneg _
    by_cases h0 : m = 0
    · subst h0
      go_wp2
      go_ret
      refine ⟨?_, hbx.below⟩
      have h2 := HV.out
      have h3 : Zp.of p r = a0 := by rw [← h2]; exact (CR.mul_one _).symm
      rw [Zp.of_is HP.out hr h3, HZ.out]; rfl
    · have hmp : 0 < m := by omega
      by_cases hodd : m % 2 = 1
      · have ho : (m : Int) % 2 = 1 := by omega
        have hval : Zp.of p r2 * pw (Zp.of p a2) (m / 2) = a0 := by
          rw [FR.out.2, FA.out.2, pw_dbl, ← HV.out]
          have : m = 2 * (m / 2) + 1 := by omega
          conv => rhs; rw [this, pw_succ]
          exact by_ring [Zp.of p r, Zp.of p a, pw (Zp.of p a) (2 * (m / 2))] (X0 * X1 * X2) (X0 * (X2 * X1)) rfl
        have HV2 := Lib.hid hval; clear hval hodd
        go_wp2_with fail
        refine (CRR.out _).mono ?_; rintro e w1 ⟨rfl, b1⟩
        replace hcp := (b1.cell (p := ⟨g, 0, none⟩) hbx.lt).trans hcp
        replace hbx := hbx.next b1
        clear b1
        go_wp2_with fail
        refine (CA.out _).mono ?_; rintro e w2 ⟨rfl, b2⟩
        replace hcp := (b2.cell (p := ⟨g, 0, none⟩) hbx.lt).trans hcp
        replace hbx := hbx.next b2
        clear b2
        go_wp2
        go_roundw
        case rel => exact ⟨a2, m / 2, r2, rfl, by go_num, rfl, hbx, hcp, by omega, by omega, FR.out.1, HV2.out⟩
        case measure => simp [intOf] <;> omega
      · have ho : ((m : Int) % 2 == 1) = false := beq_eq_false_iff_ne.mpr (by omega)
        have hval : Zp.of p r * pw (Zp.of p a2) (m / 2) = a0 := by
          rw [FA.out.2, pw_dbl, ← HV.out]
          have : 2 * (m / 2) = m := by omega
          rw [this]
        have HV2 := Lib.hid hval; clear hval hodd
        go_wp2_with fail
        refine (CA.out _).mono ?_; rintro e w2 ⟨rfl, b2⟩
        replace hcp := (b2.cell (p := ⟨g, 0, none⟩) hbx.lt).trans hcp
        replace hbx := hbx.next b2
        clear b2
        go_wp2
        go_roundw
        case rel => exact ⟨a2, m / 2, r, rfl, by go_num, rfl, hbx, hcp, by omega, by omega, hr, HV2.out⟩
        case measure => simp [intOf] <;> omega

/-- The inverse of an element; 0 of 0. -/
def Zp.iv {p : Nat} (x : Zp p) : Zp p := if x.val = 0 then 0 else pw x (p - 2)

theorem Zp.iv_mul {p : Nat} (h : Trial p) {x : Zp p} (hx : x ≠ 0) : x.iv * x = 1 := by
  unfold Zp.iv
  rw [if_neg (fun h0 => hx (Zp.ext (by rw [h0, Zp.zero_val])))]
  exact Zp.inv h hx

set_option maxHeartbeats 1000000 in
theorem gfp_Inv (p a z : Nat) (w : World) (hp : FP p) (hz : z = (Zp.of p a).iv.val) :
    Calls Try.prog 118 #[.agg #[.int .u64 p], .int .u64 a] w fun e w' => e = .returned (.int .u64 (z : Nat)) ∧ Below w.heap.size w w' := by
  have h1 := hp.1
  have h2 := hp.2
  have c1 := fun w => gfp_Norm p a w hp
  have c2 := fun w => gfp_P p w hp
  have hv : (Zp.of p a).val = a % p := by rw [Zp.val_of, show p - 1 + 1 = p by omega]
  have B : Below w.heap.size w (w.alloc (.cells #[.int .u64 p] 29)) := (Below.refl _ _).alloc (Nat.le_refl _) _
  have hcp : (w.alloc (.cells #[.int .u64 p] 29)).cell? ⟨w.heap.size, 0, none⟩ = some (.int .u64 p) := (World.ownsRow_lit w #[.int .u64 p] 1 (Nat.le_refl _) (by unfold maxLen; omega) rfl : Own .u64 29 (w.alloc (.cells #[.int .u64 p] 29)) w.heap.size (.slice (some ⟨w.heap.size, 0, none⟩) 1 1) [p]).cellAt 0 (by simp)
  have hg : w.heap.size < (w.alloc (.cells #[.int .u64 p] 29)).heap.size := by simp
  by_cases h0 : a % p = 0
  · rw [h0] at c1
    have hz0 : z = 0 := by
      rw [hz]; unfold Zp.iv; rw [if_pos (by rw [hv, h0])]; exact Zp.zero_val p
    subst hz0
    have C1 := Lib.hid c1
    clear c1 c2 hv h0 hz
    go_enter Try.func118, Try.ntmps118
    go_wp2_with fail
    generalize w.alloc (.cells #[.int .u64 p] 29) = wb at *
    obtain ⟨g, eg⟩ : ∃ g, g = w.heap.size := ⟨_, rfl⟩
    rw [← eg] at hcp hg ⊢
    have EG := Lib.hid eg; clear eg
    refine (C1.out _).mono ?_; rintro e w1 ⟨rfl, b1⟩
    go_wp2
    go_ret
    exact ⟨rfl, B.trans (b1.mono B.size)⟩
  · have hz1 : z = (pw (Zp.of p a) (p - 2)).val := by
      rw [hz]; unfold Zp.iv; rw [if_neg (by rw [hv]; exact h0)]
    have c3 := fun w => gfp_raise p a (p - 2) z w hp (by omega) hz1
    obtain ⟨m, em⟩ : ∃ m, m = a % p := ⟨_, rfl⟩
    obtain ⟨q, eq⟩ : ∃ q, q = p - 2 := ⟨_, rfl⟩
    rw [← em] at c1 h0
    rw [← eq] at c3
    have s1 : IntKind.u64.wrap ((p : Int) - 2) = (q : Int) := by
      rw [show (p : Int) - 2 = ((q : Nat) : Int) by omega]; exact wrap_u64 _ (by omega)
    have hmz : ((m : Int) == 0) = false := by simpa using h0
    have C1 := Lib.hid c1
    have C2 := Lib.hid c2
    have C3 := Lib.hid c3
    have EQ := Lib.hid eq
    clear c1 c2 c3 hv h0 hz hz1 em eq
    go_enter Try.func118, Try.ntmps118
    go_wp2_with fail
    generalize w.alloc (.cells #[.int .u64 p] 29) = wb at *
    obtain ⟨g, eg⟩ : ∃ g, g = w.heap.size := ⟨_, rfl⟩
    rw [← eg] at hcp hg ⊢
    have EG := Lib.hid eg; clear eg
    refine (C1.out _).mono ?_; rintro e w1 ⟨rfl, b1⟩
    replace hcp := (b1.cell (p := ⟨g, 0, none⟩) hg).trans hcp
    have hbx : Box w w1 g := (Box.mk hg B).next b1
    clear B hg b1
    go_upto_region 3 with (fail)
    go_cut [4] (fun v wx => v = .int .u64 (z : Nat) ∧ Below w.heap.size w wx)
    case first =>
      have hbox : Box w w1.drew g := hbx.drew 1
      go_region_held3 (fun w' => w'.cell? ⟨g, 0, none⟩ = some (.int .u64 (p : Int)) ∧ Box w w' g) (first | (exact ⟨hcp, hbox⟩) | (go_split_ands; refine ⟨(bn.cell (p := ⟨g, 0, none⟩) (Box.lt (by assumption))).trans (by assumption), Box.next (by assumption) bn⟩))
        ((first
          | (go_at_call 130; refine (C2.out _).mono ?_; rintro e wn ⟨rfl, bn⟩)
          | (go_at_call 143; refine (C3.out _).mono ?_; rintro e wn ⟨rfl, bn⟩)))
      all_goals (go_wp2_with fail; go_meet)
      all_goals (rename_i hh; exact ⟨rfl, hh.2.below⟩)
    case rest =>
      obtain ⟨rfl, b⟩ := hcut
      go_wp2
      go_ret
      exact ⟨rfl, b⟩

end Go.Proofs.Ythghdjpjbngllaa
