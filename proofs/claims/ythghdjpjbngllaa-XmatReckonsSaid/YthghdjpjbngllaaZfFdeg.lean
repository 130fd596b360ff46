/- Plain algebra: degrees of polynomials over the numbers mod a prime; division; divisors; the greatest common divisor. -/
import Derived.Test.YthghdjpjbngllaaZfPol
import Derived.Test.YthghdjpjbngllaaZfFermat
namespace Go.Proofs.Ythghdjpjbngllaa
open CR

/-- The length of a polynomial: one more than its degree, 0 of 0. -/
def Ln {R : Type} [CR R] (f : Pol R) (n : Nat) : Prop := f.dlt n ∧ ∀ m, n = m + 1 → f.c m ≠ 0

section
variable {R : Type} [CR R]

theorem dlt_zero (n : Nat) : (0 : Pol R).dlt n := fun _ _ => rfl
theorem dlt_sub {f g : Pol R} {n : Nat} (hf : f.dlt n) (hg : g.dlt n) : (f - g).dlt n := fun i hi => by rw [Pol.c_sub, hf i hi, hg i hi, sub_zero]
theorem dlt_nil {f : Pol R} (h : f.dlt 0) : f = 0 := Pol.ext fun i => h i (Nat.zero_le _)

theorem mul_dlt' {f g : Pol R} {a b : Nat} (hf : f.dlt (a + 1)) (hg : g.dlt (b + 1)) : (f * g).dlt (a + b + 1) := by
  intro n hn
  rw [Pol.c_mul]
  refine sm_zero' fun j hj => ?_
  by_cases h : a + 1 ≤ j
  · rw [hf j h, zero_mul]
  · rw [hg (n - j) (by omega), mul_zero]

theorem mul_top {f g : Pol R} {a b : Nat} (hf : f.dlt (a + 1)) (hg : g.dlt (b + 1)) : (f * g).c (a + b) = f.c a * g.c b := by
  rw [Pol.c_mul, sm_one (k := a) (by omega) (fun i hi hne => ?_), show a + b - a = b by omega]
  by_cases h : a + 1 ≤ i
  · rw [hf i h, zero_mul]
  · rw [hg (a + b - i) (by omega), mul_zero]

theorem Ln.exists (f : Pol R) : ∃ n, Ln f n := by
  obtain ⟨n, hn⟩ := f.fin
  have hd : f.dlt n := hn
  clear hn
  induction n with
  | zero => exact ⟨0, hd, fun m hm => by omega⟩
  | succ n ih =>
    by_cases h : f.c n = 0
    · exact ih fun i hi => by
        by_cases e : i = n
        · rw [e]; exact h
        · exact hd i (by omega)
    · exact ⟨n + 1, hd, fun m hm => by obtain rfl : m = n := by omega
                                       exact h⟩

theorem Ln.le {f : Pol R} {n m : Nat} (h : Ln f n) (hd : f.dlt m) : n ≤ m := by
  rcases Nat.lt_or_ge m n with hl | hl
  · exact absurd (hd (n - 1) (by omega)) (h.2 (n - 1) (by omega))
  · exact hl

theorem Ln.nil {f : Pol R} (h : Ln f 0) : f = 0 := dlt_nil h.1
theorem Ln.ne {f : Pol R} {n : Nat} (h : Ln f (n + 1)) : f ≠ 0 := fun e => h.2 n rfl (by rw [e]; rfl)

end

section
variable {p : Nat}

theorem Zp.one_ne (ht : Trial p) : (1 : Zp p) ≠ 0 := fun h => by
  have h1 := congrArg Zp.val h
  rw [Zp.zero_val, ← Zp.of_one, Zp.val_of] at h1
  have := trial_gt ht
  rw [Nat.mod_eq_of_lt (by omega)] at h1
  omega

theorem Ln.mul (ht : Trial p) {f g : Pol (Zp p)} {m n : Nat} (hf : Ln f (m + 1)) (hg : Ln g (n + 1)) : Ln (f * g) (m + n + 1) :=
  ⟨mul_dlt' hf.1 hg.1, fun k hk => by
    obtain rfl : k = m + n := by omega
    rw [mul_top hf.1 hg.1]
    intro h
    rcases Zp.no_zero ht h with h | h
    · exact hf.2 m rfl h
    · exact hg.2 n rfl h⟩

theorem no_zero (ht : Trial p) {f g : Pol (Zp p)} (h : f * g = 0) : f = 0 ∨ g = 0 := by
  obtain ⟨m, hm⟩ := Ln.exists f
  obtain ⟨n, hn⟩ := Ln.exists g
  cases m with
  | zero => exact Or.inl hm.nil
  | succ m =>
    cases n with
    | zero => exact Or.inr hn.nil
    | succ n => exact absurd h (hm.mul ht hn).ne

/-- Quotient and rest are the only ones. -/
theorem div_unique (ht : Trial p) {b q q' r r' : Pol (Zp p)} {n : Nat} (hb : Ln b (n + 1)) (hr : r.dlt n) (hr' : r'.dlt n) (h : q * b + r = q' * b + r') : q = q' ∧ r = r' := by
  have e : (q - q') * b = r' - r := by
    have h1 : (q - q') * b = (q * b + r) - (q' * b + r) := by_ring [q, q', b, r] ((X0 - X1) * X2) (X0 * X2 + X3 - (X1 * X2 + X3)) rfl
    rw [h1, h]
    exact by_ring [q', b, r, r'] (X0 * X1 + X3 - (X0 * X1 + X2)) (X3 - X2) rfl
  have hq : q - q' = 0 := by
    obtain ⟨m, hm⟩ := Ln.exists (q - q')
    cases m with
    | zero => exact hm.nil
    | succ m =>
      have h1 := hm.mul ht hb
      rw [e] at h1
      have := h1.le (dlt_sub hr' hr)
      omega
  refine ⟨sub_eq_zero hq, ?_⟩
  rw [hq, zero_mul] at e
  exact (sub_eq_zero e.symm).symm

theorem nrm_ln {xs : List Nat} (hp : 0 < p) (h : Nrm p xs) : Ln (pl p xs) xs.length :=
  ⟨pl_dlt p xs, fun m hm hc => by
    have : xs.length ≤ m := pl_len hp h fun i hi => by
      by_cases e : i = m
      · rw [e]; exact hc
      · exact pl_dlt p xs i (by omega)
    omega⟩

end
end Go.Proofs.Ythghdjpjbngllaa
