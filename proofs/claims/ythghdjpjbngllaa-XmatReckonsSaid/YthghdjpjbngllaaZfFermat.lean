/- Plain algebra: primes, and inverses by a prime. -/
import Derived.Test.YthghdjpjbngllaaZfZp
namespace Go.Proofs.Ythghdjpjbngllaa
open CR

/-- What trial division shows. -/
def Trial (p : Nat) : Prop := p = 2 ∨ (p % 2 = 1 ∧ 2 < p ∧ ∀ d, d % 2 = 1 → 3 ≤ d → d * d ≤ p → p % d ≠ 0)

def trialFrom (p : Nat) : Nat → Nat → Bool
  | 0, k => decide (p < (2 * k + 3) * (2 * k + 3)) || decide (p % (2 * k + 3) ≠ 0)
  | l + 1, k => trialFrom p l k && trialFrom p l (k + 2 ^ l)

theorem trialFrom_spec (p : Nat) : ∀ l k, trialFrom p l k = true → ∀ j, k ≤ j → j < k + 2 ^ l → (2 * j + 3) * (2 * j + 3) ≤ p → p % (2 * j + 3) ≠ 0
  | 0, k => by
    intro h j h1 h2 h3
    obtain rfl : j = k := by simp at h2; omega
    simp [trialFrom] at h
    rcases h with h | h
    · omega
    · exact h
  | l + 1, k => by
    intro h j h1 h2 h3
    simp only [trialFrom, Bool.and_eq_true] at h
    by_cases hj : j < k + 2 ^ l
    · exact trialFrom_spec p l k h.1 j h1 hj h3
    · exact trialFrom_spec p l (k + 2 ^ l) h.2 j (by omega) (by rw [Nat.pow_succ] at h2; omega) h3

theorem trial_of {p l : Nat} (h : (decide (p % 2 = 1 ∧ 2 < p ∧ p < (2 * 2 ^ l + 3) * (2 * 2 ^ l + 3)) && trialFrom p l 0) = true) : Trial p := by
  rw [Bool.and_eq_true] at h
  obtain ⟨h1, h2⟩ := h
  obtain ⟨a, b, c⟩ := of_decide_eq_true h1
  refine Or.inr ⟨a, b, fun d hd h3 hs => ?_⟩
  obtain ⟨j, rfl⟩ : ∃ j, d = 2 * j + 3 := ⟨(d - 3) / 2, by omega⟩
  have hj : j < 2 ^ l := by
    rcases Nat.lt_or_ge j (2 ^ l) with h | h
    · exact h
    · exfalso
      have : (2 * 2 ^ l + 3) * (2 * 2 ^ l + 3) ≤ (2 * j + 3) * (2 * j + 3) := Nat.mul_le_mul (by omega) (by omega)
      omega
  exact trialFrom_spec p l 0 h2 j (by omega) (by omega) hs

theorem trial_div {p d : Nat} (h : Trial p) (hd : d ∣ p) : d = 1 ∨ d = p := by
  have key : ∀ d, Trial p → d ∣ p → d * d ≤ p → d = 1 ∨ d = p := by
    intro d h hd hs
    rcases h with rfl | ⟨h1, h2, h3⟩
    · have : d ≤ 2 := Nat.le_of_dvd (by decide) hd
      rcases (show d = 0 ∨ d = 1 ∨ d = 2 by omega) with rfl | rfl | rfl
      · simp at hd
      · exact Or.inl rfl
      · exact Or.inr rfl
    · by_cases hd1 : d = 1
      · exact Or.inl hd1
      · exfalso
        obtain ⟨c, hc⟩ := hd
        have hodd : d % 2 = 1 := by
          rcases (show d % 2 = 0 ∨ d % 2 = 1 by omega) with h | h
          · exfalso; rw [hc, Nat.mul_mod, h] at h1; simp at h1
          · exact h
        exact h3 d hodd (by omega) hs (by rw [hc]; exact Nat.mul_mod_right _ _)
  have hp : 0 < p := by rcases h with rfl | ⟨_, h2, _⟩ <;> omega
  obtain ⟨c, hc⟩ := hd
  by_cases hs : d * d ≤ p
  · exact key d h ⟨c, hc⟩ hs
  · have hcd : c < d := by
      rcases Nat.lt_or_ge c d with h | h
      · exact h
      · exfalso; apply hs; rw [hc]; exact Nat.mul_le_mul_left _ h
    have hcs : c * c ≤ p := by rw [hc]; exact Nat.mul_le_mul_right _ (Nat.le_of_lt hcd)
    rcases key c h ⟨d, by rw [hc, Nat.mul_comm]⟩ hcs with rfl | h2
    · exact Or.inr (by omega)
    · have : d = 1 := by
        rw [← h2] at hc
        have : c * d = c * 1 := by rw [Nat.mul_comm, ← hc]; simp
        exact Nat.eq_of_mul_eq_mul_left (by omega) this
      exact Or.inl this

theorem trial_gt {p : Nat} (h : Trial p) : 2 ≤ p := by rcases h with rfl | ⟨_, h2, _⟩ <;> omega

theorem trial_mul {p a b : Nat} (h : Trial p) (hd : p ∣ a * b) : p ∣ a ∨ p ∣ b := by
  rcases trial_div h (Nat.gcd_dvd_left p a) with h1 | h1
  · exact Or.inr (Nat.Coprime.dvd_of_dvd_mul_left h1 hd)
  · exact Or.inl (by have := Nat.gcd_dvd_right p a; rwa [h1] at this)

/-- No two of them but 0 have the product 0. -/
theorem Zp.no_zero {p : Nat} (h : Trial p) {a b : Zp p} (hab : a * b = 0) : a = 0 ∨ b = 0 := by
  have hp := trial_gt h
  have h1 := congrArg Zp.val hab
  rw [Zp.mul_val, Zp.zero_val, show p - 1 + 1 = p by omega] at h1
  have h2 := trial_mul h (Nat.dvd_of_mod_eq_zero h1)
  have key : ∀ c : Zp p, p ∣ c.val → c = 0 := by
    intro c hc
    refine Zp.ext ?_
    rw [Zp.zero_val]
    exact Nat.eq_zero_of_dvd_of_lt hc (by have := c.lt; omega)
  exact h2.imp (key a) (key b)

/-- In how many ways k of n are taken. -/
def choose : Nat → Nat → Nat
  | _, 0 => 1
  | 0, _ + 1 => 0
  | n + 1, k + 1 => choose n k + choose n (k + 1)

theorem choose_zero (n : Nat) : choose n 0 = 1 := by cases n <;> rfl
theorem choose_gt : ∀ n k, n < k → choose n k = 0
  | 0, 0 => by omega
  | 0, k + 1 => fun _ => rfl
  | n + 1, 0 => by omega
  | n + 1, k + 1 => fun h => by simp only [choose]; rw [choose_gt n k (by omega), choose_gt n (k + 1) (by omega)]
theorem choose_self (n : Nat) : choose n n = 1 := by
  induction n with
  | zero => rfl
  | succ n ih => simp only [choose]; rw [ih, choose_gt n (n + 1) (by omega)]

theorem choose_mul : ∀ n k, (k + 1) * choose (n + 1) (k + 1) = (n + 1) * choose n k
  | 0, 0 => rfl
  | 0, k + 1 => by simp [choose]
  | n + 1, 0 => by
    have := choose_mul n 0
    simp only [choose, choose_zero] at *
    omega
  | n + 1, k + 1 => by
    have h1 := choose_mul n k
    have h2 := choose_mul n (k + 1)
    rw [show choose (n + 1 + 1) (k + 1 + 1) = choose (n + 1) (k + 1) + choose (n + 1) (k + 1 + 1) from rfl]
    rw [Nat.mul_add, h2, show k + 1 + 1 = (k + 1) + 1 from rfl, Nat.add_mul (k + 1) 1, h1]
    rw [show (n + 1 + 1) * choose (n + 1) (k + 1) = (n + 1) * choose (n + 1) (k + 1) + choose (n + 1) (k + 1) by rw [Nat.add_mul, Nat.one_mul]]
    have e2 : (n + 1) * choose (n + 1) (k + 1) = (n + 1) * choose n k + (n + 1) * choose n (k + 1) := by
      rw [show choose (n + 1) (k + 1) = choose n k + choose n (k + 1) from rfl, Nat.mul_add]
    omega

section
variable {R : Type} [CR R]

theorem pw_succ (x : R) (n : Nat) : pw x (n + 1) = pw x n * x := rfl
theorem pw_dbl (x : R) (n : Nat) : pw (x * x) n = pw x (2 * n) := by
  induction n with
  | zero => rfl
  | succ n ih => rw [pw_succ, ih, Nat.mul_succ, pw_succ, pw_succ, mul_assoc]
theorem binom (x : R) (n : Nat) : pw (x + 1) n = sm (n + 1) (fun k => nn (choose n k) * pw x k) := by
  induction n with
  | zero => simp only [sm, choose, pw, nn]; rw [mul_one, zero_add, zero_add]
  | succ n ih =>
    rw [pw_succ, ih, mul_add, mul_one, mul_comm, ← sm_mul]
    rw [sm_head (n + 1) (fun k => nn (choose (n + 1) k) * pw x k)]
    have e : sm (n + 1) (fun i => nn (choose (n + 1) (i + 1)) * pw x (i + 1)) = sm (n + 1) (fun i => x * (nn (choose n i) * pw x i)) + sm (n + 1) (fun i => nn (choose n (i + 1)) * pw x (i + 1)) := by
      rw [← sm_add]; refine sm_congr fun i _ => ?_
      rw [show choose (n + 1) (i + 1) = choose n i + choose n (i + 1) from rfl, nn_add, pw_succ]
      exact by_ring [nn (choose n i), nn (choose n (i + 1)), pw x i, x] ((X0 + X1) * (X2 * X3)) (X3 * (X0 * X2) + X1 * (X2 * X3)) rfl
    rw [e]
    have e2 : sm (n + 1) (fun k => nn (choose n k) * pw x k) = nn (choose (n + 1) 0) * pw x 0 + sm (n + 1) (fun i => nn (choose n (i + 1)) * pw x (i + 1)) := by
      rw [sm_head n]
      show _ = _ + (sm n (fun i => nn (choose n (i + 1)) * pw x (i + 1)) + nn (choose n (n + 1)) * pw x (n + 1))
      rw [choose_gt n (n + 1) (by omega), choose_zero, choose_zero]
      simp only [nn]; rw [zero_mul, add_zero]
    rw [e2, add_left_comm]

/-- Where p ones are 0, and p is prime, powers by p go with sums. -/
theorem frobenius {p : Nat} (h : Trial p) (hp : (nn p : R) = 0) (x : R) : pw (x + 1) p = pw x p + 1 := by
  have h2 := trial_gt h
  obtain ⟨q, rfl⟩ : ∃ q, p = q + 1 := ⟨p - 1, by omega⟩
  rw [binom, show q + 1 + 1 = (q + 1) + 1 from rfl]
  show sm (q + 1) _ + nn (choose (q + 1) (q + 1)) * pw x (q + 1) = _
  rw [choose_self, sm_head, choose_zero]
  have hz : sm q (fun i => nn (choose (q + 1) (i + 1)) * pw x (i + 1)) = (0 : R) := by
    refine sm_zero' fun i hi => ?_
    have hd : (q + 1) ∣ choose (q + 1) (i + 1) := by
      have h3 := choose_mul q i
      rcases trial_mul h (show (q + 1) ∣ (i + 1) * choose (q + 1) (i + 1) from ⟨_, h3⟩) with h4 | h4
      · have := Nat.le_of_dvd (by omega) h4; omega
      · exact h4
    obtain ⟨c, hc⟩ := hd
    rw [hc, nn_mul, hp, zero_mul, zero_mul]
  rw [hz]
  simp only [nn]
  show (0 + 1) * (1 : R) + 0 + (0 + 1) * pw x (q + 1) = _
  rw [zero_add, one_mul, one_mul, add_zero, add_comm]
end

theorem Zp.nn_self (p : Nat) (h : 0 < p) : (nn p : Zp p) = 0 := by rw [Zp.nn_of, Zp.of_eq_zero h, Nat.mod_self]

theorem Zp.fermat {p : Nat} (h : Trial p) (a : Zp p) : pw a p = a := by
  have hp := trial_gt h
  have key : ∀ n, pw (nn n : Zp p) p = nn n := by
    intro n
    induction n with
    | zero =>
      obtain ⟨q, rfl⟩ : ∃ q, p = q + 1 := ⟨p - 1, by omega⟩
      show pw 0 q * 0 = 0; rw [mul_zero]
    | succ n ih => show pw (nn n + 1) p = nn n + 1; rw [frobenius h (Zp.nn_self p (by omega)), ih]
  rw [← Zp.of_val a, ← Zp.nn_of, key]

/-- The inverse of what is not 0. -/
theorem Zp.inv {p : Nat} (h : Trial p) {a : Zp p} (ha : a ≠ 0) : pw a (p - 2) * a = 1 := by
  have hp := trial_gt h
  have h1 := Zp.fermat h a
  have h2 : pw a p = pw a (p - 2) * a * a := by
    have key : ∀ m, m = p - 2 + 1 + 1 → pw a m = pw a (p - 2) * a * a := by rintro m rfl; rfl
    exact key p (by omega)
  rw [h2] at h1
  have h3 : (pw a (p - 2) * a - 1) * a = 0 := by
    have : (pw a (p - 2) * a - 1) * a = pw a (p - 2) * a * a - a := by_ring [pw a (p - 2), a] ((X0 * X1 - 1) * X1) (X0 * X1 * X1 - X1) rfl
    rw [this, h1, sub_self]
  rcases Zp.no_zero h h3 with h4 | h4
  · exact sub_eq_zero h4
  · exact absurd h4 ha

end Go.Proofs.Ythghdjpjbngllaa
