/- Plain algebra: degrees of polynomials over the numbers mod a prime; division; divisors; the greatest common divisor. -/
import Derived.Test.YthghdjpjbngllaaFermat
import Derived.Test.YthghdjpjbngllaaPol
namespace Go.Proofs.Ythghdjpjbngllaa
open CR

/-- The length of a polynomial: one more than its degree, 0 of 0. -/
def Ln {R : Type} [CR R] (f : Pol R) (n : Nat) : Prop := f.dlt n ∧ ∀ m, n = m + 1 → f.c m ≠ 0

section
variable {R : Type} [CR R]

theorem dlt_mono {f : Pol R} {m n : Nat} (h : f.dlt m) (hn : m ≤ n) : f.dlt n := fun i hi => h i (by omega)
theorem dlt_zero (n : Nat) : (0 : Pol R).dlt n := fun _ _ => rfl
theorem dlt_add {f g : Pol R} {n : Nat} (hf : f.dlt n) (hg : g.dlt n) : (f + g).dlt n := fun i hi => by rw [Pol.c_add, hf i hi, hg i hi, add_zero]
theorem dlt_neg {f : Pol R} {n : Nat} (hf : f.dlt n) : (-f).dlt n := fun i hi => by rw [Pol.c_neg, hf i hi, neg_zero]
theorem dlt_sub {f g : Pol R} {n : Nat} (hf : f.dlt n) (hg : g.dlt n) : (f - g).dlt n := fun i hi => by rw [Pol.c_sub, hf i hi, hg i hi, sub_zero]
theorem dlt_nil {f : Pol R} (h : f.dlt 0) : f = 0 := Pol.ext fun i => h i (Nat.zero_le _)

theorem mul_dlt' {f g : Pol R} {a b : Nat} (hf : f.dlt (a + 1)) (hg : g.dlt (b + 1)) : (f * g).dlt (a + b + 1) := by
  intro n hn
  rw [Pol.c_mul]
  refine sm_zero' fun j hj => ?_
  by_cases h : a + 1 ≤ j
  · rw [hf j h, zero_mul]
  · rw [hg (n - j) (by omega), mul_zero]

theorem mul_top {f g : Pol R} {a b : Nat} (hf : f.dlt (a + 1)) (hg : g.dlt (b + 1)) : (f * g).c (a + b) = f.c a * g.c b := by
  rw [Pol.c_mul, sm_one (k := a) (by omega) (fun i hi hne => ?_), show a + b - a = b by omega]
  by_cases h : a + 1 ≤ i
  · rw [hf i h, zero_mul]
  · rw [hg (a + b - i) (by omega), mul_zero]

theorem Ln.exists (f : Pol R) : ∃ n, Ln f n := by
  obtain ⟨n, hn⟩ := f.fin
  have hd : f.dlt n := hn
  clear hn
  induction n with
  | zero => exact ⟨0, hd, fun m hm => by omega⟩
  | succ n ih =>
    by_cases h : f.c n = 0
    · exact ih fun i hi => by
        by_cases e : i = n
        · rw [e]; exact h
        · exact hd i (by omega)
    · exact ⟨n + 1, hd, fun m hm => by obtain rfl : m = n := by omega
                                       exact h⟩

theorem Ln.le {f : Pol R} {n m : Nat} (h : Ln f n) (hd : f.dlt m) : n ≤ m := by
  rcases Nat.lt_or_ge m n with hl | hl
  · exact absurd (hd (n - 1) (by omega)) (h.2 (n - 1) (by omega))
  · exact hl

theorem Ln.unique {f : Pol R} {n m : Nat} (h : Ln f n) (k : Ln f m) : n = m := Nat.le_antisymm (h.le k.1) (k.le h.1)
theorem Ln.zero : Ln (0 : Pol R) 0 := ⟨dlt_zero 0, fun m hm => by omega⟩
theorem Ln.nil {f : Pol R} (h : Ln f 0) : f = 0 := dlt_nil h.1
theorem Ln.pos {f : Pol R} {n : Nat} (h : Ln f n) (h0 : f ≠ 0) : ∃ m, n = m + 1 := by
  cases n with
  | zero => exact absurd h.nil h0
  | succ m => exact ⟨m, rfl⟩
theorem Ln.ne {f : Pol R} {n : Nat} (h : Ln f (n + 1)) : f ≠ 0 := fun e => h.2 n rfl (by rw [e]; rfl)

def Dv (a b : Pol R) : Prop := ∃ c, b = a * c

theorem Dv.refl (a : Pol R) : Dv a a := ⟨1, (mul_one a).symm⟩
theorem Dv.zero (a : Pol R) : Dv a 0 := ⟨0, (mul_zero a).symm⟩
theorem Dv.trans {a b c : Pol R} (h : Dv a b) (k : Dv b c) : Dv a c := by
  obtain ⟨x, rfl⟩ := h; obtain ⟨y, rfl⟩ := k; exact ⟨x * y, mul_assoc _ _ _⟩
theorem Dv.mul {a b : Pol R} (h : Dv a b) (c : Pol R) : Dv a (c * b) := by
  obtain ⟨x, rfl⟩ := h; exact ⟨c * x, mul_left_comm _ _ _⟩
theorem Dv.mul' {a b : Pol R} (h : Dv a b) (c : Pol R) : Dv a (b * c) := by rw [mul_comm]; exact h.mul c
theorem Dv.add {a b c : Pol R} (h : Dv a b) (k : Dv a c) : Dv a (b + c) := by
  obtain ⟨x, rfl⟩ := h; obtain ⟨y, rfl⟩ := k; exact ⟨x + y, (mul_add _ _ _).symm⟩
theorem Dv.neg {a b : Pol R} (h : Dv a b) : Dv a (-b) := by
  obtain ⟨x, rfl⟩ := h; exact ⟨-x, (mul_neg _ _).symm⟩
theorem Dv.sub {a b c : Pol R} (h : Dv a b) (k : Dv a c) : Dv a (b - c) := by rw [sub_eq]; exact h.add k.neg
theorem Dv.of_zero {b : Pol R} (h : Dv 0 b) : b = 0 := by obtain ⟨x, rfl⟩ := h; exact zero_mul x

end

section
variable {p : Nat}

theorem Zp.one_ne (ht : Trial p) : (1 : Zp p) ≠ 0 := fun h => by
  have h1 := congrArg Zp.val h
  rw [Zp.zero_val, ← Zp.of_one, Zp.val_of] at h1
  have := trial_gt ht
  rw [Nat.mod_eq_of_lt (by omega)] at h1
  omega

theorem Ln.mul (ht : Trial p) {f g : Pol (Zp p)} {m n : Nat} (hf : Ln f (m + 1)) (hg : Ln g (n + 1)) : Ln (f * g) (m + n + 1) :=
  ⟨mul_dlt' hf.1 hg.1, fun k hk => by
    obtain rfl : k = m + n := by omega
    rw [mul_top hf.1 hg.1]
    intro h
    rcases Zp.no_zero ht h with h | h
    · exact hf.2 m rfl h
    · exact hg.2 n rfl h⟩

theorem no_zero (ht : Trial p) {f g : Pol (Zp p)} (h : f * g = 0) : f = 0 ∨ g = 0 := by
  obtain ⟨m, hm⟩ := Ln.exists f
  obtain ⟨n, hn⟩ := Ln.exists g
  cases m with
  | zero => exact Or.inl hm.nil
  | succ m =>
    cases n with
    | zero => exact Or.inr hn.nil
    | succ n => exact absurd h (hm.mul ht hn).ne

theorem mul_ne (ht : Trial p) {f g : Pol (Zp p)} (hf : f ≠ 0) (hg : g ≠ 0) : f * g ≠ 0 := fun h => (no_zero ht h).elim hf hg

theorem mul_cancel (ht : Trial p) {f g h : Pol (Zp p)} (hf : f ≠ 0) (e : f * g = f * h) : g = h := by
  refine sub_eq_zero ((no_zero ht (f := f) ?_).resolve_left hf)
  rw [sub_eq, mul_add, mul_neg, e, add_neg]

/-- Quotient and rest are the only ones. -/
theorem div_unique (ht : Trial p) {b q q' r r' : Pol (Zp p)} {n : Nat} (hb : Ln b (n + 1)) (hr : r.dlt n) (hr' : r'.dlt n) (h : q * b + r = q' * b + r') : q = q' ∧ r = r' := by
  have e : (q - q') * b = r' - r := by
    have h1 : (q - q') * b = (q * b + r) - (q' * b + r) := by_ring [q, q', b, r] ((X0 - X1) * X2) (X0 * X2 + X3 - (X1 * X2 + X3)) rfl
    rw [h1, h]
    exact by_ring [q', b, r, r'] (X0 * X1 + X3 - (X0 * X1 + X2)) (X3 - X2) rfl
  have hq : q - q' = 0 := by
    obtain ⟨m, hm⟩ := Ln.exists (q - q')
    cases m with
    | zero => exact hm.nil
    | succ m =>
      have h1 := hm.mul ht hb
      rw [e] at h1
      have := h1.le (dlt_sub hr' hr)
      omega
  refine ⟨sub_eq_zero hq, ?_⟩
  rw [hq, zero_mul] at e
  exact (sub_eq_zero e.symm).symm

theorem Dv.len (ht : Trial p) {a b : Pol (Zp p)} {m n : Nat} (h : Dv a b) (hb : b ≠ 0) (ha : Ln a m) (hl : Ln b n) : m ≤ n := by
  obtain ⟨c, rfl⟩ := h
  obtain ⟨k, hk⟩ := Ln.exists c
  cases m with
  | zero => exact Nat.zero_le _
  | succ m =>
    cases k with
    | zero => exact absurd (by rw [hk.nil, mul_zero]) hb
    | succ k => have := (ha.mul ht hk).unique hl; omega

/-- 0, or with 1 as the greatest element. -/
def Mo {R : Type} [CR R] (f : Pol R) : Prop := f = 0 ∨ ∃ n, f.dlt (n + 1) ∧ f.c n = 1

theorem Mo.ln (ht : Trial p) {f : Pol (Zp p)} {n : Nat} (hd : f.dlt (n + 1)) (h1 : f.c n = 1) : Ln f (n + 1) :=
  ⟨hd, fun m hm => by obtain rfl : m = n := by omega
                      rw [h1]; exact Zp.one_ne ht⟩

theorem Mo.unique (ht : Trial p) {g g' : Pol (Zp p)} (h : Mo g) (h' : Mo g') (d : Dv g g') (d' : Dv g' g) : g = g' := by
  rcases h with rfl | ⟨n, hd, h1⟩
  · exact d.of_zero.symm
  · rcases h' with rfl | ⟨n', hd', h1'⟩
    · exact d'.of_zero
    · have l := Mo.ln ht hd h1
      have l' := Mo.ln ht hd' h1'
      have a := d.len ht l'.ne l l'
      have b := d'.len ht l.ne l' l
      obtain rfl : n = n' := by omega
      obtain ⟨c, rfl⟩ := d
      obtain ⟨k, hk⟩ := Ln.exists c
      have hc0 : c ≠ 0 := fun e => l'.ne (by rw [e, mul_zero])
      obtain ⟨m, rfl⟩ := hk.pos hc0
      have hu := (l.mul ht hk).unique l'
      obtain rfl : m = 0 := by omega
      have h2 := mul_top hd hk.1
      rw [Nat.add_zero, h1', h1, one_mul] at h2
      have : c = 1 := Pol.ext fun i => by
        rw [Pol.one_def, c_mon]
        by_cases hi : i = 0
        · rw [if_pos hi, hi, ← h2]
        · rw [if_neg hi]; exact hk.1 i (by omega)
      rw [this, mul_one]

/-- The greatest common divisor of two polynomials. -/
def IsGcd (g f h : Pol (Zp p)) : Prop := Mo g ∧ Dv g f ∧ Dv g h ∧ ∃ s t, g = s * f + t * h

theorem IsGcd.dv {g f h d : Pol (Zp p)} (k : IsGcd g f h) (hf : Dv d f) (hh : Dv d h) : Dv d g := by
  obtain ⟨s, t, rfl⟩ := k.2.2.2
  exact (hf.mul s).add (hh.mul t)

theorem IsGcd.unique (ht : Trial p) {g g' f h : Pol (Zp p)} (k : IsGcd g f h) (k' : IsGcd g' f h) : g = g' :=
  Mo.unique ht k.1 k'.1 (k'.dv k.2.1 k.2.2.1) (k.dv k'.2.1 k'.2.2.1)

theorem nrm_ln {xs : List Nat} (hp : 0 < p) (h : Nrm p xs) : Ln (pl p xs) xs.length :=
  ⟨pl_dlt p xs, fun m hm hc => by
    have : xs.length ≤ m := pl_len hp h fun i hi => by
      by_cases e : i = m
      · rw [e]; exact hc
      · exact pl_dlt p xs i (by omega)
    omega⟩

theorem nrm_mo {xs : List Nat} (ht : Trial p) (h : Nrm p xs) : Mo (pl p xs) ↔ (xs = [] ∨ xs.getD (xs.length - 1) 0 = 1) := by
  have hp := trial_gt ht
  constructor
  · rintro (h0 | ⟨n, hd, h1⟩)
    · exact Or.inl (pl_zero (by omega) h h0)
    · right
      have hl := (nrm_ln (by omega) h).unique (Mo.ln ht hd h1)
      rw [hl, Nat.add_sub_cancel]
      rw [pl_c] at h1
      exact Zp.of_inj (wf_getD h.1 (by omega) n) (by omega) h1
  · rintro (h0 | h1)
    · exact Or.inl (by rw [h0, pl_nil])
    · by_cases h0 : xs = []
      · exact Or.inl (by rw [h0, pl_nil])
      · right
        have hl := List.length_pos_iff.2 h0
        exact ⟨xs.length - 1, by rw [Nat.sub_add_cancel hl]; exact pl_dlt p xs, by rw [pl_c, h1]; rfl⟩

/-- A polynomial times the inverse of its greatest element is monic. -/
theorem mo_scale {f : Pol (Zp p)} {n : Nat} {u : Zp p} (hf : Ln f (n + 1)) (hu : u * f.c n = 1) : Mo (f * mon u 0) := by
  right
  refine ⟨n, ?_, ?_⟩
  · have := mul_dlt' (f := f) (g := mon u 0) (a := n) (b := 0) hf.1 (fun i hi => by rw [c_mon, if_neg (by omega)])
    rwa [Nat.add_zero] at this
  · have := mul_top (f := f) (g := mon u 0) (a := n) (b := 0) hf.1 (fun i hi => by rw [c_mon, if_neg (by omega)])
    rw [Nat.add_zero] at this
    rw [this, c_mon, if_pos rfl, mul_comm, hu]

theorem dv_scale {f : Pol (Zp p)} {u v : Zp p} (h : u * v = 1) : Dv (f * mon u 0) f :=
  ⟨mon v 0, by rw [mul_assoc, mon_mul, h, Nat.add_zero, ← Pol.one_def, mul_one]⟩

end
end Go.Proofs.Ythghdjpjbngllaa
