/- Plain algebra: polynomials over a commutative ring. -/
import Derived.Test.YthghdjpjbngllaaZfAlg
namespace Go.Proofs.Ythghdjpjbngllaa
open CR

/-- A polynomial: its elements, all but finitely many of them 0. -/
structure Pol (R : Type) [CR R] where
  c : Nat → R
  fin : ∃ n, ∀ i, n ≤ i → c i = 0

section
variable {R : Type} [CR R]

theorem Pol.ext {f g : Pol R} (h : ∀ i, f.c i = g.c i) : f = g := by
  obtain ⟨c, hf⟩ := f; obtain ⟨d, hg⟩ := g
  obtain rfl : c = d := funext h
  rfl

def Pol.zero : Pol R := ⟨fun _ => 0, 0, fun _ _ => rfl⟩
def mon (a : R) (k : Nat) : Pol R := ⟨fun i => if i = k then a else 0, k + 1, fun i h => if_neg (by omega)⟩
def Pol.add (f g : Pol R) : Pol R := ⟨fun i => f.c i + g.c i, by
  obtain ⟨n, hn⟩ := f.fin; obtain ⟨m, hm⟩ := g.fin
  exact ⟨n + m, fun i h => by rw [hn i (by omega), hm i (by omega), zero_add]⟩⟩
def Pol.neg (f : Pol R) : Pol R := ⟨fun i => -f.c i, by
  obtain ⟨n, hn⟩ := f.fin
  exact ⟨n, fun i h => by rw [hn i h, neg_zero]⟩⟩
def Pol.mul (f g : Pol R) : Pol R := ⟨fun n => sm (n + 1) (fun i => f.c i * g.c (n - i)), by
  obtain ⟨n, hn⟩ := f.fin; obtain ⟨m, hm⟩ := g.fin
  refine ⟨n + m, fun k hk => sm_zero' fun i hi => ?_⟩
  by_cases h : n ≤ i
  · rw [hn i h, zero_mul]
  · rw [hm (k - i) (by omega), mul_zero]⟩

instance : Zero (Pol R) := ⟨Pol.zero⟩
instance : One (Pol R) := ⟨mon 1 0⟩
instance : Add (Pol R) := ⟨Pol.add⟩
instance : Neg (Pol R) := ⟨Pol.neg⟩
instance : Mul (Pol R) := ⟨Pol.mul⟩
instance : Sub (Pol R) := ⟨fun f g => f + -g⟩

theorem Pol.c_zero (i : Nat) : (0 : Pol R).c i = 0 := rfl
theorem Pol.c_add (f g : Pol R) (i : Nat) : (f + g).c i = f.c i + g.c i := rfl
theorem Pol.c_neg (f : Pol R) (i : Nat) : (-f).c i = -f.c i := rfl
theorem Pol.c_sub (f g : Pol R) (i : Nat) : (f - g).c i = f.c i - g.c i := by rw [sub_eq]; rfl
theorem Pol.c_mul (f g : Pol R) (n : Nat) : (f * g).c n = sm (n + 1) (fun i => f.c i * g.c (n - i)) := rfl
theorem c_mon (a : R) (k i : Nat) : (mon a k).c i = if i = k then a else 0 := rfl
theorem Pol.one_def : (1 : Pol R) = mon 1 0 := rfl

theorem Pol.add_assoc' (f g h : Pol R) : f + g + h = f + (g + h) := Pol.ext fun i => by simp only [Pol.c_add]; rw [add_assoc]
theorem Pol.add_comm' (f g : Pol R) : f + g = g + f := Pol.ext fun i => by simp only [Pol.c_add]; rw [add_comm]
theorem Pol.zero_add' (f : Pol R) : 0 + f = f := Pol.ext fun i => by rw [Pol.c_add, Pol.c_zero, zero_add]
theorem Pol.mul_add' (f g h : Pol R) : f * (g + h) = f * g + f * h := Pol.ext fun n => by
  rw [Pol.c_add]; simp only [Pol.c_mul]; rw [← sm_add]; exact sm_congr fun i _ => by rw [Pol.c_add, mul_add]
theorem Pol.mul_comm' (f g : Pol R) : f * g = g * f := Pol.ext fun n => by
  simp only [Pol.c_mul]
  rw [← sm_rev (n + 1) (fun i => f.c i * g.c (n - i))]
  exact sm_congr fun i hi => by
    show f.c (n + 1 - 1 - i) * g.c (n - (n + 1 - 1 - i)) = _
    rw [show n - (n + 1 - 1 - i) = i by omega, show n + 1 - 1 - i = n - i by omega, mul_comm]
theorem Pol.add_mul' (f g h : Pol R) : (f + g) * h = f * h + g * h := by rw [Pol.mul_comm', Pol.mul_add', Pol.mul_comm' h, Pol.mul_comm' h]
theorem Pol.mul_zero' (f : Pol R) : f * 0 = 0 := Pol.ext fun n => by
  rw [Pol.c_mul, Pol.c_zero]; exact sm_zero' fun i _ => by rw [Pol.c_zero, mul_zero]
theorem Pol.zero_mul' (f : Pol R) : 0 * f = 0 := by rw [Pol.mul_comm', Pol.mul_zero']

theorem mon_mul (a b : R) (k l : Nat) : mon a k * mon b l = mon (a * b) (k + l) := Pol.ext fun n => by
  rw [Pol.c_mul]
  simp only [c_mon]
  by_cases h : n = k + l
  · rw [if_pos h, sm_one (k := k) (by omega) (fun i _ hi => by rw [if_neg hi, zero_mul]), if_pos rfl, if_pos (by omega)]
  · rw [if_neg h]
    refine sm_zero' fun i hi => ?_
    by_cases h1 : i = k
    · rw [if_neg (show ¬ n - i = l by omega), mul_zero]
    · rw [if_neg h1, zero_mul]

theorem mon_add (a b : R) (k : Nat) : mon (a + b) k = mon a k + mon b k := Pol.ext fun i => by
  rw [Pol.c_add]; simp only [c_mon]; split
  · rfl
  · rw [zero_add]
theorem mon_zero (k : Nat) : mon (0 : R) k = 0 := Pol.ext fun i => by rw [c_mon, Pol.c_zero]; split <;> rfl
theorem mon_neg (a : R) (k : Nat) : mon (-a) k = -mon a k := Pol.ext fun i => by
  rw [Pol.c_neg]; simp only [c_mon]; split
  · rfl
  · rw [neg_zero]

/-- What holds of 0, of each element at its place, and of sums, holds of all. -/
theorem Pol.ind (P : Pol R → Prop) (h0 : P 0) (hm : ∀ a k, P (mon a k)) (ha : ∀ f g, P f → P g → P (f + g)) (f : Pol R) : P f := by
  obtain ⟨n, hn⟩ := f.fin
  have key : ∀ (n : Nat) (f : Pol R), (∀ i, n ≤ i → f.c i = 0) → P f := by
    intro n
    induction n with
    | zero => intro f h; rw [show f = 0 from Pol.ext fun i => h i (by omega)]; exact h0
    | succ n ih =>
      intro f h
      have e : f = (f + -mon (f.c n) n) + mon (f.c n) n := Pol.ext fun i => by
        simp only [Pol.c_add, Pol.c_neg]; rw [add_assoc, neg_add, add_zero]
      rw [e]
      refine ha _ _ (ih _ fun i hi => ?_) (hm _ _)
      rw [Pol.c_add, Pol.c_neg, c_mon]
      by_cases h2 : i = n
      · subst h2; rw [if_pos rfl, add_neg]
      · rw [if_neg h2, h i (by omega), neg_zero, zero_add]
  exact key n f hn

theorem Pol.mul_assoc' (f g h : Pol R) : f * g * h = f * (g * h) := by
  refine Pol.ind (fun f => f * g * h = f * (g * h)) ?_ ?_ ?_ f
  · simp only [Pol.zero_mul']
  · intro a k
    refine Pol.ind (fun g => mon a k * g * h = mon a k * (g * h)) ?_ ?_ ?_ g
    · simp only [Pol.zero_mul', Pol.mul_zero']
    · intro b l
      refine Pol.ind (fun h => mon a k * mon b l * h = mon a k * (mon b l * h)) ?_ ?_ ?_ h
      · simp only [Pol.mul_zero']
      · intro c m; simp only [mon_mul]; rw [mul_assoc, Nat.add_assoc]
      · intro f g h1 h2; simp only [Pol.mul_add']; rw [h1, h2]
    · intro f g h1 h2; simp only [Pol.mul_add', Pol.add_mul']; rw [h1, h2]
  · intro f g h1 h2; simp only [Pol.add_mul']; rw [h1, h2]

theorem Pol.one_mul' (f : Pol R) : 1 * f = f := by
  refine Pol.ind (fun f => 1 * f = f) (Pol.mul_zero' _) ?_ ?_ f
  · intro a k; rw [Pol.one_def, mon_mul, one_mul, Nat.zero_add]
  · intro f g h1 h2; rw [Pol.mul_add', h1, h2]

instance : CR (Pol R) where
  add_assoc := Pol.add_assoc'
  add_comm := Pol.add_comm'
  zero_add := Pol.zero_add'
  neg_add f := Pol.ext fun i => by rw [Pol.c_add, Pol.c_neg, neg_add]; rfl
  sub_eq _ _ := rfl
  mul_assoc := Pol.mul_assoc'
  mul_comm := Pol.mul_comm'
  one_mul := Pol.one_mul'
  mul_add := Pol.mul_add'

/-- A number as an element: so many ones. -/
def nn : Nat → R
  | 0 => 0
  | n + 1 => nn n + 1

theorem nn_add (a b : Nat) : (nn (a + b) : R) = nn a + nn b := by
  induction b with
  | zero => simp only [nn, Nat.add_zero]; rw [add_zero]
  | succ b ih => rw [← Nat.add_assoc]; simp only [nn]; rw [ih, add_assoc]
theorem nn_mul (a b : Nat) : (nn (a * b) : R) = nn a * nn b := by
  induction b with
  | zero => simp only [nn, Nat.mul_zero]; rw [mul_zero]
  | succ b ih => rw [Nat.mul_succ, nn_add, ih]; simp only [nn]; rw [mul_add, mul_one]

/-- The value at a place. -/
def pw (x : R) : Nat → R
  | 0 => 1
  | n + 1 => pw x n * x
end

end Go.Proofs.Ythghdjpjbngllaa
