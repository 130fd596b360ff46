/- Plain algebra: commutative rings, identities by computing, sums. -/
namespace Go.Proofs.Ythghdjpjbngllaa

/-- A commutative ring. -/
class CR (R : Type) extends Add R, Mul R, Neg R, Sub R, Zero R, One R where
  add_assoc : ∀ a b c : R, a + b + c = a + (b + c)
  add_comm : ∀ a b : R, a + b = b + a
  zero_add : ∀ a : R, 0 + a = a
  neg_add : ∀ a : R, -a + a = 0
  sub_eq : ∀ a b : R, a - b = a + -b
  mul_assoc : ∀ a b c : R, a * b * c = a * (b * c)
  mul_comm : ∀ a b : R, a * b = b * a
  one_mul : ∀ a : R, 1 * a = a
  mul_add : ∀ a b c : R, a * (b + c) = a * b + a * c

namespace CR
variable {R : Type} [CR R]
theorem add_zero (a : R) : a + 0 = a := by rw [add_comm, zero_add]
theorem add_neg (a : R) : a + -a = 0 := by rw [add_comm, neg_add]
theorem mul_one (a : R) : a * 1 = a := by rw [mul_comm, one_mul]
theorem add_mul (a b c : R) : (a + b) * c = a * c + b * c := by rw [mul_comm, mul_add, mul_comm c, mul_comm c]
theorem add_left_cancel {a b c : R} (h : a + b = a + c) : b = c := by
  have h1 : -a + (a + b) = -a + (a + c) := by rw [h]
  rwa [← add_assoc, ← add_assoc, neg_add, zero_add, zero_add] at h1
theorem mul_zero (a : R) : a * 0 = 0 := by
  apply add_left_cancel (a := a * 0)
  rw [← mul_add, zero_add, add_zero]
theorem zero_mul (a : R) : 0 * a = 0 := by rw [mul_comm, mul_zero]
theorem neg_unique {a b : R} (h : a + b = 0) : b = -a := by
  apply add_left_cancel (a := a); rw [h, add_neg]
theorem neg_neg (a : R) : - -a = a := (neg_unique (neg_add a)).symm
theorem neg_mul (a b : R) : -a * b = -(a * b) := by
  apply neg_unique; rw [← add_mul, add_neg, zero_mul]
theorem mul_neg (a b : R) : a * -b = -(a * b) := by rw [mul_comm, neg_mul, mul_comm]
theorem neg_zero : -(0 : R) = 0 := (neg_unique (zero_add 0)).symm
theorem neg_distrib (a b : R) : -(a + b) = -a + -b := by
  symm; apply neg_unique
  rw [add_assoc, ← add_assoc b, add_comm b, add_assoc (-a), add_neg, add_zero, add_neg]
theorem sub_self (a : R) : a - a = 0 := by rw [sub_eq, add_neg]
theorem sub_zero (a : R) : a - 0 = a := by rw [sub_eq, neg_zero, add_zero]
theorem zero_sub (a : R) : 0 - a = -a := by rw [sub_eq, zero_add]
theorem add_sub_cancel (a b : R) : a + b - b = a := by rw [sub_eq, add_assoc, add_neg, add_zero]
theorem sub_add_cancel (a b : R) : a - b + b = a := by rw [sub_eq, add_assoc, neg_add, add_zero]
theorem add_left_comm (a b c : R) : a + (b + c) = b + (a + c) := by rw [← add_assoc, add_comm a, add_assoc]
theorem mul_left_comm (a b c : R) : a * (b * c) = b * (a * c) := by rw [← mul_assoc, mul_comm a, mul_assoc]
theorem sub_eq_zero {a b : R} (h : a - b = 0) : a = b := by
  have := sub_add_cancel a b
  rw [h, zero_add] at this; exact this.symm
end CR

/-- Expressions of a ring. -/
inductive RE where
  | v (i : Nat) | zero | one | add (a b : RE) | mul (a b : RE) | neg (a : RE) | sub (a b : RE)

instance : Add RE := ⟨.add⟩
instance : Mul RE := ⟨.mul⟩
instance : Neg RE := ⟨.neg⟩
instance : Sub RE := ⟨.sub⟩
instance : Zero RE := ⟨.zero⟩
instance : One RE := ⟨.one⟩

def RE.den {R : Type} [CR R] (r : List R) : RE → R
  | .v i => r.getD i 0
  | .zero => 0
  | .one => 1
  | .add a b => a.den r + b.den r
  | .mul a b => a.den r * b.den r
  | .neg a => -a.den r
  | .sub a b => a.den r - b.den r

def insV (i : Nat) : List Nat → List Nat
  | [] => [i]
  | j :: l => if i ≤ j then i :: j :: l else j :: insV i l

def leM : List Nat → List Nat → Bool
  | [], _ => true
  | _ :: _, [] => false
  | a :: l, b :: m => if a < b then true else if b < a then false else leM l m

def insT (s : Bool) (t : List Nat) : List (Bool × List Nat) → List (Bool × List Nat)
  | [] => [(s, t)]
  | u :: us => if t = u.2 then (if s = u.1 then (s, t) :: u :: us else us) else if leM t u.2 then (s, t) :: u :: us else u :: insT s t us

def RE.nf : RE → List (Bool × List Nat)
  | .v i => [(true, [i])]
  | .zero => []
  | .one => [(true, [])]
  | .add a b => a.nf.foldr (fun t acc => insT t.1 t.2 acc) b.nf
  | .sub a b => a.nf.foldr (fun t acc => insT t.1 t.2 acc) (b.nf.map fun t => (!t.1, t.2))
  | .neg a => a.nf.map fun t => (!t.1, t.2)
  | .mul a b => a.nf.foldr (fun t acc => b.nf.foldr (fun u acc => insT (t.1 == u.1) (t.2.foldr insV u.2) acc) acc) []

section
variable {R : Type} [CR R] (r : List R)
open CR

def denM : List Nat → R
  | [] => 1
  | i :: l => r.getD i 0 * denM l

def denT (t : Bool × List Nat) : R := if t.1 then denM r t.2 else -denM r t.2

def denS : List (Bool × List Nat) → R
  | [] => 0
  | t :: ts => denT r t + denS ts

theorem denM_insV (i : Nat) : ∀ l, denM r (insV i l) = r.getD i 0 * denM r l
  | [] => rfl
  | j :: l => by
    unfold insV; split
    · rfl
    · simp only [denM]; rw [denM_insV i l, mul_left_comm]

theorem denM_foldr (m : List Nat) : ∀ l, denM r (l.foldr insV m) = denM r l * denM r m
  | [] => by simp only [List.foldr, denM]; rw [one_mul]
  | i :: l => by simp only [List.foldr, denM]; rw [denM_insV, denM_foldr m l, mul_assoc]

theorem denS_insT (s : Bool) (t : List Nat) : ∀ us, denS r (insT s t us) = denT r (s, t) + denS r us
  | [] => rfl
  | u :: us => by
    unfold insT; split
    · rename_i h
      split
      · rfl
      · rename_i h2
        simp only [denS]
        have e : denT r (s, t) + denT r u = 0 := by
          unfold denT; rw [← h]
          cases s <;> cases hu : u.1 <;> simp_all [neg_add, add_neg]
        rw [← add_assoc, e, zero_add]
    · split
      · rfl
      · simp only [denS]; rw [denS_insT s t us, add_left_comm]

theorem denS_add (us : List (Bool × List Nat)) : ∀ ts, denS r (ts.foldr (fun t acc => insT t.1 t.2 acc) us) = denS r ts + denS r us
  | [] => by simp only [List.foldr, denS]; rw [zero_add]
  | t :: ts => by simp only [List.foldr, denS]; rw [denS_insT, denS_add us ts, add_assoc]

theorem denT_not (t : Bool × List Nat) : denT r (!t.1, t.2) = -denT r t := by
  unfold denT; cases t.1 <;> simp [neg_neg]

theorem denS_neg : ∀ ts, denS r (ts.map fun t => (!t.1, t.2)) = -denS r ts
  | [] => by simp only [List.map, denS]; rw [neg_zero]
  | t :: ts => by simp only [List.map, denS]; rw [denS_neg ts, denT_not, neg_distrib]

theorem denT_mul (t u : Bool × List Nat) : denT r (t.1 == u.1, t.2.foldr insV u.2) = denT r t * denT r u := by
  unfold denT; rw [denM_foldr]
  cases t.1 <;> cases u.1 <;> simp [neg_mul, mul_neg, neg_neg]

theorem denS_mul1 (t : Bool × List Nat) (us : List (Bool × List Nat)) : ∀ ts, denS r (ts.foldr (fun u acc => insT (t.1 == u.1) (t.2.foldr insV u.2) acc) us) = denT r t * denS r ts + denS r us
  | [] => by simp only [List.foldr, denS]; rw [mul_zero, zero_add]
  | u :: ts => by simp only [List.foldr, denS]; rw [denS_insT, denS_mul1 t us ts, denT_mul, mul_add, add_assoc]

theorem denS_mul (us : List (Bool × List Nat)) : ∀ ts, denS r (ts.foldr (fun t acc => us.foldr (fun u acc => insT (t.1 == u.1) (t.2.foldr insV u.2) acc) acc) []) = denS r ts * denS r us
  | [] => by simp only [List.foldr, denS]; rw [zero_mul]
  | t :: ts => by simp only [List.foldr, denS]; rw [denS_mul1, denS_mul us ts, add_mul]

theorem den_nf : ∀ e : RE, e.den r = denS r e.nf
  | .v i => by simp only [RE.den, RE.nf, denS, denT, denM, if_true]; rw [mul_one, add_zero]
  | .zero => rfl
  | .one => by simp only [RE.den, RE.nf, denS, denT, denM, if_true]; rw [add_zero]
  | .add a b => by simp only [RE.den, RE.nf]; rw [denS_add, den_nf a, den_nf b]
  | .mul a b => by simp only [RE.den, RE.nf]; rw [denS_mul, den_nf a, den_nf b]
  | .neg a => by simp only [RE.den, RE.nf]; rw [denS_neg, den_nf a]
  | .sub a b => by simp only [RE.den, RE.nf]; rw [denS_add, denS_neg, den_nf a, den_nf b, sub_eq]

/-- Two expressions of one normal form have one value, in each ring. -/
theorem by_ring (a b : RE) (h : a.nf = b.nf) : a.den r = b.den r := by rw [den_nf, den_nf, h]
end

abbrev X0 : RE := .v 0
abbrev X1 : RE := .v 1
abbrev X2 : RE := .v 2
abbrev X3 : RE := .v 3
abbrev X4 : RE := .v 4
/-- A sum of the first values. -/
def sm {R : Type} [CR R] : Nat → (Nat → R) → R
  | 0, _ => 0
  | n + 1, f => sm n f + f n

section
variable {R : Type} [CR R]
open CR

theorem sm_congr {n : Nat} {f g : Nat → R} (h : ∀ i, i < n → f i = g i) : sm n f = sm n g := by
  induction n with
  | zero => rfl
  | succ n ih => simp only [sm]; rw [ih (fun i hi => h i (by omega)), h n (by omega)]

theorem sm_zero (n : Nat) : sm n (fun _ => (0 : R)) = 0 := by
  induction n with
  | zero => rfl
  | succ n ih => simp only [sm]; rw [ih, zero_add]

theorem sm_zero' {n : Nat} {f : Nat → R} (h : ∀ i, i < n → f i = 0) : sm n f = 0 := by
  rw [sm_congr h, sm_zero]

theorem sm_add (n : Nat) (f g : Nat → R) : sm n (fun i => f i + g i) = sm n f + sm n g := by
  induction n with
  | zero => simp only [sm]; rw [zero_add]
  | succ n ih => simp only [sm]; rw [ih]; exact by_ring [sm n f, sm n g, f n, g n] (X0 + X1 + (X2 + X3)) (X0 + X2 + (X1 + X3)) rfl

theorem sm_mul (n : Nat) (c : R) (f : Nat → R) : sm n (fun i => c * f i) = c * sm n f := by
  induction n with
  | zero => simp only [sm]; rw [mul_zero]
  | succ n ih => simp only [sm]; rw [ih, mul_add]

theorem sm_neg (n : Nat) (f : Nat → R) : sm n (fun i => -f i) = -sm n f := by
  induction n with
  | zero => simp only [sm]; rw [neg_zero]
  | succ n ih => simp only [sm]; rw [ih, neg_distrib]

theorem sm_swap (n m : Nat) (f : Nat → Nat → R) : sm n (fun i => sm m (f i)) = sm m (fun j => sm n (fun i => f i j)) := by
  induction n with
  | zero => simp only [sm]; rw [sm_zero]
  | succ n ih => simp only [sm]; rw [ih, sm_add]

theorem sm_split (n m : Nat) (f : Nat → R) : sm (n + m) f = sm n f + sm m (fun i => f (n + i)) := by
  induction m with
  | zero => simp only [sm, Nat.add_zero]; rw [add_zero]
  | succ m ih => rw [← Nat.add_assoc]; simp only [sm]; rw [ih, add_assoc]

theorem sm_head (n : Nat) (f : Nat → R) : sm (n + 1) f = f 0 + sm n (fun i => f (i + 1)) := by
  rw [Nat.add_comm, sm_split]; simp only [sm]; rw [zero_add]
  congr 1; exact sm_congr fun i _ => by rw [Nat.add_comm]

/-- Only one value is not nought. -/
theorem sm_one {n k : Nat} {f : Nat → R} (hk : k < n) (h : ∀ i, i < n → i ≠ k → f i = 0) : sm n f = f k := by
  induction n with
  | zero => omega
  | succ n ih =>
    simp only [sm]
    by_cases e : k = n
    · subst e; rw [sm_zero' (fun i hi => h i (by omega) (by omega)), zero_add]
    · rw [ih (by omega) (fun i hi => h i (by omega)), h n (by omega) (by omega), add_zero]

theorem sm_rev (n : Nat) (f : Nat → R) : sm n (fun i => f (n - 1 - i)) = sm n f := by
  induction n with
  | zero => rfl
  | succ n ih =>
    rw [sm_head]
    simp only [sm]
    rw [add_comm]
    congr 1
    rw [← ih]; exact sm_congr fun i hi => by congr 1; omega
end

end Go.Proofs.Ythghdjpjbngllaa
