/- Plain algebra: matrices with sides, over a commutative ring: sums, products, powers, inverses. -/
import Derived.Test.YthghdjpjbngllaaDet
namespace Go.Proofs.Ythghdjpjbngllaa
open CR

/-- A matrix of n rows and m columns; noughts beside it. -/
structure MT (R : Type) [CR R] (n m : Nat) where
  e : Nat → Nat → R
  out : ∀ i k, n ≤ i ∨ m ≤ k → e i k = 0

section
variable {R : Type} [CR R] {n m l q : Nat}

theorem MT.ext {A B : MT R n m} (h : ∀ i k, i < n → k < m → A.e i k = B.e i k) : A = B := by
  obtain ⟨a, ha⟩ := A; obtain ⟨b, hb⟩ := B
  have : a = b := by
    funext i k
    by_cases hi : i < n
    · by_cases hk : k < m
      · exact h i k hi hk
      · rw [ha i k (.inr (by omega)), hb i k (.inr (by omega))]
    · rw [ha i k (.inl (by omega)), hb i k (.inl (by omega))]
  subst this; rfl

/-- The matrix of some values. -/
def MT.of (n m : Nat) (f : Nat → Nat → R) : MT R n m := ⟨fun i k => if i < n ∧ k < m then f i k else 0, fun _ _ h => if_neg (by omega)⟩
theorem MT.of_e (f : Nat → Nat → R) {i k : Nat} (hi : i < n) (hk : k < m) : (MT.of n m f).e i k = f i k := if_pos ⟨hi, hk⟩
theorem MT.of_congr {f g : Nat → Nat → R} (h : ∀ i k, i < n → k < m → f i k = g i k) : MT.of n m f = MT.of n m g :=
  MT.ext fun i k hi hk => by rw [MT.of_e f hi hk, MT.of_e g hi hk, h i k hi hk]
theorem MT.of_self (A : MT R n m) : MT.of n m A.e = A := MT.ext fun _ _ hi hk => MT.of_e _ hi hk

instance : Zero (MT R n m) := ⟨⟨fun _ _ => 0, fun _ _ _ => rfl⟩⟩
instance : Add (MT R n m) := ⟨fun A B => ⟨fun i k => A.e i k + B.e i k, fun i k h => by rw [A.out i k h, B.out i k h, zero_add]⟩⟩
instance : Neg (MT R n m) := ⟨fun A => ⟨fun i k => -A.e i k, fun i k h => by rw [A.out i k h, neg_zero]⟩⟩
instance : Sub (MT R n m) := ⟨fun A B => ⟨fun i k => A.e i k - B.e i k, fun i k h => by rw [A.out i k h, B.out i k h, sub_self]⟩⟩
instance : HMul (MT R n m) (MT R m l) (MT R n l) := ⟨fun A B => ⟨mm m A.e B.e, fun i k h => sm_zero' fun j _ => by
  rcases h with h | h
  · rw [A.out i j (.inl h), zero_mul]
  · rw [B.out j k (.inr h), mul_zero]⟩⟩
/-- The matrix that changes nothing. -/
def MT.one (n : Nat) : MT R n n := MT.of n n one1
/-- A multiple. -/
def MT.sc (c : R) (A : MT R n m) : MT R n m := ⟨fun i k => c * A.e i k, fun i k h => by rw [A.out i k h, mul_zero]⟩

theorem MT.e_zero (i k : Nat) : (0 : MT R n m).e i k = 0 := rfl
theorem MT.e_add (A B : MT R n m) (i k : Nat) : (A + B).e i k = A.e i k + B.e i k := rfl
theorem MT.e_neg (A : MT R n m) (i k : Nat) : (-A).e i k = -A.e i k := rfl
theorem MT.e_sub (A B : MT R n m) (i k : Nat) : (A - B).e i k = A.e i k - B.e i k := rfl
theorem MT.e_mul (A : MT R n m) (B : MT R m l) (i k : Nat) : (A * B).e i k = sm m (fun j => A.e i j * B.e j k) := rfl
theorem MT.e_sc (c : R) (A : MT R n m) (i k : Nat) : (A.sc c).e i k = c * A.e i k := rfl
theorem MT.e_one {i k : Nat} (hi : i < n) (hk : k < n) : (MT.one n : MT R n n).e i k = if i = k then 1 else 0 := MT.of_e one1 hi hk

theorem MT.mul_assoc (A : MT R n m) (B : MT R m l) (C : MT R l q) : A * B * C = A * (B * C) := MT.ext fun i k _ _ => congrFun (congrFun (mm_assoc m l A.e B.e C.e) i) k
theorem MT.mul_one (A : MT R n m) : A * (MT.one m : MT R m m) = A := MT.ext fun i k _ hk => by
  rw [MT.e_mul, sm_one hk (fun j hj hn => by rw [MT.e_one hj hk, if_neg hn, mul_zero]), MT.e_one hk hk, if_pos rfl, CR.mul_one]
theorem MT.one_mul (A : MT R n m) : (MT.one n : MT R n n) * A = A := MT.ext fun i k hi _ => by
  rw [MT.e_mul, sm_one hi (fun j hj hn => by rw [MT.e_one hi hj, if_neg (fun e => hn e.symm), zero_mul]), MT.e_one hi hi, if_pos rfl, CR.one_mul]
theorem MT.mul_add (A : MT R n m) (B C : MT R m l) : A * (B + C) = A * B + A * C := MT.ext fun i k _ _ => by
  rw [MT.e_add, MT.e_mul, MT.e_mul, MT.e_mul, ← sm_add]; exact sm_congr fun j _ => by rw [MT.e_add, CR.mul_add]
theorem MT.add_mul (A B : MT R n m) (C : MT R m l) : (A + B) * C = A * C + B * C := MT.ext fun i k _ _ => by
  rw [MT.e_add, MT.e_mul, MT.e_mul, MT.e_mul, ← sm_add]; exact sm_congr fun j _ => by rw [MT.e_add, CR.add_mul]
theorem MT.mul_zero (A : MT R n m) : A * (0 : MT R m l) = 0 := MT.ext fun i k _ _ => by
  rw [MT.e_mul, MT.e_zero]; exact sm_zero' fun j _ => by rw [MT.e_zero, CR.mul_zero]
theorem MT.zero_mul (A : MT R m l) : (0 : MT R n m) * A = 0 := MT.ext fun i k _ _ => by
  rw [MT.e_mul, MT.e_zero]; exact sm_zero' fun j _ => by rw [MT.e_zero, CR.zero_mul]
theorem MT.add_assoc (A B C : MT R n m) : A + B + C = A + (B + C) := MT.ext fun i k _ _ => by simp only [MT.e_add]; rw [CR.add_assoc]
theorem MT.add_comm (A B : MT R n m) : A + B = B + A := MT.ext fun i k _ _ => by simp only [MT.e_add]; rw [CR.add_comm]
theorem MT.zero_add (A : MT R n m) : 0 + A = A := MT.ext fun i k _ _ => by rw [MT.e_add, MT.e_zero, CR.zero_add]
theorem MT.add_zero (A : MT R n m) : A + 0 = A := by rw [MT.add_comm, MT.zero_add]
theorem MT.sub_eq (A B : MT R n m) : A - B = A + -B := MT.ext fun i k _ _ => by rw [MT.e_sub, MT.e_add, MT.e_neg, CR.sub_eq]
theorem MT.add_neg (A : MT R n m) : A + -A = 0 := MT.ext fun i k _ _ => by rw [MT.e_add, MT.e_neg, CR.add_neg]; rfl
theorem MT.sub_self (A : MT R n m) : A - A = 0 := by rw [MT.sub_eq, MT.add_neg]
theorem MT.sub_add_cancel (A B : MT R n m) : A - B + B = A := MT.ext fun i k _ _ => by rw [MT.e_add, MT.e_sub, CR.sub_add_cancel]
theorem MT.sub_zero' {A B : MT R n m} (h : A - B = 0) : A = B := by rw [← MT.sub_add_cancel A B, h, MT.zero_add]
theorem MT.mul_neg (A : MT R n m) (B : MT R m l) : A * -B = -(A * B) := MT.ext fun i k _ _ => by
  rw [MT.e_neg, MT.e_mul, MT.e_mul, ← sm_neg]; exact sm_congr fun j _ => by rw [MT.e_neg, CR.mul_neg]
theorem MT.neg_mul (A : MT R n m) (B : MT R m l) : -A * B = -(A * B) := MT.ext fun i k _ _ => by
  rw [MT.e_neg, MT.e_mul, MT.e_mul, ← sm_neg]; exact sm_congr fun j _ => by rw [MT.e_neg, CR.neg_mul]
theorem MT.mul_sub (A : MT R n m) (B C : MT R m l) : A * (B - C) = A * B - A * C := by rw [MT.sub_eq, MT.mul_add, MT.mul_neg, ← MT.sub_eq]
theorem MT.sub_mul (A B : MT R n m) (C : MT R m l) : (A - B) * C = A * C - B * C := by rw [MT.sub_eq, MT.add_mul, MT.neg_mul, ← MT.sub_eq]
theorem MT.sc_mul (c : R) (A : MT R n m) (B : MT R m l) : A.sc c * B = (A * B).sc c := MT.ext fun i k _ _ => by
  rw [MT.e_sc, MT.e_mul, MT.e_mul, ← sm_mul]; exact sm_congr fun j _ => by rw [MT.e_sc, CR.mul_assoc]
theorem MT.mul_sc (c : R) (A : MT R n m) (B : MT R m l) : A * B.sc c = (A * B).sc c := MT.ext fun i k _ _ => by
  rw [MT.e_sc, MT.e_mul, MT.e_mul, ← sm_mul]; exact sm_congr fun j _ => by rw [MT.e_sc, CR.mul_left_comm]
theorem MT.sc_sc (c d : R) (A : MT R n m) : (A.sc d).sc c = A.sc (c * d) := MT.ext fun i k _ _ => by simp only [MT.e_sc]; rw [CR.mul_assoc]
theorem MT.sc_add (c : R) (A B : MT R n m) : (A + B).sc c = A.sc c + B.sc c := MT.ext fun i k _ _ => by simp only [MT.e_sc, MT.e_add]; rw [CR.mul_add]
theorem MT.add_sc (c d : R) (A : MT R n m) : A.sc (c + d) = A.sc c + A.sc d := MT.ext fun i k _ _ => by simp only [MT.e_sc, MT.e_add]; rw [CR.add_mul]
theorem MT.sc_zero (c : R) : (0 : MT R n m).sc c = 0 := MT.ext fun i k _ _ => by rw [MT.e_sc, MT.e_zero, CR.mul_zero]
theorem MT.zero_sc (A : MT R n m) : A.sc 0 = 0 := MT.ext fun i k _ _ => by rw [MT.e_sc, MT.e_zero, CR.zero_mul]
theorem MT.one_sc (A : MT R n m) : A.sc 1 = A := MT.ext fun i k _ _ => by rw [MT.e_sc, CR.one_mul]
theorem MT.sc_one_mul (c : R) (A : MT R n m) : (MT.one n : MT R n n).sc c * A = A.sc c := by rw [MT.sc_mul, MT.one_mul]
theorem MT.mul_sc_one (c : R) (A : MT R n m) : A * (MT.one m : MT R m m).sc c = A.sc c := by rw [MT.mul_sc, MT.mul_one]
theorem MT.zero_of {A : MT R n m} (h : ∀ i k, i < n → k < m → A.e i k = 0) : A = 0 := MT.ext h

/-- The determinant. -/
def MT.det (A : MT R n n) : R := dn n A.e
theorem MT.det_mul (A B : MT R n n) : (A * B).det = A.det * B.det := dn_mul n A.e B.e
theorem MT.det_one : (MT.one n : MT R n n).det = 1 := by
  refine (dn_congr n fun i k hi hk => ?_).trans (dn_one n)
  rw [MT.e_one hi hk]; rfl

/-- Rows made columns. -/
def MT.tr (A : MT R n m) : MT R m n := ⟨fun i k => A.e k i, fun i k h => A.out k i h.symm⟩
theorem MT.e_tr (A : MT R n m) (i k : Nat) : A.tr.e i k = A.e k i := rfl
theorem MT.tr_mul (A : MT R n m) (B : MT R m l) : (A * B).tr = B.tr * A.tr := MT.ext fun i k _ _ => by
  rw [MT.e_tr, MT.e_mul, MT.e_mul]; exact sm_congr fun j _ => by rw [MT.e_tr, MT.e_tr, CR.mul_comm]
theorem MT.tr_tr (A : MT R n m) : A.tr.tr = A := rfl
theorem MT.tr_one : (MT.one n : MT R n n).tr = MT.one n := MT.ext fun i k hi hk => by
  rw [MT.e_tr, MT.e_one hk hi, MT.e_one hi hk]
  by_cases h : i = k
  · rw [if_pos h, if_pos h.symm]
  · rw [if_neg h, if_neg (fun e => h e.symm)]

/-- Each is the other's inverse. -/
def Inv (A : MT R n m) (B : MT R m n) : Prop := A * B = MT.one n ∧ B * A = MT.one m
theorem Inv.symm {A : MT R n m} {B : MT R m n} (h : Inv A B) : Inv B A := ⟨h.2, h.1⟩
theorem Inv.one : Inv (MT.one n : MT R n n) (MT.one n) := ⟨MT.mul_one _, MT.mul_one _⟩
theorem Inv.mul {A : MT R n m} {B : MT R m n} {C : MT R m l} {D : MT R l m} (h : Inv A B) (k : Inv C D) : Inv (A * C) (D * B) := by
  constructor
  · rw [MT.mul_assoc, ← MT.mul_assoc C, k.1, MT.one_mul, h.1]
  · rw [MT.mul_assoc, ← MT.mul_assoc B, h.2, MT.one_mul, k.2]
theorem Inv.det {A B : MT R n n} (h : Inv A B) : A.det * B.det = 1 := by rw [← MT.det_mul, h.1, MT.det_one]
theorem Inv.unique {A : MT R n m} {B B' : MT R m n} (h : Inv A B) (h' : A * B' = MT.one n) : B' = B := by
  rw [← MT.one_mul B', ← h.2, MT.mul_assoc, h', MT.mul_one]
theorem Inv.cancel {A : MT R n m} {B : MT R m n} (h : Inv A B) {C D : MT R m l} (e : A * C = A * D) : C = D := by
  rw [← MT.one_mul C, ← h.2, MT.mul_assoc, e, ← MT.mul_assoc, h.2, MT.one_mul]

/-- A row that is nought makes the determinant nought. -/
theorem dn_row0 {A : Nat → Nat → R} {i : Nat} (hi : i < n) (h : ∀ k, k < n → A i k = 0) : dn n A = 0 := by
  refine (dn_congr n fun a k _ hk => ?_).trans ((dn_scale n A i hi 0 (A i)).trans (CR.zero_mul _))
  unfold upd; split
  · rename_i h1; subst h1; rw [h k hk]; exact (CR.zero_mul _).symm
  · rfl

/-- Of sides that are each other's inverse's one isn't greater. -/
theorem Inv.sides (h01 : (1 : R) ≠ 0) {A : MT R n m} {B : MT R m n} (h : A * B = MT.one n) : n ≤ m := by
  rcases Nat.lt_or_ge m n with hl | hl
  · exfalso
    apply h01
    have e1 : dn n (mm n A.e B.e) = 1 := by
      rw [← dn_one n]
      refine dn_congr n fun i k hi hk => ?_
      have : (A * B).e i k = (MT.one n).e i k := by rw [h]
      rw [MT.e_mul, MT.e_one hi hk] at this
      show sm n (fun j => A.e i j * B.e j k) = _
      have e : ∀ N, N = m + (n - m) → sm N (fun j => A.e i j * B.e j k) = one1 i k := by
        intro N hN
        rw [hN, sm_split, this, sm_zero' (n := n - m) (fun j _ => by rw [A.out i (m + j) (.inr (by omega)), CR.zero_mul]), CR.add_zero]
        rfl
      exact e n (by omega)
    rw [← e1, dn_mul, dn_row0 (A := B.e) (i := m) hl (fun k _ => B.out m k (.inl (Nat.le_refl _))), CR.mul_zero]
  · exact hl
theorem Inv.same (h01 : (1 : R) ≠ 0) {A : MT R n m} {B : MT R m n} (h : Inv A B) : n = m := Nat.le_antisymm (Inv.sides h01 h.1) (Inv.sides h01 h.2)

/-- A power. -/
def MT.pow (A : MT R n n) : Nat → MT R n n
  | 0 => MT.one n
  | k + 1 => A.pow k * A
theorem MT.pow_succ (A : MT R n n) (k : Nat) : A.pow (k + 1) = A.pow k * A := rfl
theorem MT.pow_add (A : MT R n n) (a : Nat) : ∀ b, A.pow (a + b) = A.pow a * A.pow b
  | 0 => (MT.mul_one _).symm
  | b + 1 => by rw [← Nat.add_assoc, MT.pow_succ, MT.pow_add A a b, MT.pow_succ, MT.mul_assoc]
theorem MT.pow_comm (A : MT R n n) (k : Nat) : A * A.pow k = A.pow k * A := by
  have e1 : A.pow 1 = A := MT.one_mul A
  have h := MT.pow_add A 1 k
  rw [Nat.add_comm, MT.pow_succ, e1] at h
  exact h.symm
theorem MT.pow_conj {A B P : MT R n n} (h : P * A = B * P) : ∀ k, P * A.pow k = B.pow k * P
  | 0 => by show P * MT.one n = MT.one n * P; rw [MT.mul_one, MT.one_mul]
  | k + 1 => by rw [MT.pow_succ, MT.pow_succ, ← MT.mul_assoc, MT.pow_conj h k, MT.mul_assoc, h, MT.mul_assoc]

/-- A sum of matrices. -/
def ms : Nat → (Nat → MT R n m) → MT R n m
  | 0, _ => 0
  | k + 1, f => ms k f + f k
theorem ms_e (f : Nat → MT R n m) (i k : Nat) : ∀ N, (ms N f).e i k = sm N (fun j => (f j).e i k)
  | 0 => rfl
  | N + 1 => by simp only [ms, sm]; rw [MT.e_add, ms_e f i k N]
theorem ms_congr {N : Nat} {f g : Nat → MT R n m} (h : ∀ j, j < N → f j = g j) : ms N f = ms N g :=
  MT.ext fun i k _ _ => by rw [ms_e, ms_e]; exact sm_congr fun j hj => by rw [h j hj]
theorem ms_add (N : Nat) (f g : Nat → MT R n m) : ms N (fun j => f j + g j) = ms N f + ms N g :=
  MT.ext fun i k _ _ => by rw [MT.e_add, ms_e, ms_e, ms_e, ← sm_add]; rfl
theorem ms_mul (A : MT R l n) (f : Nat → MT R n m) : ∀ N, A * ms N f = ms N (fun j => A * f j)
  | 0 => MT.mul_zero A
  | N + 1 => by simp only [ms]; rw [MT.mul_add, ms_mul A f N]
theorem mul_ms (f : Nat → MT R n m) (A : MT R m l) : ∀ N, ms N f * A = ms N (fun j => f j * A)
  | 0 => MT.zero_mul A
  | N + 1 => by simp only [ms]; rw [MT.add_mul, mul_ms f A N]
theorem ms_sc (c : R) (f : Nat → MT R n m) : ∀ N, (ms N f).sc c = ms N (fun j => (f j).sc c)
  | 0 => MT.sc_zero c
  | N + 1 => by simp only [ms]; rw [MT.sc_add, ms_sc c f N]
theorem ms_zero {N : Nat} {f : Nat → MT R n m} (h : ∀ j, j < N → f j = 0) : ms N f = 0 :=
  MT.ext fun i k _ _ => by rw [ms_e, MT.e_zero]; exact sm_zero' fun j hj => by rw [h j hj]; rfl
theorem ms_one {N a : Nat} {f : Nat → MT R n m} (ha : a < N) (h : ∀ j, j < N → j ≠ a → f j = 0) : ms N f = f a :=
  MT.ext fun i k _ _ => by rw [ms_e]; exact sm_one ha fun j hj hn => by rw [h j hj hn]; rfl
theorem ms_swap (N M : Nat) (f : Nat → Nat → MT R n m) : ms N (fun i => ms M (f i)) = ms M (fun j => ms N (fun i => f i j)) :=
  MT.ext fun i k _ _ => by
    rw [ms_e, ms_e, sm_congr (fun j _ => ms_e (f j) i k M), sm_swap]
    exact sm_congr fun j _ => by rw [ms_e]
end

end Go.Proofs.Ythghdjpjbngllaa
