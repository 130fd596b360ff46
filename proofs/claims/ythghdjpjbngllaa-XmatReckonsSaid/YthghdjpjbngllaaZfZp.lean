/- Plain algebra: whole numbers by a modulus; lists of words as polynomials over them. -/
import Derived.Test.YthghdjpjbngllaaZfNum
import Derived.Test.YthghdjpjbngllaaZfPol
namespace Go.Proofs.Ythghdjpjbngllaa
open CR

/-- The numbers by a modulus (by 1 where it is 0). -/
structure Zp (p : Nat) where
  val : Nat
  lt : val < p - 1 + 1

theorem Zp.ext {p : Nat} {a b : Zp p} (h : a.val = b.val) : a = b := by
  cases a; cases b; simp at h; subst h; rfl

def Zp.of (p x : Nat) : Zp p := ⟨x % (p - 1 + 1), Nat.mod_lt _ (by omega)⟩
theorem Zp.val_of (p x : Nat) : (Zp.of p x).val = x % (p - 1 + 1) := rfl

instance (p : Nat) : Zero (Zp p) := ⟨Zp.of p 0⟩
instance (p : Nat) : One (Zp p) := ⟨Zp.of p 1⟩
instance (p : Nat) : Add (Zp p) := ⟨fun a b => Zp.of p (a.val + b.val)⟩
instance (p : Nat) : Mul (Zp p) := ⟨fun a b => Zp.of p (a.val * b.val)⟩
instance (p : Nat) : Neg (Zp p) := ⟨fun a => Zp.of p (p - 1 + 1 - a.val)⟩
instance (p : Nat) : Sub (Zp p) := ⟨fun a b => a + -b⟩

theorem Zp.add_val {p : Nat} (a b : Zp p) : (a + b).val = (a.val + b.val) % (p - 1 + 1) := rfl
theorem Zp.mul_val {p : Nat} (a b : Zp p) : (a * b).val = (a.val * b.val) % (p - 1 + 1) := rfl
theorem Zp.neg_val {p : Nat} (a : Zp p) : (-a).val = (p - 1 + 1 - a.val) % (p - 1 + 1) := rfl
theorem Zp.zero_val (p : Nat) : (0 : Zp p).val = 0 := Nat.zero_mod _

instance (p : Nat) : CR (Zp p) where
  add_assoc a b c := Zp.ext (by simp only [Zp.add_val, Nat.mod_add_mod, Nat.add_mod_mod, Nat.add_assoc])
  add_comm a b := Zp.ext (by simp only [Zp.add_val, Nat.add_comm])
  zero_add a := Zp.ext (by rw [Zp.add_val, Zp.zero_val, Nat.zero_add, Nat.mod_eq_of_lt a.lt])
  neg_add a := Zp.ext (by
    have := a.lt
    rw [Zp.add_val, Zp.neg_val, Zp.zero_val, Nat.mod_add_mod, Nat.sub_add_cancel (by omega), Nat.mod_self])
  sub_eq _ _ := rfl
  mul_assoc a b c := Zp.ext (by simp only [Zp.mul_val, Nat.mod_mul_mod, Nat.mul_mod_mod, Nat.mul_assoc])
  mul_comm a b := Zp.ext (by simp only [Zp.mul_val, Nat.mul_comm])
  one_mul a := Zp.ext (by
    show ((1 % (p - 1 + 1)) * a.val) % (p - 1 + 1) = a.val
    rw [Nat.mod_mul_mod, Nat.one_mul, Nat.mod_eq_of_lt a.lt])
  mul_add a b c := Zp.ext (by simp only [Zp.mul_val, Zp.add_val, Nat.mul_mod_mod, Nat.mod_add_mod, Nat.add_mod_mod, Nat.mul_add])

theorem Zp.of_add (p x y : Nat) : Zp.of p (x + y) = Zp.of p x + Zp.of p y := Zp.ext (by simp only [Zp.add_val, Zp.val_of, Nat.mod_add_mod, Nat.add_mod_mod])
theorem Zp.of_mul (p x y : Nat) : Zp.of p (x * y) = Zp.of p x * Zp.of p y := Zp.ext (by simp only [Zp.mul_val, Zp.val_of, Nat.mod_mul_mod, Nat.mul_mod_mod])
theorem Zp.of_zero (p : Nat) : Zp.of p 0 = 0 := rfl
theorem Zp.of_one (p : Nat) : Zp.of p 1 = 1 := rfl
theorem Zp.of_val {p : Nat} (a : Zp p) : Zp.of p a.val = a := Zp.ext (Nat.mod_eq_of_lt a.lt)
theorem Zp.of_mod (p x : Nat) : Zp.of p (x % p) = Zp.of p x := Zp.ext (by
  rw [Zp.val_of, Zp.val_of]
  by_cases h : p = 0
  · subst h; simp [Nat.mod_one]
  · rw [show p - 1 + 1 = p by omega, Nat.mod_mod])
theorem Zp.of_inj {p x y : Nat} (hx : x < p) (hy : y < p) (h : Zp.of p x = Zp.of p y) : x = y := by
  have := congrArg Zp.val h
  rw [Zp.val_of, Zp.val_of, show p - 1 + 1 = p by omega, Nat.mod_eq_of_lt hx, Nat.mod_eq_of_lt hy] at this
  exact this
theorem Zp.of_eq_zero {p x : Nat} (hp : 0 < p) : Zp.of p x = 0 ↔ x % p = 0 := by
  constructor
  · intro h
    have := congrArg Zp.val h
    rw [Zp.val_of, Zp.zero_val, show p - 1 + 1 = p by omega] at this; exact this
  · intro h; rw [← Zp.of_mod, h]; rfl
theorem Zp.of_sub (p x y : Nat) (hp : 0 < p) : Zp.of p (x % p + p - y % p) = Zp.of p x - Zp.of p y := by
  have h1 : Zp.of p (x % p + p - y % p) + Zp.of p y = Zp.of p x := by
    have := Nat.mod_lt y hp
    rw [← Zp.of_mod p y, ← Zp.of_add, show x % p + p - y % p + y % p = x % p + p by omega, ← Zp.of_mod, Nat.add_mod_right, Zp.of_mod, Zp.of_mod]
  rw [← h1, CR.sub_eq, CR.add_assoc, CR.add_neg, CR.add_zero]
theorem Zp.nn_of (p n : Nat) : (nn n : Zp p) = Zp.of p n := by
  induction n with
  | zero => rfl
  | succ n ih => show nn n + 1 = _; rw [ih, Zp.of_add]; rfl

/-- The polynomial of a list. -/
def pl (p : Nat) (xs : List Nat) : Pol (Zp p) := ⟨fun i => Zp.of p (xs.getD i 0), xs.length, fun i h => by
  rw [List.getD, List.getElem?_eq_none h]; rfl⟩

theorem pl_c (p : Nat) (xs : List Nat) (i : Nat) : (pl p xs).c i = Zp.of p (xs.getD i 0) := rfl
theorem pl_nil (p : Nat) : pl p [] = 0 := Pol.ext fun i => by rw [pl_c]; rfl

theorem getD_snoc (xs : List Nat) (x i : Nat) : (xs ++ [x]).getD i 0 = if i = xs.length then x else xs.getD i 0 := by
  simp only [List.getD]
  by_cases h : i < xs.length
  · rw [List.getElem?_append_left h, if_neg (by omega)]
  · rw [List.getElem?_append_right (by omega)]
    by_cases h2 : i = xs.length
    · subst h2; simp
    · rw [if_neg h2, List.getElem?_eq_none (by simp; omega), List.getElem?_eq_none (by omega)]

theorem getD_take (xs : List Nat) (k i : Nat) : (xs.take k).getD i 0 = if i < k then xs.getD i 0 else 0 := by
  simp only [List.getD]
  split
  · rw [List.getElem?_take_of_lt (by assumption)]
  · rw [List.getElem?_eq_none (by simp; omega)]; rfl

theorem getD_set (xs : List Nat) (k y i : Nat) (hk : k < xs.length) : (xs.set k y).getD i 0 = if i = k then y else xs.getD i 0 := by
  simp only [List.getD, List.getElem?_set]
  by_cases h : k = i
  · subst h; simp [hk]
  · rw [if_neg h, if_neg (fun e => h e.symm)]

theorem pl_snoc (p : Nat) (xs : List Nat) (x : Nat) : pl p (xs ++ [x]) = pl p xs + mon (Zp.of p x) xs.length := Pol.ext fun i => by
  rw [Pol.c_add, c_mon, pl_c, pl_c, getD_snoc]
  split
  · rename_i h; subst h
    rw [List.getD, List.getElem?_eq_none (by omega)]; show _ = Zp.of p 0 + _
    rw [Zp.of_zero, zero_add]
  · rw [add_zero]

theorem pl_take_succ (p : Nat) (xs : List Nat) (k : Nat) : pl p (xs.take (k + 1)) = pl p (xs.take k) + mon (Zp.of p (xs.getD k 0)) k := Pol.ext fun i => by
  rw [Pol.c_add, c_mon, pl_c, pl_c, getD_take, getD_take]
  by_cases h : i = k
  · subst h; rw [if_pos (by omega), if_neg (by omega), if_pos rfl, Zp.of_zero, zero_add]
  · rw [if_neg h, add_zero]
    by_cases h2 : i < k
    · rw [if_pos h2, if_pos (by omega)]
    · rw [if_neg h2, if_neg (by omega)]

theorem pl_set (p : Nat) (xs : List Nat) (k y : Nat) (hk : k < xs.length) : pl p (xs.set k y) = pl p xs + mon (Zp.of p y - Zp.of p (xs.getD k 0)) k := Pol.ext fun i => by
  rw [Pol.c_add, c_mon, pl_c, pl_c, getD_set xs k y i hk]
  split
  · rename_i h; subst h; rw [add_comm, sub_add_cancel]
  · rw [add_zero]

theorem pl_replicate0 (p k : Nat) : pl p (List.replicate k 0) = 0 := Pol.ext fun i => by
  rw [pl_c, Pol.c_zero]
  have : (List.replicate k 0).getD i 0 = 0 := by
    simp only [List.getD, List.getElem?_replicate]; split <;> rfl
  rw [this]; rfl

theorem getD_tr (xs : List Nat) (i : Nat) : (tr xs).getD i 0 = xs.getD i 0 := by
  induction xs generalizing i with
  | nil => rfl
  | cons x xs ih =>
    rw [tr_cons]
    split
    · rename_i h
      cases i with
      | zero => rw [h.2]; rfl
      | succ i => have := ih i; rw [h.1] at this; exact this
    · cases i with
      | zero => rfl
      | succ i => exact ih i

theorem pl_tr (p : Nat) (xs : List Nat) : pl p (tr xs) = pl p xs := Pol.ext fun i => by rw [pl_c, pl_c, getD_tr]

theorem pl_map_mod (p : Nat) (xs : List Nat) : pl p (xs.map (· % p)) = pl p xs := Pol.ext fun i => by
  rw [pl_c, pl_c]
  have : (xs.map (· % p)).getD i 0 = xs.getD i 0 % p := by
    simp only [List.getD, List.getElem?_map]
    cases h : xs[i]? <;> simp
  rw [this, Zp.of_mod]

/-- All elements from a place on are 0. -/
def Pol.dlt {R : Type} [CR R] (f : Pol R) (n : Nat) : Prop := ∀ i, n ≤ i → f.c i = 0

theorem pl_dlt (p : Nat) (xs : List Nat) : (pl p xs).dlt xs.length := fun i h => by
  rw [pl_c, List.getD, List.getElem?_eq_none h]; rfl

theorem pl_len {p : Nat} {xs : List Nat} (hp : 0 < p) (h : Nrm p xs) {n : Nat} (hd : (pl p xs).dlt n) : xs.length ≤ n := by
  rcases Nat.lt_or_ge n xs.length with hn | hn
  · exfalso
    have hx : xs ≠ [] := by intro e; subst e; simp at hn
    have h1 := hd (xs.length - 1) (by omega)
    rw [pl_c, Zp.of_eq_zero hp, Nat.mod_eq_of_lt (wf_getD h.1 hp _)] at h1
    exact nrm_last h hx h1
  · exact hn

theorem pl_inj {p : Nat} {xs ys : List Nat} (hp : 0 < p) (hx : Nrm p xs) (hy : Nrm p ys) (h : pl p xs = pl p ys) : xs = ys := by
  have h1 : xs.length ≤ ys.length := pl_len hp hx (by rw [h]; exact pl_dlt p ys)
  have h2 : ys.length ≤ xs.length := pl_len hp hy (by rw [← h]; exact pl_dlt p xs)
  refine List.ext_getElem (by omega) fun i hi hj => ?_
  have h3 : (pl p xs).c i = (pl p ys).c i := by rw [h]
  rw [pl_c, pl_c] at h3
  have h4 := Zp.of_inj (wf_getD hx.1 hp i) (wf_getD hy.1 hp i) h3
  rwa [getD_lt xs i hi, getD_lt ys i hj] at h4

theorem pl_zero {p : Nat} {xs : List Nat} (hp : 0 < p) (hx : Nrm p xs) (h : pl p xs = 0) : xs = [] :=
  pl_inj hp hx (nrm_nil p) (by rw [h, pl_nil])

end Go.Proofs.Ythghdjpjbngllaa
