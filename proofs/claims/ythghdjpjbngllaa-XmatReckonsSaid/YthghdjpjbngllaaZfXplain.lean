/- What the laws of layer 23 say, plainly: values and determinants of products. -/
import Derived.Test.YthghdjpjbngllaaZfIxf
import Derived.Test.YthghdjpjbngllaaZfPeel2
import Derived.Test.YthghdjpjbngllaaZfRxz
namespace Go.Proofs.Ythghdjpjbngllaa
open Go.RowKit

section
variable {R S : Type} [CR R] [CR S]
end
section
variable {p : Nat}
theorem nl_same (hp : FP p) {a b : List Nat} (h : pl p a = pl p b) : nl p a = nl p b := nl_is hp.pos (nl_nrm hp.pos a) ((nl_pl p a).trans h)
/-- A place of a product, in the order of the list. -/
def dotT (p : Nat) (xs ys : List (List Nat)) (m c j : Nat) : Pol (Zp p) := dotq p xs ys m c (j / c) (j % c) m
theorem dotT_at {xs ys : List (List Nat)} {m c i k : Nat} (hk : k < c) : dotT p xs ys m c (i * c + k) = dotq p xs ys m c i k m := by
  unfold dotT
  have h1 : (i * c + k) / c = i := by rw [Nat.mul_comm, Nat.mul_add_div (by omega), Nat.div_eq_of_lt hk, Nat.add_zero]
  have h2 : (i * c + k) % c = k := by rw [Nat.mul_comm, Nat.mul_add_mod, Nat.mod_eq_of_lt hk]
  rw [h1, h2]
end

end Go.Proofs.Ythghdjpjbngllaa
