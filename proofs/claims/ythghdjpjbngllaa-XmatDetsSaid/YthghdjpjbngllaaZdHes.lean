/- Plain algebra: matrices made of each other have one characteristic polynomial; Hessenberg's form, step by step; its characteristic polynomial. -/
import Derived.Test.YthghdjpjbngllaaZdMz
namespace Go.Proofs.Ythghdjpjbngllaa
open CR

section
variable {R : Type} [CR R] {n m : Nat}

/-- A multiple of the row k is taken out of the row i; as many of the column i are put to the column k. -/
def rcl (H : Nat → Nat → R) (i k : Nat) (c : R) : Nat → Nat → R := fun a b => if a = i then H a b - c * H k b else H a b
def hcl (H : Nat → Nat → R) (i k : Nat) (c : R) : Nat → Nat → R := fun a b => if b = k then rcl H i k c a k + c * rcl H i k c a i else rcl H i k c a b

end

end Go.Proofs.Ythghdjpjbngllaa
