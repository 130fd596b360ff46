/- Package fpoly: rest, Gcd, Lcm, PowMod. -/
import Derived.Test.YthghdjpjbngllaaZfFdeg
import Derived.Test.YthghdjpjbngllaaZfQz
namespace Go.Proofs.Ythghdjpjbngllaa
open Go.RowKit

end Go.Proofs.Ythghdjpjbngllaa
/- Package fpoly: PowMod; the statements' divides. -/
namespace Go.Proofs.Ythghdjpjbngllaa
open Go.RowKit

end Go.Proofs.Ythghdjpjbngllaa
/- The statements' divides. -/
namespace Go.Proofs.Ythghdjpjbngllaa
open Go.RowKit

theorem nl_nil {p : Nat} (hp : 0 < p) {xs : List Nat} : nl p xs = [] ↔ pl p xs = 0 := by
  constructor
  · intro h; rw [← nl_pl, h, pl_nil]
  · intro h; exact pl_zero hp (nl_nrm hp xs) (by rw [nl_pl, h])

end Go.Proofs.Ythghdjpjbngllaa
