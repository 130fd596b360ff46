/- hess.work: the characteristic polynomial of one row and column more. -/
import Derived.Test.YthghdjpjbngllaaZfQz
import Derived.Test.YthghdjpjbngllaaZfHswap
namespace Go.Proofs.Ythghdjpjbngllaa
open Go.RowKit

theorem pl1 {p : Nat} : pl p [1] = 1 := Pol.ext fun i => by rw [pl_c, Pol.one_def, c_mon]; cases i <;> rfl
end Go.Proofs.Ythghdjpjbngllaa
