/- hess: the characteristic polynomial. -/
import Derived.Test.YthghdjpjbngllaaZdHnext
namespace Go.Proofs.Ythghdjpjbngllaa
open Go.RowKit

theorem nrm_1 {p : Nat} (hp : FP p) : Nrm p [1] := ⟨wf_cons (by have := hp.1; omega) (wf_nil _), rfl⟩
/-- A normal polynomial and a word are returned. -/
def RetPE (p : Nat) (w : World) (L : Nat) (f : Pol (Zp p)) (e : Ending) (w' : World) : Prop :=
  ∃ ao cap zs, e = .returned (.tuple #[.slice ao zs.length cap, .int .i64 0]) ∧ Own .u64 27 w' w.heap.size (.slice ao zs.length cap) zs ∧ Nrm p zs ∧ pl p zs = f ∧ zs.length ≤ L ∧ Below w.heap.size w w'
end Go.Proofs.Ythghdjpjbngllaa
/- hess: Hessenberg. -/
namespace Go.Proofs.Ythghdjpjbngllaa
open Go.RowKit

end Go.Proofs.Ythghdjpjbngllaa
/- hess: Companion. -/
namespace Go.Proofs.Ythghdjpjbngllaa
open Go.RowKit

end Go.Proofs.Ythghdjpjbngllaa
/- hess: the characteristic polynomial of a companion; the awake of law 22. -/
namespace Go.Proofs.Ythghdjpjbngllaa
open Go.RowKit

section
variable {p n : Nat} {zs : List Nat}
end

end Go.Proofs.Ythghdjpjbngllaa
