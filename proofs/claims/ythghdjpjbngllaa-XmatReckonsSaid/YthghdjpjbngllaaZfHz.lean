/- hess: the characteristic polynomial. -/
import Derived.Test.YthghdjpjbngllaaZfHnext
namespace Go.Proofs.Ythghdjpjbngllaa
open Go.RowKit

theorem Own.keptP {w w' : World} {base : Nat} {v : Value} {xs : List Nat} (h : Own .u64 27 w base v xs) {b1 n0 : Nat} {v0 : Value} {xs0 : List Value} (ho : w.ownsRow b1 33 1 v0 n0 xs0) (hg : w.grownBy w' v0.ownBlock) : Own .u64 27 w' base v xs := by
  refine World.ownsRow.kept h hg ?_
  rcases h.2 with ⟨h1, _⟩ | ⟨g, cap, cur, h1, _, h2, _⟩
  · left; rw [h1]; rfl
  · right
    intro e
    rw [h1] at e
    exact rowOwn_ne ho h2 (by decide) e.symm
/-- A normal polynomial and a word are returned. -/
def RetPE (p : Nat) (w : World) (L : Nat) (f : Pol (Zp p)) (e : Ending) (w' : World) : Prop :=
  ∃ ao cap zs, e = .returned (.tuple #[.slice ao zs.length cap, .int .i64 0]) ∧ Own .u64 27 w' w.heap.size (.slice ao zs.length cap) zs ∧ Nrm p zs ∧ pl p zs = f ∧ zs.length ≤ L ∧ Below w.heap.size w w'
end Go.Proofs.Ythghdjpjbngllaa
/- hess: Hessenberg. -/
namespace Go.Proofs.Ythghdjpjbngllaa
open Go.RowKit

end Go.Proofs.Ythghdjpjbngllaa
/- hess: Companion. -/
namespace Go.Proofs.Ythghdjpjbngllaa
open Go.RowKit

end Go.Proofs.Ythghdjpjbngllaa
/- hess: the characteristic polynomial of a companion; the awake of law 22. -/
namespace Go.Proofs.Ythghdjpjbngllaa
open Go.RowKit

section
variable {p n : Nat} {zs : List Nat}
end

end Go.Proofs.Ythghdjpjbngllaa
