/- fmat.made: a matrix, place by place. -/
import Derived.Shelf.Abstract
import Derived.Test.YthghdjpjbngllaaZfFm
import Derived.Test.YthghdjpjbngllaaZfPeel
import Derived.Test.YthghdjpjbngllaaZfQz
namespace Go.Proofs.Ythghdjpjbngllaa
open Go.RowKit

theorem Own.sliced {k : IntKind} {e : TypeId} {w : World} {base : Nat} {v : Value} {xs : List Nat} (h : Own k e w base v xs) : ∃ ao c, v = .slice ao xs.length c := by
  rcases h.shape with ⟨rfl, rfl⟩ | ⟨g, cap, rfl, -⟩
  · exact ⟨none, 0, rfl⟩
  · exact ⟨_, _, rfl⟩

end Go.Proofs.Ythghdjpjbngllaa
