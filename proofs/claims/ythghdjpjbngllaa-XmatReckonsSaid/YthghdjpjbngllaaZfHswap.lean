/- hess.work: rows and columns change places. -/
import Derived.Test.YthghdjpjbngllaaZfMz
import Derived.Test.YthghdjpjbngllaaZfIxf
import Derived.Test.YthghdjpjbngllaaZfPeel2
namespace Go.Proofs.Ythghdjpjbngllaa
open Go.RowKit

section
variable {α : Type} {V : World → Value → α → Prop} {e er : TypeId} {w : World} {base n N : Nat} {rv : Value} {vs : List Value} {W : Nat → Nat → α}
end
section
variable {p : Nat} {w : World} {base gW n : Nat} {H P H' P' : Nat → Nat → Zp p} {hs ps : List Value} {gh ch gp cp : Nat}
theorem ne_typ {w : World} {a b : Nat} {c1 c2 : Array Value} {e1 e2 : TypeId} (h1 : w.heap[a]? = some (.cells c1 e1 (0, 0))) (h2 : w.heap[b]? = some (.cells c2 e2 (0, 0))) (he : e1 ≠ e2) : a ≠ b := by
  intro e; rw [e, h2] at h1; simp at h1; exact he h1.2.symm
end

theorem cell_set_some {w : World} {p q : Addr} {x v : Value} (h : w.cell? q = some v) : ∃ v', (w.setCell p x).cell? q = some v' := by
  by_cases e : p = q
  · subst e; exact ⟨x, World.cell?_setCell_same _ _ _ h⟩
  · exact ⟨v, (World.cell?_setCell_other _ _ _ _ e).trans h⟩
end Go.Proofs.Ythghdjpjbngllaa
