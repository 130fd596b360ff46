/- Blocks that are laid one behind the other. -/
import Derived.Test.YthghdjpjbngllaaZdFblk
namespace Go.Proofs.Ythghdjpjbngllaa
open Go.RowKit

theorem boxes1 (w : World) (e1 : TypeId) (A : List Value) : ∃ wb, wb = (w.alloc (.cells A.toArray e1)) ∧
    Blk e1 wb w.heap.size A ∧ Below w.heap.size w wb ∧ wb.heap.size = w.heap.size + 1 :=
  ⟨_, rfl, Blk.lit w e1 A, (Below.refl _ _).alloc (Nat.le_refl _) _, by simp⟩
theorem boxes2 (w : World) (e1 e2 : TypeId) (A B : List Value) : ∃ wb, wb = (w.alloc (.cells A.toArray e1)).alloc (.cells B.toArray e2) ∧
    Blk e1 wb w.heap.size A ∧ Blk e2 wb (w.heap.size + 1) B ∧ Below w.heap.size w wb ∧ wb.heap.size = w.heap.size + 1 + 1 := by
  have b1 := Blk.lit w e1 A
  have b2 := Blk.lit (w.alloc (.cells A.toArray e1)) e2 B
  have s1 : (w.alloc (.cells A.toArray e1)).heap.size = w.heap.size + 1 := by simp
  rw [s1] at b2
  exact ⟨_, rfl, b1.alloc _, b2, ((Below.refl _ _).alloc (Nat.le_refl _) _).alloc (by simp) _, by simp⟩
end Go.Proofs.Ythghdjpjbngllaa
