/- Blocks that are laid one behind the other. -/
import Derived.Test.YthghdjpjbngllaaZfFblk
namespace Go.Proofs.Ythghdjpjbngllaa
open Go.RowKit

theorem boxes1 (w : World) (e1 : TypeId) (A : List Value) : ∃ wb, wb = (w.alloc (.cells A.toArray e1)) ∧
    Blk e1 wb w.heap.size A ∧ Below w.heap.size w wb ∧ wb.heap.size = w.heap.size + 1 :=
  ⟨_, rfl, Blk.lit w e1 A, (Below.refl _ _).alloc (Nat.le_refl _) _, by simp⟩
theorem boxes2 (w : World) (e1 e2 : TypeId) (A B : List Value) : ∃ wb, wb = (w.alloc (.cells A.toArray e1)).alloc (.cells B.toArray e2) ∧
    Blk e1 wb w.heap.size A ∧ Blk e2 wb (w.heap.size + 1) B ∧ Below w.heap.size w wb ∧ wb.heap.size = w.heap.size + 1 + 1 := by
  have b1 := Blk.lit w e1 A
  have b2 := Blk.lit (w.alloc (.cells A.toArray e1)) e2 B
  have s1 : (w.alloc (.cells A.toArray e1)).heap.size = w.heap.size + 1 := by simp
  rw [s1] at b2
  exact ⟨_, rfl, b1.alloc _, b2, ((Below.refl _ _).alloc (Nat.le_refl _) _).alloc (by simp) _, by simp⟩
theorem boxes3 (w : World) (e1 e2 e3 : TypeId) (A B C : List Value) : ∃ wb, wb = ((w.alloc (.cells A.toArray e1)).alloc (.cells B.toArray e2)).alloc (.cells C.toArray e3) ∧
    Blk e1 wb w.heap.size A ∧ Blk e2 wb (w.heap.size + 1) B ∧ Blk e3 wb (w.heap.size + 1 + 1) C ∧ Below w.heap.size w wb ∧ wb.heap.size = w.heap.size + 1 + 1 + 1 := by
  obtain ⟨w2, rfl, b1, b2, hb, hs⟩ := boxes2 w e1 e2 A B
  obtain ⟨w3, e, b3, hb3, hs3⟩ := boxes1 ((w.alloc (.cells A.toArray e1)).alloc (.cells B.toArray e2)) e3 C
  rw [hs] at b3 hs3
  exact ⟨w3, e, b1.next hb3, b2.next hb3, b3, hb.trans (hb3.mono hb.size), hs3⟩
theorem boxes4 (w : World) (e1 e2 e3 e4 : TypeId) (A B C D : List Value) : ∃ wb, wb = (((w.alloc (.cells A.toArray e1)).alloc (.cells B.toArray e2)).alloc (.cells C.toArray e3)).alloc (.cells D.toArray e4) ∧
    Blk e1 wb w.heap.size A ∧ Blk e2 wb (w.heap.size + 1) B ∧ Blk e3 wb (w.heap.size + 1 + 1) C ∧ Blk e4 wb (w.heap.size + 1 + 1 + 1) D ∧ Below w.heap.size w wb ∧ wb.heap.size = w.heap.size + 1 + 1 + 1 + 1 := by
  obtain ⟨w2, rfl, b1, b2, b3, hb, hs⟩ := boxes3 w e1 e2 e3 A B C
  obtain ⟨w3, e, b4, hb3, hs3⟩ := boxes1 (((w.alloc (.cells A.toArray e1)).alloc (.cells B.toArray e2)).alloc (.cells C.toArray e3)) e4 D
  rw [hs] at b4 hs3
  exact ⟨w3, e, b1.next hb3, b2.next hb3, b3.next hb3, b4, hb.trans (hb3.mono hb.size), hs3⟩

theorem Own.low {k : IntKind} {e : TypeId} {w : World} {base : Nat} {v : Value} {xs : List Nat} (h : Own k e w base v xs) {a : Addr} (ha : a.block < base) (u : Value) : Own k e (w.setCell a u) base v xs :=
  ownsRow_setCell_below h ha u

end Go.Proofs.Ythghdjpjbngllaa
