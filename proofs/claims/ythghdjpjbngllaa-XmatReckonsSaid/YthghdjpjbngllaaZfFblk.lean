/- A block that is known whole: its cells, and how it goes through later worlds. -/
import Derived.Test.YthghdjpjbngllaaZfLib
namespace Go.Proofs.Ythghdjpjbngllaa
open Go.RowKit

def Blk (e : TypeId) (w : World) (g : Nat) (vs : List Value) : Prop := w.heap[g]? = some (.cells vs.toArray e (0, 0))

theorem Blk.lit (w : World) (e : TypeId) (vs : List Value) : Blk e (w.alloc (.cells vs.toArray e)) w.heap.size vs := heap_alloc_new w _
theorem Blk.lt {e : TypeId} {w : World} {g : Nat} {vs : List Value} (h : Blk e w g vs) : g < w.heap.size := (Array.getElem?_eq_some_iff.1 h).1
theorem Blk.below {e : TypeId} {w w' : World} {g : Nat} {vs : List Value} (h : Blk e w g vs) {B : Nat} (hb : Below B w w') (hg : g < B) : Blk e w' g vs := by
  unfold Blk; rw [hb.block g hg]; exact h
theorem Blk.next {e : TypeId} {w w' : World} {g : Nat} {vs : List Value} (h : Blk e w g vs) (hb : Below w.heap.size w w') : Blk e w' g vs := h.below hb h.lt
theorem Blk.alloc {e : TypeId} {w : World} {g : Nat} {vs : List Value} (h : Blk e w g vs) (o : Obj) : Blk e (w.alloc o) g vs := h.next ((Below.refl _ _).alloc (Nat.le_refl _) o)
theorem Blk.cell {e : TypeId} {w : World} {g : Nat} {vs : List Value} (h : Blk e w g vs) (j : Nat) : w.cell? ⟨g, j, none⟩ = vs[j]? := by
  rw [cell_of_row w g j vs.toArray e (0, 0) h]; simp
theorem Blk.free {e : TypeId} {w : World} {g : Nat} {vs : List Value} (h : Blk e w g vs) (j : Nat) : w.frozen? ⟨g, j, none⟩ = false := frozen_of_row w g j _ e h
theorem Blk.set {e : TypeId} {w : World} {g : Nat} {vs : List Value} (h : Blk e w g vs) (j : Nat) (v : Value) : Blk e (w.setCell ⟨g, j, none⟩ v) g (vs.set j v) := by
  have := heap_setCell_same w g j vs.toArray e v h
  unfold Blk; rw [this]; simp
theorem Blk.far {e : TypeId} {w : World} {g : Nat} {vs : List Value} (h : Blk e w g vs) {a : Addr} (ha : g ≠ a.block) (v : Value) : Blk e (w.setCell a v) g vs := by
  unfold Blk; rw [Below.heap_setCell w a v g ha]; exact h
theorem Blk.at {e : TypeId} {w w' : World} {g : Nat} {vs : List Value} (h : Blk e w g vs) (hb : Below w.heap.size w w') (j : Nat) : w'.cell? ⟨g, j, none⟩ = vs[j]? := (h.next hb).cell j

end Go.Proofs.Ythghdjpjbngllaa
