/- fmat.work: a multiple of one row is taken out of another one. -/
import Derived.Test.YthghdjpjbngllaaZfWork
namespace Go.Proofs.Ythghdjpjbngllaa
open Go.RowKit

section
variable {α : Type} {V : World → Value → α → Prop} {e er : TypeId} {w : World} {base n N : Nat} {rv : Value} {vs : List Value} {W W' : Nat → Nat → α}
theorem Rws.ao (h : Rws V e er w base rv vs n N W) {i : Nat} {ao : Option Addr} {cap : Nat} (hv : vs[i]? = some (.slice ao N cap)) (hN : 0 < N) : ∃ b o, ao = some ⟨b, o, none⟩ := by
  obtain ⟨ao', cap', b, o, cur, e1, h1, h2⟩ := h.row i _ hv
  simp only [Value.slice.injEq, true_and] at e1
  exact ⟨b, o, e1.1.trans (h2 hN).1⟩
theorem Rws.at (h : Rws V e er w base rv vs n N W) {i b o cap k : Nat} (hv : vs[i]? = some (.slice (some ⟨b, o, none⟩) N cap)) (hk : k < N) :
    (∃ u, w.cell? ⟨b, o + k, none⟩ = some u ∧ V w u (W i k)) ∧ w.frozen? ⟨b, o + k, none⟩ = false ∧ base ≤ b ∧ b < w.heap.size := by
  obtain ⟨ao', cap', b', o', cur, e1, h1, h2⟩ := h.row i _ hv
  obtain ⟨h3, h4, h5, h6⟩ := h2 (by omega)
  simp only [Value.slice.injEq, true_and] at e1
  rw [h3] at e1
  simp only [Option.some.injEq, Addr.mk.injEq, and_true] at e1
  obtain ⟨⟨rfl, rfl⟩, rfl⟩ := e1
  obtain ⟨u, h7, h8⟩ := h6 k hk
  exact ⟨⟨u, (cell_of_row w b (o + k) cur e (0, 0) h5).trans h7, h8⟩, frozen_of_row w b (o + k) cur e h5, h4, (Array.getElem?_eq_some_iff.1 h5).1⟩
theorem Rws.atc (h : Rws V e er w base rv vs n N W) {i b o cap k : Nat} (hv : vs[i]? = some (.slice (some ⟨b, o, none⟩) N cap)) (hk : k < N) : ∃ cur, w.heap[b]? = some (.cells cur e (0, 0)) := by
  obtain ⟨ao', cap', b', o', cur, e1, h1, h2⟩ := h.row i _ hv
  obtain ⟨h3, h4, h5, h6⟩ := h2 (by omega)
  simp only [Value.slice.injEq, true_and] at e1
  rw [h3] at e1
  simp only [Option.some.injEq, Addr.mk.injEq, and_true] at e1
  obtain ⟨⟨rfl, rfl⟩, rfl⟩ := e1
  exact ⟨cur, h5⟩
end

section
variable {p : Nat} {w : World} {base gW n N : Nat} {W W' : Nat → Nat → Zp p} {P : List Nat} {d : Zp p} {rv pv : Value} {vs : List Value}
end

end Go.Proofs.Ythghdjpjbngllaa
