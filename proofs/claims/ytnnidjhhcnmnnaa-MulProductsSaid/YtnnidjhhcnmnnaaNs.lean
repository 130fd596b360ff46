/- A slice of slices of words: what it reads as; opened where it comes in. -/
import Derived.Deep.Slices
import Derived.Test.YtnnidjhhcnmnnaaOpen
import Derived.Lib.SmallJoins
import Derived.ChangeSame
namespace Go.Proofs.Ytnnidjhhcnmnnaa
open Go.ChangeShapes Go.WideShapes Go.ChangeAt Go.RowKit Go.Deep Go.Joins

/-- A slice of slices of words. -/
def Ns (w : World) (v : Value) (qs : List (List Nat)) : Prop := ∃ (ao : Option Addr) (b off cap : Nat) (U : Nat → Value), v = .slice ao qs.length cap ∧ qs.length ≤ cap ∧ (0 < qs.length → ao = some ⟨b, off, none⟩ ∧ b < w.heap.size) ∧
  ∀ j, j < qs.length → w.cell? ⟨b, off + j, none⟩ = some (U j) ∧ Sl .u64 w (U j) (qs.getD j []) ∧ wf W64 (qs.getD j [])
theorem Ns.below {w w' : World} {v : Value} {qs : List (List Nat)} (h : Ns w v qs) {B : Nat} (hb : Below B w w') (hB : w.heap.size ≤ B) : Ns w' v qs := by
  obtain ⟨ao, b, off, cap, U, e, h1, h2, h3⟩ := h
  refine ⟨ao, b, off, cap, U, e, h1, fun h => ⟨(h2 h).1, by have := (h2 h).2; have := hb.size; omega⟩, fun j hj => ?_⟩
  obtain ⟨k1, k2, k3⟩ := h3 j hj
  have := (h2 (by omega)).2
  exact ⟨(hb.cell (p := ⟨b, off + j, none⟩) (by simp; omega)).trans k1, k2.below hb hB, k3⟩
theorem Ns.next {w w' : World} {v : Value} {qs : List (List Nat)} (h : Ns w v qs) (hb : Below w.heap.size w w') : Ns w' v qs := h.below hb (Nat.le_refl _)
theorem Ns.slc {w : World} {v : Value} {qs : List (List Nat)} (h : Ns w v qs) : ∃ ao cap, v = .slice ao qs.length cap := by
  obtain ⟨ao, _, _, cap, _, e, _⟩ := h; exact ⟨ao, cap, e⟩

section
variable {H : Type} {enc : TypeId × Value → H} {P : Program} {w : World} {base : Nat} {spare : Nat → Bool} {held : Bool}
theorem trod_words2 {t e : TypeId} {fuel : Nat} {v : Value} {x : DataW H × List MemPlace} (ht : P.underlying t = some (.slice e)) (he : P.underlying e = some (.int .u64)) (hc : P.cellsOf e = 1)
    (hf : DataW.trod enc P w base spare held fuel t [v] = some x) : ∃ xs, Sl .u64 w v xs ∧ wf W64 xs := by
  rcases open_ints ht he hc hf with ⟨hcs, _⟩ | ⟨x, l, c, zs, hcs, _, hl, hm, hz, _, hcell, hwz⟩
  · simp at hcs
    subst hcs
    exact ⟨[], Sl.nil _ _, wf_nil _⟩
  · simp at hcs
    subst hcs
    have hlz : l ≤ zs.length := by rw [hz]; split <;> omega
    have hlen : ((zs.take l).map Int.toNat).length = l := by simp; omega
    have hget : ∀ j, j < l → ((zs.take l).map Int.toNat).getD j 0 = (zs.getD j 0).toNat := by
      intro j hj
      simp [List.getD, hj]
      cases zs[j]? <;> rfl
    refine ⟨(zs.take l).map Int.toNat, ⟨some x, x.block, x.off, c, by rw [hlen], by rw [hlen]; exact hl, ?_, ?_⟩, ?_⟩
    · intro hne
      have h0 : 0 < zs.length := by
        by_cases h : zs = []
        · subst h; simp at hne
        · exact List.length_pos_iff.2 h
      have := World.cell?_spot (hcell 0 h0)
      simp [Addr.add] at this
      obtain ⟨b, o, s⟩ := x
      simp at this; rw [this]
    · intro j hj
      rw [hlen] at hj
      have hjz : j < zs.length := by omega
      have h1 := hcell j hjz
      have hwj := wf_u64_bounds (hwz (zs.getD j 0) (by simp [List.getD, List.getElem?_eq_getElem hjz]))
      rw [hget j hj]
      have e1 : (((zs.getD j 0).toNat : Nat) : Int) = zs.getD j 0 := by omega
      rw [e1, ← h1]
      congr 1
      have h0 : 0 < zs.length := by omega
      have := World.cell?_spot (hcell 0 h0)
      simp [Addr.add] at this
      obtain ⟨b, o, s⟩ := x
      simp at this; subst this
      unfold Addr.add; split
      · rename_i h; subst h; rfl
      · rfl
    · intro y hy
      simp only [List.mem_map] at hy
      obtain ⟨z, hz1, rfl⟩ := hy
      have := wf_u64_bounds (hwz z (List.mem_of_mem_take hz1))
      unfold W64; omega
theorem trod_ns {t e q : TypeId} {fuel : Nat} {v : Value} {x : DataW H × List MemPlace} (ht : P.underlying t = some (.slice e)) (he : P.underlying e = some (.slice q)) (hq : P.underlying q = some (.int .u64)) (ce : P.cellsOf e = 1) (cq : P.cellsOf q = 1)
    (h : DataW.trod enc P w base spare held fuel t [v] = some x) : ∃ qs, Ns w v qs := by
  rcases open_slice1 ht ce h with ⟨h0, _⟩ | ⟨a, len, cap, m, n, V, D, Pl, hcs, hb, hl, hm, hmm, rfl, hx⟩
  · simp at h0
    subst h0
    exact ⟨[], none, 0, 0, 0, fun _ => .slice none 0 0, rfl, Nat.le_refl _, fun h => absurd h (by simp), fun j hj => absurd hj (by simp)⟩
  · simp at hcs
    subst hcs
    have hlm : len ≤ m := by rw [hmm]; split <;> omega
    have each : ∀ r, r < m → ∃ y : List Nat, Sl .u64 w (V r) y ∧ wf W64 y := fun r hr => trod_words2 he hq cq (hx r hr).2
    obtain ⟨y, hy⟩ := choose_lt each
    have hlen : ((List.range len).map y).length = len := by simp
    have hget : ∀ j, j < len → ((List.range len).map y).getD j [] = y j := fun j hj => by simp [List.getD, hj]
    have hspot : 0 < len → a = ⟨a.block, a.off, none⟩ := fun h0 => by
      have := World.cell?_spot ((hx 0 (by omega)).1)
      simp [Addr.add] at this
      obtain ⟨b, o, s⟩ := a
      simp at this; rw [this]
    refine ⟨(List.range len).map y, some a, a.block, a.off, cap, V, by rw [hlen], by rw [hlen]; exact hl, fun h0 => ?_, fun j hj => ?_⟩
    · rw [hlen] at h0
      refine ⟨by rw [← hspot h0], ?_⟩
      have h1 := World.block_lt_of_cell? w _ (hx 0 (by omega)).1
      have h2 : (a.add 0).block = a.block := by unfold Addr.add; split <;> rfl
      rwa [h2] at h1
    · rw [hlen] at hj
      rw [hget j hj]
      refine ⟨?_, hy j (by omega)⟩
      have h1 := (hx j (by omega)).1
      have h2 : a.add j = ⟨a.block, a.off + j, none⟩ := by
        rw [hspot (by omega)]
        unfold Addr.add; split
        · rename_i h; subst h; rfl
        · rfl
      rw [← h2]; exact h1
end
theorem open_ns {H : Type} {enc : TypeId × Value → H} {P : Program} {W : World} {base : Nat} {spare : Nat → Bool} {held : Bool} {t e q : TypeId} {v : Value} {d : DataW H} {p : List MemPlace}
    (ht : P.underlying t = some (.slice e)) (he : P.underlying e = some (.slice q)) (hq : P.underlying q = some (.int .u64)) (ce : P.cellsOf e = 1) (cq : P.cellsOf q = 1) {r : Reach} {b0 : Nat} (hv : Value.okWide P W r b0 t v)
    (h : DataW.Trod enc P W base spare held t v d p) : ∃ qs, Ns W v qs := by
  obtain ⟨a, len, cap, rfl⟩ := okWide_slice ht hv
  obtain ⟨fuel, hf⟩ := h
  exact trod_ns ht he hq ce cq hf
end Go.Proofs.Ytnnidjhhcnmnnaa
