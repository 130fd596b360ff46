/- What comes in, opened: a slice of words reads as a list of numbers. -/
import Derived.ProofKit
import Derived.OpenShut
import Derived.Test.YtnnidjhhcnmnnaaLib
namespace Go.Proofs.Ytnnidjhhcnmnnaa
open Go.ChangeShapes Go.WideShapes Go.ChangeAt Go.RowKit

theorem wf_u64_bounds {n : Int} (h : (Lit.int .u64 n).wf = true) : 0 ≤ n ∧ n < 18446744073709551616 := by
  simp only [Lit.wf, Bool.and_eq_true, decide_eq_true_eq] at h
  have h1 : IntKind.u64.min = 0 := rfl
  have h2 : IntKind.u64.max = 18446744073709551615 := rfl
  rw [h1, h2] at h; omega

theorem wf_u8_bounds {n : Int} (h : (Lit.int .u8 n).wf = true) : 0 ≤ n ∧ n < 256 := by
  simp only [Lit.wf, Bool.and_eq_true, decide_eq_true_eq] at h
  have h1 : IntKind.u8.min = 0 := rfl
  have h2 : IntKind.u8.max = 255 := rfl
  rw [h1, h2] at h; omega

theorem wf_i64_bounds {n : Int} (h : (Lit.int .i64 n).wf = true) : -9223372036854775808 ≤ n ∧ n ≤ 9223372036854775807 := by
  simp only [Lit.wf, Bool.and_eq_true, decide_eq_true_eq] at h
  have h1 : IntKind.i64.min = -9223372036854775808 := rfl
  have h2 : IntKind.i64.max = 9223372036854775807 := rfl
  rw [h1, h2] at h; omega

/-- A slice of words, opened. -/
theorem open_words {H : Type} {enc : TypeId × Value → H} {P : Program} {W : World} {base : Nat} {spare : Nat → Bool} {held : Bool} {t e : TypeId} {v : Value} {d : DataW H} {p : List MemPlace}
    (ht : P.underlying t = some (.slice e)) (he : P.underlying e = some (.int .u64)) (hc : P.cellsOf e = 1) {r : Reach} {b0 : Nat} (hv : Value.okWide P W r b0 t v)
    (h : DataW.Trod enc P W base spare held t v d p) : ∃ xs, Sl .u64 W v xs ∧ wf W64 xs := by
  obtain ⟨a, len, cap, rfl⟩ := okWide_slice ht hv
  obtain ⟨fuel, hf⟩ := h
  rcases open_ints ht he hc hf with ⟨hcs, _⟩ | ⟨x, l, c, zs, hcs, _, hl, hm, hz, _, hcell, hwz⟩
  · simp [Value.cells] at hcs
    obtain ⟨rfl, rfl, rfl⟩ := hcs
    exact ⟨[], Sl.nil _ _, wf_nil _⟩
  · simp [Value.cells] at hcs
    obtain ⟨rfl, rfl, rfl⟩ := hcs
    have hlz : len ≤ zs.length := by rw [hz]; split <;> omega
    have hlen : ((zs.take len).map Int.toNat).length = len := by simp; omega
    have hget : ∀ j, j < len → ((zs.take len).map Int.toNat).getD j 0 = (zs.getD j 0).toNat := by
      intro j hj
      simp [List.getD, hj]
      cases zs[j]? <;> rfl
    refine ⟨(zs.take len).map Int.toNat, ⟨some x, x.block, x.off, cap, by rw [hlen], by rw [hlen]; exact hl, ?_, ?_⟩, ?_⟩
    · intro hne
      have h0 : 0 < zs.length := by
        by_cases h : zs = []
        · subst h; simp at hne
        · exact List.length_pos_iff.2 h
      have := World.cell?_spot (hcell 0 h0)
      simp [Addr.add] at this
      obtain ⟨b, o, s⟩ := x
      simp at this; rw [this]
    · intro j hj
      rw [hlen] at hj
      have hjz : j < zs.length := by omega
      have h1 := hcell j hjz
      have hwj := wf_u64_bounds (hwz (zs.getD j 0) (by simp [List.getD, List.getElem?_eq_getElem hjz]))
      rw [hget j hj]
      have e1 : (((zs.getD j 0).toNat : Nat) : Int) = zs.getD j 0 := by omega
      rw [e1, ← h1]
      congr 1
      have h0 : 0 < zs.length := by omega
      have := World.cell?_spot (hcell 0 h0)
      simp [Addr.add] at this
      obtain ⟨b, o, s⟩ := x
      simp at this; subst this
      unfold Addr.add; split
      · rename_i h; subst h; rfl
      · rfl
    · intro y hy
      simp only [List.mem_map] at hy
      obtain ⟨z, hz1, rfl⟩ := hy
      have := wf_u64_bounds (hwz z (List.mem_of_mem_take hz1))
      unfold W64; omega

/-- An array of two words, opened. -/
theorem open_pair {H : Type} {enc : TypeId × Value → H} {P : Program} {W : World} {base : Nat} {spare : Nat → Bool} {held : Bool} {t e : TypeId} {v : Value} {d : DataW H} {p : List MemPlace}
    (ht : P.underlying t = some (.array 2 e)) (he : P.underlying e = some (.int .u64)) (hc : P.cellsOf e = 1) (hct : P.cellsOf t = 2) {r : Reach} {b0 : Nat} (hv : Value.okWide P W r b0 t v)
    (h : DataW.Trod enc P W base spare held t v d p) : ∃ x y : Nat, v = .agg #[.int .u64 x, .int .u64 y] ∧ x < W64 ∧ y < W64 := by
  obtain ⟨cs, rfl, hsz⟩ : ∃ cs, v = .agg cs ∧ cs.size = 2 := by
    unfold Value.okWide at hv; rw [ht] at hv
    obtain ⟨cs, h1, h2, _⟩ := hv
    exact ⟨cs, h1, by rw [h2, hct]⟩
  obtain ⟨fuel, hf⟩ := h
  obtain ⟨l, rfl⟩ : ∃ l, cs = ⟨l⟩ := ⟨cs.toList, by simp⟩
  match l, hsz with
  | [c0, c1], _ =>
    cases fuel with
    | zero => simp [DataW.trod] at hf
    | succ n =>
      simp only [Value.cells] at hf
      unfold DataW.trod at hf
      rw [ht] at hf
      have r2 : List.range 2 = [0, 1] := rfl
      simp [r2, hc] at hf
      obtain ⟨_, hf⟩ := hf
      cases h0 : DataW.trod enc P W base spare held n e [c0] with
      | none => simp [h0] at hf
      | some y0 =>
        cases h1 : DataW.trod enc P W base spare held n e [c1] with
        | none => simp [h0, h1] at hf
        | some y1 =>
          obtain ⟨a, e0, _, w0⟩ := DataW.trod_int he h0
          obtain ⟨b, e1, _, w1⟩ := DataW.trod_int he h1
          simp at e0 e1; subst e0 e1
          have b0 := wf_u64_bounds w0
          have b1 := wf_u64_bounds w1
          refine ⟨a.toNat, b.toNat, ?_, by unfold W64; omega, by unfold W64; omega⟩
          rw [show ((a.toNat : Nat) : Int) = a from by omega, show ((b.toNat : Nat) : Int) = b from by omega]

theorem Sl.one {k : IntKind} {w : World} {b off cap x : Nat} (h : w.cell? ⟨b, off, none⟩ = some (.int k (x : Int))) (hc : 1 ≤ cap) : Sl k w (.slice (some ⟨b, off, none⟩) 1 cap) [x] :=
  ⟨_, b, off, cap, rfl, hc, fun _ => rfl, fun j hj => by
    have : j = 0 := by simp at hj; exact hj
    subst this; exact h⟩

end Go.Proofs.Ytnnidjhhcnmnnaa
