/- slices.IndexFunc of rows; which row has something in a column. -/
import Derived.Test.YthghdjpjbngllaaZfTake
namespace Go.Proofs.Ythghdjpjbngllaa
open Go.RowKit

/-- The first number with a mark, or -1. -/
def IxR (β : Nat → Bool) (m : Nat) (R : Int) : Prop := (∃ j : Nat, R = j ∧ j < m ∧ β j = true ∧ ∀ l, l < j → β l = false) ∨ (R = -1 ∧ ∀ l, l < m → β l = false)
theorem IxR.ex (β : Nat → Bool) : ∀ m, ∃ R, IxR β m R
  | 0 => ⟨-1, .inr ⟨rfl, fun l h => by omega⟩⟩
  | m + 1 => by
    obtain ⟨R, h | ⟨rfl, h⟩⟩ := IxR.ex β m
    · obtain ⟨j, e, hj, h1, h2⟩ := h
      exact ⟨R, .inl ⟨j, e, by omega, h1, h2⟩⟩
    · cases hb : β m with
      | true => exact ⟨m, .inl ⟨m, rfl, by omega, hb, h⟩⟩
      | false => exact ⟨-1, .inr ⟨rfl, fun l hl => by
          by_cases e : l = m
          · rw [e]; exact hb
          · exact h l (by omega)⟩⟩

end Go.Proofs.Ythghdjpjbngllaa
