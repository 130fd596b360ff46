/- Package fmat: what a matrix reads as; the word at a place; which are formed, which alike. -/
import Derived.Test.YthghdjpjbngllaaZfBoxes
import Derived.Test.YthghdjpjbngllaaZfFtab
import Derived.Test.YthghdjpjbngllaaZfFz
namespace Go.Proofs.Ythghdjpjbngllaa
open Go.RowKit

def RetW (w : World) (v : Value) (e : Ending) (w' : World) : Prop := e = .returned v ∧ Below w.heap.size w w'

/-- A side that may be. -/
def Sd (n : Int) : Prop := 0 ≤ n ∧ n ≤ 64
instance (n : Int) : Decidable (Sd n) := by unfold Sd; exact inferInstance
/-- Formed: the sides may be, and there are as many words. -/
def Fd (R C : Int) (n : Nat) : Prop := Sd R ∧ Sd C ∧ (n : Int) = R * C
instance (R C : Int) (n : Nat) : Decidable (Fd R C n) := by unfold Fd; exact inferInstance
theorem Sd.mul {R C : Int} (hR : Sd R) (hC : Sd C) : IntKind.i64.wrap (R * C) = R * C := by
  have h1 : 0 ≤ R * C := Int.mul_nonneg hR.1 hC.1
  have h2 : R * C ≤ 64 * 64 := Int.mul_le_mul hR.2 hC.2 hC.1 (by omega)
  exact IntWalk.i64_in _ ⟨by omega, by omega⟩
theorem Fd.of {r c n : Nat} (hr : r ≤ 64) (hc : c ≤ 64) (hn : n = r * c) : Fd r c n := ⟨⟨by omega, by omega⟩, ⟨by omega, by omega⟩, by rw [hn, Int.natCast_mul]⟩
theorem Fd.nat {R C : Int} {n : Nat} (h : Fd R C n) : ∃ r c : Nat, R = r ∧ C = c ∧ r ≤ 64 ∧ c ≤ 64 ∧ n = r * c := by
  obtain ⟨⟨h1, h2⟩, ⟨h3, h4⟩, h5⟩ := h
  obtain ⟨r, rfl⟩ := Int.eq_ofNat_of_zero_le h1
  obtain ⟨c, rfl⟩ := Int.eq_ofNat_of_zero_le h3
  refine ⟨r, c, rfl, rfl, by omega, by omega, ?_⟩
  rw [← Int.natCast_mul] at h5; exact Int.ofNat.inj h5
/-- Both formed, of the same sides. -/
def Al (R1 C1 R2 C2 : Int) (m n : Nat) : Prop := Fd R1 C1 m ∧ Fd R2 C2 n ∧ R1 = R2 ∧ C1 = C2
instance (R1 C1 R2 C2 : Int) (m n : Nat) : Decidable (Al R1 C1 R2 C2 m n) := by unfold Al; exact inferInstance

end Go.Proofs.Ythghdjpjbngllaa
