/- The reference of chapter 22: the characteristic polynomial. -/
import Derived.Test.YthghdjpjbngllaaZdRfi
namespace Go.Proofs.Ythghdjpjbngllaa
open Go.RowKit

section
variable {p n : Nat}
/-- Where a row stands. -/
def ChI (wk wr : World) (i k : Nat) (T : Nat → Nat → List Nat) (rv : Value) : Prop :=
  ∃ E : Nat → Value, wr.ownsRow wk.heap.size 32 1 rv k (rowL k E) ∧ (∀ j, j < k → Own .u64 27 wr wk.heap.size (E j) (T i j)) ∧ Below wk.heap.size wk wr
theorem ChI.push {wk w1 w2 w3 : World} {i k : Nat} {T : Nat → Nat → List Nat} {rv rv' u : Value} {E : Nat → Value} (h1 : w1.ownsRow wk.heap.size 32 1 rv k (rowL k E)) (h2 : ∀ j, j < k → Own .u64 27 w1 wk.heap.size (E j) (T i j)) (h3 : Below wk.heap.size wk w1)
    (b1 : Below w1.heap.size w1 w2) (hu : Own .u64 27 w2 w1.heap.size u (T i k)) (b2 : Below wk.heap.size w2 w3) (hg : w2.grownBy w3 rv.ownBlock) (ho : w3.ownsRow wk.heap.size 32 1 rv' (k + 1) (rowL k E ++ [u])) : ChI wk w3 i (k + 1) T rv' := by
  have h1' := rowOwn_next h1 b1 (Nat.le_refl _)
  refine ⟨fun j => if j < k then E j else u, ?_, fun j hj => ?_, (h3.trans (b1.mono h3.size)).trans b2⟩
  · rw [rowL_snoc, if_neg (by omega), rowL_congr (V := E) (fun j hj => by simp [hj])]
    exact ho
  · by_cases hc : j < k
    · show Own _ _ w3 _ (if j < k then E j else u) _
      rw [if_pos hc]
      exact rowOwn_kept ((h2 j hc).next b1) h1' hg (by decide)
    · obtain rfl : j = k := by omega
      show Own _ _ w3 _ (if j < j then E j else u) _
      rw [if_neg (by omega)]
      exact rowOwn_kept (hu.mono h3.size) h1' hg (by decide)
/-- Where the rows stand. -/
def ChO (w0 wr : World) (n i : Nat) (T : Nat → Nat → List Nat) (lv : Value) : Prop :=
  ∃ (U : Nat → Value) (E : Nat → Nat → Value), wr.ownsRow w0.heap.size 99 1 lv i (rowL i U) ∧ (∀ r, r < i → wr.ownsRow w0.heap.size 32 1 (U r) n (rowL n (E r))) ∧ (∀ r j, r < i → j < n → Own .u64 27 wr w0.heap.size (E r j) (T r j)) ∧ Below w0.heap.size w0 wr
theorem ChO.push {w0 wk w1 w3 : World} {n i : Nat} {T : Nat → Nat → List Nat} {lv lv' rv : Value} {U : Nat → Value} {E : Nat → Nat → Value} (h1 : wk.ownsRow w0.heap.size 99 1 lv i (rowL i U)) (h2 : ∀ r, r < i → wk.ownsRow w0.heap.size 32 1 (U r) n (rowL n (E r))) (h3 : ∀ r j, r < i → j < n → Own .u64 27 wk w0.heap.size (E r j) (T r j)) (h4 : Below w0.heap.size w0 wk)
    (hi : ChI wk w1 i n T rv) (b2 : Below w0.heap.size w1 w3) (hg : w1.grownBy w3 lv.ownBlock) (ho : w3.ownsRow w0.heap.size 99 1 lv' (i + 1) (rowL i U ++ [rv])) : ChO w0 w3 n (i + 1) T lv' := by
  obtain ⟨E1, k1, k2, k3⟩ := hi
  have h1' := rowOwn_next h1 k3 (Nat.le_refl _)
  refine ⟨fun r => if r < i then U r else rv, fun r => if r < i then E r else E1, ?_, fun r hr => ?_, fun r j hr hj => ?_, (h4.trans (k3.mono h4.size)).trans b2⟩
  · rw [rowL_snoc, if_neg (by omega), rowL_congr (V := U) (fun j hj => by simp [hj])]
    exact ho
  · by_cases hc : r < i
    · show w3.ownsRow _ _ _ (if r < i then U r else rv) _ (rowL n (if r < i then E r else E1))
      rw [if_pos hc, if_pos hc]
      exact rowOwn_kept (rowOwn_next (h2 r hc) k3 (Nat.le_refl _)) h1' hg (by decide)
    · obtain rfl : r = i := by omega
      show w3.ownsRow _ _ _ (if r < r then U r else rv) _ (rowL n (if r < r then E r else E1))
      rw [if_neg (by omega), if_neg (by omega)]
      exact rowOwn_kept (rowOwn_mono k1 h4.size) h1' hg (by decide)
  · by_cases hc : r < i
    · show Own _ _ w3 _ ((if r < i then E r else E1) j) _
      rw [if_pos hc]
      exact rowOwn_kept ((h3 r j hc hj).next k3) h1' hg (by decide)
    · obtain rfl : r = i := by omega
      show Own _ _ w3 _ ((if r < r then E r else E1) j) _
      rw [if_neg (by omega)]
      exact rowOwn_kept ((k2 j hj).mono h4.size) h1' hg (by decide)
end

end Go.Proofs.Ythghdjpjbngllaa
