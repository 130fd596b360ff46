/- The references of layer 1: Mul. -/
import Derived.Test.YtnnidjhhcnmnnaaDoorRef2
import Derived.Test.YtnnidjhhcnmnnaaDoorStep
import Derived.IntWalk
namespace Go.Proofs.YtnnidjhhcnmnnaaDoor
open Go.RowKit

theorem nv_map_mul (B c : Nat) (xs : List Nat) : nv B (xs.map (· * c)) = nv B xs * c := by
  induction xs with
  | nil => simp [nv]
  | cons x xs ih => simp [nv, ih, Nat.add_mul, Nat.mul_assoc]

/-- The line of a product. -/
def lineOf (i c : Nat) (xs : List Nat) : List Nat := List.replicate i 0 ++ xs.map (· * c)
theorem lineOf_nv (i c : Nat) (xs : List Nat) : nv D16 (lineOf i c xs) = D16 ^ i * (nv D16 xs * c) := by
  unfold lineOf; rw [nv_append, nv_replicate0, nv_map_mul, List.length_replicate]; omega
theorem lineOf_len (i c : Nat) (xs : List Nat) : (lineOf i c xs).length = i + xs.length := by simp [lineOf]
theorem lineOf_snoc (i c : Nat) (xs : List Nat) (k : Nat) (hk : k < xs.length) : lineOf i c (xs.take k) ++ [xs.getD k 0 * c] = lineOf i c (xs.take (k + 1)) := by
  unfold lineOf; rw [take_snoc xs k hk, List.map_append, List.append_assoc]; rfl
theorem lineOf_wf (i c : Nat) (xs : List Nat) (hx : wf D16 xs) (hc : c < D16) : wf 1099511627776 (lineOf i c xs) := by
  unfold lineOf
  refine wf_append (wf_replicate0 (by decide) _) ?_
  intro y hy
  simp only [List.mem_map] at hy
  obtain ⟨z, hz, rfl⟩ := hy
  have h1 := hx z hz
  have h2 : z * c ≤ 65535 * 65535 := Nat.mul_le_mul (by unfold D16 at h1; omega) (by unfold D16 at hc; omega)
  omega

/-- Where the outer loop of Mul stands. -/
def RMulRel (w wr : World) (xs ys : List Nat) (i : Nat) (v : Value) (zs : List Nat) : Prop :=
  Own .i64 3 wr w.heap.size v zs ∧ Below w.heap.size w wr ∧ Nrm D16 zs ∧ nv D16 zs = nv D16 xs * nv D16 (ys.take i)

theorem RMulRel.len {xs ys zs : List Nat} {i : Nat} (hn : Nrm D16 zs) (hv : nv D16 zs = nv D16 xs * nv D16 (ys.take i)) (hx : wf D16 xs) (hy : wf D16 ys) : zs.length ≤ xs.length + ys.length := by
  refine nrm_len_le (by decide) hn ?_
  rw [hv, Nat.pow_add]
  have h1 := nv_lt xs hx
  have h2 := nv_lt (ys.take i) (wf_take hy i)
  have h3 : D16 ^ (ys.take i).length ≤ D16 ^ ys.length := Nat.pow_le_pow_right (by decide) (by simp; omega)
  exact Nat.mul_lt_mul'' h1 (Nat.lt_of_lt_of_le h2 h3)

/-- Where the inner loops stand: the line as far as it is. -/
def LineRel (wo wr : World) (v : Value) (zs : List Nat) : Prop := Own .i64 3 wr wo.heap.size v zs ∧ Below wo.heap.size wo wr

end Go.Proofs.YtnnidjhhcnmnnaaDoor
