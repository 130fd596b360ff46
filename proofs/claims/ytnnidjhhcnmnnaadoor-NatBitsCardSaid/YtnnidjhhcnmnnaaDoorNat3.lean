/- More functions of package nat: Sub, row, Mul, MulAdd. -/
import Derived.Test.YtnnidjhhcnmnnaaDoorNat2
import Derived.Test.YtnnidjhhcnmnnaaDoorMul64
namespace Go.Proofs.YtnnidjhhcnmnnaaDoor
open Go.RowKit

def sbs (x y b : Nat) : Nat := (x + W64 - y - b) % W64
def sbb (x y b : Nat) : Nat := if x < y + b then 1 else 0

/-- The model's entry for Sub64. -/
def sub64Ent : Array Value → Sem Value := fun args => do
  let (x, y, b) ← Extern.MathBitsCarry.three "Sub64" args
  pure (Extern.MathBitsCarry.pair ((x + Extern.MathBitsCarry.m64 - y - b) % Extern.MathBitsCarry.m64) (if x < y + b then 1 else 0))

theorem sbs_lt (x y b : Nat) : sbs x y b < W64 := Nat.mod_lt _ (by decide)
theorem sbb_le (x y b : Nat) : sbb x y b ≤ 1 := by unfold sbb; split <;> omega
theorem sbs_sbb (x y b : Nat) (hx : x < W64) (hy : y < W64) (hb : b ≤ 1) : x + W64 * sbb x y b = sbs x y b + y + b := by
  unfold sbs sbb; unfold W64 at *; split <;> omega

/-- A new natural is returned, and true. -/
def RetNB (w : World) (L N : Nat) (e : Ending) (w' : World) : Prop :=
  ∃ r zs, e = .returned (.tuple #[r, .bool true]) ∧ Own .u64 29 w' w.heap.size r zs ∧ Nrm W64 zs ∧ nv W64 zs = N ∧ zs.length ≤ L ∧ Below w.heap.size w w'

/-- Where the loop of Sub stands. -/
def SubRel (w wr : World) (B : Nat) (X Y : List Nat) (k c : Nat) (zs : List Nat) : Prop :=
  c ≤ 1 ∧ Own .u64 29 wr B (.slice (some ⟨B, 0, none⟩) X.length X.length) zs ∧ Below B w wr ∧ zs.length = X.length ∧ wf W64 zs ∧
    nv W64 (X.take k) + W64 ^ k * c = nv W64 (zs.take k) + nv W64 (Y.take k)

theorem SubRel.step {w wr : World} {B : Nat} {X Y : List Nat} {k c : Nat} {zs : List Nat} (hc : c ≤ 1) (ho : Own .u64 29 wr B (.slice (some ⟨B, 0, none⟩) X.length X.length) zs) (hb : Below B w wr)
    (hl : zs.length = X.length) (hw : wf W64 zs) (hv : nv W64 (X.take k) + W64 ^ k * c = nv W64 (zs.take k) + nv W64 (Y.take k)) (hk : k < X.length) {x y : Nat} (hx : x = X.getD k 0) (hy : y = Y.getD k 0) (wX : wf W64 X) (wY : wf W64 Y) :
    SubRel w (wr.setCell ⟨B, k, none⟩ (.int .u64 (sbs x y c : Nat))) B X Y (k + 1) (sbb x y c) (zs.set k (sbs x y c)) := by
  have h1 : x < W64 := by rw [hx]; exact wf_getD wX (by decide) k
  have h2 : y < W64 := by rw [hy]; exact wf_getD wY (by decide) k
  refine ⟨sbb_le x y c, (ho.store k (sbs x y c)).1, hb.setCell (Nat.le_refl _) _, by simp [hl], wf_set hw _ _ (sbs_lt _ _ _), ?_⟩
  rw [nv_set_succ _ _ _ _ (by omega), nv_take_succ', nv_take_succ', ← hx, ← hy, Nat.pow_succ]
  have h3 := sbs_sbb x y c h1 h2 hc
  have h4 : W64 ^ k * (x + W64 * sbb x y c) = W64 ^ k * (sbs x y c + y + c) := by rw [h3]
  simp only [Nat.mul_add] at h4
  rw [Nat.mul_assoc]
  omega

end Go.Proofs.YtnnidjhhcnmnnaaDoor
