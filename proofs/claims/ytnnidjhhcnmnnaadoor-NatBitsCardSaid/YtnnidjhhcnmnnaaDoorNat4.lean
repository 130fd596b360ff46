/- More functions of package nat: row, Mul, MulAdd. -/
import Derived.Test.YtnnidjhhcnmnnaaDoorNat3
namespace Go.Proofs.YtnnidjhhcnmnnaaDoor
open Go.RowKit

def mhi (x y : Nat) : Nat := x * y / W64
def mlo (x y : Nat) : Nat := x * y % W64

theorem mhi_mlo (x y : Nat) : mlo x y + W64 * mhi x y = x * y := by unfold mlo mhi; exact Nat.mod_add_div _ _
theorem mlo_lt (x y : Nat) : mlo x y < W64 := Nat.mod_lt _ (by decide)

/-- The carry of a step of row. -/
def rhi (x y z c : Nat) : Nat := mhi x y + adc (mlo x y) z 0 + adc (ads (mlo x y) z 0) c 0
def rlo (x y z c : Nat) : Nat := ads (ads (mlo x y) z 0) c 0

theorem rlo_rhi (x y z c : Nat) : rlo x y z c + W64 * rhi x y z c = x * y + z + c := by
  unfold rlo rhi
  have h1 := ads_adc (mlo x y) z 0
  have h2 := ads_adc (ads (mlo x y) z 0) c 0
  have h3 := mhi_mlo x y
  simp only [Nat.mul_add]
  omega
theorem rlo_lt (x y z c : Nat) : rlo x y z c < W64 := ads_lt _ _ _
theorem rhi_lt (x y z c : Nat) (hx : x < W64) (hy : y < W64) (hz : z < W64) (hc : c < W64) : rhi x y z c < W64 := by
  have h := rlo_rhi x y z c
  have h1 : x * y ≤ (W64 - 1) * (W64 - 1) := Nat.mul_le_mul (by omega) (by omega)
  have h2 : (W64 - 1) * (W64 - 1) + (W64 - 1) + (W64 - 1) < W64 * W64 := by decide
  have h3 : W64 * rhi x y z c < W64 * W64 := by omega
  exact Nat.lt_of_mul_lt_mul_left h3

theorem wrap_nat (a : Nat) (h : a < W64) : IntKind.u64.wrap (a : Int) = a := by
  rw [IntKind.wrap_u64]; unfold W64 at h; omega

theorem wrap_rhi (x y z c : Nat) (hx : x < W64) (hy : y < W64) (hz : z < W64) (hc : c < W64) :
    IntKind.u64.wrap (IntKind.u64.wrap ((mhi x y : Int) + (adc (mlo x y) z 0 : Nat)) + (adc (ads (mlo x y) z 0) c 0 : Nat)) = (rhi x y z c : Nat) := by
  have h := rhi_lt x y z c hx hy hz hc
  unfold rhi at h ⊢
  rw [show ((mhi x y : Int) + (adc (mlo x y) z 0 : Nat)) = ((mhi x y + adc (mlo x y) z 0 : Nat) : Int) from rfl, wrap_nat _ (by omega)]
  exact wrap_nat _ h

/-- Where row stands. -/
def RowRel (w wr : World) (g i n : Nat) (A zs0 : List Nat) (x k c : Nat) (zs : List Nat) : Prop :=
  c < W64 ∧ Own .u64 29 wr g (.slice (some ⟨g, 0, none⟩) n n) zs ∧ w.grownBy wr (some g) ∧ zs.length = n ∧ wf W64 zs ∧
    nv W64 (zs.take (i + k)) + W64 ^ (i + k) * c = nv W64 (zs0.take (i + k)) + W64 ^ i * (x * nv W64 (A.take k)) ∧ zs.drop (i + k) = zs0.drop (i + k)

theorem RowRel.step {w wr : World} {g i n : Nat} {A zs0 : List Nat} {x k c : Nat} {zs : List Nat} (hc : c < W64) (ho : Own .u64 29 wr g (.slice (some ⟨g, 0, none⟩) n n) zs) (hg : w.grownBy wr (some g))
    (hl : zs.length = n) (hw : wf W64 zs) (hv : nv W64 (zs.take (i + k)) + W64 ^ (i + k) * c = nv W64 (zs0.take (i + k)) + W64 ^ i * (x * nv W64 (A.take k))) (hd : zs.drop (i + k) = zs0.drop (i + k))
    (hk : i + k < n) (hx : x < W64) (wA : wf W64 A) {y z : Nat} (hy : y = A.getD k 0) (hz : z = zs.getD (i + k) 0) :
    RowRel w (wr.setCell ⟨g, i + k, none⟩ (.int .u64 (rlo x y z c : Nat))) g i n A zs0 x (k + 1) (rhi x y z c) (zs.set (i + k) (rlo x y z c)) := by
  have h2 : y < W64 := by rw [hy]; exact wf_getD wA (by decide) k
  have h3 : z < W64 := by rw [hz]; exact wf_getD hw (by decide) _
  refine ⟨rhi_lt x y z c hx h2 h3 hc, (ho.store _ _).1, grown_trans hg (ho.store _ _).2, by simp [hl], wf_set hw _ _ (rlo_lt _ _ _ _), ?_, ?_⟩
  · have e0 : i + (k + 1) = (i + k) + 1 := by omega
    rw [e0, nv_set_succ _ _ _ _ (by omega), nv_take_succ', nv_take_succ', ← hy, ← drop_get hd, ← hz, Nat.pow_succ]
    have h4 := rlo_rhi x y z c
    have h5 : W64 ^ (i + k) * (rlo x y z c + W64 * rhi x y z c) = W64 ^ (i + k) * (x * y + z + c) := by rw [h4]
    simp only [Nat.mul_add] at h5 ⊢
    rw [Nat.mul_assoc]
    have h6 : W64 ^ i * (x * (W64 ^ k * y)) = W64 ^ (i + k) * (x * y) := by rw [Nat.pow_add]; simp [Nat.mul_assoc, Nat.mul_left_comm, Nat.mul_comm]
    omega
  · have e0 : i + (k + 1) = (i + k) + 1 := by omega
    rw [e0, drop_set_lt _ _ _ _ (by omega)]; exact drop_succ_eq hd

/-- What row leaves. -/
def RowPost (w : World) (g i n : Nat) (A zs0 : List Nat) (x : Nat) (e : Ending) (w' : World) : Prop :=
  e = .returned (.tuple #[]) ∧ ∃ zs, Own .u64 29 w' g (.slice (some ⟨g, 0, none⟩) n n) zs ∧ w.grownBy w' (some g) ∧ zs.length = n ∧ wf W64 zs ∧
    nv W64 (zs.take (i + A.length + 1)) = nv W64 (zs0.take (i + A.length)) + W64 ^ i * (x * nv W64 A) ∧ zs.drop (i + A.length + 1) = zs0.drop (i + A.length + 1)

/-- Where the loop of Mul stands. -/
def MulRel (w wr : World) (g n : Nat) (A B : List Nat) (i : Nat) (zs : List Nat) : Prop :=
  Own .u64 29 wr g (.slice (some ⟨g, 0, none⟩) n n) zs ∧ Below g w wr ∧ zs.length = n ∧ wf W64 zs ∧
    nv W64 (zs.take (i + A.length)) = nv W64 A * nv W64 (B.take i) ∧ zs.drop (i + A.length) = List.replicate (n - (i + A.length)) 0

/-- Where the loop of MulAdd stands. -/
def MulAddRel (w wr : World) (g n : Nat) (A : List Nat) (x y k c : Nat) (zs : List Nat) : Prop :=
  c < W64 ∧ Own .u64 29 wr g (.slice (some ⟨g, 0, none⟩) n n) zs ∧ Below g w wr ∧ zs.length = n ∧ wf W64 zs ∧
    nv W64 (zs.take k) + W64 ^ k * c = nv W64 (A.take k) * x + y

theorem MulAddRel.step {w wr : World} {g n : Nat} {A : List Nat} {x y k c : Nat} {zs : List Nat} (hc : c < W64) (ho : Own .u64 29 wr g (.slice (some ⟨g, 0, none⟩) n n) zs) (hb : Below g w wr)
    (hl : zs.length = n) (hw : wf W64 zs) (hv : nv W64 (zs.take k) + W64 ^ k * c = nv W64 (A.take k) * x + y)
    (hk : k < n) (hx : x < W64) (wA : wf W64 A) {z : Nat} (hz : z = A.getD k 0) :
    MulAddRel w (wr.setCell ⟨g, k, none⟩ (.int .u64 (ads (mlo x z) c 0 : Nat))) g n A x y (k + 1) (mhi x z + adc (mlo x z) c 0) (zs.set k (ads (mlo x z) c 0)) := by
  have h2 : z < W64 := by rw [hz]; exact wf_getD wA (by decide) k
  have h1 := ads_adc (mlo x z) c 0
  have h3 := mhi_mlo x z
  refine ⟨?_, (ho.store _ _).1, hb.setCell (Nat.le_refl _) _, by simp [hl], wf_set hw _ _ (ads_lt _ _ _), ?_⟩
  · have h4 : x * z ≤ (W64 - 1) * (W64 - 1) := Nat.mul_le_mul (by omega) (by omega)
    have h5 : (W64 - 1) * (W64 - 1) + (W64 - 1) < W64 * W64 := by decide
    have h6 : W64 * (mhi x z + adc (mlo x z) c 0) < W64 * W64 := by rw [Nat.mul_add]; omega
    exact Nat.lt_of_mul_lt_mul_left h6
  · rw [nv_set_succ _ _ _ _ (by omega), nv_take_succ', ← hz, Nat.pow_succ]
    have h5 : W64 ^ k * (ads (mlo x z) c 0 + W64 * (mhi x z + adc (mlo x z) c 0)) = W64 ^ k * (x * z + c) := by
      congr 1; rw [Nat.mul_add]; omega
    simp only [Nat.mul_add, Nat.add_mul] at h5 ⊢
    simp only [Nat.mul_assoc]
    have h6 : W64 ^ k * (x * z) = W64 ^ k * (z * x) := by rw [Nat.mul_comm x z]
    omega

end Go.Proofs.YtnnidjhhcnmnnaaDoor
