/- Plain: lists of words as matrices over the whole numbers by a prime. -/
import Derived.Test.YthghdjpjbngllaaZfZp
import Derived.Test.YthghdjpjbngllaaZfMz
namespace Go.Proofs.Ythghdjpjbngllaa

theorem at_lt {i k r c n : Nat} (hn : n = r * c) (hi : i < r) (hk : k < c) : i * c + k < n := by
  have : (i + 1) * c ≤ r * c := Nat.mul_le_mul_right _ hi
  rw [Nat.succ_mul] at this; omega
end Go.Proofs.Ythghdjpjbngllaa
