/- Package nat: Bits. -/
import Derived.Test.YtnnidjhhcnmnnaaNat4
import Derived.Test.YtnnidjhhcnmnnaaLen64
namespace Go.Proofs.Ytnnidjhhcnmnnaa
open Go.RowKit

/-- b is the number of bits of n. -/
def IsBl (n b : Nat) : Prop := n < 2 ^ b ∧ (0 < b → 2 ^ (b - 1) ≤ n)

theorem IsBl.unique {n b c : Nat} (h : IsBl n b) (k : IsBl n c) : b = c := by
  rcases Nat.lt_trichotomy b c with hlt | he | hlt
  · have h1 := k.2 (by omega)
    have h2 : 2 ^ b ≤ 2 ^ (c - 1) := Nat.pow_le_pow_right (by decide) (by omega)
    have := h.1; omega
  · exact he
  · have h1 := h.2 (by omega)
    have h2 : 2 ^ c ≤ 2 ^ (b - 1) := Nat.pow_le_pow_right (by decide) (by omega)
    have := k.1; omega

/-- The number of bits. -/
def bl (n : Nat) : Nat := if n = 0 then 0 else n.log2 + 1

theorem isBl_bl (n : Nat) : IsBl n (bl n) := by
  unfold bl IsBl
  split
  · rename_i h; subst h; simp
  · rename_i h; exact ⟨Nat.lt_log2_self, fun _ => by simpa using Nat.log2_self_le h⟩

theorem isBl_aux : ∀ (f x : Nat), x < 2 ^ f → IsBl x (Lib.bitLenAux f x)
  | 0, x, h => by
    have : x = 0 := by simpa using h
    subst this; exact ⟨by simp [Lib.bitLenAux], by simp [Lib.bitLenAux]⟩
  | f + 1, x, h => by
    unfold Lib.bitLenAux
    split
    · rename_i h0; subst h0; exact ⟨by simp, by simp⟩
    · rename_i h0
      have ih := isBl_aux f (x / 2) (by rw [Nat.pow_succ] at h; omega)
      refine ⟨?_, fun _ => ?_⟩
      · have := ih.1
        rw [Nat.pow_add]; simp; omega
      · rw [show 1 + Lib.bitLenAux f (x / 2) - 1 = Lib.bitLenAux f (x / 2) from by omega]
        by_cases hb : 0 < Lib.bitLenAux f (x / 2)
        · have h2 := ih.2 hb
          obtain ⟨c, hc⟩ : ∃ c, Lib.bitLenAux f (x / 2) = c + 1 := ⟨_, (Nat.sub_add_cancel hb).symm⟩
          rw [hc] at h2 ⊢
          simp at h2
          rw [Nat.pow_succ]; omega
        · have : Lib.bitLenAux f (x / 2) = 0 := by omega
          rw [this]; simp; omega

theorem bitLen_eq (x : Nat) (h : x < W64) : Lib.bitLen x = bl x := (isBl_aux 64 x h).unique (isBl_bl x)

theorem bl_words {xs : List Nat} (h : Nrm W64 xs) (hx : xs ≠ []) : bl (nv W64 xs) = 64 * (xs.length - 1) + bl (xs.getD (xs.length - 1) 0) := by
  have hl : 0 < xs.length := List.length_pos_iff.2 hx
  have e := congrArg (nv W64) (last_split xs hx)
  rw [nv_snoc] at e
  have el : (xs.take (xs.length - 1)).length = xs.length - 1 := by simp
  have h1 := nv_lt (xs.take (xs.length - 1)) (wf_take h.1 _)
  rw [el] at e h1
  obtain ⟨k, hk⟩ : ∃ k, k = xs.length - 1 := ⟨_, rfl⟩
  obtain ⟨y, hy⟩ : ∃ y, y = xs.getD (xs.length - 1) 0 := ⟨_, rfl⟩
  have hy0 : y ≠ 0 := by rw [hy]; exact nrm_last h hx
  rw [← hy] at e ⊢
  rw [← hk] at e h1 ⊢
  have hb := isBl_bl y
  have hb0 : 0 < bl y := by unfold bl; rw [if_neg hy0]; omega
  have hW : W64 ^ k = 2 ^ (64 * k) := by rw [show W64 = 2 ^ 64 from rfl, ← Nat.pow_mul]
  rw [hW] at e h1
  refine (isBl_bl _).unique ⟨?_, fun _ => ?_⟩
  · rw [e, Nat.pow_add]
    have h2 : 2 ^ (64 * k) * (y + 1) ≤ 2 ^ (64 * k) * 2 ^ bl y := Nat.mul_le_mul_left _ hb.1
    rw [Nat.mul_succ] at h2; omega
  · rw [e, show 64 * k + bl y - 1 = 64 * k + (bl y - 1) from by omega, Nat.pow_add]
    have h2 : 2 ^ (64 * k) * 2 ^ (bl y - 1) ≤ 2 ^ (64 * k) * y := Nat.mul_le_mul_left _ (hb.2 hb0)
    omega

theorem bl_le_of_lt {n k : Nat} (h : n < 2 ^ k) : bl n ≤ k := by
  by_cases hb : 0 < bl n
  · have h1 := (isBl_bl n).2 hb
    have h2 : 2 ^ (bl n - 1) < 2 ^ k := by omega
    have := (Nat.pow_lt_pow_iff_right (by decide)).1 h2
    omega
  · omega

theorem bl_word (y : Nat) (h : y < W64) : bl y ≤ 64 := bl_le_of_lt h

set_option maxHeartbeats 400000 in
theorem nat_Bits (v : Value) (xs : List Nat) (w : World) (hv : Sl .u64 w v xs) (hm : xs.length ≤ 100000000) (hx : wf W64 xs) :
    Calls Try.prog 60 #[v] w fun e w' => e = .returned (.int .i64 (bl (nv W64 xs) : Nat)) ∧ w = w' := by
  obtain ⟨ao, b, off, cap, rfl, hl, hcs⟩ := hv
  have hlx := tr_len xs
  obtain ⟨X, eX⟩ : ∃ X, X = tr xs := ⟨_, rfl⟩
  have nX : Nrm W64 X := by rw [eX]; exact nrm_tr hx
  have hX : Cs .u64 w ao b off X := by rw [eX]; exact hcs.trim
  have e1 : nv W64 xs = nv W64 X := by rw [eX, nv_tr]
  rw [e1]
  have c1 := nat_trim ao b off cap xs w hcs hl (by omega)
  rw [← eX] at c1 hlx
  have C1 := Lib.hid c1
  clear c1 e1 eX hcs
  by_cases h0 : X.length = 0
  · have hX0 : X = [] := List.length_eq_zero_iff.1 h0
    subst hX0
    go_enter Try.func60, Try.ntmps60
    go_wp2_with (go_at_call 45; refine C1.out.mono ?_; rintro e w' ⟨rfl, rfl⟩)
    go_ret
    exact ⟨rfl, rfl⟩
  · have hXn : X ≠ [] := by intro h; subst h; simp at h0
    obtain rfl := hX.ao hXn
    have hne : (((X.length : Nat) : Int) == 0) = false := by simpa using h0
    have hpos : 0 < X.length := by omega
    have hbl := bl_words nX hXn
    have hcx := hX.cell (X.length - 1) (by omega)
    obtain ⟨y, ey⟩ : ∃ y, y = X.getD (X.length - 1) 0 := ⟨_, rfl⟩
    rw [← ey] at hcx hbl
    have hyl : y < W64 := by rw [ey]; exact wf_getD nX.1 (by decide) (X.length - 1)
    have hlen := bits_Len64_raw (y : Int) w (by omega) (by unfold W64 at hyl; omega)
    rw [show ((y : Int)).toNat = y from by simp, bitLen_eq y hyl] at hlen
    have hby := bl_word y hyl
    obtain ⟨c, ec⟩ : ∃ c, c = bl y := ⟨_, rfl⟩
    rw [← ec] at hlen hby hbl
    have HLEN := Lib.hid hlen
    have HBL := Lib.hid hbl
    clear hlen hbl h0 hXn ey ec hyl
    go_enter Try.func60, Try.ntmps60
    go_wp2_with (first | (go_at_call 45; refine C1.out.mono ?_; rintro e w' ⟨rfl, rfl⟩) | (go_at_call 66; refine HLEN.out.mono ?_; rintro e w' ⟨rfl, hww⟩; subst hww))
    go_ret
    refine ⟨?_, rfl⟩
    rw [HBL.out]
    congr 2
    go_num

end Go.Proofs.Ytnnidjhhcnmnnaa
