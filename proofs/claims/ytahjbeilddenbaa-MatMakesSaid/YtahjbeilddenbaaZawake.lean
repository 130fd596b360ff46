/- Layer 11: what a program that does nothing does not answer. -/
import Derived.Test.YtahjbeilddenbaaZof
namespace Go.Proofs.Ytahjbeilddenbaa
open Go.RowKit

/-- A law's end: true; nothing that was there has changed. -/
def LawOk (w : World) (e : Ending) (w' : World) : Prop := e = .returned (.bool true) ∧ Below w.heap.size w w'

theorem Si.lit4 (w : World) (a b c d : Int) (e : TypeId) : Si (w.alloc (.cells #[.int .i64 a, .int .i64 b, .int .i64 c, .int .i64 d] e)) (.slice (some ⟨w.heap.size, 0, none⟩) 4 4) [a, b, c, d] := by
  have K := Blk.lit w e [.int .i64 a, .int .i64 b, .int .i64 c, .int .i64 d]
  refine ⟨_, w.heap.size, 0, 4, rfl, Nat.le_refl _, fun _ => rfl, fun j hj => ?_⟩
  rw [Nat.zero_add]
  refine (K.cell j).trans ?_
  match j, hj with
  | 0, _ => rfl
  | 1, _ => rfl
  | 2, _ => rfl
  | 3, _ => rfl

set_option maxHeartbeats 1000000 in
theorem law11_awake (w : World) : Calls Try.prog 9 #[] w (LawOk w) := by
  go_enter Try.func9, Try.ntmps9
  have S0 := Si.lit4 w 1 2 3 4 2
  have B0 : Below w.heap.size w (w.alloc (.cells #[.int .i64 1, .int .i64 2, .int .i64 3, .int .i64 4] 2)) := (Below.refl _ _).alloc (Nat.le_refl _) _
  go_wp2_with fail
  have c0 := zmat_Of _ 2 2 [1, 2, 3, 4] _ S0 (by decide) (by decide) (by decide) rfl
  refine (c0).mono ?_; rintro e w1 ⟨v1, rfl, h1, b1⟩
  clear c0 S0
  replace B0 := B0.trans (b1.mono B0.size)
  clear b1
  rw [show tab 2 (fun i k => List.getD [1, 2, 3, 4] (i * 2 + k) 0) (2 * 2) = [1, 2, 3, 4] from rfl] at h1
  obtain ⟨a1, k1, rfl⟩ := h1.agg
  obtain ⟨w2, e2, K1, b2, hs2⟩ := boxes1 w1 24 [.int .i64 2, .int .i64 2, .slice a1 4 k1]
  have HS2 := Lib.hid hs2; clear hs2
  replace h1 := h1.next b2
  replace B0 := B0.trans (b2.mono B0.size)
  clear b2
  have S0 := Si.lit4 w2 0 1 1 0 2
  have bs : Below w2.heap.size w2 (w2.alloc (.cells #[.int .i64 0, .int .i64 1, .int .i64 1, .int .i64 0] 2)) := (Below.refl _ _).alloc (Nat.le_refl _) _
  rw [HS2.out] at S0
  go_wp2_with fail
  rw [← e2]
  clear e2
  replace h1 := h1.next bs
  replace K1 := K1.next bs
  replace B0 := B0.trans (bs.mono B0.size)
  clear bs
  have c0 := zmat_Of _ 2 2 [0, 1, 1, 0] _ S0 (by decide) (by decide) (by decide) rfl
  refine (c0).mono ?_; rintro e w3 ⟨v3, rfl, h3, b3⟩
  replace h1 := h1.next b3
  replace K1 := K1.next b3
  replace B0 := B0.trans (b3.mono B0.size)
  clear b3
  clear c0 S0
  rw [show tab 2 (fun i k => List.getD [0, 1, 1, 0] (i * 2 + k) 0) (2 * 2) = [0, 1, 1, 0] from rfl] at h3
  obtain ⟨a3, k3, rfl⟩ := h3.agg
  obtain ⟨w4, e4, K3, b4, hs4⟩ := boxes1 w3 24 [.int .i64 2, .int .i64 2, .slice a3 4 k3]
  clear hs4
  replace h1 := h1.next b4
  replace K1 := K1.next b4
  replace h3 := h3.next b4
  replace B0 := B0.trans (b4.mono B0.size)
  clear b4
  go_upto_region 3 with (fail)
  rw [← e4]
  clear e4
  have qK10 := K1.cell 0
  have qK11 := K1.cell 1
  have qK12 := K1.cell 2
  have qK30 := K3.cell 0
  have qK31 := K3.cell 1
  have qK32 := K3.cell 2
  go_wp2_with fail
  have c0 := zmat_Mul _ _ 2 2 2 [1, 2, 3, 4] [0, 1, 1, 0] 1 1 w4 h1.mt h3.mt (by decide) (by decide) (by decide) rfl rfl (by decide) (by decide)
  refine (c0).mono ?_; rintro e w5 ⟨v5, rfl, h5, b5⟩
  clear qK10 qK11 qK12 qK30 qK31 qK32
  replace h1 := h1.next b5
  replace K1 := K1.next b5
  replace h3 := h3.next b5
  replace K3 := K3.next b5
  replace B0 := B0.trans (b5.mono B0.size)
  clear b5
  clear c0
  rw [show tab 2 (fun i k => dotp [1, 2, 3, 4] [0, 1, 1, 0] 2 2 i k 2) (2 * 2) = [2, 1, 4, 3] from rfl] at h5
  obtain ⟨a5, k5, rfl⟩ := h5.agg
  obtain ⟨w6, e6, K5, b6, hs6⟩ := boxes1 w5 24 [.int .i64 2, .int .i64 2, .slice a5 4 k5]
  clear hs6
  replace h1 := h1.next b6
  replace K1 := K1.next b6
  replace h3 := h3.next b6
  replace K3 := K3.next b6
  replace h5 := h5.next b6
  replace B0 := B0.trans (b6.mono B0.size)
  clear b6
  go_upto_region 4 with (fail)
  rw [← e6]
  clear e6
  have qK50 := K5.cell 0
  have qK51 := K5.cell 1
  have qK52 := K5.cell 2
  go_wp2_with fail
  have c0 := zmat_At _ 2 2 1 0 [2, 1, 4, 3] _ w6 h5.mt (by decide) (by decide) rfl (by decide) (by decide) (by decide)
  refine (c0).mono ?_; rintro e w7 ⟨v7, rfl, h7, b7, -⟩
  clear qK50 qK51 qK52
  replace h1 := h1.next b7
  replace K1 := K1.next b7
  replace h3 := h3.next b7
  replace K3 := K3.next b7
  replace h5 := h5.next b7
  replace K5 := K5.next b7
  replace B0 := B0.trans (b7.mono B0.size)
  clear b7
  clear c0
  go_wp2_with fail
  refine (zi_Of 4 _ (by omega)).mono ?_; rintro e w8 ⟨v8, rfl, h8, b8, -⟩
  replace h1 := h1.next b8
  replace K1 := K1.next b8
  replace h3 := h3.next b8
  replace K3 := K3.next b8
  replace h5 := h5.next b8
  replace K5 := K5.next b8
  replace h7 := h7.next b8
  replace B0 := B0.trans (b8.mono B0.size)
  clear b8
  go_wp2_with fail
  have c0 := zi_Same _ _ _ 4 _ 1 _ h7.iv h8.iv (by decide) (by decide)
  rw [show decide (([2, 1, 4, 3] : List Int).getD (1 * 2 + 0) 0 = 4) = true from rfl] at c0
  refine (c0).mono ?_; rintro e w9 ⟨rfl, b9⟩
  replace h1 := h1.next b9
  replace K1 := K1.next b9
  replace h3 := h3.next b9
  replace K3 := K3.next b9
  replace h5 := h5.next b9
  replace K5 := K5.next b9
  replace h7 := h7.next b9
  replace B0 := B0.trans (b9.mono B0.size)
  clear b9
  clear c0
  have qK50 := K5.cell 0
  have qK51 := K5.cell 1
  have qK52 := K5.cell 2
  go_wp2
  go_ret
  exact ⟨rfl, B0⟩

theorem Fm.nat {R C : Int} {n : Nat} (h : Fm R C n) : ∃ r c : Nat, R = r ∧ C = c ∧ r ≤ 64 ∧ c ≤ 64 ∧ n = r * c := by
  obtain ⟨⟨h1, h2⟩, ⟨h3, h4⟩, h5⟩ := h
  obtain ⟨r, rfl⟩ := Int.eq_ofNat_of_zero_le h1
  obtain ⟨c, rfl⟩ := Int.eq_ofNat_of_zero_le h3
  exact ⟨r, c, rfl, rfl, by omega, by omega, by rw [← Int.natCast_mul] at h5; omega⟩

theorem tab_get {c i k r : Nat} (T : Nat → Nat → Int) (hk : k < c) (hi : i < r) : (tab c T (r * c)).getD (i * c + k) 0 = T i k := by
  have h0 := at_lt (n := r * c) rfl hi hk
  have h1 : (i * c + k) / c = i := by rw [Nat.mul_comm, Nat.mul_add_div (by omega), Nat.div_eq_of_lt hk, Nat.add_zero]
  have h2 : (i * c + k) % c = k := by rw [Nat.mul_comm, Nat.mul_add_mod, Nat.mod_eq_of_lt hk]
  simp [tab, List.getD, h0, h1, h2]

end Go.Proofs.Ytahjbeilddenbaa
