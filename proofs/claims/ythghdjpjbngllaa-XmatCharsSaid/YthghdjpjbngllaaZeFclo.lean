/- Package fmat: the functions that give a matrix's places. -/
import Derived.Test.YthghdjpjbngllaaZeFmade
namespace Go.Proofs.Ythghdjpjbngllaa
open Go.RowKit

theorem mt_val {p r c : Nat} (M : MT (Zp p) r c) : (MT.of r c fun i k => Zp.of p (M.e i k).val) = M := MT.ext fun i k hi hk => by rw [MT.of_e _ hi hk, Zp.of_val]

/-- A place of a product. -/
def dotp (p : Nat) (xs ys : List Nat) (m c i k j : Nat) : Zp p := sm j fun t => Zp.of p (xs.getD (i * m + t) 0) * Zp.of p (ys.getD (t * c + k) 0)
theorem dotp_succ (p : Nat) (xs ys : List Nat) (m c i k j : Nat) : dotp p xs ys m c i k (j + 1) = dotp p xs ys m c i k j + Zp.of p (xs.getD (i * m + j) 0) * Zp.of p (ys.getD (j * c + k) 0) := rfl

set_option maxHeartbeats 1000000 in
theorem fm_Mul1 (p i k : Nat) (w : World) (hp : FP p) (hi : i ≤ 100000) (hk : k ≤ 100000) (R1 R2 : Int) (m c : Nat) (xs ys : List Nat) (gF : Nat) (KF : Blk 29 w gF [.int .u64 p])
    (gA : Nat) (aA : Option Addr) (cA : Nat) (KA : Blk 42 w gA [.int .i64 R1, .int .i64 m, .slice aA xs.length cA]) (hA : Fm w (.agg #[.int .i64 R1, .int .i64 m, .slice aA xs.length cA]) R1 m xs)
    (gB : Nat) (aB : Option Addr) (cB : Nat) (KB : Blk 42 w gB [.int .i64 R2, .int .i64 c, .slice aB ys.length cB]) (hB : Fm w (.agg #[.int .i64 R2, .int .i64 c, .slice aB ys.length cB]) R2 c ys)
    (hm : m ≤ 64) (hc : c ≤ 100000) (hx : ∀ j, j < m → i * m + j < xs.length) (hy : ∀ j, j < m → j * c + k < ys.length) (z : Nat) (hz : z = (dotp p xs ys m c i k m).val) :
    Calls Try.prog 94 #[.int .i64 i, .int .i64 k, .pointer (some ⟨gA, 0, none⟩), .pointer (some ⟨gF, 0, none⟩), .pointer (some ⟨gB, 0, none⟩)] w (RetW w (.int .u64 (z : Nat))) := by
  have HP := Lib.hid hp; clear hp
  have HZ := Lib.hid hz; clear hz
  have HX := Lib.hid hx; have HY := Lib.hid hy; clear hx hy
  have B0 : Below w.heap.size w w := Below.refl _ _
  have a1 := KA.cell 1
  go_enter Try.func94, Try.ntmps94
  go_wp2
  clear a1
  go_loopw [12, 8] (fun jv xv wr => ∃ j : Nat, j ≤ m ∧ jv = .int .i64 j ∧ xv = .int .u64 ((dotp p xs ys m c i k j).val : Nat) ∧ Below w.heap.size w wr) (fun jv _ _ => m - (intOf jv).toNat)
  case atStart => exact ⟨0, by omega, rfl, rfl, B0⟩
  case round =>
    clear B0
    obtain ⟨j, hj, rfl, rfl, B0⟩ := hrel
    by_cases hjm : j < m
    · have hxj := HX.out j hjm
      have hyj := HY.out j hjm
      obtain ⟨x, ex⟩ : ∃ x, x = (dotp p xs ys m c i k j).val := ⟨_, rfl⟩
      obtain ⟨u, eu⟩ : ∃ u, u = xs.getD (i * m + j) 0 := ⟨_, rfl⟩
      obtain ⟨v, ev⟩ : ∃ v, v = ys.getD (j * c + k) 0 := ⟨_, rfl⟩
      obtain ⟨y, ey⟩ : ∃ y, y = (Zp.of p u * Zp.of p v).val := ⟨_, rfl⟩
      obtain ⟨x', ex'⟩ : ∃ x', x' = (dotp p xs ys m c i k (j + 1)).val := ⟨_, rfl⟩
      have hs : x' = (Zp.of p x + Zp.of p y).val := by rw [ex', dotp_succ, ex, ey, Zp.of_val, Zp.of_val, eu, ev]
      rw [← ex]
      have HS := Lib.hid hs; have EX := Lib.hid ex'; have EY := Lib.hid ey; have UU := Lib.hid eu; have VV := Lib.hid ev
      clear hs ex' ex ey eu ev
      go_upto_region 5 with (fail)
      replace B0 := B0.trans (Drawn.below (w' := wr.drew) ⟨1, rfl⟩ _)
      have kA := KA.next B0; have kB := KB.next B0; have kF := KF.next B0
      have hA' := hA.next B0; have hB' := hB.next B0
      refine startL (S := (fun w' => Below (wr.drew).heap.size (wr.drew) w')) (by kernel_rfl) (Below.refl _ _) (fun hHeld => ?_)
      refine takeL 0 (v := ?_) rfl (by kernel_rfl) (by kernel_rfl) (by kernel_rfl) (fun _ _ _ h => h) ⟨by rfl, ?_⟩ (by assumption) ?_
      rotate_left
      · intro w hS; have fa := kA.at hS; have f1 := fa 0; have f2 := fa 1; have f3 := fa 2; clear fa; have fb := kB.at hS; have f4 := fb 0; have f5 := fb 1; have f6 := fb 2; clear fb; have ff := kF.at hS; have f7 := ff 0; clear ff; go_simp <;> with_reducible rfl
      simp only [Act.put, List.setIfInBounds_toArray, List.set_cons_zero, List.set_cons_succ]
      refine takeL 1 (v := ?_) rfl (by kernel_rfl) (by kernel_rfl) (by kernel_rfl) (fun _ _ _ h => h) ⟨by rfl, ?_⟩ (by assumption) ?_
      rotate_left
      · intro w hS; go_simp <;> with_reducible rfl
      simp only [Act.put, List.setIfInBounds_toArray, List.set_cons_zero, List.set_cons_succ]
      refine takeL 2 (v := ?_) rfl (by kernel_rfl) (by kernel_rfl) (by kernel_rfl) (fun _ _ _ h => h) ⟨by rfl, ?_⟩ (by assumption) ?_
      rotate_left
      · intro w hS; have fa := kA.at hS; have f1 := fa 0; have f2 := fa 1; have f3 := fa 2; clear fa; have fb := kB.at hS; have f4 := fb 0; have f5 := fb 1; have f6 := fb 2; clear fb; have ff := kF.at hS; have f7 := ff 0; clear ff; go_simp <;> with_reducible rfl
      simp only [Act.put, List.setIfInBounds_toArray, List.set_cons_zero, List.set_cons_succ]
      refine takeL 3 (v := ?_) rfl (by kernel_rfl) (by kernel_rfl) (by kernel_rfl) (fun _ _ _ h => h) ⟨by rfl, ?_⟩ (by assumption) ?_
      rotate_left
      · intro w hS; have fa := kA.at hS; have f1 := fa 0; have f2 := fa 1; have f3 := fa 2; clear fa; have fb := kB.at hS; have f4 := fb 0; have f5 := fb 1; have f6 := fb 2; clear fb; have ff := kF.at hS; have f7 := ff 0; clear ff; go_simp <;> with_reducible rfl
      simp only [Act.put, List.setIfInBounds_toArray, List.set_cons_zero, List.set_cons_succ]
      refine takeL 4 (v := ?_) rfl (by kernel_rfl) (by kernel_rfl) (by kernel_rfl) (fun _ _ _ h => h) ⟨by rfl, ?_⟩ (by assumption) ?_
      rotate_left
      · intro w hS; go_simp <;> with_reducible rfl
      simp only [Act.put, List.setIfInBounds_toArray, List.set_cons_zero, List.set_cons_succ]
      refine takeL 5 (v := ?_) rfl (by kernel_rfl) (by kernel_rfl) (by kernel_rfl) (fun _ _ _ h => h) ⟨by rfl, ?_⟩ (by assumption) ?_
      rotate_left
      · intro w hS; go_simp <;> with_reducible rfl
      simp only [Act.put, List.setIfInBounds_toArray, List.set_cons_zero, List.set_cons_succ]
      refine takeL 7 (v := ?_) rfl (by kernel_rfl) (by kernel_rfl) (by kernel_rfl) (fun _ _ _ h => h) ⟨by rfl, ?_⟩ (by assumption) ?_
      rotate_left
      · intro w hS; have fa := kA.at hS; have f1 := fa 0; have f2 := fa 1; have f3 := fa 2; clear fa; have fb := kB.at hS; have f4 := fb 0; have f5 := fb 1; have f6 := fb 2; clear fb; have ff := kF.at hS; have f7 := ff 0; clear ff; go_simp <;> with_reducible rfl
      simp only [Act.put, List.setIfInBounds_toArray, List.set_cons_zero, List.set_cons_succ]
      refine takeL 8 (v := ?_) rfl (by kernel_rfl) (by kernel_rfl) (by kernel_rfl) (fun _ _ _ h => h) ⟨by rfl, ?_⟩ (by assumption) ?_
      rotate_left
      · intro w hS; go_simp <;> with_reducible rfl
      simp only [Act.put, List.setIfInBounds_toArray, List.set_cons_zero, List.set_cons_succ]
      refine takeL 9 (v := ?_) rfl (by kernel_rfl) (by kernel_rfl) (by kernel_rfl) (fun _ _ _ h => h) ⟨by rfl, ?_⟩ (by assumption) ?_
      rotate_left
      · intro w hS; go_simp <;> with_reducible rfl
      simp only [Act.put, List.setIfInBounds_toArray, List.set_cons_zero, List.set_cons_succ]
      refine oneL 6 rfl (by kernel_rfl) (by rfl) (fun K hK => ?_)
      go_simp
      go_at_call 97
      (with_reducible refine (fm_get _ R1 m i j xs _ (hA'.next hHeld) (by omega) (by omega) (by omega) hxj u UU.out).mono ?_); rintro e w2 ⟨rfl, b2⟩
      refine hK.out _ _ (hHeld.trans (b2.mono hHeld.size)) (fun hHeld => ?_)
      clear hK K
      try simp only [Act.put, List.setIfInBounds_toArray, List.set_cons_zero, List.set_cons_succ]
      refine oneL 10 rfl (by kernel_rfl) (by rfl) (fun K hK => ?_)
      go_simp
      go_at_call 97
      (with_reducible refine (fm_get _ R2 c j k ys _ (hB'.next hHeld) (by omega) (by omega) (by omega) hyj v VV.out).mono ?_); rintro e w3 ⟨rfl, b3⟩
      refine hK.out _ _ (hHeld.trans (b3.mono hHeld.size)) (fun hHeld => ?_)
      clear hK K
      try simp only [Act.put, List.setIfInBounds_toArray, List.set_cons_zero, List.set_cons_succ]
      refine oneL 11 rfl (by kernel_rfl) (by rfl) (fun K hK => ?_)
      go_simp
      go_at_call 96
      (with_reducible refine (gfp_Mul p _ _ y _ HP.out EY.out).mono ?_); rintro e w4 ⟨rfl, b4⟩
      refine hK.out _ _ (hHeld.trans (b4.mono hHeld.size)) (fun hHeld => ?_)
      clear hK K
      try simp only [Act.put, List.setIfInBounds_toArray, List.set_cons_zero, List.set_cons_succ]
      refine oneL 12 rfl (by kernel_rfl) (by rfl) (fun K hK => ?_)
      go_simp
      go_at_call 95
      (with_reducible refine (gfp_Add p _ _ x' _ HP.out HS.out).mono ?_); rintro e w5 ⟨rfl, b5⟩
      refine hK.out _ _ (hHeld.trans (b5.mono hHeld.size)) (fun hHeld => ?_)
      clear hK K
      try simp only [Act.put, List.setIfInBounds_toArray, List.set_cons_zero, List.set_cons_succ]
      refine takeL 13 (v := ?_) rfl (by kernel_rfl) (by kernel_rfl) (by kernel_rfl) (fun _ _ _ h => h) ⟨by rfl, ?_⟩ (by assumption) ?_
      rotate_left
      · intro w hS; go_simp <;> with_reducible rfl
      simp only [Act.put, List.setIfInBounds_toArray, List.set_cons_zero, List.set_cons_succ]
      refine doneL (by kernel_rfl) ?_ _
      replace B0 := B0.trans (hHeld.mono B0.size)
      clear hHeld b2 b3 b4 b5 kA kB kF hA' hB'
      go_wp2
      go_roundw
      case rel => exact ⟨j + 1, by omega, by go_num, by rw [EX.out], B0⟩
      case measure => simp [intOf] <;> omega
    · obtain rfl : j = m := by omega
      have hzz : ((z : Nat) : Int) = ((dotp p xs ys j c i k j).val : Nat) := by rw [HZ.out]
      rw [← hzz]
      clear hzz
      go_wp2
      go_ret
      exact ⟨rfl, B0⟩

end Go.Proofs.Ythghdjpjbngllaa
