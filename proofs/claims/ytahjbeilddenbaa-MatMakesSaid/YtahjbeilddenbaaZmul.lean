/- zmat.Mul: a place of a product. -/
import Derived.Test.YtahjbeilddenbaaZclos
import Derived.Test.YtahjbeilddenbaaAlg
namespace Go.Proofs.Ytahjbeilddenbaa
open Go.RowKit

instance crInt : CR Int where
  add_assoc := Int.add_assoc
  add_comm := Int.add_comm
  zero_add := Int.zero_add
  neg_add := Int.add_left_neg
  sub_eq := fun _ _ => Int.sub_eq_add_neg
  mul_assoc := Int.mul_assoc
  mul_comm := Int.mul_comm
  one_mul := Int.one_mul
  mul_add := Int.mul_add

/-- A place of a product. -/
def dotp (xs ys : List Int) (m c i k j : Nat) : Int := sm j fun t => xs.getD (i * m + t) 0 * ys.getD (t * c + k) 0
theorem dotp_succ (xs ys : List Int) (m c i k j : Nat) : dotp xs ys m c i k (j + 1) = dotp xs ys m c i k j + xs.getD (i * m + j) 0 * ys.getD (j * c + k) 0 := rfl

def MuRel (w wr : World) (g : Nat) (z : Int) (L : Nat) : Prop := ∃ s p n d, Blk 36 wr (g + 1) [.bool s, .slice p n d] ∧ Blk 36 wr g [.bool false, .slice none 0 0] ∧ IvN wr (.agg #[.bool s, .slice p n d]) z L ∧ Below w.heap.size w wr

theorem IvN.mono {w : World} {v : Value} {z : Int} {L M : Nat} (h : IvN w v z L) (hl : L ≤ M) : IvN w v z M := by
  obtain ⟨s, u, xs, e, hs, hn, hL, r⟩ := h; exact ⟨s, u, xs, e, hs, hn, by omega, r⟩
theorem IvN.zero (w : World) (L : Nat) : IvN w (.agg #[.bool false, .slice none 0 0]) 0 L := ⟨false, _, [], rfl, Sl.nil _ _, nrm_nil _, by simp, rfl, fun h => by cases h⟩

set_option maxHeartbeats 1000000 in
theorem zmat_Mul1 (R1 R2 : Int) (m c i k : Nat) (xs ys : List Int) (L M : Nat) (ga gb : Nat) (ao bo : Option Addr) (ca cb : Nat) (w : World)
    (KA : Blk 24 w ga [.int .i64 R1, .int .i64 m, .slice ao xs.length ca]) (KB : Blk 24 w gb [.int .i64 R2, .int .i64 c, .slice bo ys.length cb])
    (hA : Mt w (.agg #[.int .i64 R1, .int .i64 m, .slice ao xs.length ca]) R1 m xs L) (hB : Mt w (.agg #[.int .i64 R2, .int .i64 c, .slice bo ys.length cb]) R2 c ys M)
    (hi : i ≤ 100000) (hm : m ≤ 64) (hc : c ≤ 100000) (hk : k ≤ 100000) (hx : ∀ j, j < m → i * m + j < xs.length) (hy : ∀ j, j < m → j * c + k < ys.length) (hL : L ≤ 500) (hM : M ≤ 500) :
    Calls Try.prog 42 #[.int .i64 i, .int .i64 k, .pointer (some ⟨ga, 0, none⟩), .pointer (some ⟨gb, 0, none⟩)] w (RetJ w (m * (L + M + 1)) (dotp xs ys m c i k m)) := by
  obtain ⟨wb, ew, K1, K2, B0, hsz⟩ := boxes1' w 36 36 [.bool false, .slice none 0 0] [.bool false, .slice none 0 0]
  clear hsz
  have HX := Lib.hid hx; have HY := Lib.hid hy; clear hx hy
  go_enter Try.func42, Try.ntmps42
  have a0 := KA.cell 1
  have a0' : wb.cell? ⟨ga, 1, none⟩ = some (.int .i64 m) := (KA.next B0).cell 1
  go_upto_region 2 with (fail)
  rw [← ew]
  obtain ⟨g, eg⟩ : ∃ g, g = w.heap.size := ⟨_, rfl⟩
  rw [← eg] at K1 K2 ⊢
  have hgw : w.heap.size ≤ g := by omega
  clear ew eg a0
  have st : MuRel w wb g (dotp xs ys m c i k 0) (0 * (L + M + 1)) := ⟨_, _, _, _, K2, K1, IvN.zero _ _, B0⟩
  clear K1 K2 B0
  go_wp2
  clear a0'
  go_loopw [11] (fun jv wr => ∃ j : Nat, j ≤ m ∧ jv = .int .i64 j ∧ MuRel w wr g (dotp xs ys m c i k j) (j * (L + M + 1))) (fun jv _ => m - (intOf jv).toNat)
  case atStart => exact ⟨0, by omega, rfl, st⟩
  case round =>
    clear st wb
    obtain ⟨j, hj, rfl, st⟩ := hrel
    obtain ⟨s, p, n, d, K2, K1, hz, B0⟩ := st
    by_cases hjm : j < m
    · have hxj := HX.out j hjm
      have hyj := HY.out j hjm
      have hjb : j * (L + M + 1) ≤ 64 * 1001 := Nat.mul_le_mul (by omega) (by omega)
      obtain ⟨Z, eZ⟩ : ∃ Z, Z = dotp xs ys m c i k j := ⟨_, rfl⟩
      rw [← eZ] at hz
      have ez1 := dotp_succ xs ys m c i k j
      rw [← eZ] at ez1
      have EZ := Lib.hid ez1; clear ez1 eZ
      obtain ⟨Lj, eLj⟩ : ∃ q, q = j * (L + M + 1) := ⟨_, rfl⟩
      rw [← eLj] at hz hjb
      have hLj : Lj + (L + M) + 1 ≤ (j + 1) * (L + M + 1) := by rw [Nat.succ_mul]; omega
      clear eLj
      go_upto_region 5 with (fail)
      replace K1 := K1.drew; replace K2 := K2.drew
      replace B0 := B0.trans (Drawn.below (w' := wr.drew) ⟨1, rfl⟩ _)
      have hz := hz.next (Drawn.below (w' := wr.drew) ⟨1, rfl⟩ _)
      have kA := KA.next B0; have kB := KB.next B0
      have hA' := hA.next B0; have hB' := hB.next B0
      refine startP (S := (fun w' => Below (wr.drew).heap.size (wr.drew) w')) (by kernel_rfl) _ rfl rfl rfl (by kernel_rfl) (Below.refl _ _) (fun hHeld => ?_)
      refine takeL 0 (v := ?_) rfl (by kernel_rfl) (by kernel_rfl) (by kernel_rfl) (fun _ _ _ h => h) ⟨by rfl, ?_⟩ (by assumption) ?_
      rotate_left
      · intro w hS; have fa := kA.at hS; have fb := kB.at hS; have fc := K2.at hS; have f1 := fa 0; have f2 := fa 1; have f3 := fa 2; have f4 := fb 0; have f5 := fb 1; have f6 := fb 2; have f7 := fc 0; have f8 := fc 1; clear fa fb fc; go_simp <;> with_reducible rfl
      simp only [Act.put, List.setIfInBounds_toArray, List.set_cons_zero, List.set_cons_succ]
      refine takeL 1 (v := ?_) rfl (by kernel_rfl) (by kernel_rfl) (by kernel_rfl) (fun _ _ _ h => h) ⟨by rfl, ?_⟩ (by assumption) ?_
      rotate_left
      · intro w hS; have fa := kA.at hS; have fb := kB.at hS; have fc := K2.at hS; have f1 := fa 0; have f2 := fa 1; have f3 := fa 2; have f4 := fb 0; have f5 := fb 1; have f6 := fb 2; have f7 := fc 0; have f8 := fc 1; clear fa fb fc; go_simp <;> with_reducible rfl
      simp only [Act.put, List.setIfInBounds_toArray, List.set_cons_zero, List.set_cons_succ]
      refine takeL 2 (v := ?_) rfl (by kernel_rfl) (by kernel_rfl) (by kernel_rfl) (fun _ _ _ h => h) ⟨by rfl, ?_⟩ (by assumption) ?_
      rotate_left
      · intro w hS; go_simp <;> with_reducible rfl
      simp only [Act.put, List.setIfInBounds_toArray, List.set_cons_zero, List.set_cons_succ]
      refine takeL 3 (v := ?_) rfl (by kernel_rfl) (by kernel_rfl) (by kernel_rfl) (fun _ _ _ h => h) ⟨by rfl, ?_⟩ (by assumption) ?_
      rotate_left
      · intro w hS; go_simp <;> with_reducible rfl
      simp only [Act.put, List.setIfInBounds_toArray, List.set_cons_zero, List.set_cons_succ]
      refine takeL 5 (v := ?_) rfl (by kernel_rfl) (by kernel_rfl) (by kernel_rfl) (fun _ _ _ h => h) ⟨by rfl, ?_⟩ (by assumption) ?_
      rotate_left
      · intro w hS; have fa := kA.at hS; have fb := kB.at hS; have fc := K2.at hS; have f1 := fa 0; have f2 := fa 1; have f3 := fa 2; have f4 := fb 0; have f5 := fb 1; have f6 := fb 2; have f7 := fc 0; have f8 := fc 1; clear fa fb fc; go_simp <;> with_reducible rfl
      simp only [Act.put, List.setIfInBounds_toArray, List.set_cons_zero, List.set_cons_succ]
      refine takeL 6 (v := ?_) rfl (by kernel_rfl) (by kernel_rfl) (by kernel_rfl) (fun _ _ _ h => h) ⟨by rfl, ?_⟩ (by assumption) ?_
      rotate_left
      · intro w hS; go_simp <;> with_reducible rfl
      simp only [Act.put, List.setIfInBounds_toArray, List.set_cons_zero, List.set_cons_succ]
      refine takeL 7 (v := ?_) rfl (by kernel_rfl) (by kernel_rfl) (by kernel_rfl) (fun _ _ _ h => h) ⟨by rfl, ?_⟩ (by assumption) ?_
      rotate_left
      · intro w hS; go_simp <;> with_reducible rfl
      simp only [Act.put, List.setIfInBounds_toArray, List.set_cons_zero, List.set_cons_succ]
      refine oneL 4 rfl (by kernel_rfl) (by rfl) (fun K hK => ?_)
      go_simp
      go_at_call 43
      (with_reducible refine (zmat_get _ R1 m i j xs L _ (hA'.next hHeld) hi (by omega) (by omega) hxj).mono ?_); rintro e w2 ⟨v2, rfl, h2, b2⟩
      refine hK.out _ _ (hHeld.trans (b2.mono hHeld.size)) (fun hHeld => ?_)
      clear hK K
      try simp only [Act.put, List.setIfInBounds_toArray, List.set_cons_zero, List.set_cons_succ]
      refine oneL 8 rfl (by kernel_rfl) (by rfl) (fun K hK => ?_)
      go_simp
      go_at_call 43
      (with_reducible refine (zmat_get _ R2 c j k ys M _ (hB'.next hHeld) (by omega) hc hk hyj).mono ?_); rintro e w3 ⟨v3, rfl, h3, b3⟩
      refine hK.out _ _ (hHeld.trans (b3.mono hHeld.size)) (fun hHeld => ?_)
      clear hK K
      try simp only [Act.put, List.setIfInBounds_toArray, List.set_cons_zero, List.set_cons_succ]
      refine oneL 9 rfl (by kernel_rfl) (by rfl) (fun K hK => ?_)
      go_simp
      go_at_call 23
      (with_reducible refine (zi_Mul v2 v3 _ _ L M _ (h2.next b3) h3 (by omega) (by omega)).mono ?_); rintro e w4 ⟨v4, rfl, h4, b4, -⟩
      refine hK.out _ _ (hHeld.trans (b4.mono hHeld.size)) (fun hHeld => ?_)
      clear hK K
      try simp only [Act.put, List.setIfInBounds_toArray, List.set_cons_zero, List.set_cons_succ]
      refine oneL 10 rfl (by kernel_rfl) (by rfl) (fun K hK => ?_)
      go_simp
      go_at_call 24
      (with_reducible refine (zi_Add _ v4 Z _ Lj (L + M) _ (hz.iv.next hHeld) h4.iv (by omega) (by omega)).mono ?_); rintro e w5 ⟨v5, rfl, h5, b5, -⟩
      obtain ⟨s2, a2, n2, c2, rfl⟩ := h5.agg
      refine hK.out _ _ (hHeld.trans (b5.mono hHeld.size)) (fun hHeld => ?_)
      clear hK K
      try simp only [Act.put, List.setIfInBounds_toArray, List.set_cons_zero, List.set_cons_succ]
      refine doneL (by kernel_rfl) ?_ _
      refine lastL rfl (by rfl) ?_
      replace K2 := K2.next hHeld
      replace K1 := K1.next hHeld
      replace B0 := B0.trans (hHeld.mono B0.size)
      have f0 := K2.free 0; have f1 := K2.free 1
      have c0 := K2.cell 0; have c1 := K2.cell 1
      have h6 := h5.mono hLj
      rw [← EZ.out] at h6
      have hge : w.heap.size ≤ g + 1 := by omega
      have K2' := Lib.hid ((K2.set 0 (.bool s2)).set 1 (.slice a2 n2 c2))
      have K1' := Lib.hid ((K1.far (a := ⟨g + 1, 0, none⟩) (Nat.ne_of_lt (Nat.lt_succ_self _)) (.bool s2)).far (a := ⟨g + 1, 1, none⟩) (Nat.ne_of_lt (Nat.lt_succ_self _)) (.slice a2 n2 c2))
      have h6' := Lib.hid (h6.put K2 s2 (.slice a2 n2 c2))
      have B0' := Lib.hid ((B0.setCell (p := ⟨g + 1, 0, none⟩) hge (.bool s2)).setCell (p := ⟨g + 1, 1, none⟩) hge (.slice a2 n2 c2))
      clear K2 K1 h6 B0 h2 h3 h4 h5 b2 b3 b4 b5 hHeld hz
      go_wp2
      go_roundw
      case rel => exact ⟨j + 1, by omega, by go_num, _, _, _, _, K2'.out, K1'.out, h6'.out, B0'.out⟩
      case measure => simp [intOf] <;> omega
    · obtain rfl : j = m := by omega
      have e0 := K2.cell 0; have e1 := K2.cell 1
      have f0 := (K1).free 0; have f1 := (K1).free 1
      have c0 := (K1).cell 0; have c1 := (K1).cell 1
      have KF := ((K1).set 0 (.bool s)).set 1 (.slice p n d)
      have d0 := KF.cell 0; have d1 := KF.cell 1
      have FR := Lib.hid (show RetJ w (j * (L + M + 1)) (dotp xs ys j c i k j) (.returned (.agg #[.bool s, .slice p n d])) ((wr.setCell ⟨g, 0, none⟩ (.bool s)).setCell ⟨g, 1, none⟩ (.slice p n d)) from ⟨_, rfl, (hz.iv).put (K1) s (.slice p n d), ((B0).setCell (p := ⟨g, 0, none⟩) hgw (.bool s)).setCell (p := ⟨g, 1, none⟩) hgw (.slice p n d)⟩)
      clear KF
      go_wp2
      exact bodyPost_ret (v := .agg #[.bool s, .slice p n d]) (by simp [results, Try.results42, go_sem, d0, d1]) rfl FR.out

end Go.Proofs.Ytahjbeilddenbaa
