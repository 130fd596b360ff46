/- Package zmat: the functions that give a matrix's places. -/
import Derived.Test.YtahjbeilddenbaaZformed
namespace Go.Proofs.Ytahjbeilddenbaa
open Go.RowKit

theorem RetJ.mono {w : World} {L M : Nat} {z y : Int} {e : Ending} {w' : World} (h : RetJ w L z e w') (hL : L ≤ M) (hz : z = y) : RetJ w M y e w' := by
  obtain ⟨v, rfl, h1, b⟩ := h
  exact ⟨v, rfl, hz ▸ h1.mono hL, b⟩

theorem zmat_Add1 (R1 R2 : Int) (c i k : Nat) (xs ys : List Int) (L M : Nat) (w : World) (ga gb : Nat) (ao bo : Option Addr) (ca cb : Nat)
    (KA : Blk 24 w ga [.int .i64 R1, .int .i64 c, .slice ao xs.length ca]) (KB : Blk 24 w gb [.int .i64 R2, .int .i64 c, .slice bo ys.length cb])
    (hA : Mt w (.agg #[.int .i64 R1, .int .i64 c, .slice ao xs.length ca]) R1 c xs L) (hB : Mt w (.agg #[.int .i64 R2, .int .i64 c, .slice bo ys.length cb]) R2 c ys M)
    (hi : i ≤ 100000) (hc : c ≤ 100000) (hk : k ≤ 100000) (hx : i * c + k < xs.length) (hy : i * c + k < ys.length) (hL : L ≤ 50000) (hM : M ≤ 50000) :
    Calls Try.prog 47 #[.int .i64 i, .int .i64 k, .pointer (some ⟨ga, 0, none⟩), .pointer (some ⟨gb, 0, none⟩)] w (RetJ w (L + M + 1) (xs.getD (i * c + k) 0 + ys.getD (i * c + k) 0)) := by
  obtain ⟨wb, ew, KC, B0, hsz⟩ := boxes1 w 36 [.bool false, .slice none 0 0]
  clear hsz
  obtain ⟨Z, eZ⟩ : ∃ Z, Z = xs.getD (i * c + k) 0 + ys.getD (i * c + k) 0 := ⟨_, rfl⟩
  rw [← eZ]
  have EZ := Lib.hid eZ; clear eZ
  obtain ⟨LL, eL⟩ : ∃ LL, LL = L + M + 1 := ⟨_, rfl⟩
  rw [← eL]
  have hLL : L + M + 1 ≤ LL := by omega
  clear eL
  go_enter Try.func47, Try.ntmps47
  go_upto_region 1 with (fail)
  rw [← ew]
  replace B0 := B0.trans (Drawn.below (w' := wb.drew) ⟨1, rfl⟩ _)
  replace KA := KA.next B0; replace KB := KB.next B0; replace KC := KC.drew
  replace hA := hA.next B0; replace hB := hB.next B0
  obtain ⟨g, eg⟩ : ∃ g, g = w.heap.size := ⟨_, rfl⟩
  rw [← eg] at KC ⊢
  have hgw : w.heap.size ≤ g := by omega
  clear ew eg
  refine startP (S := (fun w' => Below (wb.drew).heap.size (wb.drew) w')) (by kernel_rfl) _ rfl rfl rfl (by kernel_rfl) (Below.refl _ _) (fun hHeld => ?_)
  refine takeL 0 (v := ?_) rfl (by kernel_rfl) (by kernel_rfl) (by kernel_rfl) (fun _ _ _ h => h) ⟨by rfl, ?_⟩ (by assumption) ?_
  rotate_left
  · intro w hS; have fa := KA.at hS; have fb := KB.at hS; have f1 := fa 0; have f2 := fa 1; have f3 := fa 2; have f4 := fb 0; have f5 := fb 1; have f6 := fb 2; clear fa fb; go_simp <;> with_reducible rfl
  simp only [Act.put, List.setIfInBounds_toArray, List.set_cons_zero, List.set_cons_succ]
  refine takeL 1 (v := ?_) rfl (by kernel_rfl) (by kernel_rfl) (by kernel_rfl) (fun _ _ _ h => h) ⟨by rfl, ?_⟩ (by assumption) ?_
  rotate_left
  · intro w hS; go_simp <;> with_reducible rfl
  simp only [Act.put, List.setIfInBounds_toArray, List.set_cons_zero, List.set_cons_succ]
  refine takeL 2 (v := ?_) rfl (by kernel_rfl) (by kernel_rfl) (by kernel_rfl) (fun _ _ _ h => h) ⟨by rfl, ?_⟩ (by assumption) ?_
  rotate_left
  · intro w hS; go_simp <;> with_reducible rfl
  simp only [Act.put, List.setIfInBounds_toArray, List.set_cons_zero, List.set_cons_succ]
  refine takeL 4 (v := ?_) rfl (by kernel_rfl) (by kernel_rfl) (by kernel_rfl) (fun _ _ _ h => h) ⟨by rfl, ?_⟩ (by assumption) ?_
  rotate_left
  · intro w hS; have fa := KA.at hS; have fb := KB.at hS; have f1 := fa 0; have f2 := fa 1; have f3 := fa 2; have f4 := fb 0; have f5 := fb 1; have f6 := fb 2; clear fa fb; go_simp <;> with_reducible rfl
  simp only [Act.put, List.setIfInBounds_toArray, List.set_cons_zero, List.set_cons_succ]
  refine takeL 5 (v := ?_) rfl (by kernel_rfl) (by kernel_rfl) (by kernel_rfl) (fun _ _ _ h => h) ⟨by rfl, ?_⟩ (by assumption) ?_
  rotate_left
  · intro w hS; go_simp <;> with_reducible rfl
  simp only [Act.put, List.setIfInBounds_toArray, List.set_cons_zero, List.set_cons_succ]
  refine takeL 6 (v := ?_) rfl (by kernel_rfl) (by kernel_rfl) (by kernel_rfl) (fun _ _ _ h => h) ⟨by rfl, ?_⟩ (by assumption) ?_
  rotate_left
  · intro w hS; go_simp <;> with_reducible rfl
  simp only [Act.put, List.setIfInBounds_toArray, List.set_cons_zero, List.set_cons_succ]
  refine oneL 3 rfl (by kernel_rfl) (by rfl) (fun K hK => ?_)
  go_simp
  go_at_call 43
  (with_reducible refine (zmat_get _ R1 c i k xs L _ (hA.next hHeld) hi hc hk hx).mono ?_); rintro e w2 ⟨v2, rfl, h2, b2⟩
  refine hK.out _ _ (hHeld.trans (b2.mono hHeld.size)) (fun hHeld => ?_)
  clear hK K
  try simp only [Act.put, List.setIfInBounds_toArray, List.set_cons_zero, List.set_cons_succ]
  refine oneL 7 rfl (by kernel_rfl) (by rfl) (fun K hK => ?_)
  go_simp
  go_at_call 43
  (with_reducible refine (zmat_get _ R2 c i k ys M _ (hB.next hHeld) hi hc hk hy).mono ?_); rintro e w3 ⟨v3, rfl, h3, b3⟩
  refine hK.out _ _ (hHeld.trans (b3.mono hHeld.size)) (fun hHeld => ?_)
  clear hK K
  try simp only [Act.put, List.setIfInBounds_toArray, List.set_cons_zero, List.set_cons_succ]
  refine oneL 8 rfl (by kernel_rfl) (by rfl) (fun K hK => ?_)
  go_simp
  go_at_call 24
  (with_reducible refine (zi_Add v2 v3 _ _ L M _ (h2.next b3) h3 (by omega) (by omega)).mono ?_); rintro e w4 ⟨v4, rfl, h4, b4, -⟩
  obtain ⟨s2, a2, n2, c2, rfl⟩ := h4.agg
  refine hK.out _ _ (hHeld.trans (b4.mono hHeld.size)) (fun hHeld => ?_)
  clear hK K
  try simp only [Act.put, List.setIfInBounds_toArray, List.set_cons_zero, List.set_cons_succ]
  refine doneL (by kernel_rfl) ?_ _
  refine lastL rfl (by rfl) ?_
  replace KC := KC.next hHeld
  replace B0 := B0.trans (hHeld.mono B0.size)
  have h5 := h4.iv.mono hLL
  rw [← EZ.out] at h5
  have f0 := (KC).free 0; have f1 := (KC).free 1
  have c0 := (KC).cell 0; have c1 := (KC).cell 1
  have KF := ((KC).set 0 (.bool s2)).set 1 (.slice a2 n2 c2)
  have d0 := KF.cell 0; have d1 := KF.cell 1
  have FR := Lib.hid (show RetJ w LL Z (.returned (.agg #[.bool s2, .slice a2 n2 c2])) ((w4.setCell ⟨g, 0, none⟩ (.bool s2)).setCell ⟨g, 1, none⟩ (.slice a2 n2 c2)) from ⟨_, rfl, (h5).put (KC) s2 (.slice a2 n2 c2), ((B0).setCell (p := ⟨g, 0, none⟩) hgw (.bool s2)).setCell (p := ⟨g, 1, none⟩) hgw (.slice a2 n2 c2)⟩)
  clear KF
  go_wp2
  exact bodyPost_ret (v := .agg #[.bool s2, .slice a2 n2 c2]) (by simp [results, Try.results47, go_sem, d0, d1]) rfl FR.out

theorem zmat_Sub1 (R1 R2 : Int) (c i k : Nat) (xs ys : List Int) (L M : Nat) (w : World) (ga gb : Nat) (ao bo : Option Addr) (ca cb : Nat)
    (KA : Blk 24 w ga [.int .i64 R1, .int .i64 c, .slice ao xs.length ca]) (KB : Blk 24 w gb [.int .i64 R2, .int .i64 c, .slice bo ys.length cb])
    (hA : Mt w (.agg #[.int .i64 R1, .int .i64 c, .slice ao xs.length ca]) R1 c xs L) (hB : Mt w (.agg #[.int .i64 R2, .int .i64 c, .slice bo ys.length cb]) R2 c ys M)
    (hi : i ≤ 100000) (hc : c ≤ 100000) (hk : k ≤ 100000) (hx : i * c + k < xs.length) (hy : i * c + k < ys.length) (hL : L ≤ 50000) (hM : M ≤ 50000) :
    Calls Try.prog 48 #[.int .i64 i, .int .i64 k, .pointer (some ⟨ga, 0, none⟩), .pointer (some ⟨gb, 0, none⟩)] w (RetJ w (L + M + 1) (xs.getD (i * c + k) 0 - ys.getD (i * c + k) 0)) := by
  obtain ⟨wb, ew, KC, B0, hsz⟩ := boxes1 w 36 [.bool false, .slice none 0 0]
  clear hsz
  obtain ⟨Z, eZ⟩ : ∃ Z, Z = xs.getD (i * c + k) 0 - ys.getD (i * c + k) 0 := ⟨_, rfl⟩
  rw [← eZ]
  have EZ := Lib.hid eZ; clear eZ
  obtain ⟨LL, eL⟩ : ∃ LL, LL = L + M + 1 := ⟨_, rfl⟩
  rw [← eL]
  have hLL : L + M + 1 ≤ LL := by omega
  clear eL
  go_enter Try.func48, Try.ntmps48
  go_upto_region 1 with (fail)
  rw [← ew]
  replace B0 := B0.trans (Drawn.below (w' := wb.drew) ⟨1, rfl⟩ _)
  replace KA := KA.next B0; replace KB := KB.next B0; replace KC := KC.drew
  replace hA := hA.next B0; replace hB := hB.next B0
  obtain ⟨g, eg⟩ : ∃ g, g = w.heap.size := ⟨_, rfl⟩
  rw [← eg] at KC ⊢
  have hgw : w.heap.size ≤ g := by omega
  clear ew eg
  refine startP (S := (fun w' => Below (wb.drew).heap.size (wb.drew) w')) (by kernel_rfl) _ rfl rfl rfl (by kernel_rfl) (Below.refl _ _) (fun hHeld => ?_)
  refine takeL 0 (v := ?_) rfl (by kernel_rfl) (by kernel_rfl) (by kernel_rfl) (fun _ _ _ h => h) ⟨by rfl, ?_⟩ (by assumption) ?_
  rotate_left
  · intro w hS; have fa := KA.at hS; have fb := KB.at hS; have f1 := fa 0; have f2 := fa 1; have f3 := fa 2; have f4 := fb 0; have f5 := fb 1; have f6 := fb 2; clear fa fb; go_simp <;> with_reducible rfl
  simp only [Act.put, List.setIfInBounds_toArray, List.set_cons_zero, List.set_cons_succ]
  refine takeL 1 (v := ?_) rfl (by kernel_rfl) (by kernel_rfl) (by kernel_rfl) (fun _ _ _ h => h) ⟨by rfl, ?_⟩ (by assumption) ?_
  rotate_left
  · intro w hS; go_simp <;> with_reducible rfl
  simp only [Act.put, List.setIfInBounds_toArray, List.set_cons_zero, List.set_cons_succ]
  refine takeL 2 (v := ?_) rfl (by kernel_rfl) (by kernel_rfl) (by kernel_rfl) (fun _ _ _ h => h) ⟨by rfl, ?_⟩ (by assumption) ?_
  rotate_left
  · intro w hS; go_simp <;> with_reducible rfl
  simp only [Act.put, List.setIfInBounds_toArray, List.set_cons_zero, List.set_cons_succ]
  refine takeL 4 (v := ?_) rfl (by kernel_rfl) (by kernel_rfl) (by kernel_rfl) (fun _ _ _ h => h) ⟨by rfl, ?_⟩ (by assumption) ?_
  rotate_left
  · intro w hS; have fa := KA.at hS; have fb := KB.at hS; have f1 := fa 0; have f2 := fa 1; have f3 := fa 2; have f4 := fb 0; have f5 := fb 1; have f6 := fb 2; clear fa fb; go_simp <;> with_reducible rfl
  simp only [Act.put, List.setIfInBounds_toArray, List.set_cons_zero, List.set_cons_succ]
  refine takeL 5 (v := ?_) rfl (by kernel_rfl) (by kernel_rfl) (by kernel_rfl) (fun _ _ _ h => h) ⟨by rfl, ?_⟩ (by assumption) ?_
  rotate_left
  · intro w hS; go_simp <;> with_reducible rfl
  simp only [Act.put, List.setIfInBounds_toArray, List.set_cons_zero, List.set_cons_succ]
  refine takeL 6 (v := ?_) rfl (by kernel_rfl) (by kernel_rfl) (by kernel_rfl) (fun _ _ _ h => h) ⟨by rfl, ?_⟩ (by assumption) ?_
  rotate_left
  · intro w hS; go_simp <;> with_reducible rfl
  simp only [Act.put, List.setIfInBounds_toArray, List.set_cons_zero, List.set_cons_succ]
  refine oneL 3 rfl (by kernel_rfl) (by rfl) (fun K hK => ?_)
  go_simp
  go_at_call 43
  (with_reducible refine (zmat_get _ R1 c i k xs L _ (hA.next hHeld) hi hc hk hx).mono ?_); rintro e w2 ⟨v2, rfl, h2, b2⟩
  refine hK.out _ _ (hHeld.trans (b2.mono hHeld.size)) (fun hHeld => ?_)
  clear hK K
  try simp only [Act.put, List.setIfInBounds_toArray, List.set_cons_zero, List.set_cons_succ]
  refine oneL 7 rfl (by kernel_rfl) (by rfl) (fun K hK => ?_)
  go_simp
  go_at_call 43
  (with_reducible refine (zmat_get _ R2 c i k ys M _ (hB.next hHeld) hi hc hk hy).mono ?_); rintro e w3 ⟨v3, rfl, h3, b3⟩
  refine hK.out _ _ (hHeld.trans (b3.mono hHeld.size)) (fun hHeld => ?_)
  clear hK K
  try simp only [Act.put, List.setIfInBounds_toArray, List.set_cons_zero, List.set_cons_succ]
  refine oneL 8 rfl (by kernel_rfl) (by rfl) (fun K hK => ?_)
  go_simp
  go_at_call 25
  (with_reducible refine (zi_Sub v2 v3 _ _ L M _ (h2.next b3) h3 (by omega) (by omega)).mono ?_); rintro e w4 ⟨v4, rfl, h4, b4, -⟩
  obtain ⟨s2, a2, n2, c2, rfl⟩ := h4.agg
  refine hK.out _ _ (hHeld.trans (b4.mono hHeld.size)) (fun hHeld => ?_)
  clear hK K
  try simp only [Act.put, List.setIfInBounds_toArray, List.set_cons_zero, List.set_cons_succ]
  refine doneL (by kernel_rfl) ?_ _
  refine lastL rfl (by rfl) ?_
  replace KC := KC.next hHeld
  replace B0 := B0.trans (hHeld.mono B0.size)
  have h5 := h4.iv.mono hLL
  rw [← EZ.out] at h5
  have f0 := (KC).free 0; have f1 := (KC).free 1
  have c0 := (KC).cell 0; have c1 := (KC).cell 1
  have KF := ((KC).set 0 (.bool s2)).set 1 (.slice a2 n2 c2)
  have d0 := KF.cell 0; have d1 := KF.cell 1
  have FR := Lib.hid (show RetJ w LL Z (.returned (.agg #[.bool s2, .slice a2 n2 c2])) ((w4.setCell ⟨g, 0, none⟩ (.bool s2)).setCell ⟨g, 1, none⟩ (.slice a2 n2 c2)) from ⟨_, rfl, (h5).put (KC) s2 (.slice a2 n2 c2), ((B0).setCell (p := ⟨g, 0, none⟩) hgw (.bool s2)).setCell (p := ⟨g, 1, none⟩) hgw (.slice a2 n2 c2)⟩)
  clear KF
  go_wp2
  exact bodyPost_ret (v := .agg #[.bool s2, .slice a2 n2 c2]) (by simp [results, Try.results48, go_sem, d0, d1]) rfl FR.out

theorem zmat_Scale1 (R1 : Int) (c i k : Nat) (xs : List Int) (L : Nat) (ga : Nat) (ao : Option Addr) (ca : Nat) (y : Int) (M : Nat) (gb : Nat) (t : Bool) (q : Option Addr) (m d : Nat) (w : World)
    (KA : Blk 24 w ga [.int .i64 R1, .int .i64 c, .slice ao xs.length ca]) (hA : Mt w (.agg #[.int .i64 R1, .int .i64 c, .slice ao xs.length ca]) R1 c xs L)
    (hi : i ≤ 100000) (hc : c ≤ 100000) (hk : k ≤ 100000) (hx : i * c + k < xs.length)
    (KB : Blk 36 w gb [.bool t, .slice q m d]) (hB : Iv w (.agg #[.bool t, .slice q m d]) y M) (hL : L ≤ 50000) (hM : M ≤ 50000) :
    Calls Try.prog 49 #[.int .i64 i, .int .i64 k, .pointer (some ⟨ga, 0, none⟩), .pointer (some ⟨gb, 0, none⟩)] w (RetJ w (L + M) (xs.getD (i * c + k) 0 * y)) := by
  obtain ⟨wb, ew, KC, B0, hsz⟩ := boxes1 w 36 [.bool false, .slice none 0 0]
  clear hsz
  obtain ⟨Z, eZ⟩ : ∃ Z, Z = xs.getD (i * c + k) 0 * y := ⟨_, rfl⟩
  rw [← eZ]
  have EZ := Lib.hid eZ; clear eZ
  obtain ⟨LL, eL⟩ : ∃ LL, LL = L + M := ⟨_, rfl⟩
  rw [← eL]
  have hLL : L + M ≤ LL := by omega
  clear eL
  go_enter Try.func49, Try.ntmps49
  go_upto_region 1 with (fail)
  rw [← ew]
  obtain ⟨g, eg⟩ : ∃ g, g = w.heap.size := ⟨_, rfl⟩
  rw [← eg] at KC ⊢
  have hgw : w.heap.size ≤ g := by omega
  clear ew eg
  replace B0 := B0.trans (Drawn.below (w' := wb.drew) ⟨1, rfl⟩ _)
  replace KA := KA.next B0; replace KB := KB.next B0; replace KC := KC.drew
  replace hA := hA.next B0; replace hB := hB.next B0
  refine startP (S := (fun w' => Below (wb.drew).heap.size (wb.drew) w')) (by kernel_rfl) _ rfl rfl rfl (by kernel_rfl) (Below.refl _ _) (fun hHeld => ?_)
  refine takeL 0 (v := ?_) rfl (by kernel_rfl) (by kernel_rfl) (by kernel_rfl) (fun _ _ _ h => h) ⟨by rfl, ?_⟩ (by assumption) ?_
  rotate_left
  · intro w hS; have fa := KA.at hS; have fb := KB.at hS; have f1 := fa 0; have f2 := fa 1; have f3 := fa 2; have f4 := fb 0; have f5 := fb 1; clear fa fb; go_simp <;> with_reducible rfl
  simp only [Act.put, List.setIfInBounds_toArray, List.set_cons_zero, List.set_cons_succ]
  refine takeL 1 (v := ?_) rfl (by kernel_rfl) (by kernel_rfl) (by kernel_rfl) (fun _ _ _ h => h) ⟨by rfl, ?_⟩ (by assumption) ?_
  rotate_left
  · intro w hS; go_simp <;> with_reducible rfl
  simp only [Act.put, List.setIfInBounds_toArray, List.set_cons_zero, List.set_cons_succ]
  refine takeL 2 (v := ?_) rfl (by kernel_rfl) (by kernel_rfl) (by kernel_rfl) (fun _ _ _ h => h) ⟨by rfl, ?_⟩ (by assumption) ?_
  rotate_left
  · intro w hS; go_simp <;> with_reducible rfl
  simp only [Act.put, List.setIfInBounds_toArray, List.set_cons_zero, List.set_cons_succ]
  refine takeL 4 (v := ?_) rfl (by kernel_rfl) (by kernel_rfl) (by kernel_rfl) (fun _ _ _ h => h) ⟨by rfl, ?_⟩ (by assumption) ?_
  rotate_left
  · intro w hS; have fa := KA.at hS; have fb := KB.at hS; have f1 := fa 0; have f2 := fa 1; have f3 := fa 2; have f4 := fb 0; have f5 := fb 1; clear fa fb; go_simp <;> with_reducible rfl
  simp only [Act.put, List.setIfInBounds_toArray, List.set_cons_zero, List.set_cons_succ]
  refine oneL 3 rfl (by kernel_rfl) (by rfl) (fun K hK => ?_)
  go_simp
  go_at_call 43
  (with_reducible refine (zmat_get _ R1 c i k xs L _ (hA.next hHeld) hi hc hk hx).mono ?_); rintro e w2 ⟨v2, rfl, h2, b2⟩
  refine hK.out _ _ (hHeld.trans (b2.mono hHeld.size)) (fun hHeld => ?_)
  clear hK K
  try simp only [Act.put, List.setIfInBounds_toArray, List.set_cons_zero, List.set_cons_succ]
  refine oneL 5 rfl (by kernel_rfl) (by rfl) (fun K hK => ?_)
  go_simp
  go_at_call 23
  (with_reducible refine (zi_Mul v2 _ _ y L M _ h2 (hB.next hHeld) hL hM).mono ?_); rintro e w4 ⟨v4, rfl, h4, b4, -⟩
  obtain ⟨s2, a2, n2, c2, rfl⟩ := h4.agg
  refine hK.out _ _ (hHeld.trans (b4.mono hHeld.size)) (fun hHeld => ?_)
  clear hK K
  try simp only [Act.put, List.setIfInBounds_toArray, List.set_cons_zero, List.set_cons_succ]
  refine doneL (by kernel_rfl) ?_ _
  refine lastL rfl (by rfl) ?_
  replace KC := KC.next hHeld
  replace B0 := B0.trans (hHeld.mono B0.size)
  have h5 := h4.iv.mono hLL
  rw [← EZ.out] at h5
  have f0 := (KC).free 0; have f1 := (KC).free 1
  have c0 := (KC).cell 0; have c1 := (KC).cell 1
  have KF := ((KC).set 0 (.bool s2)).set 1 (.slice a2 n2 c2)
  have d0 := KF.cell 0; have d1 := KF.cell 1
  have FR := Lib.hid (show RetJ w LL Z (.returned (.agg #[.bool s2, .slice a2 n2 c2])) ((w4.setCell ⟨g, 0, none⟩ (.bool s2)).setCell ⟨g, 1, none⟩ (.slice a2 n2 c2)) from ⟨_, rfl, (h5).put (KC) s2 (.slice a2 n2 c2), ((B0).setCell (p := ⟨g, 0, none⟩) hgw (.bool s2)).setCell (p := ⟨g, 1, none⟩) hgw (.slice a2 n2 c2)⟩)
  clear KF
  go_wp2
  exact bodyPost_ret (v := .agg #[.bool s2, .slice a2 n2 c2]) (by simp [results, Try.results49, go_sem, d0, d1]) rfl FR.out

theorem zmat_Transpose1 (R1 : Int) (c i k : Nat) (xs : List Int) (L : Nat) (ga : Nat) (ao : Option Addr) (ca : Nat) (w : World)
    (KA : Blk 24 w ga [.int .i64 R1, .int .i64 c, .slice ao xs.length ca]) (hA : Mt w (.agg #[.int .i64 R1, .int .i64 c, .slice ao xs.length ca]) R1 c xs L)
    (hi : i ≤ 100000) (hc : c ≤ 100000) (hk : k ≤ 100000) (hx : k * c + i < xs.length) :
    Calls Try.prog 44 #[.int .i64 i, .int .i64 k, .pointer (some ⟨ga, 0, none⟩)] w (RetJ w (L) (xs.getD (k * c + i) 0)) := by
  obtain ⟨wb, ew, KC, B0, hsz⟩ := boxes1 w 36 [.bool false, .slice none 0 0]
  clear hsz
  obtain ⟨Z, eZ⟩ : ∃ Z, Z = xs.getD (k * c + i) 0 := ⟨_, rfl⟩
  rw [← eZ]
  have EZ := Lib.hid eZ; clear eZ
  obtain ⟨LL, eL⟩ : ∃ LL, LL = L := ⟨_, rfl⟩
  rw [← eL]
  have hLL : L ≤ LL := by omega
  clear eL
  go_enter Try.func44, Try.ntmps44
  go_upto_region 1 with (fail)
  rw [← ew]
  obtain ⟨g, eg⟩ : ∃ g, g = w.heap.size := ⟨_, rfl⟩
  rw [← eg] at KC ⊢
  have hgw : w.heap.size ≤ g := by omega
  clear ew eg
  replace KA := KA.next B0; replace hA := hA.next B0
  have a0 := KA.cell 0; have a1 := KA.cell 1; have a2 := KA.cell 2
  go_wp2_with fail
  refine (zmat_get _ R1 c k i xs L _ hA hk hc hi hx).mono ?_; rintro e w2 ⟨v2, rfl, h2, b2⟩
  obtain ⟨s2, a2, n2, c2, rfl⟩ := h2.agg
  replace KC := KC.next b2
  replace B0 := B0.trans (b2.mono B0.size)
  have h5 := h2.mono hLL
  rw [← EZ.out] at h5
  have f0 := (KC).free 0; have f1 := (KC).free 1
  have c0 := (KC).cell 0; have c1 := (KC).cell 1
  have KF := ((KC).set 0 (.bool s2)).set 1 (.slice a2 n2 c2)
  have d0 := KF.cell 0; have d1 := KF.cell 1
  have FR := Lib.hid (show RetJ w LL Z (.returned (.agg #[.bool s2, .slice a2 n2 c2])) ((w2.setCell ⟨g, 0, none⟩ (.bool s2)).setCell ⟨g, 1, none⟩ (.slice a2 n2 c2)) from ⟨_, rfl, (h5).put (KC) s2 (.slice a2 n2 c2), ((B0).setCell (p := ⟨g, 0, none⟩) hgw (.bool s2)).setCell (p := ⟨g, 1, none⟩) hgw (.slice a2 n2 c2)⟩)
  clear KF
  go_wp2
  exact bodyPost_ret (v := .agg #[.bool s2, .slice a2 n2 c2]) (by simp [results, Try.results44, go_sem, d0, d1]) rfl FR.out

end Go.Proofs.Ytahjbeilddenbaa
