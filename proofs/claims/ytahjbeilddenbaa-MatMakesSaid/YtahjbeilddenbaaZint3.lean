/- Package zint: differences, products, signs, comparison, by the numbers they read as. -/
import Derived.Test.YtahjbeilddenbaaZint2
namespace Go.Proofs.Ytahjbeilddenbaa
open Go.RowKit

theorem sg_not (s : Bool) (n : Nat) : sg (!s) n = - sg s n := by cases s <;> simp [sg]

theorem zi_From (s : Bool) (u : Value) (xs : List Nat) (w : World) (z : Int) (L : Nat) (hu : Sl .u64 w u xs) (hm : xs.length ≤ 1000000) (hx : wf W64 xs) (hz : sg s (nv W64 xs) = z) (hL : xs.length ≤ L) :
    Calls Try.prog 50 #[u, .bool s] w (RetI w L z) :=
  (zint_From s u xs w hu hm hx).mono fun _ _ h => RetI.mono h hL hz

theorem zi_Neg (a : Value) (x : Int) (L : Nat) (w : World) (ha : Iv w a x L) (hL : L ≤ 1000000) : Calls Try.prog 54 #[a] w (RetI w L (-x)) := by
  obtain ⟨s, u, xs, rfl, hs, hx, hl, rfl⟩ := ha
  exact (zint_Neg s u xs w hs (by omega) hx).mono fun _ _ h => RetI.mono h hl (sg_not _ _)

theorem zi_Add (a b : Value) (x y : Int) (L M : Nat) (w : World) (ha : Iv w a x L) (hb : Iv w b y M) (hL : L ≤ 100000) (hM : M ≤ 100000) : Calls Try.prog 24 #[a, b] w (RetI w (L + M + 1) (x + y)) := by
  obtain ⟨s, u, xs, rfl, hs, hx, hl, rfl⟩ := ha
  obtain ⟨t, v, ys, rfl, ht, hy, kl, rfl⟩ := hb
  exact (zint_Add s t u v xs ys w hs ht (by omega) (by omega) hx hy).mono fun _ _ h => RetI.mono h (by omega) rfl

theorem boxes1 (w : World) (e1 : TypeId) (A : List Value) : ∃ wb, wb = (w.alloc (.cells A.toArray e1)) ∧
    Blk e1 wb w.heap.size A ∧ Below w.heap.size w wb ∧ wb.heap.size = w.heap.size + 1 :=
  ⟨_, rfl, Blk.lit w e1 A, (Below.refl _ _).alloc (Nat.le_refl _) _, by simp⟩
theorem boxes1' (w : World) (e1 e2 : TypeId) (A B : List Value) : ∃ wb, wb = (w.alloc (.cells A.toArray e1)).alloc (.cells B.toArray e2) ∧
    Blk e1 wb w.heap.size A ∧ Blk e2 wb (w.heap.size + 1) B ∧ Below w.heap.size w wb ∧ wb.heap.size = w.heap.size + 1 + 1 := by
  have b1 := Blk.lit w e1 A
  have b2 := Blk.lit (w.alloc (.cells A.toArray e1)) e2 B
  have s1 : (w.alloc (.cells A.toArray e1)).heap.size = w.heap.size + 1 := by simp
  rw [s1] at b2
  exact ⟨_, rfl, b1.alloc _, b2, ((Below.refl _ _).alloc (Nat.le_refl _) _).alloc (by simp) _, by simp⟩

theorem zi_Sub (a b : Value) (x y : Int) (L M : Nat) (w : World) (ha : Iv w a x L) (hb : Iv w b y M) (hL : L ≤ 100000) (hM : M ≤ 100000) : Calls Try.prog 25 #[a, b] w (RetI w (L + M + 1) (x - y)) := by
  obtain ⟨s, p, n, c, rfl⟩ := ha.agg
  obtain ⟨t, q, m, d, rfl⟩ := hb.agg
  obtain ⟨wb, ew, KA, KB, KC, B0, hsz⟩ := boxes2 w 36 36 36 [.bool s, .slice p n c] [.bool t, .slice q m d] [.bool false, .slice none 0 0]
  clear hsz
  obtain ⟨LL, eL⟩ : ∃ LL, LL = L + M + 1 := ⟨_, rfl⟩
  rw [← eL]
  have hLL : L + M + 1 ≤ LL := by omega
  clear eL
  obtain ⟨z, ez⟩ : ∃ z, z = x - y := ⟨_, rfl⟩
  rw [← ez]
  have EZ := Lib.hid ez; clear ez
  go_enter Try.func25, Try.ntmps25
  go_upto_region 1 with (fail)
  rw [← ew]
  replace KA := KA.drew; replace KB := KB.drew; replace KC := KC.drew
  replace B0 := B0.trans (Drawn.below (w' := wb.drew) ⟨1, rfl⟩ _)
  replace ha := ha.next B0; replace hb := hb.next B0
  clear ew
  refine startP (S := (fun w' => Below (wb.drew).heap.size (wb.drew) w')) (by kernel_rfl) _ rfl rfl rfl (by kernel_rfl) (Below.refl _ _) (fun hHeld => ?_)
  refine takeL 0 (v := ?_) rfl (by kernel_rfl) (by kernel_rfl) (by kernel_rfl) (fun _ _ _ h => h) ⟨by rfl, ?_⟩ (by assumption) ?_
  rotate_left
  · intro w hS; have fa := KA.at hS; have fb := KB.at hS; have f1 := fa 0; have f2 := fa 1; have f3 := fb 0; have f4 := fb 1; clear fa fb; go_simp <;> with_reducible rfl
  simp only [Act.put, List.setIfInBounds_toArray, List.set_cons_zero, List.set_cons_succ]
  refine takeL 1 (v := ?_) rfl (by kernel_rfl) (by kernel_rfl) (by kernel_rfl) (fun _ _ _ h => h) ⟨by rfl, ?_⟩ (by assumption) ?_
  rotate_left
  · intro w hS; have fa := KA.at hS; have fb := KB.at hS; have f1 := fa 0; have f2 := fa 1; have f3 := fb 0; have f4 := fb 1; clear fa fb; go_simp <;> with_reducible rfl
  simp only [Act.put, List.setIfInBounds_toArray, List.set_cons_zero, List.set_cons_succ]
  refine oneL 2 rfl (by kernel_rfl) (by rfl) (fun K hK => ?_)
  go_simp
  go_at_call 54
  (with_reducible refine (zi_Neg _ y M _ (hb.next hHeld) (by omega)).mono ?_); rintro e w2 ⟨v2, rfl, h2, b2, q2⟩
  refine hK.out _ _ (hHeld.trans (b2.mono hHeld.size)) (fun hHeld => ?_)
  clear hK K
  try simp only [Act.put, List.setIfInBounds_toArray, List.set_cons_zero, List.set_cons_succ]
  refine oneL 3 rfl (by kernel_rfl) (by rfl) (fun K hK => ?_)
  go_simp
  go_at_call 24
  (with_reducible refine (zi_Add _ v2 x (-y) L M _ (ha.next hHeld) h2.iv (by omega) (by omega)).mono ?_); rintro e w3 ⟨v3, rfl, h3, b3, q3⟩
  replace q3 := q3.mono (Nat.le_trans B0.size hHeld.size); obtain ⟨s2, a2, n2, c2, rfl⟩ := h3.agg
  refine hK.out _ _ (hHeld.trans (b3.mono hHeld.size)) (fun hHeld => ?_)
  clear hK K
  try simp only [Act.put, List.setIfInBounds_toArray, List.set_cons_zero, List.set_cons_succ]
  refine doneL (by kernel_rfl) ?_ _
  refine lastL rfl (by rfl) ?_
  obtain ⟨g, eg⟩ : ∃ g, g = w.heap.size + 1 + 1 := ⟨_, rfl⟩
  rw [← eg] at KC ⊢
  have hgw : w.heap.size ≤ g := by omega
  clear eg
  replace KC := KC.next hHeld
  replace B0 := B0.trans (hHeld.mono B0.size)
  have f0 := (KC).free 0; have f1 := (KC).free 1
  have c0 := (KC).cell 0; have c1 := (KC).cell 1
  have KF := ((KC).set 0 (.bool s2)).set 1 (.slice a2 n2 c2)
  have d0 := KF.cell 0; have d1 := KF.cell 1
  have FR := Lib.hid (show RetI w LL z (.returned (.agg #[.bool s2, .slice a2 n2 c2])) ((w3.setCell ⟨g, 0, none⟩ (.bool s2)).setCell ⟨g, 1, none⟩ (.slice a2 n2 c2)) from RetI.mono ⟨_, rfl, (h3).put (KC) s2 (.slice a2 n2 c2), ((B0).setCell (p := ⟨g, 0, none⟩) hgw (.bool s2)).setCell (p := ⟨g, 1, none⟩) hgw (.slice a2 n2 c2), q3⟩ (by omega) (by rw [EZ.out]; omega))
  clear KF
  go_wp2
  exact bodyPost_ret (v := .agg #[.bool s2, .slice a2 n2 c2]) (by simp [results, Try.results25, go_sem, d0, d1]) rfl FR.out

theorem zi_Mul (a b : Value) (x y : Int) (L M : Nat) (w : World) (ha : Iv w a x L) (hb : Iv w b y M) (hL : L ≤ 50000) (hM : M ≤ 50000) : Calls Try.prog 23 #[a, b] w (RetI w (L + M) (x * y)) := by
  obtain ⟨s, u, xs, rfl, hu, hx, hl, rfl⟩ := ha
  obtain ⟨t, v, ys, rfl, hv, hy, kl, rfl⟩ := hb
  obtain ⟨ao, ba, oa, ca, rfl, -, -⟩ := id hu
  obtain ⟨bo, bb, ob, cb, rfl, -, -⟩ := id hv
  obtain ⟨wb, ew, KA, KB, KC, B0, hsz⟩ := boxes2 w 36 36 36 [.bool s, .slice ao xs.length ca] [.bool t, .slice bo ys.length cb] [.bool false, .slice none 0 0]
  clear hsz
  obtain ⟨LL, eL⟩ : ∃ LL, LL = L + M := ⟨_, rfl⟩
  rw [← eL]
  have hLL : L + M ≤ LL := by omega
  clear eL
  obtain ⟨z, ez⟩ : ∃ z, z = sg s (nv W64 xs) * sg t (nv W64 ys) := ⟨_, rfl⟩
  rw [← ez]
  have EZ := Lib.hid ez; clear ez
  go_enter Try.func23, Try.ntmps23
  go_upto_region 1 with (fail)
  rw [← ew]
  replace KA := KA.drew; replace KB := KB.drew; replace KC := KC.drew
  replace B0 := B0.trans (Drawn.below (w' := wb.drew) ⟨1, rfl⟩ _)
  replace hu := hu.next B0; replace hv := hv.next B0
  clear ew
  refine startP (S := (fun w' => Below (wb.drew).heap.size (wb.drew) w')) (by kernel_rfl) _ rfl rfl rfl (by kernel_rfl) (Below.refl _ _) (fun hHeld => ?_)
  refine takeL 0 (v := ?_) rfl (by kernel_rfl) (by kernel_rfl) (by kernel_rfl) (fun _ _ _ h => h) ⟨by rfl, ?_⟩ (by assumption) ?_
  rotate_left
  · intro w hS; go_simp <;> with_reducible rfl
  simp only [Act.put, List.setIfInBounds_toArray, List.set_cons_zero, List.set_cons_succ]
  refine takeL 1 (v := ?_) rfl (by kernel_rfl) (by kernel_rfl) (by kernel_rfl) (fun _ _ _ h => h) ⟨by rfl, ?_⟩ (by assumption) ?_
  rotate_left
  · intro w hS; have fa := KA.at hS; have fb := KB.at hS; have f1 := fa 0; have f2 := fa 1; have f3 := fb 0; have f4 := fb 1; clear fa fb; go_simp <;> with_reducible rfl
  simp only [Act.put, List.setIfInBounds_toArray, List.set_cons_zero, List.set_cons_succ]
  refine takeL 2 (v := ?_) rfl (by kernel_rfl) (by kernel_rfl) (by kernel_rfl) (fun _ _ _ h => h) ⟨by rfl, ?_⟩ (by assumption) ?_
  rotate_left
  · intro w hS; go_simp <;> with_reducible rfl
  simp only [Act.put, List.setIfInBounds_toArray, List.set_cons_zero, List.set_cons_succ]
  refine takeL 3 (v := ?_) rfl (by kernel_rfl) (by kernel_rfl) (by kernel_rfl) (fun _ _ _ h => h) ⟨by rfl, ?_⟩ (by assumption) ?_
  rotate_left
  · intro w hS; have fa := KA.at hS; have fb := KB.at hS; have f1 := fa 0; have f2 := fa 1; have f3 := fb 0; have f4 := fb 1; clear fa fb; go_simp <;> with_reducible rfl
  simp only [Act.put, List.setIfInBounds_toArray, List.set_cons_zero, List.set_cons_succ]
  refine takeL 5 (v := ?_) rfl (by kernel_rfl) (by kernel_rfl) (by kernel_rfl) (fun _ _ _ h => h) ⟨by rfl, ?_⟩ (by assumption) ?_
  rotate_left
  · intro w hS; go_simp <;> with_reducible rfl
  simp only [Act.put, List.setIfInBounds_toArray, List.set_cons_zero, List.set_cons_succ]
  refine takeL 6 (v := ?_) rfl (by kernel_rfl) (by kernel_rfl) (by kernel_rfl) (fun _ _ _ h => h) ⟨by rfl, ?_⟩ (by assumption) ?_
  rotate_left
  · intro w hS; have fa := KA.at hS; have fb := KB.at hS; have f1 := fa 0; have f2 := fa 1; have f3 := fb 0; have f4 := fb 1; clear fa fb; go_simp <;> with_reducible rfl
  simp only [Act.put, List.setIfInBounds_toArray, List.set_cons_zero, List.set_cons_succ]
  refine takeL 7 (v := ?_) rfl (by kernel_rfl) (by kernel_rfl) (by kernel_rfl) (fun _ _ _ h => h) ⟨by rfl, ?_⟩ (by assumption) ?_
  rotate_left
  · intro w hS; go_simp <;> with_reducible rfl
  simp only [Act.put, List.setIfInBounds_toArray, List.set_cons_zero, List.set_cons_succ]
  refine takeL 8 (v := ?_) rfl (by kernel_rfl) (by kernel_rfl) (by kernel_rfl) (fun _ _ _ h => h) ⟨by rfl, ?_⟩ (by assumption) ?_
  rotate_left
  · intro w hS; have fa := KA.at hS; have fb := KB.at hS; have f1 := fa 0; have f2 := fa 1; have f3 := fb 0; have f4 := fb 1; clear fa fb; go_simp <;> with_reducible rfl
  simp only [Act.put, List.setIfInBounds_toArray, List.set_cons_zero, List.set_cons_succ]
  refine takeL 9 (v := ?_) rfl (by kernel_rfl) (by kernel_rfl) (by kernel_rfl) (fun _ _ _ h => h) ⟨by rfl, ?_⟩ (by assumption) ?_
  rotate_left
  · intro w hS; go_simp <;> with_reducible rfl
  simp only [Act.put, List.setIfInBounds_toArray, List.set_cons_zero, List.set_cons_succ]
  refine oneL 4 rfl (by kernel_rfl) (by rfl) (fun K hK => ?_)
  go_simp
  go_at_call 51
  (with_reducible refine (mul_Mul _ _ xs ys _ (hu.next hHeld) (hv.next hHeld) (by omega) (by omega) hx hy).mono ?_); rintro e w2 ⟨r2, zs, rfl, o2, m2, v2, l2, b2⟩
  have V2 := Lib.hid v2; clear v2; have m2w : wf W64 zs := m2.1
  refine hK.out _ _ (hHeld.trans (b2.mono hHeld.size)) (fun hHeld => ?_)
  clear hK K
  try simp only [Act.put, List.setIfInBounds_toArray, List.set_cons_zero, List.set_cons_succ]
  refine oneL 10 rfl (by kernel_rfl) (by rfl) (fun K hK => ?_)
  go_simp
  go_at_call 50
  (with_reducible refine (zint_From (!s == t) r2 zs _ o2.sl (by omega) m2w).mono ?_); rintro e w3 ⟨v3, rfl, h3, b3, q3⟩
  replace q3 := q3.mono (Nat.le_trans B0.size hHeld.size); obtain ⟨s2, a2, n2, c2, rfl⟩ := h3.agg
  refine hK.out _ _ (hHeld.trans (b3.mono hHeld.size)) (fun hHeld => ?_)
  clear hK K
  try simp only [Act.put, List.setIfInBounds_toArray, List.set_cons_zero, List.set_cons_succ]
  refine doneL (by kernel_rfl) ?_ _
  refine lastL rfl (by rfl) ?_
  obtain ⟨g, eg⟩ : ∃ g, g = w.heap.size + 1 + 1 := ⟨_, rfl⟩
  rw [← eg] at KC ⊢
  have hgw : w.heap.size ≤ g := by omega
  clear eg
  replace KC := KC.next hHeld
  replace B0 := B0.trans (hHeld.mono B0.size)
  have f0 := (KC).free 0; have f1 := (KC).free 1
  have c0 := (KC).cell 0; have c1 := (KC).cell 1
  have KF := ((KC).set 0 (.bool s2)).set 1 (.slice a2 n2 c2)
  have d0 := KF.cell 0; have d1 := KF.cell 1
  have FR := Lib.hid (show RetI w LL z (.returned (.agg #[.bool s2, .slice a2 n2 c2])) ((w3.setCell ⟨g, 0, none⟩ (.bool s2)).setCell ⟨g, 1, none⟩ (.slice a2 n2 c2)) from RetI.mono ⟨_, rfl, (h3).put (KC) s2 (.slice a2 n2 c2), ((B0).setCell (p := ⟨g, 0, none⟩) hgw (.bool s2)).setCell (p := ⟨g, 1, none⟩) hgw (.slice a2 n2 c2), q3⟩ (by omega) (by rw [EZ.out, V2.out]; cases s <;> cases t <;> simp [sg, Int.neg_mul, Int.mul_neg]))
  clear KF
  go_wp2
  exact bodyPost_ret (v := .agg #[.bool s2, .slice a2 n2 c2]) (by simp [results, Try.results23, go_sem, d0, d1]) rfl FR.out

/-- The sign of a whole number. -/
def zs (x : Int) : Int := if x < 0 then -1 else if x = 0 then 0 else 1
/-- How two whole numbers compare. -/
def zc (x y : Int) : Int := if x < y then -1 else if y < x then 1 else 0
def RetW (w : World) (v : Value) (e : Ending) (w' : World) : Prop := e = .returned v ∧ Below w.heap.size w w'

theorem zi_Sign (a : Value) (x : Int) (L : Nat) (w : World) (ha : Iv w a x L) (hL : L ≤ 1000000) : Calls Try.prog 39 #[a] w (RetW w (.int .i64 (zs x))) := by
  obtain ⟨s, u, xs, rfl, hu, hx, hl, rfl⟩ := ha
  obtain ⟨ao, ba, oa, ca, rfl, -, -⟩ := id hu
  obtain ⟨wb, ew, KA, B0, hsz⟩ := boxes1 w 36 [.bool s, .slice ao xs.length ca]
  clear hsz
  obtain ⟨k, ek⟩ : ∃ k, k = zs (sg s (nv W64 xs)) := ⟨_, rfl⟩
  rw [← ek]
  have EK := Lib.hid ek; clear ek
  go_enter Try.func39, Try.ntmps39
  go_wp2_with fail
  rw [← ew]
  replace hu := hu.next B0
  clear ew
  obtain ⟨n, en⟩ : ∃ n, n = nv W64 xs := ⟨_, rfl⟩
  have hb := nat_Bits _ xs wb hu (by omega) hx
  rw [← en] at hb EK
  refine hb.mono ?_; rintro e w2 ⟨rfl, rfl⟩
  clear hb hu en
  have c0 := KA.cell 0; have c1 := KA.cell 1
  by_cases h0 : n = 0
  · have hk : k = 0 := by rw [EK.out, h0]; cases s <;> rfl
    have hbl : bl n = 0 := by rw [h0]; rfl
    subst hk
    clear h0
    go_wp2
    go_ret
    exact ⟨rfl, B0⟩
  · have hbl : ¬ ((bl n : Nat) : Int) = 0 := by unfold bl; rw [if_neg h0]; omega
    cases s with
    | true =>
      have hk : k = -1 := by rw [EK.out]; simp [sg, zs]; omega
      subst hk
      clear h0
      go_wp2
      go_ret
      exact ⟨rfl, B0⟩
    | false =>
      have hk : k = 1 := by rw [EK.out]; simp [sg, zs]; omega
      subst hk
      clear h0
      go_wp2
      go_ret
      exact ⟨rfl, B0⟩

theorem zs_sg {s : Bool} {n : Nat} : (zs (sg s n) < 0 → s = true) ∧ (¬ zs (sg s n) < 0 → sg s n = n) := by
  cases s <;> simp [sg, zs]
  · split <;> (try split) <;> omega
  · split <;> (try split) <;> omega

theorem zc_lt {x y : Int} (h : zs x < zs y) : zc x y = -1 := by
  have : x < y := by
    unfold zs at h
    split at h <;> split at h <;> (try split at h) <;> omega
  unfold zc; rw [if_pos this]
theorem zc_gt {x y : Int} (h : zs y < zs x) : zc x y = 1 := by
  have : y < x := by
    unfold zs at h
    split at h <;> split at h <;> (try split at h) <;> omega
  unfold zc; rw [if_neg (by omega), if_pos this]

theorem zc_cmpN (m n : Nat) : zc (m : Int) (n : Int) = cmpN m n := by
  unfold zc cmpN
  by_cases h : m < n
  · rw [if_pos h, if_pos (by omega)]
  · rw [if_neg h, if_neg (by omega)]
    by_cases h2 : n < m
    · rw [if_pos h2, if_pos (by omega)]
    · rw [if_neg h2, if_neg (by omega)]
theorem zc_neg (x y : Int) : zc (-x) (-y) = zc y x := by
  unfold zc
  by_cases h : y < x
  · rw [if_pos h, if_pos (by omega)]
  · rw [if_neg h, if_neg (by omega)]
    by_cases h2 : x < y
    · rw [if_pos h2, if_pos (by omega)]
    · rw [if_neg h2, if_neg (by omega)]

theorem zi_Cmp (a b : Value) (x y : Int) (L M : Nat) (w : World) (ha : Iv w a x L) (hb : Iv w b y M) (hL : L ≤ 1000000) (hM : M ≤ 1000000) : Calls Try.prog 45 #[a, b] w (RetW w (.int .i64 (zc x y))) := by
  obtain ⟨s, u, xs, rfl, hu, hx, hl, rfl⟩ := id ha
  obtain ⟨t, v, ys, rfl, hv, hy, kl, rfl⟩ := id hb
  obtain ⟨ao, ba, oa, ca, rfl, -, -⟩ := id hu
  obtain ⟨bo, bb, ob, cb, rfl, -, -⟩ := id hv
  obtain ⟨wb, ew, KA, KB, B0, hsz⟩ := boxes1' w 36 36 [.bool s, .slice ao xs.length ca] [.bool t, .slice bo ys.length cb]
  clear hsz
  obtain ⟨x, ex⟩ : ∃ x, x = sg s (nv W64 xs) := ⟨_, rfl⟩
  obtain ⟨y, ey⟩ : ∃ y, y = sg t (nv W64 ys) := ⟨_, rfl⟩
  rw [← ex] at ha; rw [← ey] at hb
  rw [← ex, ← ey]
  have EX := Lib.hid ex; have EY := Lib.hid ey; clear ex ey
  obtain ⟨k, ek⟩ : ∃ k, k = zc x y := ⟨_, rfl⟩
  rw [← ek]
  have EK := Lib.hid ek; clear ek
  go_enter Try.func45, Try.ntmps45
  go_upto_region 1 with (fail)
  rw [← ew]
  replace KA := KA.drew; replace KB := KB.drew
  replace B0 := B0.trans (Drawn.below (w' := wb.drew) ⟨1, rfl⟩ _)
  replace ha := ha.next B0; replace hb := hb.next B0
  replace hu := hu.next B0; replace hv := hv.next B0
  clear ew
  refine startL (S := (fun w' => Below (wb.drew).heap.size (wb.drew) w')) (by kernel_rfl) (Below.refl _ _) (fun hHeld => ?_)
  refine takeL 0 (v := ?_) rfl (by kernel_rfl) (by kernel_rfl) (by kernel_rfl) (fun _ _ _ h => h) ⟨by rfl, ?_⟩ (by assumption) ?_
  rotate_left
  · intro w hS; have fa := KA.at hS; have fb := KB.at hS; have f1 := fa 0; have f2 := fa 1; have f3 := fb 0; have f4 := fb 1; clear fa fb; go_simp <;> with_reducible rfl
  simp only [Act.put, List.setIfInBounds_toArray, List.set_cons_zero, List.set_cons_succ]
  refine takeL 2 (v := ?_) rfl (by kernel_rfl) (by kernel_rfl) (by kernel_rfl) (fun _ _ _ h => h) ⟨by rfl, ?_⟩ (by assumption) ?_
  rotate_left
  · intro w hS; have fa := KA.at hS; have fb := KB.at hS; have f1 := fa 0; have f2 := fa 1; have f3 := fb 0; have f4 := fb 1; clear fa fb; go_simp <;> with_reducible rfl
  simp only [Act.put, List.setIfInBounds_toArray, List.set_cons_zero, List.set_cons_succ]
  refine oneL 1 rfl (by kernel_rfl) (by rfl) (fun K hK => ?_)
  go_simp
  go_at_call 39
  (with_reducible refine (zi_Sign _ x L _ (ha.next hHeld) (by omega)).mono ?_); rintro e w2 ⟨rfl, b2⟩
  refine hK.out _ _ (hHeld.trans (b2.mono hHeld.size)) (fun hHeld => ?_)
  clear hK K
  try simp only [Act.put, List.setIfInBounds_toArray, List.set_cons_zero, List.set_cons_succ]
  refine oneL 3 rfl (by kernel_rfl) (by rfl) (fun K hK => ?_)
  go_simp
  go_at_call 39
  (with_reducible refine (zi_Sign _ y M _ (hb.next hHeld) (by omega)).mono ?_); rintro e w3 ⟨rfl, b3⟩
  refine hK.out _ _ (hHeld.trans (b3.mono hHeld.size)) (fun hHeld => ?_)
  clear hK K
  try simp only [Act.put, List.setIfInBounds_toArray, List.set_cons_zero, List.set_cons_succ]
  refine takeL 4 (v := ?_) rfl (by kernel_rfl) (by kernel_rfl) (by kernel_rfl) (fun _ _ _ h => h) ⟨by rfl, ?_⟩ (by assumption) ?_
  rotate_left
  · intro w hS; go_simp <;> with_reducible rfl
  simp only [Act.put, List.setIfInBounds_toArray, List.set_cons_zero, List.set_cons_succ]
  refine takeL 5 (v := ?_) rfl (by kernel_rfl) (by kernel_rfl) (by kernel_rfl) (fun _ _ _ h => h) ⟨by rfl, ?_⟩ (by assumption) ?_
  rotate_left
  · intro w hS; go_simp <;> with_reducible rfl
  simp only [Act.put, List.setIfInBounds_toArray, List.set_cons_zero, List.set_cons_succ]
  refine doneL (by kernel_rfl) ?_ _
  replace KA := KA.next hHeld; replace KB := KB.next hHeld
  replace B0 := B0.trans (hHeld.mono B0.size)
  replace hu := hu.next hHeld; replace hv := hv.next hHeld
  clear b2 b3 hHeld ha hb
  obtain ⟨i, ei⟩ : ∃ i, i = zs x := ⟨_, rfl⟩
  obtain ⟨j, ej⟩ : ∃ j, j = zs y := ⟨_, rfl⟩
  rw [← ei, ← ej]
  have EI := Lib.hid ei; have EJ := Lib.hid ej; clear ei ej
  by_cases h1 : i < j
  · have hk : k = -1 := by rw [EK.out]; exact zc_lt (by rw [← EI.out, ← EJ.out]; exact h1)
    subst hk
    go_wp2
    go_ret
    exact ⟨rfl, B0⟩
  · by_cases h2 : j < i
    · have hk : k = 1 := by rw [EK.out]; exact zc_gt (by rw [← EI.out, ← EJ.out]; exact h2)
      subst hk
      go_wp2
      go_ret
      exact ⟨rfl, B0⟩
    · have f1 := KA.cell 1; have f2 := KB.cell 1
      by_cases h3 : i < 0
      · have hs := zs_sg.1 (by rw [← EX.out, ← EI.out]; exact h3)
        have ht := zs_sg.1 (by rw [← EY.out, ← EJ.out]; omega)
        have hk : k = cmpN (nv W64 ys) (nv W64 xs) := by rw [EK.out, EX.out, EY.out, hs, ht, ← zc_cmpN]; simp only [sg, if_true]; exact zc_neg _ _
        have HK := Lib.hid hk
        clear hk hs ht
        go_wp2_with fail
        refine (nat_Cmp _ _ ys xs _ hv hu (by omega) (by omega) hy hx).mono ?_; rintro e w4 ⟨rfl, hq⟩
        rw [← HK.out]
        replace B0 := B0.trans (hq.below _)
        clear hq f1 f2
        go_wp2
        go_ret
        exact ⟨rfl, B0⟩
      · have hs := zs_sg.2 (by rw [← EX.out, ← EI.out]; exact h3)
        have ht := zs_sg.2 (by rw [← EY.out, ← EJ.out]; omega)
        have hk : k = cmpN (nv W64 xs) (nv W64 ys) := by rw [EK.out, EX.out, EY.out, hs, ht, ← zc_cmpN]
        have HK := Lib.hid hk
        clear hk hs ht
        go_wp2_with fail
        refine (nat_Cmp _ _ xs ys _ hu hv (by omega) (by omega) hx hy).mono ?_; rintro e w4 ⟨rfl, hq⟩
        rw [← HK.out]
        replace B0 := B0.trans (hq.below _)
        clear hq f1 f2
        go_wp2
        go_ret
        exact ⟨rfl, B0⟩

theorem zi_Same (a b : Value) (x y : Int) (L M : Nat) (w : World) (ha : Iv w a x L) (hb : Iv w b y M) (hL : L ≤ 1000000) (hM : M ≤ 1000000) : Calls Try.prog 16 #[a, b] w (RetW w (.bool (decide (x = y)))) := by
  obtain ⟨s, p, n, c, rfl⟩ := ha.agg
  obtain ⟨t, q, m, d, rfl⟩ := hb.agg
  obtain ⟨wb, ew, KA, KB, B0, hsz⟩ := boxes1' w 36 36 [.bool s, .slice p n c] [.bool t, .slice q m d]
  clear hsz
  obtain ⟨k, ek⟩ : ∃ k, k = decide (x = y) := ⟨_, rfl⟩
  rw [← ek]
  have EK := Lib.hid ek; clear ek
  go_enter Try.func16, Try.ntmps16
  go_wp2_with fail
  rw [← ew]
  replace ha := ha.next B0; replace hb := hb.next B0
  clear ew
  refine (zi_Cmp _ _ x y L M _ ha hb hL hM).mono ?_; rintro e w2 ⟨rfl, b2⟩
  replace B0 := B0.trans (b2.mono B0.size)
  have hk : k = (zc x y == 0) := by
    rw [EK.out]; unfold zc
    by_cases h : x < y
    · rw [if_pos h]; simp; omega
    · rw [if_neg h]
      by_cases h2 : y < x
      · rw [if_pos h2]; simp; omega
      · rw [if_neg h2]; simp; omega
  have HK := Lib.hid hk
  clear hk b2
  generalize zc x y = i at *
  go_wp2
  go_ret
  exact ⟨by rw [HK.out]; rfl, B0⟩

theorem zi_Of (x : Int) (w : World) (hx : -9223372036854775808 ≤ x ∧ x < 9223372036854775808) : Calls Try.prog 38 #[.int .i64 x] w (RetI w 1 x) := by
  obtain ⟨wb, ew, KC, B0, hsz⟩ := boxes1 w 36 [.bool false, .slice none 0 0]
  clear hsz
  obtain ⟨L, eL⟩ : ∃ L, L = 1 := ⟨_, rfl⟩
  obtain ⟨z, ez⟩ : ∃ z, z = x := ⟨_, rfl⟩
  rw [show RetI w 1 x = RetI w L z by rw [eL, ez]]
  have EL := Lib.hid eL; have EZ := Lib.hid ez; clear ez eL
  go_enter Try.func38, Try.ntmps38
  by_cases h0 : x < 0
  · have hw : IntKind.u64.wrap (-IntKind.u64.wrap x) = (((-x).toNat : Nat) : Int) := by simp [IntKind.wrap, IntKind.bits, IntKind.signed]; omega
    have hlt : (-x).toNat < W64 := by unfold W64; omega
    obtain ⟨n, en⟩ : ∃ n, n = (-x).toNat := ⟨_, rfl⟩
    rw [← en] at hw hlt
    have EN := Lib.hid en; clear en
    go_wp2_with fail
    rw [← ew]
    clear ew hw
    have hgw := Nat.le_refl w.heap.size
    obtain ⟨g, eg⟩ : ∃ g, g = w.heap.size := ⟨_, rfl⟩
    rw [← eg] at KC ⊢
    rw [show (w.heap.size ≤ w.heap.size) = (w.heap.size ≤ g) by rw [eg]] at hgw
    clear eg
    refine (nat_Of n hlt _).mono ?_; rintro e w2 ⟨r2, zs, rfl, o2, m2, v2, l2, b2⟩
    go_wp2_with fail
    have V2 := Lib.hid v2; clear v2
    refine (zint_From true r2 zs _ o2.sl (by omega) m2.1).mono ?_; rintro e w3 ⟨v3, rfl, h3, b3, q3⟩
    obtain ⟨s2, a2, n2, c2, rfl⟩ := h3.agg
    replace KC := (KC.next b2).next b3
    replace q3 := q3.mono (Nat.le_trans B0.size b2.size)
    replace B0 := (B0.trans (b2.mono B0.size)).trans (b3.mono (Nat.le_trans B0.size b2.size))
    have f0 := (KC).free 0; have f1 := (KC).free 1
    have c0 := (KC).cell 0; have c1 := (KC).cell 1
    have KF := ((KC).set 0 (.bool s2)).set 1 (.slice a2 n2 c2)
    have d0 := KF.cell 0; have d1 := KF.cell 1
    have FR := Lib.hid (show RetI w L z (.returned (.agg #[.bool s2, .slice a2 n2 c2])) ((w3.setCell ⟨g, 0, none⟩ (.bool s2)).setCell ⟨g, 1, none⟩ (.slice a2 n2 c2)) from RetI.mono ⟨_, rfl, (h3).put (KC) s2 (.slice a2 n2 c2), ((B0).setCell (p := ⟨g, 0, none⟩) hgw (.bool s2)).setCell (p := ⟨g, 1, none⟩) hgw (.slice a2 n2 c2), q3⟩ (by rw [EL.out]; omega) (by rw [EZ.out, V2.out, EN.out]; simp [sg]; omega))
    clear KF
    go_wp2
    exact bodyPost_ret (v := .agg #[.bool s2, .slice a2 n2 c2]) (by simp [results, Try.results38, go_sem, d0, d1]) rfl FR.out
  · have hw : IntKind.u64.wrap x = ((x.toNat : Nat) : Int) := by simp [IntKind.wrap, IntKind.bits, IntKind.signed]; omega
    have hlt : x.toNat < W64 := by unfold W64; omega
    obtain ⟨n, en⟩ : ∃ n, n = x.toNat := ⟨_, rfl⟩
    rw [← en] at hw hlt
    have EN := Lib.hid en; clear en
    go_wp2_with fail
    rw [← ew]
    clear ew hw
    have hgw := Nat.le_refl w.heap.size
    obtain ⟨g, eg⟩ : ∃ g, g = w.heap.size := ⟨_, rfl⟩
    rw [← eg] at KC ⊢
    rw [show (w.heap.size ≤ w.heap.size) = (w.heap.size ≤ g) by rw [eg]] at hgw
    clear eg
    refine (nat_Of n hlt _).mono ?_; rintro e w2 ⟨r2, zs, rfl, o2, m2, v2, l2, b2⟩
    go_wp2_with fail
    have V2 := Lib.hid v2; clear v2
    refine (zint_From false r2 zs _ o2.sl (by omega) m2.1).mono ?_; rintro e w3 ⟨v3, rfl, h3, b3, q3⟩
    obtain ⟨s2, a2, n2, c2, rfl⟩ := h3.agg
    replace KC := (KC.next b2).next b3
    replace q3 := q3.mono (Nat.le_trans B0.size b2.size)
    replace B0 := (B0.trans (b2.mono B0.size)).trans (b3.mono (Nat.le_trans B0.size b2.size))
    have f0 := (KC).free 0; have f1 := (KC).free 1
    have c0 := (KC).cell 0; have c1 := (KC).cell 1
    have KF := ((KC).set 0 (.bool s2)).set 1 (.slice a2 n2 c2)
    have d0 := KF.cell 0; have d1 := KF.cell 1
    have FR := Lib.hid (show RetI w L z (.returned (.agg #[.bool s2, .slice a2 n2 c2])) ((w3.setCell ⟨g, 0, none⟩ (.bool s2)).setCell ⟨g, 1, none⟩ (.slice a2 n2 c2)) from RetI.mono ⟨_, rfl, (h3).put (KC) s2 (.slice a2 n2 c2), ((B0).setCell (p := ⟨g, 0, none⟩) hgw (.bool s2)).setCell (p := ⟨g, 1, none⟩) hgw (.slice a2 n2 c2), q3⟩ (by rw [EL.out]; omega) (by rw [EZ.out, V2.out, EN.out]; simp [sg]; omega))
    clear KF
    go_wp2
    exact bodyPost_ret (v := .agg #[.bool s2, .slice a2 n2 c2]) (by simp [results, Try.results38, go_sem, d0, d1]) rfl FR.out

end Go.Proofs.Ytahjbeilddenbaa
