/- hess.Min: the minimal polynomial; hess.Order: a column's order. -/
import Derived.Test.YthghdjpjbngllaaHord
import Derived.Test.YthghdjpjbngllaaChi
import Derived.Test.YthghdjpjbngllaaPw
import Derived.Test.YthghdjpjbngllaaHz
namespace Go.Proofs.Ythghdjpjbngllaa
open Go.RowKit


section
variable {p n : Nat}
/-- The words of a unit's column. -/
theorem uv_words (hp : FP p) (i : Nat) : (List.replicate n 0).set i 1 = tbv (uv n i : MT (Zp p) n 1) := by
  refine List.ext_getElem (by rw [List.length_set, List.length_replicate, tb1_len]) fun t h1 h2 => ?_
  rw [tb1_len] at h2
  have h3 := tb1_get (uv n i : MT (Zp p) n 1) h2
  simp only [List.getD, List.getElem?_eq_getElem (show t < (tbv (uv n i : MT (Zp p) n 1)).length by rw [tb1_len]; exact h2), Option.getD_some] at h3
  rw [h3, List.getElem_set]
  unfold uv
  rw [MT.of_e _ h2 (by omega)]
  by_cases e : t = i
  · rw [if_pos e, if_pos e.symm, ← Zp.of_one, Zp.val_of, Nat.mod_eq_of_lt (by have := hp.1; omega)]
  · rw [if_neg e, if_neg (fun h => e h.symm), List.getElem_replicate, Zp.zero_val]
/-- The minimal polynomial is returned. -/
def RetMin (p : Nat) {n : Nat} (w : World) (A : MT (Zp p) n n) (e : Ending) (w' : World) : Prop :=
  ∃ ao k zs d, e = .returned (.tuple #[.slice ao zs.length k, .int .i64 0]) ∧ Own .u64 27 w' w.heap.size (.slice ao zs.length k) zs ∧ Nrm p zs ∧ MinTo A n (pl p zs) ∧ zs.length = d + 1 ∧ d ≤ n ∧ Below w.heap.size w w'
theorem min_len (hp : FP p) (ht : Trial p) {A : MT (Zp p) n n} {zs : List Nat} (hz : Nrm p zs) (h : MinTo A n (pl p zs)) : ∃ d, zs.length = d + 1 ∧ d ≤ n := by
  have hl := nrm_ln hp.pos hz
  have h1 := h.deg ht hl
  rcases Nat.eq_zero_or_pos zs.length with e | e
  · exfalso
    rw [e] at hl
    exact h.ne hl.nil
  · exact ⟨zs.length - 1, by omega, by omega⟩
end

set_option maxRecDepth 20000 in
set_option maxHeartbeats 4000000 in
theorem hs_Min (p : Nat) (a : Value) (n : Nat) (xs : List Nat) (w : World) (hp : FP p) (ht : Trial p) (hA : Fm w a n n xs) (hn : n ≤ 60) (hx : xs.length = n * n) :
    Calls Try.prog 62 #[.agg #[.int .u64 p], a] w (RetMin p w (mx p n n xs)) := by
  obtain ⟨aA, cA, rfl⟩ := hA.agg
  obtain ⟨wb, ew, KF, KA, B0, hsz⟩ := boxes2 w 29 42 [.int .u64 p] [.int .i64 n, .int .i64 n, .slice aA xs.length cA]
  clear hsz
  have HP := Lib.hid hp; have HT := Lib.hid ht; clear hp ht
  have HA := Lib.hid hA; clear hA
  have HX := Lib.hid hx; clear hx
  obtain ⟨A, eA⟩ : ∃ A, A = mx p n n xs := ⟨_, rfl⟩
  rw [← eA]
  have EA := Lib.hid eA; clear eA
  go_enter Try.func62, Try.ntmps62
  go_upto_region 1 with (fail)
  rw [← ew]
  obtain ⟨g, eg⟩ : ∃ g, g = w.heap.size := ⟨_, rfl⟩
  rw [← eg] at KF KA ⊢
  clear ew eg
  have f1 := KA.cell 0; have f2 := KA.cell 1; have f3 := KA.cell 2
  go_wp2_with fail
  refine (hs_square_yes _ n xs _ (HA.out.next B0) (by omega) HX.out).mono ?_; rintro e w2 ⟨rfl, b2⟩
  clear f1 f2 f3
  replace KF := KF.next b2; replace KA := KA.next b2
  replace B0 := B0.trans (b2.mono B0.size)
  have o2 : Own .u64 27 (w2.alloc (.cells #[.int .u64 1] 27)) w2.heap.size (.slice (some ⟨w2.heap.size, 0, none⟩) 1 1) [1] := own_lit1 w2 1
  have b22 := (Below.refl w2.heap.size w2).alloc (Nat.le_refl _) (.cells #[.int .u64 1] 27)
  obtain ⟨w3, ew3⟩ : ∃ w3, w3 = w2.alloc (.cells #[.int .u64 1] 27) := ⟨_, rfl⟩
  rw [← ew3] at o2 b22
  go_upto_region 4 with (fail)
  rw [← ew3]
  replace KF := KF.next b22; replace KA := KA.next b22
  have hb2 := B0.size
  replace B0 := B0.trans (b22.mono B0.size)
  have st : ∃ zs, Own .u64 27 w3 w.heap.size (.slice (some ⟨w2.heap.size, 0, none⟩) 1 1) zs ∧ Nrm p zs ∧ MinTo A 0 (pl p zs) ∧ zs.length ≤ 1 + 0 * 64 := ⟨[1], o2.mono hb2, nrm_1 HP.out, by rw [pl1]; exact MinTo.start HT.out A, by simp⟩
  have HKF := Lib.hid KF; have HKA := Lib.hid KA; have HB0 := Lib.hid B0
  have c0 := KA.cell 0
  clear ew3 o2 b22 KF KA B0 b2
  go_wp2
  clear c0
  go_loopw [15, 6] (fun iv ov wr => ∃ i : Nat, i ≤ n ∧ iv = .int .i64 i ∧ (∃ zs, Own .u64 27 wr w.heap.size ov zs ∧ Nrm p zs ∧ MinTo A i (pl p zs) ∧ zs.length ≤ 1 + i * 64) ∧ Below w3.heap.size w3 wr) (fun iv _ _ => n - (intOf iv).toNat)
  case atStart => exact ⟨0, by omega, rfl, st, Below.refl _ _⟩
  case round =>
    clear st
    obtain ⟨i, hi, rfl, ⟨zs, ho, nz, hz, lz⟩, B1⟩ := hrel
    have HZ := Lib.hid (And.intro nz (And.intro hz lz)); clear nz hz lz
    have BW := HB0.out.trans (B1.mono HB0.out.size)
    by_cases hin : i < n
    · have KF := HKF.out.next B1; have KA := HKA.out.next B1
      have c0 := KA.cell 0
      go_upto_region 9 with (at_make; refine wp_make .u64 32 27 8 Try.underlying32 (by kernel_rfl) (by decide) rfl _ _ rfl .i64 .i64 n (by omega) _ _ _ rfl rfl (by omega) (by omega) ?_; intro w5 hown hbel hsz5; have hcz := hown.cellAt i (by simpa using hin); have hfz := hown.frozenAt i)
      clear c0 KF KA
      have o6 : Own .u64 27 (w5.setCell ⟨wr.heap.size, i, none⟩ (.int .u64 1)) 0 (.slice (some ⟨wr.heap.size, 0, none⟩) n n) (tbv (uv n i : MT (Zp p) n 1)) := by
        have h := (hown.store i 1).1
        rw [uv_words HP.out] at h
        exact h.mono (Nat.zero_le _)
      have B5 := hbel.setCell (p := ⟨wr.heap.size, i, none⟩) (Nat.le_refl _) (.int .u64 1)
      obtain ⟨w6, ew6⟩ : ∃ w6, w6 = w5.setCell ⟨wr.heap.size, i, none⟩ (.int .u64 1) := ⟨_, rfl⟩
      obtain ⟨g5, eg5⟩ : ∃ g5, g5 = wr.heap.size := ⟨_, rfl⟩
      rw [← ew6] at o6 B5 ⊢
      rw [← eg5] at o6 ⊢
      clear ew6 eg5 hown hbel hsz5 hcz hfz
      have bd := B5.trans ((Drawn.below (w' := w6.drew) ⟨1, rfl⟩ w6.heap.size).mono B5.size)
      replace o6 := o6.next (Drawn.below (w' := w6.drew) ⟨1, rfl⟩ w6.heap.size)
      replace ho := ho.next bd
      replace B1 := B1.trans (bd.mono B1.size)
      replace BW := HB0.out.trans (B1.mono HB0.out.size)
      clear bd B5
      have KF := HKF.out.next B1; have KA := HKA.out.next B1
      refine startL (S := (fun w' => Below (w6.drew).heap.size (w6.drew) w')) (by kernel_rfl) (Below.refl _ _) (fun hHeld => ?_)
      refine takeL 0 (v := ?_) rfl (by kernel_rfl) (by kernel_rfl) (by kernel_rfl) (fun _ _ _ h => h) ⟨by rfl, ?_⟩ (by assumption) ?_
      rotate_left
      · intro w hS; have f1 := (KF.at hS) 0; have fa := KA.at hS; have f2 := fa 0; have f3 := fa 1; have f4 := fa 2; clear fa; go_simp <;> with_reducible rfl
      simp only [Act.put, List.setIfInBounds_toArray, List.set_cons_zero, List.set_cons_succ]
      refine takeL 1 (v := ?_) rfl (by kernel_rfl) (by kernel_rfl) (by kernel_rfl) (fun _ _ _ h => h) ⟨by rfl, ?_⟩ (by assumption) ?_
      rotate_left
      · intro w hS; go_simp <;> with_reducible rfl
      simp only [Act.put, List.setIfInBounds_toArray, List.set_cons_zero, List.set_cons_succ]
      refine takeL 2 (v := ?_) rfl (by kernel_rfl) (by kernel_rfl) (by kernel_rfl) (fun _ _ _ h => h) ⟨by rfl, ?_⟩ (by assumption) ?_
      rotate_left
      · intro w hS; have f1 := (KF.at hS) 0; have fa := KA.at hS; have f2 := fa 0; have f3 := fa 1; have f4 := fa 2; clear fa; go_simp <;> with_reducible rfl
      simp only [Act.put, List.setIfInBounds_toArray, List.set_cons_zero, List.set_cons_succ]
      refine takeL 3 (v := ?_) rfl (by kernel_rfl) (by kernel_rfl) (by kernel_rfl) (fun _ _ _ h => h) ⟨by rfl, ?_⟩ (by assumption) ?_
      rotate_left
      · intro w hS; have f1 := (KF.at hS) 0; have fa := KA.at hS; have f2 := fa 0; have f3 := fa 1; have f4 := fa 2; clear fa; go_simp <;> with_reducible rfl
      simp only [Act.put, List.setIfInBounds_toArray, List.set_cons_zero, List.set_cons_succ]
      refine takeL 4 (v := ?_) rfl (by kernel_rfl) (by kernel_rfl) (by kernel_rfl) (fun _ _ _ h => h) ⟨by rfl, ?_⟩ (by assumption) ?_
      rotate_left
      · intro w hS; go_simp <;> with_reducible rfl
      simp only [Act.put, List.setIfInBounds_toArray, List.set_cons_zero, List.set_cons_succ]
      refine takeL 5 (v := ?_) rfl (by kernel_rfl) (by kernel_rfl) (by kernel_rfl) (fun _ _ _ h => h) ⟨by rfl, ?_⟩ (by assumption) ?_
      rotate_left
      · intro w hS; have f1 := (KF.at hS) 0; have fa := KA.at hS; have f2 := fa 0; have f3 := fa 1; have f4 := fa 2; clear fa; go_simp <;> with_reducible rfl
      simp only [Act.put, List.setIfInBounds_toArray, List.set_cons_zero, List.set_cons_succ]
      refine takeL 6 (v := ?_) rfl (by kernel_rfl) (by kernel_rfl) (by kernel_rfl) (fun _ _ _ h => h) ⟨by rfl, ?_⟩ (by assumption) ?_
      rotate_left
      · intro w hS; go_simp <;> with_reducible rfl
      simp only [Act.put, List.setIfInBounds_toArray, List.set_cons_zero, List.set_cons_succ]
      refine takeL 7 (v := ?_) rfl (by kernel_rfl) (by kernel_rfl) (by kernel_rfl) (fun _ _ _ h => h) ⟨by rfl, ?_⟩ (by assumption) ?_
      rotate_left
      · intro w hS; go_simp <;> with_reducible rfl
      simp only [Act.put, List.setIfInBounds_toArray, List.set_cons_zero, List.set_cons_succ]
      refine oneL 8 rfl (by kernel_rfl) (by rfl) (fun K hK => ?_)
      go_simp
      go_at_call 117
      (with_reducible refine (hs_order p _ n (some ⟨g5, 0, none⟩) n (uv n i) xs _ HP.out HT.out (HA.out.next (BW.trans (hHeld.mono BW.size))) hn HX.out (o6.next hHeld)).mono ?_); rintro e y1 ⟨r8, z8, rfl, o8, n8, v8, l8, c8⟩
      refine hK.out _ _ (hHeld.trans (c8.mono hHeld.size)) (fun hHeld => ?_)
      clear hK K
      try simp only [Act.put, List.setIfInBounds_toArray, List.set_cons_zero, List.set_cons_succ]
      refine oneL 9 rfl (by kernel_rfl) (by rfl) (fun K hK => ?_)
      go_simp
      go_at_call 116
      (with_reducible refine (fp_Lcm p _ _ zs z8 _ HP.out HT.out (ho.next hHeld).sl o8.sl (by have := HZ.out.2.2; omega) (by obtain ⟨d, e1, e2, _⟩ := l8; omega)).mono ?_); have hHeld0 := hHeld.size; rintro e y2 ⟨r9, z9, rfl, o9, n9, m9, ⟨gg, q, u, hg1, hg2, hg3, hg4⟩, l9, c9⟩
      refine hK.out _ _ (hHeld.trans (c9.mono hHeld.size)) (fun hHeld => ?_)
      clear hK K
      try simp only [Act.put, List.setIfInBounds_toArray, List.set_cons_zero, List.set_cons_succ]
      refine takeL 10 (v := ?_) rfl (by kernel_rfl) (by kernel_rfl) (by kernel_rfl) (fun _ _ _ h => h) ⟨by rfl, ?_⟩ (by assumption) ?_
      rotate_left
      · intro w hS; go_simp <;> with_reducible rfl
      simp only [Act.put, List.setIfInBounds_toArray, List.set_cons_zero, List.set_cons_succ]
      refine doneL (by kernel_rfl) ?_ _
      rw [← EA.out] at v8
      have hst := Lib.hid (show Nrm p z9 ∧ MinTo A (i + 1) (pl p z9) ∧ z9.length ≤ 1 + (i + 1) * 64 from
        ⟨n9, HZ.out.2.1.step v8 (isLcm_of HT.out m9 hg1 hg2 hg3 hg4), by have := HZ.out.2.2; obtain ⟨d, e1, e2, _⟩ := l8; omega⟩)
      have hws := BW.size
      have h69 := Nat.le_trans hws hHeld0
      replace B1 := B1.trans (hHeld.mono B1.size)
      have o9' := o9.mono h69
      clear o9 o8 v8 l8 n9 m9 hg1 hg2 hg3 hg4 l9 ho o6 hHeld KF KA BW
      go_wp2
      go_roundw
      case rel => exact ⟨i + 1, by omega, by go_num, ⟨z9, o9', hst.out.1, hst.out.2.1, hst.out.2.2⟩, B1⟩
      case measure => simp [intOf] <;> omega
    · obtain rfl : i = n := by omega
      obtain ⟨ao, k, rfl⟩ := ho.sliced
      obtain ⟨d, hd1, hd2⟩ := min_len HP.out HT.out HZ.out.1 HZ.out.2.1
      have FR := Lib.hid (show RetMin p w A (.returned (.tuple #[.slice ao zs.length k, .int .i64 0])) wr from ⟨ao, k, zs, d, rfl, ho, HZ.out.1, HZ.out.2.1, hd1, hd2, BW⟩)
      clear hd1 hd2 ho BW B1
      go_wp2
      exact bodyPost_ret (v := .tuple #[.slice ao zs.length k, .int .i64 0]) (by simp [results, Try.results62, go_sem]) rfl FR.out

set_option maxRecDepth 20000 in
theorem hs_Min_no (p : Nat) (a : Value) (R C : Int) (xs : List Nat) (w : World) (hA : Fm w a R C xs) (hno : ¬ (Fd R C xs.length ∧ R = C)) :
    Calls Try.prog 62 #[.agg #[.int .u64 p], a] w (RetW w (.tuple #[.slice none 0 0, .int .i64 2])) := by
  obtain ⟨aA, cA, rfl⟩ := hA.agg
  obtain ⟨wb, ew, KF, KA, B0, hsz⟩ := boxes2 w 29 42 [.int .u64 p] [.int .i64 R, .int .i64 C, .slice aA xs.length cA]
  clear hsz
  replace hA := hA.next B0
  go_enter Try.func62, Try.ntmps62
  go_upto_region 1 with (fail)
  rw [← ew]
  clear ew
  have f1 := KA.cell 0; have f2 := KA.cell 1; have f3 := KA.cell 2
  go_wp2_with fail
  refine (hs_square_no _ R C xs _ hA hno).mono ?_; rintro e w2 ⟨rfl, b2⟩
  replace B0 := B0.trans (b2.mono B0.size)
  clear f1 f2 f3 KF KA hA b2
  go_wp2
  exact bodyPost_ret (v := .tuple #[.slice none 0 0, .int .i64 2]) (by simp [results, Try.results62, go_sem]) rfl ⟨rfl, B0⟩

/-- A column's order and a word are returned. -/
def RetOrdE (p : Nat) {n : Nat} (w : World) (A : MT (Zp p) n n) (v : MT (Zp p) n 1) (e : Ending) (w' : World) : Prop :=
  ∃ ao k zs d, e = .returned (.tuple #[.slice ao zs.length k, .int .i64 0]) ∧ Own .u64 27 w' w.heap.size (.slice ao zs.length k) zs ∧ Nrm p zs ∧ IsOrd (pl p zs) A v ∧ zs.length = d + 1 ∧ d ≤ n ∧ zs.getD d 0 = 1 ∧ Below w.heap.size w w'

set_option maxRecDepth 20000 in
set_option maxHeartbeats 1000000 in
theorem hs_Order (p : Nat) (a v : Value) (n : Nat) (xs us : List Nat) (w : World) (hp : FP p) (ht : Trial p) (hA : Fm w a n n xs) (hv : Sl .u64 w v us) (hn : n ≤ 60) (hx : xs.length = n * n) (hu : us.length = n) :
    Calls Try.prog 70 #[.agg #[.int .u64 p], a, v] w (RetOrdE p w (mx p n n xs) (mx p n 1 us)) := by
  obtain ⟨aA, cA, rfl⟩ := hA.agg
  obtain ⟨av, bv, ov, cv, rfl, hcv, hz⟩ := hv
  obtain ⟨wb, ew, KF, KA, B0, hsz⟩ := boxes2 w 29 42 [.int .u64 p] [.int .i64 n, .int .i64 n, .slice aA xs.length cA]
  clear hsz
  have hv : Sl .u64 w (.slice av us.length cv) us := ⟨av, bv, ov, cv, rfl, hcv, hz⟩
  clear hz hcv
  have HP := Lib.hid hp; have HT := Lib.hid ht; clear hp ht
  replace hA := hA.next B0; replace hv := hv.next B0
  have HX := Lib.hid hx; clear hx
  have hnn : ((n : Int) != (n : Int)) = false := by simp
  obtain ⟨A, eA⟩ : ∃ A, A = mx p n n xs := ⟨_, rfl⟩
  rw [← eA]
  have EA := Lib.hid eA; clear eA
  rw [hu] at hv ⊢
  have HU := Lib.hid hu; clear hu
  obtain ⟨V, eV⟩ : ∃ V, V = mx p n 1 us := ⟨_, rfl⟩
  rw [← eV]
  have EV := Lib.hid eV; clear eV
  go_enter Try.func70, Try.ntmps70
  go_upto_region 1 with (fail)
  rw [← ew]
  clear ew
  have f0 := KF.cell 0; have f1 := KA.cell 0; have f2 := KA.cell 1; have f3 := KA.cell 2
  go_wp2_with fail
  refine (hs_square_yes _ n xs _ hA (by omega) HX.out).mono ?_; rintro e w2 ⟨rfl, b2⟩
  clear f0 f1 f2 f3
  replace hA := hA.next b2; replace hv := hv.next b2; replace KF := KF.next b2; replace KA := KA.next b2
  replace B0 := B0.trans (b2.mono B0.size)
  have f0 := KF.cell 0; have f1 := KA.cell 0; have f2 := KA.cell 1; have f3 := KA.cell 2
  go_wp2_with fail
  refine (fm_Norm p _ n 1 us _ HP.out ⟨_, rfl, hv⟩ (by omega) (by omega) (by rw [HU.out]; omega)).mono ?_; rintro e w4 ⟨a4, k4, rfl, o4, b4⟩
  clear f0 f1 f2 f3 b2
  rw [← EV.out] at o4 ⊢
  rw [tb1_len V] at o4 ⊢
  replace hA := hA.next b4; replace KF := KF.next b4; replace KA := KA.next b4
  have hws := B0.size
  replace B0 := B0.trans (b4.mono B0.size)
  obtain ⟨w5, ew5, K5, b5, -⟩ := boxes1 w4 42 [.int .i64 n, .int .i64 1, .slice a4 n k4]
  go_upto_region 4 with (fail)
  rw [← ew5]
  clear ew5 hv b4
  replace hA := hA.next b5; replace KF := KF.next b5; replace KA := KA.next b5; replace o4 := o4.next b5
  replace B0 := B0.trans (b5.mono B0.size)
  clear b5
  have f0 := KF.cell 0; have f1 := KA.cell 0; have f2 := KA.cell 1; have f3 := KA.cell 2
  have q0 := K5.cell 0; have q1 := K5.cell 1; have q2 := K5.cell 2
  go_wp2_with fail
  refine (hs_order p _ n a4 k4 V xs _ HP.out HT.out hA hn HX.out (o4.mono (Nat.zero_le _))).mono ?_; rintro e w6 ⟨r6, zs, rfl, o6, n6, v6, ⟨d, l1, l2, l3⟩, b6⟩
  clear f0 f1 f2 f3 q0 q1 q2 hA KF KA K5 o4
  rw [← EA.out] at v6
  obtain ⟨ao, k, rfl⟩ := o6.sliced
  have FR := Lib.hid (show RetOrdE p w A V (.returned (.tuple #[.slice ao zs.length k, .int .i64 0])) w6 from ⟨ao, k, zs, d, rfl, o6.mono B0.size, n6, v6, l1, l2, l3, B0.trans (b6.mono B0.size)⟩)
  clear o6 n6 v6 l1 l2 l3 b6 B0 hws
  go_wp2
  exact bodyPost_ret (v := .tuple #[.slice ao zs.length k, .int .i64 0]) (by simp [results, Try.results70, go_sem]) rfl FR.out

set_option maxRecDepth 20000 in
theorem hs_Order_no (p : Nat) (a v : Value) (R C : Int) (xs us : List Nat) (w : World) (hA : Fm w a R C xs) (hv : Sl .u64 w v us) (hno : ¬ (Fd R C xs.length ∧ R = C)) :
    Calls Try.prog 70 #[.agg #[.int .u64 p], a, v] w (RetW w (.tuple #[.slice none 0 0, .int .i64 2])) := by
  obtain ⟨aA, cA, rfl⟩ := hA.agg
  obtain ⟨av, bv, ov, cv, rfl, hcv, hz⟩ := hv
  obtain ⟨wb, ew, KF, KA, B0, hsz⟩ := boxes2 w 29 42 [.int .u64 p] [.int .i64 R, .int .i64 C, .slice aA xs.length cA]
  clear hsz hz hcv
  replace hA := hA.next B0
  go_enter Try.func70, Try.ntmps70
  go_upto_region 1 with (fail)
  rw [← ew]
  clear ew
  have f1 := KA.cell 0; have f2 := KA.cell 1; have f3 := KA.cell 2
  go_wp2_with fail
  refine (hs_square_no _ R C xs _ hA hno).mono ?_; rintro e w2 ⟨rfl, b2⟩
  replace B0 := B0.trans (b2.mono B0.size)
  clear f1 f2 f3 KF KA hA b2
  go_wp2
  exact bodyPost_ret (v := .tuple #[.slice none 0 0, .int .i64 2]) (by simp [results, Try.results70, go_sem]) rfl ⟨rfl, B0⟩
set_option maxRecDepth 20000 in
theorem hs_Order_len (p : Nat) (a v : Value) (n : Nat) (xs us : List Nat) (w : World) (hA : Fm w a n n xs) (hv : Sl .u64 w v us) (hn : n ≤ 60) (hx : xs.length = n * n) (hu : us.length ≠ n) :
    Calls Try.prog 70 #[.agg #[.int .u64 p], a, v] w (RetW w (.tuple #[.slice none 0 0, .int .i64 2])) := by
  obtain ⟨aA, cA, rfl⟩ := hA.agg
  obtain ⟨av, bv, ov, cv, rfl, hcv, hz⟩ := hv
  obtain ⟨wb, ew, KF, KA, B0, hsz⟩ := boxes2 w 29 42 [.int .u64 p] [.int .i64 n, .int .i64 n, .slice aA xs.length cA]
  clear hsz hz hcv
  replace hA := hA.next B0
  have HX := Lib.hid hx; clear hx
  have hne : ((us.length : Int) != (n : Int)) = true := by simp; omega
  go_enter Try.func70, Try.ntmps70
  go_upto_region 1 with (fail)
  rw [← ew]
  clear ew
  have f1 := KA.cell 0; have f2 := KA.cell 1; have f3 := KA.cell 2
  go_wp2_with fail
  refine (hs_square_yes _ n xs _ hA (by omega) HX.out).mono ?_; rintro e w2 ⟨rfl, b2⟩
  clear f1 f2 f3
  replace KA := KA.next b2
  replace B0 := B0.trans (b2.mono B0.size)
  have f1 := KA.cell 0; have f2 := KA.cell 1; have f3 := KA.cell 2
  clear KF KA hA b2
  go_wp2
  exact bodyPost_ret (v := .tuple #[.slice none 0 0, .int .i64 2]) (by simp [results, Try.results70, go_sem]) rfl ⟨rfl, B0⟩

end Go.Proofs.Ythghdjpjbngllaa
