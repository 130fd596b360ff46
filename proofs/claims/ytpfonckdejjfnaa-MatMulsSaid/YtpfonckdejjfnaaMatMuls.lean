/- MatMuls: whatever the two matrices, the law returns true: the product and the transpose are those that the chapter says, or none. No condition. -/
import Derived.Test.YtpfonckdejjfnaaRows
import Derived.Test.YtpfonckdejjfnaaZawake
namespace Go.Proofs.Ytpfonckdejjfnaa.matMuls
open Go.ChangeShapes Go.WideShapes Go.ChangeAt Go.RowKit
open Go.ChangeMaps (open_string shut_string)

theorem own : ownKnob Try.prog.godebug = none := by kernel_rfl
theorem laidOut : laidOutB Try.prog = true := by kernel_rfl


set_option maxHeartbeats 1000000 in
theorem not_few (a b : Value) (R1 C1 R2 C2 : Int) (ps qs : List (Bool × List Nat)) (w : World) (mA : Mw w a R1 C1 ps) (mB : Mw w b R2 C2 qs) (hfew : ¬ (Fx R1 C1 ps 6 3 ∧ Fx R2 C2 qs 6 3)) :
    Calls Try.prog 3 #[a, b] w (LawOk w) := by
  obtain ⟨ao, ca, rfl⟩ := mA.agg
  obtain ⟨bo, cb, rfl⟩ := mB.agg
  obtain ⟨wb, ew, KA, KB, B0, hsz⟩ := boxes1' w 24 24 [.int .i64 R1, .int .i64 C1, .slice ao ps.length ca] [.int .i64 R2, .int .i64 C2, .slice bo qs.length cb]
  clear hsz
  replace mA := mA.next B0
  replace mB := mB.next B0
  have FEW := Lib.hid hfew; clear hfew
  go_enter Try.func3, Try.ntmps3
  go_upto_region 1 with (fail)
  rw [← ew]
  clear ew
  go_wp2_with fail
  refine (law11_awake _).mono ?_; rintro e w1 ⟨rfl, b1⟩
  replace mA := mA.next b1
  replace mB := mB.next b1
  replace KA := KA.next b1
  replace KB := KB.next b1
  replace B0 := B0.trans (b1.mono B0.size)
  clear b1
  have qKA0 := KA.cell 0
  have qKA1 := KA.cell 1
  have qKA2 := KA.cell 2
  have qKB0 := KB.cell 0
  have qKB1 := KB.cell 1
  have qKB2 := KB.cell 2
  go_wp2_with fail
  refine (law11_few _ _ _ _ _ _ _ _ false ⟨fun h => (by cases h), fun h => absurd h FEW.out⟩ _ mA mB).mono ?_; rintro e w2 ⟨rfl, b2⟩
  clear qKA0 qKA1 qKA2 qKB0 qKB1 qKB2
  replace mA := mA.next b2
  replace mB := mB.next b2
  replace KA := KA.next b2
  replace KB := KB.next b2
  replace B0 := B0.trans (b2.mono B0.size)
  clear b2
  clear FEW mA mB
  go_wp2_with fail
  refine (law11_awake _).mono ?_; rintro e w3 ⟨rfl, b3⟩
  replace KA := KA.next b3
  replace KB := KB.next b3
  replace B0 := B0.trans (b3.mono B0.size)
  clear b3
  go_wp2
  go_ret
  exact ⟨rfl, B0⟩

set_option maxHeartbeats 1000000 in
theorem not_formed (a b : Value) (R1 C1 R2 C2 : Int) (ps qs : List (Bool × List Nat)) (xs ys : List Int) (w : World) (mA : Mw w a R1 C1 ps) (mB : Mw w b R2 C2 qs) (hfew : Fx R1 C1 ps 6 3 ∧ Fx R2 C2 qs 6 3) (hA : Mt w a R1 C1 xs 3) (hf : ¬ Fm R1 C1 xs.length) (hB : Mt w b R2 C2 ys 3) :
    Calls Try.prog 3 #[a, b] w (LawOk w) := by
  obtain ⟨ao, ca, rfl⟩ := mA.agg
  obtain ⟨bo, cb, rfl⟩ := mB.agg
  obtain ⟨wb, ew, KA, KB, B0, hsz⟩ := boxes1' w 24 24 [.int .i64 R1, .int .i64 C1, .slice ao ps.length ca] [.int .i64 R2, .int .i64 C2, .slice bo qs.length cb]
  clear hsz
  replace mA := mA.next B0
  replace mB := mB.next B0
  replace hA := hA.next B0
  replace hB := hB.next B0
  have FEW := Lib.hid hfew; clear hfew
  go_enter Try.func3, Try.ntmps3
  go_upto_region 1 with (fail)
  rw [← ew]
  clear ew
  go_wp2_with fail
  refine (law11_awake _).mono ?_; rintro e w1 ⟨rfl, b1⟩
  replace mA := mA.next b1
  replace mB := mB.next b1
  replace hA := hA.next b1
  replace hB := hB.next b1
  replace KA := KA.next b1
  replace KB := KB.next b1
  replace B0 := B0.trans (b1.mono B0.size)
  clear b1
  have qKA0 := KA.cell 0
  have qKA1 := KA.cell 1
  have qKA2 := KA.cell 2
  have qKB0 := KB.cell 0
  have qKB1 := KB.cell 1
  have qKB2 := KB.cell 2
  go_wp2_with fail
  refine (law11_few _ _ _ _ _ _ _ _ true ⟨fun _ => FEW.out, fun _ => rfl⟩ _ mA mB).mono ?_; rintro e w2 ⟨rfl, b2⟩
  clear qKA0 qKA1 qKA2 qKB0 qKB1 qKB2
  replace mA := mA.next b2
  replace mB := mB.next b2
  replace hA := hA.next b2
  replace hB := hB.next b2
  replace KA := KA.next b2
  replace KB := KB.next b2
  replace B0 := B0.trans (b2.mono B0.size)
  clear b2
  clear FEW mA mB
  have qKA0 := KA.cell 0
  have qKA1 := KA.cell 1
  have qKA2 := KA.cell 2
  have qKB0 := KB.cell 0
  have qKB1 := KB.cell 1
  have qKB2 := KB.cell 2
  go_wp2_with fail
  refine (zmat_Mul_bad _ _ R1 C1 R2 C2 xs ys 3 3 _ hA hB (fun h => hf h.1)).mono ?_; rintro e w3 ⟨v3, rfl, h3, b3⟩
  clear qKA0 qKA1 qKA2 qKB0 qKB1 qKB2
  replace hA := hA.next b3
  replace hB := hB.next b3
  replace KA := KA.next b3
  replace KB := KB.next b3
  replace B0 := B0.trans (b3.mono B0.size)
  clear b3
  obtain ⟨a3, k3, rfl⟩ := h3.agg
  obtain ⟨w4, e4, K3, b4, hs4⟩ := boxes1 w3 24 [.int .i64 0, .int .i64 0, .slice a3 0 k3]
  clear hs4
  replace hA := hA.next b4
  replace hB := hB.next b4
  replace KA := KA.next b4
  replace KB := KB.next b4
  replace h3 := h3.next b4
  replace B0 := B0.trans (b4.mono B0.size)
  clear b4
  go_upto_region 4 with (fail)
  rw [← e4]
  clear e4
  have qKA0 := KA.cell 0
  have qKA1 := KA.cell 1
  have qKA2 := KA.cell 2
  go_wp2_with fail
  refine (zmat_Transpose_bad _ R1 C1 xs 3 _ hA hf).mono ?_; rintro e w5 ⟨v5, rfl, h5, b5⟩
  clear qKA0 qKA1 qKA2
  replace hA := hA.next b5
  replace hB := hB.next b5
  replace KA := KA.next b5
  replace KB := KB.next b5
  replace h3 := h3.next b5
  replace K3 := K3.next b5
  replace B0 := B0.trans (b5.mono B0.size)
  clear b5
  obtain ⟨a5, k5, rfl⟩ := h5.agg
  obtain ⟨w6, e6, K5, b6, hs6⟩ := boxes1 w5 24 [.int .i64 0, .int .i64 0, .slice a5 0 k5]
  clear hs6
  replace hA := hA.next b6
  replace hB := hB.next b6
  replace KA := KA.next b6
  replace KB := KB.next b6
  replace h3 := h3.next b6
  replace K3 := K3.next b6
  replace h5 := h5.next b6
  replace B0 := B0.trans (b6.mono B0.size)
  clear b6
  go_upto_region 5 with (fail)
  rw [← e6]
  clear e6
  have qKA0 := KA.cell 0
  have qKA1 := KA.cell 1
  have qKA2 := KA.cell 2
  go_wp2_with fail
  refine (ref11_Formed_no _ R1 C1 xs 3 _ hA hf).mono ?_; rintro e w7 ⟨rfl, b7⟩
  clear qKA0 qKA1 qKA2
  replace hA := hA.next b7
  replace hB := hB.next b7
  replace KA := KA.next b7
  replace KB := KB.next b7
  replace h3 := h3.next b7
  replace K3 := K3.next b7
  replace h5 := h5.next b7
  replace K5 := K5.next b7
  replace B0 := B0.trans (b7.mono B0.size)
  clear b7
  have qK30 := K3.cell 0
  have qK31 := K3.cell 1
  have qK32 := K3.cell 2
  go_wp2_with fail
  refine (ref11_None a3 k3 _).mono ?_; rintro e w8 ⟨rfl, b8⟩
  clear qK30 qK31 qK32
  replace hA := hA.next b8
  replace hB := hB.next b8
  replace KA := KA.next b8
  replace KB := KB.next b8
  replace h3 := h3.next b8
  replace K3 := K3.next b8
  replace h5 := h5.next b8
  replace K5 := K5.next b8
  replace B0 := B0.trans (b8.mono B0.size)
  clear b8
  have qK50 := K5.cell 0
  have qK51 := K5.cell 1
  have qK52 := K5.cell 2
  go_wp2_with fail
  refine (ref11_None a5 k5 _).mono ?_; rintro e w9 ⟨rfl, b9⟩
  clear qK50 qK51 qK52
  replace hA := hA.next b9
  replace hB := hB.next b9
  replace KA := KA.next b9
  replace KB := KB.next b9
  replace h3 := h3.next b9
  replace K3 := K3.next b9
  replace h5 := h5.next b9
  replace K5 := K5.next b9
  replace B0 := B0.trans (b9.mono B0.size)
  clear b9
  go_wp2
  go_ret
  exact ⟨rfl, B0⟩

set_option maxHeartbeats 1000000 in
theorem formed (a b : Value) (ps qs : List (Bool × List Nat)) (xs ys : List Int) (r m c : Nat) (w : World) (mA : Mw w a r m ps) (mB : Mw w b m c qs) (hfew : Fx r m ps 6 3 ∧ Fx m c qs 6 3) (hA : Mt w a r m xs 3) (hr : r ≤ 64) (hm : m ≤ 64) (hx : xs.length = r * m) (hB : Mt w b m c ys 3) (hc : c ≤ 64) (hy : ys.length = m * c) :
    Calls Try.prog 3 #[a, b] w (LawOk w) := by
  obtain ⟨ao, ca, rfl⟩ := mA.agg
  obtain ⟨bo, cb, rfl⟩ := mB.agg
  obtain ⟨wb, ew, KA, KB, B0, hsz⟩ := boxes1' w 24 24 [.int .i64 r, .int .i64 m, .slice ao ps.length ca] [.int .i64 m, .int .i64 c, .slice bo qs.length cb]
  clear hsz
  have HX := Lib.hid hx; clear hx
  have HY := Lib.hid hy; clear hy
  replace mA := mA.next B0
  replace mB := mB.next B0
  replace hA := hA.next B0
  replace hB := hB.next B0
  have FEW := Lib.hid hfew; clear hfew
  go_enter Try.func3, Try.ntmps3
  go_upto_region 1 with (fail)
  rw [← ew]
  clear ew
  go_wp2_with fail
  refine (law11_awake _).mono ?_; rintro e w1 ⟨rfl, b1⟩
  replace mA := mA.next b1
  replace mB := mB.next b1
  replace hA := hA.next b1
  replace hB := hB.next b1
  replace KA := KA.next b1
  replace KB := KB.next b1
  replace B0 := B0.trans (b1.mono B0.size)
  clear b1
  have qKA0 := KA.cell 0
  have qKA1 := KA.cell 1
  have qKA2 := KA.cell 2
  have qKB0 := KB.cell 0
  have qKB1 := KB.cell 1
  have qKB2 := KB.cell 2
  go_wp2_with fail
  refine (law11_few _ _ _ _ _ _ _ _ true ⟨fun _ => FEW.out, fun _ => rfl⟩ _ mA mB).mono ?_; rintro e w2 ⟨rfl, b2⟩
  clear qKA0 qKA1 qKA2 qKB0 qKB1 qKB2
  replace mA := mA.next b2
  replace mB := mB.next b2
  replace hA := hA.next b2
  replace hB := hB.next b2
  replace KA := KA.next b2
  replace KB := KB.next b2
  replace B0 := B0.trans (b2.mono B0.size)
  clear b2
  clear FEW mA mB
  have qKA0 := KA.cell 0
  have qKA1 := KA.cell 1
  have qKA2 := KA.cell 2
  have qKB0 := KB.cell 0
  have qKB1 := KB.cell 1
  have qKB2 := KB.cell 2
  go_wp2_with fail
  refine (zmat_Mul _ _ r m c xs ys 3 3 _ hA hB hr hm hc HX.out HY.out (by omega) (by omega)).mono ?_; rintro e w3 ⟨v3, rfl, h3, b3⟩
  clear qKA0 qKA1 qKA2 qKB0 qKB1 qKB2
  replace hA := hA.next b3
  replace hB := hB.next b3
  replace KA := KA.next b3
  replace KB := KB.next b3
  replace B0 := B0.trans (b3.mono B0.size)
  clear b3
  obtain ⟨zs, ezs⟩ : ∃ zs, zs = tab c (fun i k => dotp xs ys m c i k m) (r * c) := ⟨_, rfl⟩
  rw [← ezs] at h3
  have EZ := Lib.hid ezs; clear ezs
  obtain ⟨a3, k3, rfl⟩ := h3.agg
  obtain ⟨w4, e4, K3, b4, hs4⟩ := boxes1 w3 24 [.int .i64 r, .int .i64 c, .slice a3 zs.length k3]
  clear hs4
  replace hA := hA.next b4
  replace hB := hB.next b4
  replace KA := KA.next b4
  replace KB := KB.next b4
  replace h3 := h3.next b4
  replace B0 := B0.trans (b4.mono B0.size)
  clear b4
  go_upto_region 4 with (fail)
  rw [← e4]
  clear e4
  have qKA0 := KA.cell 0
  have qKA1 := KA.cell 1
  have qKA2 := KA.cell 2
  go_wp2_with fail
  refine (zmat_Transpose _ r m xs 3 _ hA hr hm HX.out (by omega)).mono ?_; rintro e w5 ⟨v5, rfl, h5, b5⟩
  clear qKA0 qKA1 qKA2
  replace hA := hA.next b5
  replace hB := hB.next b5
  replace KA := KA.next b5
  replace KB := KB.next b5
  replace h3 := h3.next b5
  replace K3 := K3.next b5
  replace B0 := B0.trans (b5.mono B0.size)
  clear b5
  obtain ⟨ts, ets⟩ : ∃ ts, ts = tab r (fun i k => xs.getD (k * m + i) 0) (m * r) := ⟨_, rfl⟩
  rw [← ets] at h5
  have hT : ts.length = m * r := by rw [ets, tab_length]
  have ET := Lib.hid ets; clear ets
  have HT := Lib.hid hT; clear hT
  obtain ⟨a5, k5, rfl⟩ := h5.agg
  obtain ⟨w6, e6, K5, b6, hs6⟩ := boxes1 w5 24 [.int .i64 m, .int .i64 r, .slice a5 ts.length k5]
  clear hs6
  replace hA := hA.next b6
  replace hB := hB.next b6
  replace KA := KA.next b6
  replace KB := KB.next b6
  replace h3 := h3.next b6
  replace K3 := K3.next b6
  replace h5 := h5.next b6
  replace B0 := B0.trans (b6.mono B0.size)
  clear b6
  go_upto_region 5 with (fail)
  rw [← e6]
  clear e6
  have qKA0 := KA.cell 0
  have qKA1 := KA.cell 1
  have qKA2 := KA.cell 2
  go_wp2_with fail
  refine (ref11_Formed_yes _ r m xs 3 _ hA (Fm.of hr hm HX.out)).mono ?_; rintro e w7 ⟨rfl, b7⟩
  clear qKA0 qKA1 qKA2
  replace hA := hA.next b7
  replace hB := hB.next b7
  replace KA := KA.next b7
  replace KB := KB.next b7
  replace h3 := h3.next b7
  replace K3 := K3.next b7
  replace h5 := h5.next b7
  replace K5 := K5.next b7
  replace B0 := B0.trans (b7.mono B0.size)
  clear b7
  have qK50 := K5.cell 0
  have qK51 := K5.cell 1
  have qK52 := K5.cell 2
  go_wp2_with fail
  refine (ref11_Normal _ m r ts 3 _ h5 hm hr HT.out (by omega)).mono ?_; rintro e w8 ⟨rfl, b8⟩
  clear qK50 qK51 qK52
  replace hA := hA.next b8
  replace hB := hB.next b8
  replace KA := KA.next b8
  replace KB := KB.next b8
  replace h3 := h3.next b8
  replace K3 := K3.next b8
  replace h5 := h5.next b8
  replace K5 := K5.next b8
  replace B0 := B0.trans (b8.mono B0.size)
  clear b8
  have qK50 := K5.cell 0
  have qK51 := K5.cell 1
  have qKA0 := KA.cell 0
  have qKA1 := KA.cell 1
  go_upto_region 9 with (fail)
  clear qK50 qK51 qKA0 qKA1
  have qKA0 := KA.cell 0
  go_wp2
  clear qKA0
  have w0s := B0.size
  go_loopw [9] (fun iv wr => ∃ i : Nat, i ≤ r ∧ iv = .int .i64 i ∧ Below w8.heap.size w8 wr) (fun iv _ => r - (intOf iv).toNat)
  case atStart => exact ⟨0, by omega, rfl, Below.refl _ _⟩
  case round =>
    obtain ⟨i, hi, rfl, hb0⟩ := hrel
    by_cases hir : i < r
    · have q0 := (KA.next hb0).cell 0
      go_upto_region 13 with (fail)
      clear q0
      have q1 := (KA.next hb0).cell 1
      go_wp2
      clear q1
      go_loopw [10] (fun kv wr => ∃ k : Nat, k ≤ m ∧ kv = .int .i64 k ∧ Below w8.heap.size w8 wr) (fun kv _ => m - (intOf kv).toNat)
      case atStart => exact ⟨0, by omega, rfl, hb0⟩
      case round =>
        clear hb0
        obtain ⟨k, hk, rfl, hb0⟩ := hrel
        by_cases hkm : k < m
        · have q1 := (KA.next hb0).cell 1
          go_upto_region 15 with (fail)
          clear q1
          replace hb0 := hb0.trans (Drawn.below (w' := wr.drew) ⟨1, rfl⟩ _)
          have kA := KA.next hb0; have kT := K5.next hb0
          have hA' := hA.next hb0; have hT' := h5.mt.next hb0
          have hj := at_lt HX.out hir hkm
          have hj2 := at_lt HT.out hkm hir
          have hval : ts.getD (k * r + i) 0 = xs.getD (i * m + k) 0 := by
            rw [ET.out, tab_get _ hir hkm]
          have HV := Lib.hid hval; clear hval
          refine startL (S := (fun w' => Below (wr.drew).heap.size (wr.drew) w')) (by kernel_rfl) (Below.refl _ _) (fun hHeld => ?_)
          refine takeL 0 (v := ?_) rfl (by kernel_rfl) (by kernel_rfl) (by kernel_rfl) (fun _ _ _ h => h) ⟨by rfl, ?_⟩ (by assumption) ?_
          rotate_left
          · intro w hS; have fa := kA.at hS; have fb := kT.at hS; have f1 := fa 0; have f2 := fa 1; have f3 := fa 2; have f4 := fb 0; have f5 := fb 1; have f6 := fb 2; clear fa fb; go_simp <;> with_reducible rfl
          simp only [Act.put, List.setIfInBounds_toArray, List.set_cons_zero, List.set_cons_succ]
          refine takeL 1 (v := ?_) rfl (by kernel_rfl) (by kernel_rfl) (by kernel_rfl) (fun _ _ _ h => h) ⟨by rfl, ?_⟩ (by assumption) ?_
          rotate_left
          · intro w hS; go_simp <;> with_reducible rfl
          simp only [Act.put, List.setIfInBounds_toArray, List.set_cons_zero, List.set_cons_succ]
          refine takeL 2 (v := ?_) rfl (by kernel_rfl) (by kernel_rfl) (by kernel_rfl) (fun _ _ _ h => h) ⟨by rfl, ?_⟩ (by assumption) ?_
          rotate_left
          · intro w hS; go_simp <;> with_reducible rfl
          simp only [Act.put, List.setIfInBounds_toArray, List.set_cons_zero, List.set_cons_succ]
          refine takeL 4 (v := ?_) rfl (by kernel_rfl) (by kernel_rfl) (by kernel_rfl) (fun _ _ _ h => h) ⟨by rfl, ?_⟩ (by assumption) ?_
          rotate_left
          · intro w hS; have fa := kA.at hS; have fb := kT.at hS; have f1 := fa 0; have f2 := fa 1; have f3 := fa 2; have f4 := fb 0; have f5 := fb 1; have f6 := fb 2; clear fa fb; go_simp <;> with_reducible rfl
          simp only [Act.put, List.setIfInBounds_toArray, List.set_cons_zero, List.set_cons_succ]
          refine takeL 5 (v := ?_) rfl (by kernel_rfl) (by kernel_rfl) (by kernel_rfl) (fun _ _ _ h => h) ⟨by rfl, ?_⟩ (by assumption) ?_
          rotate_left
          · intro w hS; go_simp <;> with_reducible rfl
          simp only [Act.put, List.setIfInBounds_toArray, List.set_cons_zero, List.set_cons_succ]
          refine takeL 6 (v := ?_) rfl (by kernel_rfl) (by kernel_rfl) (by kernel_rfl) (fun _ _ _ h => h) ⟨by rfl, ?_⟩ (by assumption) ?_
          rotate_left
          · intro w hS; go_simp <;> with_reducible rfl
          simp only [Act.put, List.setIfInBounds_toArray, List.set_cons_zero, List.set_cons_succ]
          refine oneL 3 rfl (by kernel_rfl) (by rfl) (fun K hK => ?_)
          go_simp
          go_at_call 17
          (with_reducible refine (ref11_At _ m r k i ts 3 _ (hT'.next hHeld) (by omega) (by omega) (by omega) hj2).mono ?_); rintro e wx2 ⟨vx2, rfl, hx2, bx2⟩
          refine hK.out _ _ (hHeld.trans (bx2.mono hHeld.size)) (fun hHeld => ?_)
          clear hK K
          try simp only [Act.put, List.setIfInBounds_toArray, List.set_cons_zero, List.set_cons_succ]
          refine oneL 7 rfl (by kernel_rfl) (by rfl) (fun K hK => ?_)
          go_simp
          go_at_call 17
          (with_reducible refine (ref11_At _ r m i k xs 3 _ (hA'.next hHeld) (by omega) (by omega) (by omega) hj).mono ?_); rintro e wx3 ⟨vx3, rfl, hx3, bx3⟩
          replace hx2 := hx2.next bx3
          refine hK.out _ _ (hHeld.trans (bx3.mono hHeld.size)) (fun hHeld => ?_)
          clear hK K
          try simp only [Act.put, List.setIfInBounds_toArray, List.set_cons_zero, List.set_cons_succ]
          refine oneL 8 rfl (by kernel_rfl) (by rfl) (fun K hK => ?_)
          go_simp
          go_at_call 16
          (with_reducible refine (zi_Same _ _ _ _ 3 3 _ hx2 hx3 (by omega) (by omega)).mono ?_); rintro e wx4 ⟨rfl, bx4⟩
          rw [decide_eq_true HV.out]
          refine hK.out _ _ (hHeld.trans (bx4.mono hHeld.size)) (fun hHeld => ?_)
          clear hK K
          try simp only [Act.put, List.setIfInBounds_toArray, List.set_cons_zero, List.set_cons_succ]
          refine takeL 9 (v := ?_) rfl (by kernel_rfl) (by kernel_rfl) (by kernel_rfl) (fun _ _ _ h => h) ⟨by rfl, ?_⟩ (by assumption) ?_
          rotate_left
          · intro w hS; go_simp <;> with_reducible rfl
          simp only [Act.put, List.setIfInBounds_toArray, List.set_cons_zero, List.set_cons_succ]
          refine doneL (by kernel_rfl) ?_ _
          replace hb0 := hb0.trans (hHeld.mono hb0.size)
          clear hHeld bx2 bx3 bx4 hx2 hx3 kA kT hA' hT'
          go_wp2
          go_roundw
          case rel => exact ⟨k + 1, by omega, by go_num, hb0⟩
          case measure => simp [intOf] <;> omega
        · obtain rfl : k = m := by omega
          have q1 := (KA.next hb0).cell 1
          go_wp2
          clear q1
          go_roundw
          case rel => exact ⟨i + 1, by omega, by go_num, hb0⟩
          case measure => simp [intOf] <;> omega
    · obtain rfl : i = r := by omega
      have q0 := (KA.next hb0).cell 0
      have q1 := (KB.next hb0).cell 0; have q2 := (KB.next hb0).cell 1; have q3 := (KB.next hb0).cell 2
      replace B0 := B0.trans (hb0.mono B0.size)
      replace hA := hA.next hb0
      replace hB := hB.next hb0
      replace KA := KA.next hb0
      replace KB := KB.next hb0
      replace h3 := h3.next hb0
      replace K3 := K3.next hb0
      replace h5 := h5.next hb0
      replace K5 := K5.next hb0
      clear hb0
      go_wp2_with fail
      clear q0 q1 q2 q3
      refine (ref11_Formed_yes _ m c ys 3 _ hB (Fm.of hm hc HY.out)).mono ?_; rintro e w51 ⟨rfl, b51⟩
      replace hA := hA.next b51
      replace hB := hB.next b51
      replace KA := KA.next b51
      replace KB := KB.next b51
      replace h3 := h3.next b51
      replace K3 := K3.next b51
      replace h5 := h5.next b51
      replace K5 := K5.next b51
      replace B0 := B0.trans (b51.mono B0.size)
      clear b51
      have qKA1 := KA.cell 1
      have qKB0 := KB.cell 0
      go_upto_region 19 with (fail)
      clear qKA1 qKB0
      have hdr := Drawn.below (w' := w51.drew) ⟨1, rfl⟩ w51.heap.size
      replace hA := hA.next hdr
      replace hB := hB.next hdr
      replace KA := KA.next hdr
      replace KB := KB.next hdr
      replace h3 := h3.next hdr
      replace K3 := K3.next hdr
      replace h5 := h5.next hdr
      replace K5 := K5.next hdr
      replace B0 := B0.trans (hdr.mono B0.size)
      clear hdr
      refine startL (S := (fun w' => Below ((w51.drew)).heap.size ((w51.drew)) w')) (by kernel_rfl) (Below.refl _ _) (fun hHeld => ?_)
      refine takeL 0 (v := ?_) rfl (by kernel_rfl) (by kernel_rfl) (by kernel_rfl) (fun _ _ _ h => h) ⟨by rfl, ?_⟩ (by assumption) ?_
      rotate_left
      · intro w hS; go_simp <;> with_reducible rfl
      simp only [Act.put, List.setIfInBounds_toArray, List.set_cons_zero, List.set_cons_succ]
      refine takeL 1 (v := ?_) rfl (by kernel_rfl) (by kernel_rfl) (by kernel_rfl) (fun _ _ _ h => h) ⟨by rfl, ?_⟩ (by assumption) ?_
      rotate_left
      · intro w hS; go_simp <;> with_reducible rfl
      simp only [Act.put, List.setIfInBounds_toArray, List.set_cons_zero, List.set_cons_succ]
      refine takeL 2 (v := ?_) rfl (by kernel_rfl) (by kernel_rfl) (by kernel_rfl) (fun _ _ _ h => h) ⟨by rfl, ?_⟩ (by assumption) ?_
      rotate_left
      · intro w hS; go_simp <;> with_reducible rfl
      simp only [Act.put, List.setIfInBounds_toArray, List.set_cons_zero, List.set_cons_succ]
      refine takeL 3 (v := ?_) rfl (by kernel_rfl) (by kernel_rfl) (by kernel_rfl) (fun _ _ _ h => h) ⟨by rfl, ?_⟩ (by assumption) ?_
      rotate_left
      · intro w hS; have fa := KA.at hS; have fb := KB.at hS; have fc := K3.at hS; have f1 := fa 0; have f2 := fa 1; have f3 := fa 2; have f4 := fb 0; have f5 := fb 1; have f6 := fb 2; have f7 := fc 0; have f8 := fc 1; have f9 := fc 2; clear fa fb fc; go_simp <;> with_reducible rfl
      simp only [Act.put, List.setIfInBounds_toArray, List.set_cons_zero, List.set_cons_succ]
      refine takeL 4 (v := ?_) rfl (by kernel_rfl) (by kernel_rfl) (by kernel_rfl) (fun _ _ _ h => h) ⟨by rfl, ?_⟩ (by assumption) ?_
      rotate_left
      · intro w hS; go_simp <;> with_reducible rfl
      simp only [Act.put, List.setIfInBounds_toArray, List.set_cons_zero, List.set_cons_succ]
      refine takeL 5 (v := ?_) rfl (by kernel_rfl) (by kernel_rfl) (by kernel_rfl) (fun _ _ _ h => h) ⟨by rfl, ?_⟩ (by assumption) ?_
      rotate_left
      · intro w hS; have fa := KA.at hS; have fb := KB.at hS; have fc := K3.at hS; have f1 := fa 0; have f2 := fa 1; have f3 := fa 2; have f4 := fb 0; have f5 := fb 1; have f6 := fb 2; have f7 := fc 0; have f8 := fc 1; have f9 := fc 2; clear fa fb fc; go_simp <;> with_reducible rfl
      simp only [Act.put, List.setIfInBounds_toArray, List.set_cons_zero, List.set_cons_succ]
      refine takeL 6 (v := ?_) rfl (by kernel_rfl) (by kernel_rfl) (by kernel_rfl) (fun _ _ _ h => h) ⟨by rfl, ?_⟩ (by assumption) ?_
      rotate_left
      · intro w hS; go_simp <;> with_reducible rfl
      simp only [Act.put, List.setIfInBounds_toArray, List.set_cons_zero, List.set_cons_succ]
      refine takeL 7 (v := ?_) rfl (by kernel_rfl) (by kernel_rfl) (by kernel_rfl) (fun _ _ _ h => h) ⟨by rfl, ?_⟩ (by assumption) ?_
      rotate_left
      · intro w hS; have fa := KA.at hS; have fb := KB.at hS; have fc := K3.at hS; have f1 := fa 0; have f2 := fa 1; have f3 := fa 2; have f4 := fb 0; have f5 := fb 1; have f6 := fb 2; have f7 := fc 0; have f8 := fc 1; have f9 := fc 2; clear fa fb fc; go_simp <;> with_reducible rfl
      simp only [Act.put, List.setIfInBounds_toArray, List.set_cons_zero, List.set_cons_succ]
      refine takeL 8 (v := ?_) rfl (by kernel_rfl) (by kernel_rfl) (by kernel_rfl) (fun _ _ _ h => h) ⟨by rfl, ?_⟩ (by assumption) ?_
      rotate_left
      · intro w hS; have fa := KA.at hS; have fb := KB.at hS; have fc := K3.at hS; have f1 := fa 0; have f2 := fa 1; have f3 := fa 2; have f4 := fb 0; have f5 := fb 1; have f6 := fb 2; have f7 := fc 0; have f8 := fc 1; have f9 := fc 2; clear fa fb fc; go_simp <;> with_reducible rfl
      simp only [Act.put, List.setIfInBounds_toArray, List.set_cons_zero, List.set_cons_succ]
      refine takeL 9 (v := ?_) rfl (by kernel_rfl) (by kernel_rfl) (by kernel_rfl) (fun _ _ _ h => h) ⟨by rfl, ?_⟩ (by assumption) ?_
      rotate_left
      · intro w hS; have fa := KA.at hS; have fb := KB.at hS; have fc := K3.at hS; have f1 := fa 0; have f2 := fa 1; have f3 := fa 2; have f4 := fb 0; have f5 := fb 1; have f6 := fb 2; have f7 := fc 0; have f8 := fc 1; have f9 := fc 2; clear fa fb fc; go_simp <;> with_reducible rfl
      simp only [Act.put, List.setIfInBounds_toArray, List.set_cons_zero, List.set_cons_succ]
      refine oneL 10 rfl (by kernel_rfl) (by rfl) (fun K hK => ?_)
      go_simp
      go_at_call 19
      (with_reducible refine (ref11_Mul _ _ i m c xs ys 3 3 _ (hA.next hHeld) (hB.next hHeld) hr hm hc HX.out HY.out (by omega) (by omega)).mono ?_); rintro e wx5 ⟨vx5, rfl, hx5, bx5⟩
      rw [← EZ.out] at hx5
      refine hK.out _ _ (hHeld.trans (bx5.mono hHeld.size)) (fun hHeld => ?_)
      clear hK K
      try simp only [Act.put, List.setIfInBounds_toArray, List.set_cons_zero, List.set_cons_succ]
      refine oneL 11 rfl (by kernel_rfl) (by rfl) (fun K hK => ?_)
      go_simp
      go_at_call 18
      (with_reducible refine (ref11_Is _ _ i c zs (m * (3 + 3 + 1)) (m * (3 + 3 + 1) + 1) _ (h3.next hHeld) hr hc (by rw [EZ.out, tab_length]) (by omega) (by omega) hx5).mono ?_); rintro e wx6 ⟨rfl, bx6⟩
      refine hK.out _ _ (hHeld.trans (bx6.mono hHeld.size)) (fun hHeld => ?_)
      clear hK K
      try simp only [Act.put, List.setIfInBounds_toArray, List.set_cons_zero, List.set_cons_succ]
      refine takeL 12 (v := ?_) rfl (by kernel_rfl) (by kernel_rfl) (by kernel_rfl) (fun _ _ _ h => h) ⟨by rfl, ?_⟩ (by assumption) ?_
      rotate_left
      · intro w hS; go_simp <;> with_reducible rfl
      simp only [Act.put, List.setIfInBounds_toArray, List.set_cons_zero, List.set_cons_succ]
      refine takeL 13 (v := ?_) rfl (by kernel_rfl) (by kernel_rfl) (by kernel_rfl) (fun _ _ _ h => h) ⟨by rfl, ?_⟩ (by assumption) ?_
      rotate_left
      · intro w hS; go_simp <;> with_reducible rfl
      simp only [Act.put, List.setIfInBounds_toArray, List.set_cons_zero, List.set_cons_succ]
      refine doneL (by kernel_rfl) ?_ _
      replace B0 := B0.trans (hHeld.mono B0.size)
      go_wp2
      go_ret
      exact ⟨rfl, B0⟩

set_option maxHeartbeats 1000000 in
theorem formed_no (a b : Value) (R2 C2 : Int) (ps qs : List (Bool × List Nat)) (xs ys : List Int) (r m : Nat) (w : World) (mA : Mw w a r m ps) (mB : Mw w b R2 C2 qs) (hfew : Fx r m ps 6 3 ∧ Fx R2 C2 qs 6 3) (hA : Mt w a r m xs 3) (hr : r ≤ 64) (hm : m ≤ 64) (hx : xs.length = r * m) (hB : Mt w b R2 C2 ys 3) (hb : ¬ (Fm R2 C2 ys.length ∧ (m : Int) = R2)) :
    Calls Try.prog 3 #[a, b] w (LawOk w) := by
  obtain ⟨ao, ca, rfl⟩ := mA.agg
  obtain ⟨bo, cb, rfl⟩ := mB.agg
  obtain ⟨wb, ew, KA, KB, B0, hsz⟩ := boxes1' w 24 24 [.int .i64 r, .int .i64 m, .slice ao ps.length ca] [.int .i64 R2, .int .i64 C2, .slice bo qs.length cb]
  clear hsz
  have HX := Lib.hid hx; clear hx
  replace mA := mA.next B0
  replace mB := mB.next B0
  replace hA := hA.next B0
  replace hB := hB.next B0
  have FEW := Lib.hid hfew; clear hfew
  go_enter Try.func3, Try.ntmps3
  go_upto_region 1 with (fail)
  rw [← ew]
  clear ew
  go_wp2_with fail
  refine (law11_awake _).mono ?_; rintro e w1 ⟨rfl, b1⟩
  replace mA := mA.next b1
  replace mB := mB.next b1
  replace hA := hA.next b1
  replace hB := hB.next b1
  replace KA := KA.next b1
  replace KB := KB.next b1
  replace B0 := B0.trans (b1.mono B0.size)
  clear b1
  have qKA0 := KA.cell 0
  have qKA1 := KA.cell 1
  have qKA2 := KA.cell 2
  have qKB0 := KB.cell 0
  have qKB1 := KB.cell 1
  have qKB2 := KB.cell 2
  go_wp2_with fail
  refine (law11_few _ _ _ _ _ _ _ _ true ⟨fun _ => FEW.out, fun _ => rfl⟩ _ mA mB).mono ?_; rintro e w2 ⟨rfl, b2⟩
  clear qKA0 qKA1 qKA2 qKB0 qKB1 qKB2
  replace mA := mA.next b2
  replace mB := mB.next b2
  replace hA := hA.next b2
  replace hB := hB.next b2
  replace KA := KA.next b2
  replace KB := KB.next b2
  replace B0 := B0.trans (b2.mono B0.size)
  clear b2
  clear FEW mA mB
  have qKA0 := KA.cell 0
  have qKA1 := KA.cell 1
  have qKA2 := KA.cell 2
  have qKB0 := KB.cell 0
  have qKB1 := KB.cell 1
  have qKB2 := KB.cell 2
  go_wp2_with fail
  refine (zmat_Mul_bad _ _ r m R2 C2 xs ys 3 3 _ hA hB (fun h => hb h.2)).mono ?_; rintro e w3 ⟨v3, rfl, h3, b3⟩
  clear qKA0 qKA1 qKA2 qKB0 qKB1 qKB2
  replace hA := hA.next b3
  replace hB := hB.next b3
  replace KA := KA.next b3
  replace KB := KB.next b3
  replace B0 := B0.trans (b3.mono B0.size)
  clear b3
  obtain ⟨a3, k3, rfl⟩ := h3.agg
  obtain ⟨w4, e4, K3, b4, hs4⟩ := boxes1 w3 24 [.int .i64 0, .int .i64 0, .slice a3 0 k3]
  clear hs4
  replace hA := hA.next b4
  replace hB := hB.next b4
  replace KA := KA.next b4
  replace KB := KB.next b4
  replace h3 := h3.next b4
  replace B0 := B0.trans (b4.mono B0.size)
  clear b4
  go_upto_region 4 with (fail)
  rw [← e4]
  clear e4
  have qKA0 := KA.cell 0
  have qKA1 := KA.cell 1
  have qKA2 := KA.cell 2
  go_wp2_with fail
  refine (zmat_Transpose _ r m xs 3 _ hA hr hm HX.out (by omega)).mono ?_; rintro e w5 ⟨v5, rfl, h5, b5⟩
  clear qKA0 qKA1 qKA2
  replace hA := hA.next b5
  replace hB := hB.next b5
  replace KA := KA.next b5
  replace KB := KB.next b5
  replace h3 := h3.next b5
  replace K3 := K3.next b5
  replace B0 := B0.trans (b5.mono B0.size)
  clear b5
  obtain ⟨ts, ets⟩ : ∃ ts, ts = tab r (fun i k => xs.getD (k * m + i) 0) (m * r) := ⟨_, rfl⟩
  rw [← ets] at h5
  have hT : ts.length = m * r := by rw [ets, tab_length]
  have ET := Lib.hid ets; clear ets
  have HT := Lib.hid hT; clear hT
  obtain ⟨a5, k5, rfl⟩ := h5.agg
  obtain ⟨w6, e6, K5, b6, hs6⟩ := boxes1 w5 24 [.int .i64 m, .int .i64 r, .slice a5 ts.length k5]
  clear hs6
  replace hA := hA.next b6
  replace hB := hB.next b6
  replace KA := KA.next b6
  replace KB := KB.next b6
  replace h3 := h3.next b6
  replace K3 := K3.next b6
  replace h5 := h5.next b6
  replace B0 := B0.trans (b6.mono B0.size)
  clear b6
  go_upto_region 5 with (fail)
  rw [← e6]
  clear e6
  have qKA0 := KA.cell 0
  have qKA1 := KA.cell 1
  have qKA2 := KA.cell 2
  go_wp2_with fail
  refine (ref11_Formed_yes _ r m xs 3 _ hA (Fm.of hr hm HX.out)).mono ?_; rintro e w7 ⟨rfl, b7⟩
  clear qKA0 qKA1 qKA2
  replace hA := hA.next b7
  replace hB := hB.next b7
  replace KA := KA.next b7
  replace KB := KB.next b7
  replace h3 := h3.next b7
  replace K3 := K3.next b7
  replace h5 := h5.next b7
  replace K5 := K5.next b7
  replace B0 := B0.trans (b7.mono B0.size)
  clear b7
  have qK50 := K5.cell 0
  have qK51 := K5.cell 1
  have qK52 := K5.cell 2
  go_wp2_with fail
  refine (ref11_Normal _ m r ts 3 _ h5 hm hr HT.out (by omega)).mono ?_; rintro e w8 ⟨rfl, b8⟩
  clear qK50 qK51 qK52
  replace hA := hA.next b8
  replace hB := hB.next b8
  replace KA := KA.next b8
  replace KB := KB.next b8
  replace h3 := h3.next b8
  replace K3 := K3.next b8
  replace h5 := h5.next b8
  replace K5 := K5.next b8
  replace B0 := B0.trans (b8.mono B0.size)
  clear b8
  have qK50 := K5.cell 0
  have qK51 := K5.cell 1
  have qKA0 := KA.cell 0
  have qKA1 := KA.cell 1
  go_upto_region 9 with (fail)
  clear qK50 qK51 qKA0 qKA1
  have qKA0 := KA.cell 0
  go_wp2
  clear qKA0
  have w0s := B0.size
  go_loopw [9] (fun iv wr => ∃ i : Nat, i ≤ r ∧ iv = .int .i64 i ∧ Below w8.heap.size w8 wr) (fun iv _ => r - (intOf iv).toNat)
  case atStart => exact ⟨0, by omega, rfl, Below.refl _ _⟩
  case round =>
    obtain ⟨i, hi, rfl, hb0⟩ := hrel
    by_cases hir : i < r
    · have q0 := (KA.next hb0).cell 0
      go_upto_region 13 with (fail)
      clear q0
      have q1 := (KA.next hb0).cell 1
      go_wp2
      clear q1
      go_loopw [10] (fun kv wr => ∃ k : Nat, k ≤ m ∧ kv = .int .i64 k ∧ Below w8.heap.size w8 wr) (fun kv _ => m - (intOf kv).toNat)
      case atStart => exact ⟨0, by omega, rfl, hb0⟩
      case round =>
        clear hb0
        obtain ⟨k, hk, rfl, hb0⟩ := hrel
        by_cases hkm : k < m
        · have q1 := (KA.next hb0).cell 1
          go_upto_region 15 with (fail)
          clear q1
          replace hb0 := hb0.trans (Drawn.below (w' := wr.drew) ⟨1, rfl⟩ _)
          have kA := KA.next hb0; have kT := K5.next hb0
          have hA' := hA.next hb0; have hT' := h5.mt.next hb0
          have hj := at_lt HX.out hir hkm
          have hj2 := at_lt HT.out hkm hir
          have hval : ts.getD (k * r + i) 0 = xs.getD (i * m + k) 0 := by
            rw [ET.out, tab_get _ hir hkm]
          have HV := Lib.hid hval; clear hval
          refine startL (S := (fun w' => Below (wr.drew).heap.size (wr.drew) w')) (by kernel_rfl) (Below.refl _ _) (fun hHeld => ?_)
          refine takeL 0 (v := ?_) rfl (by kernel_rfl) (by kernel_rfl) (by kernel_rfl) (fun _ _ _ h => h) ⟨by rfl, ?_⟩ (by assumption) ?_
          rotate_left
          · intro w hS; have fa := kA.at hS; have fb := kT.at hS; have f1 := fa 0; have f2 := fa 1; have f3 := fa 2; have f4 := fb 0; have f5 := fb 1; have f6 := fb 2; clear fa fb; go_simp <;> with_reducible rfl
          simp only [Act.put, List.setIfInBounds_toArray, List.set_cons_zero, List.set_cons_succ]
          refine takeL 1 (v := ?_) rfl (by kernel_rfl) (by kernel_rfl) (by kernel_rfl) (fun _ _ _ h => h) ⟨by rfl, ?_⟩ (by assumption) ?_
          rotate_left
          · intro w hS; go_simp <;> with_reducible rfl
          simp only [Act.put, List.setIfInBounds_toArray, List.set_cons_zero, List.set_cons_succ]
          refine takeL 2 (v := ?_) rfl (by kernel_rfl) (by kernel_rfl) (by kernel_rfl) (fun _ _ _ h => h) ⟨by rfl, ?_⟩ (by assumption) ?_
          rotate_left
          · intro w hS; go_simp <;> with_reducible rfl
          simp only [Act.put, List.setIfInBounds_toArray, List.set_cons_zero, List.set_cons_succ]
          refine takeL 4 (v := ?_) rfl (by kernel_rfl) (by kernel_rfl) (by kernel_rfl) (fun _ _ _ h => h) ⟨by rfl, ?_⟩ (by assumption) ?_
          rotate_left
          · intro w hS; have fa := kA.at hS; have fb := kT.at hS; have f1 := fa 0; have f2 := fa 1; have f3 := fa 2; have f4 := fb 0; have f5 := fb 1; have f6 := fb 2; clear fa fb; go_simp <;> with_reducible rfl
          simp only [Act.put, List.setIfInBounds_toArray, List.set_cons_zero, List.set_cons_succ]
          refine takeL 5 (v := ?_) rfl (by kernel_rfl) (by kernel_rfl) (by kernel_rfl) (fun _ _ _ h => h) ⟨by rfl, ?_⟩ (by assumption) ?_
          rotate_left
          · intro w hS; go_simp <;> with_reducible rfl
          simp only [Act.put, List.setIfInBounds_toArray, List.set_cons_zero, List.set_cons_succ]
          refine takeL 6 (v := ?_) rfl (by kernel_rfl) (by kernel_rfl) (by kernel_rfl) (fun _ _ _ h => h) ⟨by rfl, ?_⟩ (by assumption) ?_
          rotate_left
          · intro w hS; go_simp <;> with_reducible rfl
          simp only [Act.put, List.setIfInBounds_toArray, List.set_cons_zero, List.set_cons_succ]
          refine oneL 3 rfl (by kernel_rfl) (by rfl) (fun K hK => ?_)
          go_simp
          go_at_call 17
          (with_reducible refine (ref11_At _ m r k i ts 3 _ (hT'.next hHeld) (by omega) (by omega) (by omega) hj2).mono ?_); rintro e wx2 ⟨vx2, rfl, hx2, bx2⟩
          refine hK.out _ _ (hHeld.trans (bx2.mono hHeld.size)) (fun hHeld => ?_)
          clear hK K
          try simp only [Act.put, List.setIfInBounds_toArray, List.set_cons_zero, List.set_cons_succ]
          refine oneL 7 rfl (by kernel_rfl) (by rfl) (fun K hK => ?_)
          go_simp
          go_at_call 17
          (with_reducible refine (ref11_At _ r m i k xs 3 _ (hA'.next hHeld) (by omega) (by omega) (by omega) hj).mono ?_); rintro e wx3 ⟨vx3, rfl, hx3, bx3⟩
          replace hx2 := hx2.next bx3
          refine hK.out _ _ (hHeld.trans (bx3.mono hHeld.size)) (fun hHeld => ?_)
          clear hK K
          try simp only [Act.put, List.setIfInBounds_toArray, List.set_cons_zero, List.set_cons_succ]
          refine oneL 8 rfl (by kernel_rfl) (by rfl) (fun K hK => ?_)
          go_simp
          go_at_call 16
          (with_reducible refine (zi_Same _ _ _ _ 3 3 _ hx2 hx3 (by omega) (by omega)).mono ?_); rintro e wx4 ⟨rfl, bx4⟩
          rw [decide_eq_true HV.out]
          refine hK.out _ _ (hHeld.trans (bx4.mono hHeld.size)) (fun hHeld => ?_)
          clear hK K
          try simp only [Act.put, List.setIfInBounds_toArray, List.set_cons_zero, List.set_cons_succ]
          refine takeL 9 (v := ?_) rfl (by kernel_rfl) (by kernel_rfl) (by kernel_rfl) (fun _ _ _ h => h) ⟨by rfl, ?_⟩ (by assumption) ?_
          rotate_left
          · intro w hS; go_simp <;> with_reducible rfl
          simp only [Act.put, List.setIfInBounds_toArray, List.set_cons_zero, List.set_cons_succ]
          refine doneL (by kernel_rfl) ?_ _
          replace hb0 := hb0.trans (hHeld.mono hb0.size)
          clear hHeld bx2 bx3 bx4 hx2 hx3 kA kT hA' hT'
          go_wp2
          go_roundw
          case rel => exact ⟨k + 1, by omega, by go_num, hb0⟩
          case measure => simp [intOf] <;> omega
        · obtain rfl : k = m := by omega
          have q1 := (KA.next hb0).cell 1
          go_wp2
          clear q1
          go_roundw
          case rel => exact ⟨i + 1, by omega, by go_num, hb0⟩
          case measure => simp [intOf] <;> omega
    · obtain rfl : i = r := by omega
      have q0 := (KA.next hb0).cell 0
      have q1 := (KB.next hb0).cell 0; have q2 := (KB.next hb0).cell 1; have q3 := (KB.next hb0).cell 2
      replace B0 := B0.trans (hb0.mono B0.size)
      replace hA := hA.next hb0
      replace hB := hB.next hb0
      replace KA := KA.next hb0
      replace KB := KB.next hb0
      replace h3 := h3.next hb0
      replace K3 := K3.next hb0
      replace h5 := h5.next hb0
      replace K5 := K5.next hb0
      clear hb0
      by_cases hfb : Fm R2 C2 ys.length
      · have hne : ((m : Int) == R2) = false := by simpa using fun h => hb ⟨hfb, h⟩
        go_wp2_with fail
        clear q0 q1 q2 q3
        refine (ref11_Formed_yes _ R2 C2 ys 3 _ hB hfb).mono ?_; rintro e w51 ⟨rfl, b51⟩
        replace hA := hA.next b51
        replace hB := hB.next b51
        replace KA := KA.next b51
        replace KB := KB.next b51
        replace h3 := h3.next b51
        replace K3 := K3.next b51
        replace h5 := h5.next b51
        replace K5 := K5.next b51
        replace B0 := B0.trans (b51.mono B0.size)
        clear b51
        have qKA1 := KA.cell 1
        have qKB0 := KB.cell 0
        have qK30 := K3.cell 0
        have qK31 := K3.cell 1
        have qK32 := K3.cell 2
        go_wp2_with fail
        refine (ref11_None a3 k3 _).mono ?_; rintro e w52 ⟨rfl, b52⟩
        clear qKA1 qKB0 qK30 qK31 qK32
        replace hA := hA.next b52
        replace hB := hB.next b52
        replace KA := KA.next b52
        replace KB := KB.next b52
        replace h3 := h3.next b52
        replace K3 := K3.next b52
        replace h5 := h5.next b52
        replace K5 := K5.next b52
        replace B0 := B0.trans (b52.mono B0.size)
        clear b52
        go_wp2
        go_ret
        exact ⟨rfl, B0⟩
      · skip
        go_wp2_with fail
        clear q0 q1 q2 q3
        refine (ref11_Formed_no _ R2 C2 ys 3 _ hB hfb).mono ?_; rintro e w51 ⟨rfl, b51⟩
        replace hA := hA.next b51
        replace hB := hB.next b51
        replace KA := KA.next b51
        replace KB := KB.next b51
        replace h3 := h3.next b51
        replace K3 := K3.next b51
        replace h5 := h5.next b51
        replace K5 := K5.next b51
        replace B0 := B0.trans (b51.mono B0.size)
        clear b51
        have qK30 := K3.cell 0
        have qK31 := K3.cell 1
        have qK32 := K3.cell 2
        go_wp2_with fail
        refine (ref11_None a3 k3 _).mono ?_; rintro e w52 ⟨rfl, b52⟩
        clear qK30 qK31 qK32
        replace hA := hA.next b52
        replace hB := hB.next b52
        replace KA := KA.next b52
        replace KB := KB.next b52
        replace h3 := h3.next b52
        replace K3 := K3.next b52
        replace h5 := h5.next b52
        replace K5 := K5.next b52
        replace B0 := B0.trans (b52.mono B0.size)
        clear b52
        go_wp2
        go_ret
        exact ⟨rfl, B0⟩

theorem walk (a : Value) (R1 C1 : Int) (ps : List (Bool × List Nat)) (b : Value) (R2 C2 : Int) (qs : List (Bool × List Nat)) (w : World) (mA : Mw w a R1 C1 ps) (mB : Mw w b R2 C2 qs) :
    Calls Try.prog 3 #[a, b] w (LawOk w) := by
  by_cases hfew : Fx R1 C1 ps 6 3 ∧ Fx R2 C2 qs 6 3
  · have hA := mA.mt (L := 3) hfew.1.2.2.all
    have hB := mB.mt (L := 3) hfew.2.2.2.all
    by_cases h1 : Fm R1 C1 (ps.map pv).length
    · obtain ⟨r, m, rfl, rfl, hr, hm, hx⟩ := h1.nat
      by_cases h2 : Fm R2 C2 (qs.map pv).length ∧ (m : Int) = R2
      · obtain ⟨h2, h3⟩ := h2
        obtain ⟨m', c, rfl, rfl, -, hc, hy⟩ := h2.nat
        obtain rfl : m = m' := by omega
        exact formed a b ps qs _ _ r m c w mA mB hfew hA hr hm hx hB hc hy
      · exact formed_no a b R2 C2 ps qs _ _ r m w mA mB hfew hA hr hm hx hB h2
    · exact not_formed a b R1 C1 R2 C2 ps qs _ _ w mA mB hfew hA h1 hB
  · exact not_few a b R1 C1 R2 C2 ps qs w mA mB hfew


set_option maxRecDepth 100000 in
theorem lifted (os : Os) (started : os.Started) (H : Type) (enc : TypeId × Value → H) :
    ReturnsInHanded {} Try.checked os 3 .any (Rows.matMulsSpec.pre6 enc Try.prog Try.f3 Rows.matMulsRow.domain false) (Rows.matMulsSpec.post enc Try.prog Try.f3 false true false false) := by
  refine returnsInHanded_of_change (C := Try.checked) own started (by kernel_rfl) Try.func3
    (ChangeSpec.witness6 (enc := enc) (C := Try.checked) false ⟨#[], #[.agg #[.int .i64 0, .int .i64 0, .slice none 0 0], .agg #[.int .i64 0, .int .i64 0, .slice none 0 0]], []⟩ 8 (by kernel_rfl) (by kernel_rfl) (by kernel_rfl) (by kernel_rfl)) ?_
  intro W base args ds gs before hval0 hW hcnd _
  have hval : ∀ (j : Nat) t v, Try.f3.params[j]? = some t → args[j]? = some v → Value.okWide Try.prog W .any base t v := hval0
  have hW' := hW
  obtain ⟨p, q, hA0, hV, rfl, hfz, hnd⟩ := hW
  have hA : DataW.TrodAll enc Try.prog W 0 (fun _ => true) true Try.f3.params.toList args.toList ds p := hA0
  rw [Try.params3] at hA hval
  obtain ⟨v0, vs0, d0, ds0, p0, q0, hargs, rfl, rfl, h0, r0⟩ := trodAll_cons hA
  obtain ⟨v1, vs1, d1, ds1, p1, q1, rfl, rfl, rfl, h1, r1⟩ := trodAll_cons r0
  obtain ⟨rfl, rfl, rfl⟩ := trodAll_nil r1
  obtain rfl : args = #[v0, v1] := by cases args; simp_all
  obtain ⟨rfl, rfl⟩ := trodVars_none hV
  have k0 := h0
  have lt0 : ∀ x ∈ p0, x.block < W.heap.size := by obtain ⟨m, hm⟩ := k0; exact DataW.trod_lt m _ _ _ hm
  obtain ⟨R0, C0, ps0, m0, rb0, cb0⟩ := open_mat (hval 0 24 v0 rfl rfl) h0
  have k1 := h1
  have lt1 : ∀ x ∈ p1, x.block < W.heap.size := by obtain ⟨m, hm⟩ := k1; exact DataW.trod_lt m _ _ _ hm
  obtain ⟨R1, C1, ps1, m1, rb1, cb1⟩ := open_mat (hval 1 24 v1 rfl rfl) h1
  clear hA0 hval0
  refine (walk v0 R0 C0 ps0 v1 R1 C1 ps1 W m0 m1).mono fun e W' ⟨he, bel⟩ => ?_
  subst he
  exact ⟨_, rfl, _, _, _, [], _, [], hW', trodAll_mk1 (shut_bool Try.underlying4 _), (trodAll_cons_mk (Below.trod laidOut (by kernel_rfl) (of_decide_eq_true (by kernel_rfl)) k0 bel lt0) (trodAll_cons_mk (Below.trod laidOut (by kernel_rfl) (of_decide_eq_true (by kernel_rfl)) k1 bel lt1) trodAll_mk0)), rfl, bel.frame _, fun h => by cases h⟩

theorem over : Rows.matMulsRow.holds Try.pinned (OpenSpec.ofChange Rows.matMulsSpec) :=
  OpenClaim.holds_of_wide 3 Try.f3 rfl rfl rfl rfl rfl rfl rfl ⟨rfl, rfl, rfl, rfl, rfl⟩ rfl rfl rfl rfl rfl (by kernel_rfl) Try.func3 (by kernel_rfl)
    (of_decide_eq_true (by kernel_rfl)) (by unfold Func.isWrapper; first | (rw [if_pos (by decide +kernel)]; kernel_rfl) | (rw [if_neg (by decide +kernel)]; exact ⟨rfl, rfl⟩))
    (fun os started H enc _ => lifted os started H enc)

theorem proved : Rows.MatMulsSaid := over
#print axioms proved
end Go.Proofs.Ytpfonckdejjfnaa.matMuls
