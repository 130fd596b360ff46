/- The reference of chapter 22: powers. -/
import Derived.Test.YthghdjpjbngllaaRfz
namespace Go.Proofs.Ythghdjpjbngllaa
open Go.RowKit


/-- Where a power stands. -/
def PwR (w wb wr : World) (g n : Nat) (L : List Nat) : Prop := ∃ ao k, Blk 42 wr (g + 1 + 1) [.int .i64 n, .int .i64 n, .slice ao L.length k] ∧ Blk 42 wr (g + 1) [.int .i64 0, .int .i64 0, .slice none 0 0] ∧
  Own .u64 27 wr (g + 1 + 1 + 1) (.slice ao L.length k) L ∧ Below (g + 1) wb wr ∧ Below w.heap.size w wr
theorem tbv_one {p n : Nat} (hp : FP p) : ftab n (fun i k => if i = k then 1 else 0) (n * n) = tbv (MT.one n : MT (Zp p) n n) := by
  unfold tbv
  refine ftab_congr fun i k hi hk => ?_
  rw [MT.e_one hi hk]
  by_cases h : i = k
  · rw [if_pos h, if_pos h, ← Zp.of_one, Zp.val_of, Nat.mod_eq_of_lt (by have := hp.1; omega)]
  · rw [if_neg h, if_neg h, Zp.zero_val]

set_option maxRecDepth 20000 in
set_option maxHeartbeats 2000000 in
theorem rf22_Power (p : Nat) (a : Value) (n e0 : Nat) (xs : List Nat) (w : World) (hp : FP p) (hA : Fm w a n n xs) (hn : n ≤ 64) (hx : xs.length = n * n) (he : e0 ≤ 1000) :
    Calls Try.prog 71 #[a, .int .i64 e0, .int .u64 p] w (RetFm p w n n ((mx p n n xs).pow e0)) := by
  obtain ⟨aA, cA, rfl⟩ := hA.agg
  obtain ⟨wb, ew, KA, KR, KT, B0, hsz⟩ := boxes3 w 42 42 42 [.int .i64 n, .int .i64 n, .slice aA xs.length cA] [.int .i64 0, .int .i64 0, .slice none 0 0] [.int .i64 n, .int .i64 n, .slice none 0 0]
  clear hsz
  have HP := Lib.hid hp; clear hp
  have HX := Lib.hid hx; clear hx
  obtain ⟨A, eA⟩ : ∃ A, A = mx p n n xs := ⟨_, rfl⟩
  rw [← eA]
  have EA := Lib.hid eA; clear eA
  have hT1 := Lib.hid (tbv_one (n := n) HP.out)
  go_enter Try.func71, Try.ntmps71
  go_upto_region 2 with (fail)
  rw [← ew]
  obtain ⟨g, eg⟩ : ∃ g, g = w.heap.size := ⟨_, rfl⟩
  rw [← eg] at KA KR KT ⊢
  have hgw : w.heap.size ≤ g := by omega
  clear ew eg
  have hwb : g + 1 + 1 < wb.heap.size := KT.lt
  have st : PwR w wb wb g n (ftab n (fun i k => if i = k then 1 else 0) (0 * n)) := ⟨none, 0, by rw [Nat.zero_mul]; exact KT, KR, by rw [Nat.zero_mul]; exact Own.nil _ _ _ _, Below.refl _ _, B0⟩
  have HA := Lib.hid hA; have HKA := Lib.hid KA
  clear hA KT KR B0 KA
  go_wp2
  go_loopw [8] (fun iv wr => ∃ i : Nat, i ≤ n ∧ iv = .int .i64 i ∧ PwR w wb wr g n (ftab n (fun i k => if i = k then 1 else 0) (i * n))) (fun iv _ => n - (intOf iv).toNat)
  case atStart => exact ⟨0, by omega, rfl, st⟩
  case round =>
    clear st
    obtain ⟨i, hi, rfl, st⟩ := hrel
    have KA := HKA.out.below st.choose_spec.choose_spec.2.2.2.1 (by omega)
    have c0 := KA.cell 0
    by_cases hir : i < n
    · go_wp2
      clear c0 KA
      go_loopw [9] (fun kv wr => ∃ k : Nat, k ≤ n ∧ kv = .int .i64 k ∧ PwR w wb wr g n (ftab n (fun i k => if i = k then 1 else 0) (i * n + k))) (fun kv _ => n - (intOf kv).toNat)
      case atStart => exact ⟨0, by omega, rfl, st⟩
      case round =>
        clear st
        obtain ⟨k, hk, rfl, st⟩ := hrel
        have KA := HKA.out.below st.choose_spec.choose_spec.2.2.2.1 (by omega)
        have c0 := KA.cell 0
        by_cases hkc : k < n
        · obtain ⟨ao, kk, K2, K1, ho, B3, B0⟩ := st
          have f2 := K2.cell 2; have z2 := K2.free 2
          have hgx : g + 1 + 1 + 1 ≤ wr.heap.size := by have := K2.lt; omega
          have hlen := Lib.hid (ftab_length n (fun i k => if i = k then 1 else 0) (i * n + k))
          have hic : i * n ≤ 64 * 64 := Nat.mul_le_mul (by omega) hn
          have hrow := Lib.hid (ftab_at (i := i) (k := k) (fun i k => if i = k then 1 else 0) hkc)
          obtain ⟨L, eL⟩ : ∃ L, L = ftab n (fun i k => if i = k then 1 else 0) (i * n + k) := ⟨_, rfl⟩
          rw [← eL] at K2 ho f2 hlen hrow
          clear eL
          by_cases hik : i = k
          · have hb : ((i : Int) == (k : Int)) = true := by rw [hik]; simp
            have hrow2 := Lib.hid (show ftab n (fun i k => if i = k then 1 else 0) (i * n + (k + 1)) = L ++ [1] by rw [hrow.out, if_pos hik])
            clear hik hrow
            go_wp2_with (at_builtin; refine wp_app1 .u64 32 27 8 Try.underlying32 (by kernel_rfl) (by decide) rfl _ _ rfl wr (g + 1 + 1 + 1) _ L 1 _ (by rfl) ho (by rw [hlen.out]; omega) hgx rfl rfl ?_; intro v' w4 ho4 hb4 hg4 _; have K4 := K2.below hb4 (by omega); have q1 := K4.cell 2; have q2 := K4.free 2; obtain ⟨a4, c4, e4⟩ := ho4.sliced; subst e4; rw [List.length_append] at ho4)
            have K5 := K4.set 2 (.slice a4 (L.length + [1].length) c4)
            have K6 := (K1.below hb4 (by omega)).far (a := ⟨g + 1 + 1, 2, none⟩) (show g + 1 ≠ g + 1 + 1 by omega) (.slice a4 (L.length + [1].length) c4)
            have o6 := ho4.low (a := ⟨g + 1 + 1, 2, none⟩) (show g + 1 + 1 < g + 1 + 1 + 1 by omega) (.slice a4 (L.length + [1].length) c4)
            have B6 := (B3.trans (hb4.mono (by omega))).setCell (p := ⟨g + 1 + 1, 2, none⟩) (show g + 1 ≤ g + 1 + 1 by omega) (.slice a4 (L.length + [1].length) c4)
            have B7 := (B0.trans (hb4.mono (by omega))).setCell (p := ⟨g + 1 + 1, 2, none⟩) (show w.heap.size ≤ g + 1 + 1 by omega) (.slice a4 (L.length + [1].length) c4)
            have st := Lib.hid (show PwR w wb (w4.setCell ⟨g + 1 + 1, 2, none⟩ (.slice a4 (L.length + [1].length) c4)) g n (ftab n (fun i k => if i = k then 1 else 0) (i * n + (k + 1))) by
              rw [hrow2.out]; unfold PwR; rw [List.length_append]; exact ⟨_, _, K5, K6, o6, B6, B7⟩)
            clear K1 K2 K4 K5 K6 o6 B6 B7 ho ho4 hb4 hg4 B0 B3 KA c0 f2 z2 q1 q2
            go_wp2
            go_roundw
            case rel => exact ⟨k + 1, by omega, by go_num, st.out⟩
            case measure => simp [intOf] <;> omega
          · have hb : ((i : Int) == (k : Int)) = false := by simp; omega
            have hrow2 := Lib.hid (show ftab n (fun i k => if i = k then 1 else 0) (i * n + (k + 1)) = L ++ [0] by rw [hrow.out, if_neg hik])
            clear hik hrow
            go_wp2_with (at_builtin; refine wp_app1 .u64 32 27 8 Try.underlying32 (by kernel_rfl) (by decide) rfl _ _ rfl wr (g + 1 + 1 + 1) _ L 0 _ (by rfl) ho (by rw [hlen.out]; omega) hgx rfl rfl ?_; intro v' w4 ho4 hb4 hg4 _; have K4 := K2.below hb4 (by omega); have q1 := K4.cell 2; have q2 := K4.free 2; obtain ⟨a4, c4, e4⟩ := ho4.sliced; subst e4; rw [List.length_append] at ho4)
            have K5 := K4.set 2 (.slice a4 (L.length + [0].length) c4)
            have K6 := (K1.below hb4 (by omega)).far (a := ⟨g + 1 + 1, 2, none⟩) (show g + 1 ≠ g + 1 + 1 by omega) (.slice a4 (L.length + [0].length) c4)
            have o6 := ho4.low (a := ⟨g + 1 + 1, 2, none⟩) (show g + 1 + 1 < g + 1 + 1 + 1 by omega) (.slice a4 (L.length + [0].length) c4)
            have B6 := (B3.trans (hb4.mono (by omega))).setCell (p := ⟨g + 1 + 1, 2, none⟩) (show g + 1 ≤ g + 1 + 1 by omega) (.slice a4 (L.length + [0].length) c4)
            have B7 := (B0.trans (hb4.mono (by omega))).setCell (p := ⟨g + 1 + 1, 2, none⟩) (show w.heap.size ≤ g + 1 + 1 by omega) (.slice a4 (L.length + [0].length) c4)
            have st := Lib.hid (show PwR w wb (w4.setCell ⟨g + 1 + 1, 2, none⟩ (.slice a4 (L.length + [0].length) c4)) g n (ftab n (fun i k => if i = k then 1 else 0) (i * n + (k + 1))) by
              rw [hrow2.out]; unfold PwR; rw [List.length_append]; exact ⟨_, _, K5, K6, o6, B6, B7⟩)
            clear K1 K2 K4 K5 K6 o6 B6 B7 ho ho4 hb4 hg4 B0 B3 KA c0 f2 z2 q1 q2
            go_wp2
            go_roundw
            case rel => exact ⟨k + 1, by omega, by go_num, st.out⟩
            case measure => simp [intOf] <;> omega
        · obtain rfl : k = n := by omega
          go_wp2
          go_roundw
          case rel => exact ⟨i + 1, by omega, by go_num, by rw [Nat.succ_mul]; exact st⟩
          case measure => simp [intOf] <;> omega
    · obtain rfl : i = n := by omega
      rw [hT1.out] at st
      have st : PwR w wb wr g i (tbv (A.pow 0)) := st
      go_wp2
      clear c0 KA
      go_loopw [11] (fun kv wr => ∃ k : Nat, k ≤ e0 ∧ kv = .int .i64 k ∧ PwR w wb wr g i (tbv (A.pow k))) (fun kv _ => e0 - (intOf kv).toNat)
      case atStart => exact ⟨0, by omega, rfl, st⟩
      case round =>
        clear st
        obtain ⟨k, hk, rfl, ao, kk, K2, K1, ho, B3, B0⟩ := hrel
        obtain ⟨M, eM⟩ : ∃ M, M = A.pow k := ⟨_, rfl⟩
        rw [← eM] at K2 ho
        have EM := Lib.hid eM; clear eM
        by_cases hke : k < e0
        · have KA := HKA.out.below B3 (by omega)
          have hgx : g + 1 + 1 + 1 ≤ wr.heap.size := by have := K2.lt; omega
          have c0 := KA.cell 0; have c1 := KA.cell 1; have c2 := KA.cell 2
          have d0 := K2.cell 0; have d1 := K2.cell 1; have d2 := K2.cell 2
          have hM : Fm wr (.agg #[.int .i64 i, .int .i64 i, .slice ao (tbv M).length kk]) i i (tbv M) := ⟨_, rfl, ho.sl⟩
          have lM := Lib.hid (tbv_length M)
          go_wp2_with fail
          refine (rf21_Mul p _ _ i i i (tbv M) xs _ HP.out hM (HA.out.next B0) hn hn hn lM.out HX.out).mono ?_; rintro e w5 ⟨a5, k5, rfl, o5, b5⟩
          clear c0 c1 c2 d0 d1 d2
          have hN : mx p i i (tbv M) * mx p i i xs = A.pow (k + 1) := by rw [mx_tbv, ← EA.out, EM.out, MT.pow_succ]
          rw [hN] at o5 ⊢
          clear hN
          obtain ⟨N, eN⟩ : ∃ N, N = A.pow (k + 1) := ⟨_, rfl⟩
          rw [← eN] at o5 ⊢
          have EN := Lib.hid eN; clear eN
          have K4 := K2.next b5
          have q0 := K4.cell 0; have q1 := K4.cell 1; have q2 := K4.cell 2
          have z0 := K4.free 0; have z1 := K4.free 1; have z2 := K4.free 2
          have K5 := ((K4.set 0 (.int .i64 i)).set 1 (.int .i64 i)).set 2 (.slice a5 (tbv N).length k5)
          have K6 := (((K1.next b5).far (a := ⟨g + 1 + 1, 0, none⟩) (show g + 1 ≠ g + 1 + 1 by omega) (.int .i64 i)).far (a := ⟨g + 1 + 1, 1, none⟩) (show g + 1 ≠ g + 1 + 1 by omega) (.int .i64 i)).far (a := ⟨g + 1 + 1, 2, none⟩) (show g + 1 ≠ g + 1 + 1 by omega) (.slice a5 (tbv N).length k5)
          have hl5 : ∀ (x : Nat), (⟨g + 1 + 1, x, none⟩ : Addr).block < g + 1 + 1 + 1 := fun x => Nat.lt_succ_self _
          have o6 := (((o5.mono hgx).low (hl5 0) (.int .i64 i)).low (hl5 1) (.int .i64 i)).low (hl5 2) (.slice a5 (tbv N).length k5)
          have hgx2 : g + 1 ≤ wr.heap.size := by omega
          have B6 := (((B3.trans (b5.mono hgx2)).setCell (p := ⟨g + 1 + 1, 0, none⟩) (show g + 1 ≤ g + 1 + 1 by omega) (.int .i64 i)).setCell (p := ⟨g + 1 + 1, 1, none⟩) (show g + 1 ≤ g + 1 + 1 by omega) (.int .i64 i)).setCell (p := ⟨g + 1 + 1, 2, none⟩) (show g + 1 ≤ g + 1 + 1 by omega) (.slice a5 (tbv N).length k5)
          have B7 := (((B0.trans (b5.mono B0.size)).setCell (p := ⟨g + 1 + 1, 0, none⟩) (show w.heap.size ≤ g + 1 + 1 by omega) (.int .i64 i)).setCell (p := ⟨g + 1 + 1, 1, none⟩) (show w.heap.size ≤ g + 1 + 1 by omega) (.int .i64 i)).setCell (p := ⟨g + 1 + 1, 2, none⟩) (show w.heap.size ≤ g + 1 + 1 by omega) (.slice a5 (tbv N).length k5)
          have st := Lib.hid (show PwR w wb (((w5.setCell ⟨g + 1 + 1, 0, none⟩ (.int .i64 i)).setCell ⟨g + 1 + 1, 1, none⟩ (.int .i64 i)).setCell ⟨g + 1 + 1, 2, none⟩ (.slice a5 (tbv N).length k5)) g i (tbv (A.pow (k + 1))) by
            rw [← EN.out]; exact ⟨_, _, K5, K6, o6, B6, B7⟩)
          clear K1 K2 K4 K5 K6 ho o5 o6 B3 B0 B6 B7 KA hM b5
          go_wp2
          go_roundw
          case rel => exact ⟨k + 1, by omega, by go_num, st.out⟩
          case measure => simp [intOf] <;> omega
        · obtain rfl : k = e0 := by omega
          have k0 := K2.cell 0; have k1 := K2.cell 1; have k2 := K2.cell 2
          have e0 := K1.cell 0; have e1 := K1.cell 1; have e2 := K1.cell 2
          have f0 := K1.free 0; have f1 := K1.free 1; have f2 := K1.free 2
          have KF := ((K1.set 0 (.int .i64 i)).set 1 (.int .i64 i)).set 2 (.slice ao (tbv M).length kk)
          have d0 := KF.cell 0; have d1 := KF.cell 1; have d2 := KF.cell 2
          have hlt : g + 1 < g + 1 + 1 + 1 := by omega
          have hof := ((ho.low (a := ⟨g + 1, 0, none⟩) hlt (.int .i64 i)).low (a := ⟨g + 1, 1, none⟩) hlt (.int .i64 i)).low (a := ⟨g + 1, 2, none⟩) hlt (.slice ao (tbv M).length kk)
          have hgw2 : w.heap.size ≤ g + 1 := by omega
          have BF := ((B0.setCell (p := ⟨g + 1, 0, none⟩) hgw2 (.int .i64 i)).setCell (p := ⟨g + 1, 1, none⟩) hgw2 (.int .i64 i)).setCell (p := ⟨g + 1, 2, none⟩) hgw2 (.slice ao (tbv M).length kk)
          have FR := Lib.hid (show RetFm p w i i (A.pow k) (.returned (.agg #[.int .i64 i, .int .i64 i, .slice ao (tbv M).length kk])) (((wr.setCell ⟨g + 1, 0, none⟩ (.int .i64 i)).setCell ⟨g + 1, 1, none⟩ (.int .i64 i)).setCell ⟨g + 1, 2, none⟩ (.slice ao (tbv M).length kk)) by
            rw [← EM.out]; exact ⟨_, _, rfl, hof.mono (by omega), BF⟩)
          clear KF K1 K2 hof BF ho B0 B3
          go_wp2
          exact bodyPost_ret (v := .agg #[.int .i64 i, .int .i64 i, .slice ao (tbv M).length kk]) (by simp [results, Try.results71, go_sem, d0, d1, d2]) rfl FR.out

end Go.Proofs.Ythghdjpjbngllaa
