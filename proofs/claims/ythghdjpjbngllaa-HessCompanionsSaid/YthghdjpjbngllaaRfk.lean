/- The reference of chapter 21: noughts; powers as rows. -/
import Derived.Test.YthghdjpjbngllaaHmin
import Derived.Test.YthghdjpjbngllaaRfg
namespace Go.Proofs.Ythghdjpjbngllaa
open Go.RowKit


set_option maxRecDepth 20000 in
theorem rf21_Zero (v : Value) (R C : Int) (p : Nat) (xs : List Nat) (w : World) (hp : 0 < p) (hm : Fm w v R C xs) (hz : ∀ i, i < xs.length → xs.getD i 0 % p = 0) (hl : xs.length ≤ 1000000) :
    Calls Try.prog 65 #[v, .int .u64 p] w (RetW w (.bool true)) := by
  obtain ⟨aA, cA, rfl⟩ := hm.agg
  obtain ⟨wb, ew, KA, B0, hsz⟩ := boxes1 w 42 [.int .i64 R, .int .i64 C, .slice aA xs.length cA]
  clear hsz
  replace hm := hm.next B0
  obtain ⟨u, eu, av, bv, ov, cv, rfl, hcv, hcs⟩ := hm
  have eu2 : Value.slice aA xs.length cA = .slice av xs.length cv := by simpa using eu
  simp only [Value.slice.injEq, true_and] at eu2
  obtain ⟨rfl, rfl⟩ := eu2
  clear eu
  have HZ := Lib.hid hz; have HC := Lib.hid hcs
  clear hz hcs
  have hz1 : ¬ p = 0 := by omega
  have hz2 : ¬ (p : Int) = 0 := by omega
  have hz0 : ((p : Int) == 0) = false := by simpa using (show p ≠ 0 by omega)
  go_enter Try.func65, Try.ntmps65
  go_upto_region 1 with (fail)
  rw [← ew]
  clear ew
  have c2 := KA.cell 2
  go_wp2
  go_loop [5] (fun kv => ∃ k : Nat, k ≤ xs.length ∧ kv = .int .i64 k) (fun kv => xs.length - (intOf kv).toNat)
  case atStart => exact ⟨0, by omega, rfl⟩
  case round =>
    obtain ⟨k, hk, rfl⟩ := hrel
    by_cases hkm : k < xs.length
    · obtain rfl := HC.out.ao (by intro h; rw [h] at hkm; simp at hkm)
      have q1 := HC.out.cell k hkm
      obtain ⟨y, ey⟩ : ∃ y, y = xs.getD k 0 := ⟨_, rfl⟩
      rw [← ey] at q1
      have h0 : y % p = 0 := by rw [ey]; exact HZ.out k hkm
      have ha2 : (y : Int).tmod (p : Int) = 0 := by
        rw [show (y : Int).tmod (p : Int) = ((y % p : Nat) : Int) from rfl, h0]; rfl
      have ha3 : (y : Int) % (p : Int) = 0 := by
        rw [show (y : Int) % (p : Int) = ((y % p : Nat) : Int) from rfl, h0]; rfl
      clear ey h0
      go_wp2
      go_round
      case rel => exact ⟨k + 1, by omega, by go_num⟩
      case measure => simp [intOf] <;> omega
    · obtain rfl : k = xs.length := by omega
      go_wp2
      go_ret
      exact ⟨rfl, B0⟩

theorem fm_field2 (R C : Int) (a : Option Addr) (n k : Nat) (w : World) : (Instr.field 42 (.agg #[.int .i64 R, .int .i64 C, .slice a n k]) 2).run Try.prog w = .ok (.slice a n k) w := by kernel_rfl

theorem own_some {w : World} {base n c : Nat} {a : Option Addr} {xs : List Nat} (h : Own .u64 27 w base (.slice a n c) xs) (hx : 0 < xs.length) : ∃ g, a = some ⟨g, 0, none⟩ := by
  rcases rowOwn_shape h with ⟨_, h0⟩ | ⟨g, cap, e, _⟩
  · omega
  · simp only [Value.slice.injEq] at e
    exact ⟨g, e.1⟩
theorem own_news {w : World} {base n c g : Nat} {xs : List Nat} (h : Own .u64 27 w base (.slice (some ⟨g, 0, none⟩) n c) xs) : ∀ (j : Nat) (u : Value), (vs .u64 xs)[j]? = some u → w.cell? ((⟨g, 0, none⟩ : Addr).add j) = some u := by
  intro j u hj
  have hn : n = xs.length := by
    rcases rowOwn_shape h with ⟨e, _⟩ | ⟨g', cap, e, _⟩
    · simp at e
    · simp only [Value.slice.injEq] at e; exact e.2.1
  subst hn
  have hjl : j < xs.length := by have := (List.getElem?_eq_some_iff.1 hj).1; simpa [vs] using this
  have e : (⟨g, 0, none⟩ : Addr).add j = ⟨g, j, none⟩ := by
    unfold Addr.add; split
    · rename_i h; subst h; rfl
    · simp
  rw [e]
  exact (World.ownsRow.cellAt h j (by omega)).trans hj

section
variable {p n : Nat}
/-- The first powers' places, as words. -/
def powT (A : MT (Zp p) n n) : Nat → Nat → Nat := fun i t => ((A.pow i).e (t / n) (t % n)).val
theorem powT_row (A : MT (Zp p) n n) (N i : Nat) (hN : N = n * n) : ftab N (powT A) ((i + 1) * N) = ftab N (powT A) (i * N) ++ tbv (A.pow i) := by
  rw [Nat.succ_mul, ftab_row]
  congr 1
  unfold tbv ftab powT
  rw [hN]
/-- The powers as rows. -/
def powM (A : MT (Zp p) n n) (d N : Nat) : MT (Zp p) d N := MT.of d N fun i t => (A.pow i).e (t / n) (t % n)
theorem powM_tbv (A : MT (Zp p) n n) (d N : Nat) : ftab N (powT A) (d * N) = tbv (powM A d N) := tbv_of _ _ fun _ _ _ _ => rfl
/-- Where flat stands. -/
def FlR (w wb wr : World) (g d N : Nat) (L : List Nat) : Prop := ∃ ao k, Blk 42 wr (g + 1 + 1) [.int .i64 d, .int .i64 N, .slice ao L.length k] ∧ Blk 42 wr (g + 1) [.int .i64 0, .int .i64 0, .slice none 0 0] ∧
  Own .u64 27 wr (g + 1 + 1 + 1) (.slice ao L.length k) L ∧ Below (g + 1) wb wr ∧ Below w.heap.size w wr
end

set_option maxRecDepth 20000 in
set_option maxHeartbeats 2000000 in
theorem law22_flat (p : Nat) (a : Value) (n d N : Nat) (xs : List Nat) (w : World) (hp : FP p) (hA : Fm w a n n xs) (hn : n ≤ 60) (hx : xs.length = n * n) (hd : d ≤ n) (hN : N = n * n) :
    Calls Try.prog 69 #[a, .int .i64 d, .int .u64 p] w (RetFm p w d N (powM (mx p n n xs) d N)) := by
  obtain ⟨aA, cA, rfl⟩ := hA.agg
  obtain ⟨wb, ew, KA, KR, KT, B0, hsz⟩ := boxes3 w 42 42 42 [.int .i64 n, .int .i64 n, .slice aA xs.length cA] [.int .i64 0, .int .i64 0, .slice none 0 0] [.int .i64 d, .int .i64 N, .slice none 0 0]
  clear hsz
  have HP := Lib.hid hp; clear hp
  have HX := Lib.hid hx; clear hx
  obtain ⟨A, eA⟩ : ∃ A, A = mx p n n xs := ⟨_, rfl⟩
  rw [← eA]
  have EA := Lib.hid eA; clear eA
  have hnn : n * n ≤ 60 * 60 := Nat.mul_le_mul hn hn
  have a1 : IntKind.i64.wrap ((n : Int) * (n : Int)) = (N : Int) := by rw [hN, ← Int.natCast_mul]; exact IntWalk.i64_in _ ⟨by omega, by omega⟩
  have hN2 : N ≤ 3600 := by omega
  have HN := Lib.hid hN
  clear hN hnn
  have HA := Lib.hid hA; clear hA
  have c0 := KA.cell 0
  obtain ⟨T, eT⟩ : ∃ T, T = powT A := ⟨_, rfl⟩
  have hrow := Lib.hid (show ∀ i, ftab N T ((i + 1) * N) = ftab N T (i * N) ++ tbv (A.pow i) from fun i => by rw [eT]; exact powT_row A N i HN.out)
  have hfin := Lib.hid (show ftab N T (d * N) = tbv (powM A d N) by rw [eT]; exact powM_tbv A d N)
  clear eT
  go_enter Try.func69, Try.ntmps69
  go_upto_region 2 with (fail)
  rw [← ew]
  obtain ⟨g, eg⟩ : ∃ g, g = w.heap.size := ⟨_, rfl⟩
  rw [← eg] at KA KR KT ⊢
  have hgw : w.heap.size ≤ g := by omega
  clear ew eg c0
  have hwb : g + 1 + 1 < wb.heap.size := KT.lt
  have st : FlR w wb wb g d N (ftab N T (0 * N)) := ⟨none, 0, by rw [Nat.zero_mul]; exact KT, KR, by rw [Nat.zero_mul]; exact Own.nil _ _ _ _, Below.refl _ _, B0⟩
  have HKA := Lib.hid KA
  clear KT KR B0 KA
  go_wp2
  go_loopw [8] (fun iv wr => ∃ i : Nat, i ≤ d ∧ iv = .int .i64 i ∧ FlR w wb wr g d N (ftab N T (i * N))) (fun iv _ => d - (intOf iv).toNat)
  case atStart => exact ⟨0, by omega, rfl, st⟩
  case round =>
    clear st
    obtain ⟨i, hi, rfl, ao, k, KT, KR, ho, B1, B0⟩ := hrel
    by_cases hid : i < d
    · have KA := HKA.out.below B1 (by omega)
      have hA := HA.out.next B0
      obtain ⟨L, eL⟩ : ∃ L, L = ftab N T (i * N) := ⟨_, rfl⟩
      have hLl := Lib.hid (show L.length ≤ 60 * 3600 by rw [eL, ftab_length]; exact Nat.mul_le_mul (by omega) hN2)
      have hL1 := Lib.hid (show ftab N T ((i + 1) * N) = L ++ tbv (A.pow i) by rw [hrow.out, eL])
      rw [← eL] at KT ho
      clear eL
      have hn0 : 0 < n := by omega
      have hNp : 0 < N := by rw [HN.out]; exact Nat.mul_pos hn0 hn0
      go_upto_region 5 with (fail)
      have bd := Drawn.below (w' := wr.drew) ⟨1, rfl⟩ wr.heap.size
      have hgr : g + 1 + 1 + 1 ≤ wr.heap.size := KT.lt
      replace KT := KT.next bd; replace KR := KR.next bd; replace KA := KA.next bd; replace ho := ho.next bd; replace hA := hA.next bd
      replace B0 := B0.trans (bd.mono B0.size); replace B1 := B1.trans (bd.mono (by omega))
      have hgd : g + 1 + 1 + 1 ≤ wr.drew.heap.size := hgr
      clear bd hgr
      refine startP (S := (fun w' => Below (g + 1 + 1 + 1) wr.drew w')) (by kernel_rfl) _ rfl rfl rfl (by kernel_rfl) (Below.refl _ _) (fun hHeld => ?_)
      refine takeL 0 (v := ?_) rfl (by kernel_rfl) (by kernel_rfl) (by kernel_rfl) (fun _ _ _ h => h) ⟨by rfl, ?_⟩ (by assumption) ?_
      rotate_left
      · intro w hS; go_simp <;> with_reducible rfl
      simp only [Act.put, List.setIfInBounds_toArray, List.set_cons_zero, List.set_cons_succ]
      refine takeL 1 (v := ?_) rfl (by kernel_rfl) (by kernel_rfl) (by kernel_rfl) (fun _ _ _ h => h) ⟨by rfl, ?_⟩ (by assumption) ?_
      rotate_left
      · intro w hS; have fa := (KA.below hS (by omega)).cell; have fb := (KT.below hS (by omega)).cell; have f1 := fa 0; have f2 := fa 1; have f3 := fa 2; have f4 := fb 2; clear fa fb; go_simp <;> with_reducible rfl
      simp only [Act.put, List.setIfInBounds_toArray, List.set_cons_zero, List.set_cons_succ]
      refine takeL 2 (v := ?_) rfl (by kernel_rfl) (by kernel_rfl) (by kernel_rfl) (fun _ _ _ h => h) ⟨by rfl, ?_⟩ (by assumption) ?_
      rotate_left
      · intro w hS; have fa := (KA.below hS (by omega)).cell; have fb := (KT.below hS (by omega)).cell; have f1 := fa 0; have f2 := fa 1; have f3 := fa 2; have f4 := fb 2; clear fa fb; go_simp <;> with_reducible rfl
      simp only [Act.put, List.setIfInBounds_toArray, List.set_cons_zero, List.set_cons_succ]
      refine takeL 3 (v := ?_) rfl (by kernel_rfl) (by kernel_rfl) (by kernel_rfl) (fun _ _ _ h => h) ⟨by rfl, ?_⟩ (by assumption) ?_
      rotate_left
      · intro w hS; go_simp <;> with_reducible rfl
      simp only [Act.put, List.setIfInBounds_toArray, List.set_cons_zero, List.set_cons_succ]
      refine takeL 4 (v := ?_) rfl (by kernel_rfl) (by kernel_rfl) (by kernel_rfl) (fun _ _ _ h => h) ⟨by rfl, ?_⟩ (by assumption) ?_
      rotate_left
      · intro w hS; go_simp <;> with_reducible rfl
      simp only [Act.put, List.setIfInBounds_toArray, List.set_cons_zero, List.set_cons_succ]
      refine oneL 5 rfl (by kernel_rfl) (by rfl) (fun K hK => ?_)
      go_simp
      go_at_call 71
      (with_reducible refine (rf22_Power p _ n i xs _ HP.out (hA.next (Below.refl _ _)) (by omega) HX.out (by omega)).mono ?_); rintro e y1 ⟨a5, k5, rfl, o5, c5⟩; rw [← EA.out] at o5 ⊢; obtain ⟨M, eM⟩ : ∃ M, M = A.pow i := ⟨_, rfl⟩; rw [← eM] at o5 ⊢; have EM := Lib.hid eM; clear eM; obtain ⟨g5, rfl⟩ := own_some o5 (by rw [tbv_length, ← HN.out]; exact hNp)
      refine hK.out _ _ (hHeld.trans (c5.mono (Nat.le_trans hgd hHeld.size))) (fun hHeld => ?_)
      clear hK K
      try simp only [Act.put, List.setIfInBounds_toArray, List.set_cons_zero, List.set_cons_succ]
      refine takeL 6 (v := ?_) rfl (by kernel_rfl) (by kernel_rfl) (by kernel_rfl) (fun _ _ _ h => h) ⟨by rfl, ?_⟩ (by assumption) ?_
      rotate_left
      · intro w hS; have f9 := fm_field2 n n (some ⟨g5, 0, none⟩) (tbv M).length k5 w; go_simp <;> with_reducible rfl
      simp only [Act.put, List.setIfInBounds_toArray, List.set_cons_zero, List.set_cons_succ]
      refine oneL 7 rfl (by kernel_rfl) (by rfl) (fun K hK => ?_)
      refine apW 32 27 8 (.int .u64 0) Try.underlying32 (by kernel_rfl) (by decide) rfl _ _ rfl y1 (g + 1 + 1 + 1) (.slice ao L.length k) L.length (vs .u64 L) (ho.next c5) (Nat.le_trans hgd c5.size) ⟨g5, 0, none⟩ (tbv M).length k5 (vs .u64 (tbv M)) ?_ ?_ ?_ (own_news o5) ?_ ?_ ?_
      · exact rfl
      · exact rfl
      · simp [vs]
      · intro u hu; simp only [vs, List.mem_map] at hu; obtain ⟨q, _, rfl⟩ := hu; rfl
      · have h1 := hLl.out; have h2 := tbv_length M; rw [← HN.out] at h2; omega
      intro v8 wz ho8 hb8 hg8
      obtain ⟨a8, c8, rfl⟩ : ∃ a c, v8 = .slice a (L.length + (tbv M).length) c := by
        rcases rowOwn_shape ho8 with ⟨rfl, e⟩ | ⟨g, c, rfl, _⟩
        · exact ⟨_, _, by rw [e]⟩
        · exact ⟨_, _, rfl⟩
      refine hK.out _ _ (hHeld.trans hb8) (fun hHeld => ?_)
      clear hK K
      try simp only [Act.put, List.setIfInBounds_toArray, List.set_cons_zero, List.set_cons_succ]
      refine takeL 8 (v := ?_) rfl (by kernel_rfl) (by kernel_rfl) (by kernel_rfl) (fun _ _ _ h => h) ⟨by rfl, ?_⟩ (by assumption) ?_
      rotate_left
      · intro w hS; go_simp <;> with_reducible rfl
      simp only [Act.put, List.setIfInBounds_toArray, List.set_cons_zero, List.set_cons_succ]
      refine doneL (by kernel_rfl) ?_ _
      refine lastL rfl (by rfl) ?_
      have K5 := (KT.below hHeld (by omega)).set 2 (.slice a8 (L.length + (tbv M).length) c8)
      have K6 := (KR.below hHeld (by omega)).far (a := ⟨g + 1 + 1, 2, none⟩) (show g + 1 ≠ g + 1 + 1 by omega) (.slice a8 (L.length + (tbv M).length) c8)
      have o8 : Own .u64 27 wz (g + 1 + 1 + 1) (.slice a8 (L.length + (tbv M).length) c8) (L ++ tbv M) := by
        unfold Own; rw [List.length_append]
        have e : vs .u64 (L ++ tbv M) = vs .u64 L ++ vs .u64 (tbv M) := by simp [vs]
        rw [e]; exact ho8
      have o9 := o8.low (a := ⟨g + 1 + 1, 2, none⟩) (show g + 1 + 1 < g + 1 + 1 + 1 by omega) (.slice a8 (L.length + (tbv M).length) c8)
      have B8 := (B1.trans (hHeld.mono (by omega))).setCell (p := ⟨g + 1 + 1, 2, none⟩) (show g + 1 ≤ g + 1 + 1 by omega) (.slice a8 (L.length + (tbv M).length) c8)
      have B9 := (B0.trans (hHeld.mono (by omega))).setCell (p := ⟨g + 1 + 1, 2, none⟩) (show w.heap.size ≤ g + 1 + 1 by omega) (.slice a8 (L.length + (tbv M).length) c8)
      have st := Lib.hid (show FlR w wb (wz.setCell ⟨g + 1 + 1, 2, none⟩ (.slice a8 (L.length + (tbv M).length) c8)) g d N (ftab N T ((i + 1) * N)) by
        rw [hL1.out, ← EM.out]; unfold FlR; rw [List.length_append]; exact ⟨_, _, K5, K6, o9, B8, B9⟩)
      have y0 := (KT.below hHeld (by omega)).cell 2; have y1_ := (KT.below hHeld (by omega)).free 2
      clear KT KR KA ho hA B0 B1 ho8 hb8 hg8 K5 K6 o8 o9 B8 B9 hHeld c5 o5
      go_wp2
      go_roundw
      case rel => exact ⟨i + 1, by omega, by go_num, st.out⟩
      case measure => simp [intOf] <;> omega
    · obtain rfl : i = d := by omega
      rw [hfin.out] at KT ho
      obtain ⟨M, eM⟩ : ∃ M, M = powM A i N := ⟨_, rfl⟩
      rw [← eM] at KT ho
      have EM := Lib.hid eM; clear eM
      have k0 := KT.cell 0; have k1 := KT.cell 1; have k2 := KT.cell 2
      have e0 := KR.cell 0; have e1 := KR.cell 1; have e2 := KR.cell 2
      have f0 := KR.free 0; have f1 := KR.free 1; have f2 := KR.free 2
      have KF := ((KR.set 0 (.int .i64 i)).set 1 (.int .i64 N)).set 2 (.slice ao (tbv M).length k)
      have d0 := KF.cell 0; have d1 := KF.cell 1; have d2 := KF.cell 2
      have hlt : g + 1 < g + 1 + 1 + 1 := by omega
      have hof := ((ho.low (a := ⟨g + 1, 0, none⟩) hlt (.int .i64 i)).low (a := ⟨g + 1, 1, none⟩) hlt (.int .i64 N)).low (a := ⟨g + 1, 2, none⟩) hlt (.slice ao (tbv M).length k)
      have hgw2 : w.heap.size ≤ g + 1 := by omega
      have BF := ((B0.setCell (p := ⟨g + 1, 0, none⟩) hgw2 (.int .i64 i)).setCell (p := ⟨g + 1, 1, none⟩) hgw2 (.int .i64 N)).setCell (p := ⟨g + 1, 2, none⟩) hgw2 (.slice ao (tbv M).length k)
      have FR := Lib.hid (show RetFm p w i N (powM A i N) (.returned (.agg #[.int .i64 i, .int .i64 N, .slice ao (tbv M).length k])) (((wr.setCell ⟨g + 1, 0, none⟩ (.int .i64 i)).setCell ⟨g + 1, 1, none⟩ (.int .i64 N)).setCell ⟨g + 1, 2, none⟩ (.slice ao (tbv M).length k)) by
        rw [← EM.out]; exact ⟨_, _, rfl, hof.mono (by omega), BF⟩)
      clear KF KR KT hof BF ho B0 B1
      go_wp2
      exact bodyPost_ret (v := .agg #[.int .i64 i, .int .i64 N, .slice ao (tbv M).length k]) (by simp [results, Try.results69, go_sem, d0, d1, d2]) rfl FR.out

end Go.Proofs.Ythghdjpjbngllaa
