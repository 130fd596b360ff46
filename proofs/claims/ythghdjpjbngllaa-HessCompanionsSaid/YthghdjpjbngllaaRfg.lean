/- The reference of chapter 22: values, the walk. -/
import Derived.Test.YthghdjpjbngllaaRff
namespace Go.Proofs.Ythghdjpjbngllaa
open Go.RowKit


/-- Where the value stands. -/
def VuR (wb wr : World) (n N gT gE : Nat) (es : List Nat) : Prop := Blk 42 wr gT [.int .i64 n, .int .i64 n, .slice (some ⟨gE, 0, none⟩) N N] ∧ Own .u64 27 wr wb.heap.size (.slice (some ⟨gE, 0, none⟩) N N) es ∧ gT ≠ gE ∧ wb.heap.size ≤ gT ∧ Below wb.heap.size wb wr

set_option maxRecDepth 20000 in
set_option maxHeartbeats 2000000 in
theorem rf22_Value (p : Nat) (v a : Value) (n : Nat) (gs xs : List Nat) (w : World) (hp : FP p) (hv : Sl .u64 w v gs) (hA : Fm w a n n xs) (hn : n ≤ 64) (hx : xs.length = n * n) (hg : gs.length ≤ 1000) :
    Calls Try.prog 54 #[v, a, .int .u64 p] w (RetFm p w n n (pev (pl p gs) (mx p n n xs))) := by
  obtain ⟨aA, cA, rfl⟩ := hA.agg
  obtain ⟨av, bv, ov, cv, rfl, hcv, hz⟩ := hv
  obtain ⟨wb, ew, KA, KR, B0, hsz⟩ := boxes2 w 42 42 [.int .i64 n, .int .i64 n, .slice aA xs.length cA] [.int .i64 0, .int .i64 0, .slice none 0 0]
  clear hsz
  have HP := Lib.hid hp; clear hp
  replace hA := hA.next B0
  replace hz := hz.below B0 (Nat.le_refl _)
  have HX := Lib.hid hx; clear hx
  obtain ⟨A, eA⟩ : ∃ A, A = mx p n n xs := ⟨_, rfl⟩
  rw [← eA]
  have EA := Lib.hid eA; clear eA
  obtain ⟨N, eN⟩ : ∃ N, N = n * n := ⟨_, rfl⟩
  have hnn : n * n ≤ 64 * 64 := Nat.mul_le_mul hn hn
  have a1 : IntKind.i64.wrap ((n : Int) * (n : Int)) = (N : Int) := by rw [eN, ← Int.natCast_mul]; exact IntWalk.i64_in _ ⟨by omega, by omega⟩
  have hN : N ≤ 4096 := by omega
  have EN := Lib.hid eN; clear eN hnn
  go_enter Try.func54, Try.ntmps54
  go_upto_region 1 with (fail)
  rw [← ew]
  obtain ⟨g, eg⟩ : ∃ g, g = w.heap.size := ⟨_, rfl⟩
  rw [← eg] at KA KR ⊢
  have hgw : w.heap.size ≤ g := by omega
  clear ew eg
  go_cut [7] (fun v7 wx => ∃ gT gE, v7 = .pointer (some ⟨gT, 0, none⟩) ∧ VuR wb wx n N gT gE (List.replicate N 0))
  case first =>
    have bd := Drawn.below (w' := wb.drew) ⟨1, rfl⟩ wb.heap.size
    replace KA := KA.next bd
    refine startL (S := (fun w' => Below (wb.drew).heap.size (wb.drew) w')) (by kernel_rfl) (Below.refl _ _) (fun hHeld => ?_)
    refine takeL 0 (v := ?_) rfl (by kernel_rfl) (by kernel_rfl) (by kernel_rfl) (fun _ _ _ h => h) ⟨by rfl, ?_⟩ (by assumption) ?_
    rotate_left
    · intro w hS; go_simp <;> with_reducible rfl
    simp only [Act.put, List.setIfInBounds_toArray, List.set_cons_zero, List.set_cons_succ]
    refine takeL 1 (v := ?_) rfl (by kernel_rfl) (by kernel_rfl) (by kernel_rfl) (fun _ _ _ h => h) ⟨by rfl, ?_⟩ (by assumption) ?_
    rotate_left
    · intro w hS; have fa := KA.at hS; have f1 := fa 0; clear fa; go_simp <;> with_reducible rfl
    simp only [Act.put, List.setIfInBounds_toArray, List.set_cons_zero, List.set_cons_succ]
    refine takeL 2 (v := ?_) rfl (by kernel_rfl) (by kernel_rfl) (by kernel_rfl) (fun _ _ _ h => h) ⟨by rfl, ?_⟩ (by assumption) ?_
    rotate_left
    · intro w hS; go_simp <;> with_reducible rfl
    simp only [Act.put, List.setIfInBounds_toArray, List.set_cons_zero, List.set_cons_succ]
    refine takeL 3 (v := ?_) rfl (by kernel_rfl) (by kernel_rfl) (by kernel_rfl) (fun _ _ _ h => h) ⟨by rfl, ?_⟩ (by assumption) ?_
    rotate_left
    · intro w hS; have fa := KA.at hS; have f1 := fa 0; clear fa; go_simp <;> with_reducible rfl
    simp only [Act.put, List.setIfInBounds_toArray, List.set_cons_zero, List.set_cons_succ]
    refine takeL 4 (v := ?_) rfl (by kernel_rfl) (by kernel_rfl) (by kernel_rfl) (fun _ _ _ h => h) ⟨by rfl, ?_⟩ (by assumption) ?_
    rotate_left
    · intro w hS; go_simp <;> with_reducible rfl
    simp only [Act.put, List.setIfInBounds_toArray, List.set_cons_zero, List.set_cons_succ]
    refine takeL 5 (v := ?_) rfl (by kernel_rfl) (by kernel_rfl) (by kernel_rfl) (fun _ _ _ h => h) ⟨by rfl, ?_⟩ (by assumption) ?_
    rotate_left
    · intro w hS; have fa := KA.at hS; have f1 := fa 0; clear fa; go_simp <;> with_reducible rfl
    simp only [Act.put, List.setIfInBounds_toArray, List.set_cons_zero, List.set_cons_succ]
    refine takeL 6 (v := ?_) rfl (by kernel_rfl) (by kernel_rfl) (by kernel_rfl) (fun _ _ _ h => h) ⟨by rfl, ?_⟩ (by assumption) ?_
    rotate_left
    · intro w hS; go_simp <;> with_reducible rfl
    simp only [Act.put, List.setIfInBounds_toArray, List.set_cons_zero, List.set_cons_succ]
    refine takeL 7 (v := ?_) rfl (by kernel_rfl) (by kernel_rfl) (by kernel_rfl) (fun _ _ _ h => h) ⟨by rfl, ?_⟩ (by assumption) ?_
    rotate_left
    · intro w hS; have fa := KA.at hS; have f1 := fa 0; clear fa; go_simp <;> with_reducible rfl
    simp only [Act.put, List.setIfInBounds_toArray, List.set_cons_zero, List.set_cons_succ]
    refine takeL 8 (v := ?_) rfl (by kernel_rfl) (by kernel_rfl) (by kernel_rfl) (fun _ _ _ h => h) ⟨by rfl, ?_⟩ (by assumption) ?_
    rotate_left
    · intro w hS; go_simp <;> with_reducible rfl
    simp only [Act.put, List.setIfInBounds_toArray, List.set_cons_zero, List.set_cons_succ]
    refine twoL 9 11 rfl rfl (by kernel_rfl) (by rfl) (by rfl) (fun K hK => ?_) (fun K hK => ?_)
    · refine mk1 .u64 32 27 8 Try.underlying32 (by kernel_rfl) (by decide) _ _ rfl .i64 .i64 N (by omega) _ _ _ rfl rfl rfl rfl ?_
      intro wE hq hbE
      refine hK.out _ _ (hHeld.trans (hbE.mono hHeld.size)) (fun hHeld => ?_)
      clear hK K
      try simp only [Act.put, List.setIfInBounds_toArray, List.set_cons_zero, List.set_cons_succ]
      refine takeL 10 (v := ?_) rfl (by kernel_rfl) (by kernel_rfl) (by kernel_rfl) (fun _ _ _ h => h) ⟨by rfl, ?_⟩ (by assumption) ?_
      rotate_left
      · intro w hS; go_simp <;> with_reducible rfl
      simp only [Act.put, List.setIfInBounds_toArray, List.set_cons_zero, List.set_cons_succ]
      refine oneL 11 rfl (by kernel_rfl) (by rfl) (fun K hK => ?_)
      go_simp
      have hd9 := hHeld
      have KZ := Blk.lit wE 42 [.int .i64 0, .int .i64 0, .slice none 0 0]
      refine hK.out _ _ (hHeld.alloc hHeld.size _) (fun hHeld => ?_)
      clear hK K
      try simp only [Act.put, List.setIfInBounds_toArray, List.set_cons_zero, List.set_cons_succ]
      refine oneL 12 rfl (by kernel_rfl) (by rfl) (fun K hK => ?_)
      have y0 := KZ.cell 0; have y1 := KZ.cell 1; have y2 := KZ.cell 2; have z0 := KZ.free 0; have z1 := KZ.free 1; have z2 := KZ.free 2
      go_simp
      refine hK.out _ _ (hd9.alloc hd9.size _) (fun hHeld => ?_)
      clear hK K
      try simp only [Act.put, List.setIfInBounds_toArray, List.set_cons_zero, List.set_cons_succ]
      refine doneL (by kernel_rfl) ?_ _
      have KT := Blk.lit wE 42 [.int .i64 n, .int .i64 n, .slice (some ⟨wb.heap.size, 0, none⟩) N N]
      have b15 := (Below.refl wE.heap.size wE).alloc (Nat.le_refl _) (.cells #[.int .i64 n, .int .i64 n, .slice (some ⟨wb.heap.size, 0, none⟩) N N] 42)
      have hlt : wb.heap.size < wE.heap.size := Own.headlt hq
      have st := Lib.hid (show VuR wb (wE.alloc (.cells #[.int .i64 n, .int .i64 n, .slice (some ⟨wb.heap.size, 0, none⟩) N N] 42)) n N wE.heap.size wb.heap.size (List.replicate N 0) from ⟨KT, hq.next b15, Nat.ne_of_gt hlt, Nat.le_of_lt hlt, bd.trans hHeld⟩)
      clear KT b15 hlt hHeld hq hbE KZ hd9 bd KA
      go_wp2_with fail
      go_meet
      exact ⟨_, _, rfl, st.out⟩
    · go_simp
      have hd9 := hHeld
      have KZ := Blk.lit wb.drew 42 [.int .i64 0, .int .i64 0, .slice none 0 0]
      refine hK.out _ _ (hHeld.alloc hHeld.size _) (fun hHeld => ?_)
      clear hK K
      try simp only [Act.put, List.setIfInBounds_toArray, List.set_cons_zero, List.set_cons_succ]
      refine oneL 9 rfl (by kernel_rfl) (by rfl) (fun K hK => ?_)
      refine mk1 .u64 32 27 8 Try.underlying32 (by kernel_rfl) (by decide) _ _ rfl .i64 .i64 N (by omega) _ _ _ rfl rfl rfl rfl ?_
      intro wE hq hbE
      have KZ2 : Blk 42 wE wb.heap.size [.int .i64 0, .int .i64 0, .slice none 0 0] := KZ.next hbE
      have y0 := KZ2.cell 0; have y1 := KZ2.cell 1; have y2 := KZ2.cell 2; have z0 := KZ2.free 0; have z1 := KZ2.free 1; have z2 := KZ2.free 2
      refine hK.out _ _ (hHeld.trans (hbE.mono hHeld.size)) (fun hHeld => ?_)
      clear hK K
      try simp only [Act.put, List.setIfInBounds_toArray, List.set_cons_zero, List.set_cons_succ]
      refine takeL 10 (v := ?_) rfl (by kernel_rfl) (by kernel_rfl) (by kernel_rfl) (fun _ _ _ h => h) ⟨by rfl, ?_⟩ (by assumption) ?_
      rotate_left
      · intro w hS; go_simp <;> with_reducible rfl
      simp only [Act.put, List.setIfInBounds_toArray, List.set_cons_zero, List.set_cons_succ]
      refine oneL 12 rfl (by kernel_rfl) (by rfl) (fun K hK => ?_)
      go_simp
      have he9 := hHeld
      refine hK.out _ _ (((hHeld.setCell (p := ⟨wb.heap.size, 0, none⟩) (Nat.le_refl _) (.int .i64 n)).setCell (p := ⟨wb.heap.size, 1, none⟩) (Nat.le_refl _) (.int .i64 n)).setCell (p := ⟨wb.heap.size, 2, none⟩) (Nat.le_refl _) (.slice (some ⟨wb.heap.size + 1, 0, none⟩) N N)) (fun hHeld => ?_)
      clear hK K
      try simp only [Act.put, List.setIfInBounds_toArray, List.set_cons_zero, List.set_cons_succ]
      refine doneL (by kernel_rfl) ?_ _
      have KT := ((KZ2.set 0 (.int .i64 n)).set 1 (.int .i64 n)).set 2 (.slice (some ⟨wb.heap.size + 1, 0, none⟩) N N)
      have hsz : (wb.alloc (.cells #[.int .i64 0, .int .i64 0, .slice none 0 0] 42)).drew.heap.size = wb.heap.size + 1 := by show (wb.alloc (.cells #[.int .i64 0, .int .i64 0, .slice none 0 0] 42)).heap.size = wb.heap.size + 1; simp
      rw [hsz] at hq
      have o15 := ((hq.low (a := ⟨wb.heap.size, 0, none⟩) (Nat.lt_succ_self _) (.int .i64 n)).low (a := ⟨wb.heap.size, 1, none⟩) (Nat.lt_succ_self _) (.int .i64 n)).low (a := ⟨wb.heap.size, 2, none⟩) (Nat.lt_succ_self _) (.slice (some ⟨wb.heap.size + 1, 0, none⟩) N N)
      have st := Lib.hid (show VuR wb (((wE.setCell ⟨wb.heap.size, 0, none⟩ (.int .i64 n)).setCell ⟨wb.heap.size, 1, none⟩ (.int .i64 n)).setCell ⟨wb.heap.size, 2, none⟩ (.slice (some ⟨wb.heap.size + 1, 0, none⟩) N N)) n N wb.heap.size (wb.heap.size + 1) (List.replicate N 0) from ⟨KT, o15.mono (Nat.le_succ _), by omega, Nat.le_refl _, bd.trans hHeld⟩)
      clear KT hsz o15 hHeld hq hbE KZ KZ2 hd9 he9 bd KA y0 y1 y2 z0 z1 z2
      go_wp2_with fail
      go_meet
      exact ⟨_, _, rfl, st.out⟩
  case rest =>
    obtain ⟨gT, gE, rfl, st⟩ := hcut
    have HKA := Lib.hid KA; have HKR := Lib.hid KR; have HA := Lib.hid hA; have HZ := Lib.hid hz; have HB0 := Lib.hid B0
    have hgb : g + 1 < wb.heap.size := KR.lt
    clear KA KR hA hz B0
    have hz0 : List.replicate N 0 = tbv (pev (pl p (gs.take 0)) A) := by
      rw [List.take_zero, pl_nil, pev_zero, EN.out]
      refine List.ext_getElem (by rw [List.length_replicate, tbv_length]) fun t h1 h2 => ?_
      have h3 := tbv_at (p := p) (n := n) (0 : MT (Zp p) n n) (t := t) (by rwa [tbv_length] at h2)
      simp only [List.getD, List.getElem?_eq_getElem h2, Option.getD_some] at h3
      rw [h3, List.getElem_replicate]
      show 0 = (0 : Zp p).val
      rw [Zp.zero_val]
    rw [hz0] at st
    clear hz0
    go_wp2
    go_loopw [8] (fun iv wr => ∃ i : Nat, i ≤ gs.length ∧ iv = .int .i64 i ∧ VuR wb wr n N gT gE (tbv (pev (pl p (gs.take i)) A))) (fun iv _ => gs.length - (intOf iv).toNat)
    case atStart => exact ⟨0, by omega, rfl, st⟩
    case round =>
      clear st
      obtain ⟨i, hi, rfl, st⟩ := hrel
      by_cases hil : i < gs.length
      · have B1 := st.2.2.2.2
        have KA := HKA.out.next B1
        have c0 := KA.cell 0; have c1 := KA.cell 1; have c2 := KA.cell 2
        have hb0 := B1.size
        go_wp2_with fail
        refine (rf22_Power p _ n i xs _ HP.out (HA.out.next B1) hn HX.out (by omega)).mono ?_; rintro e w5 ⟨aW, kW, rfl, oW, b5⟩
        clear c0 c1 c2 KA
        rw [← EA.out] at oW ⊢
        obtain ⟨W, eW⟩ : ∃ W, W = A.pow i := ⟨_, rfl⟩
        rw [← eW] at oW ⊢
        have EW := Lib.hid eW; clear eW
        have hlW : (tbv W).length = N := by rw [tbv_length, EN.out]
        rw [hlW] at oW ⊢
        clear hlW
        obtain ⟨w6, ew6, K9, b6, -⟩ := boxes1 w5 42 [.int .i64 n, .int .i64 n, .slice aW N kW]
        go_upto_region 6 with (fail)
        rw [← ew6]
        obtain ⟨gW, egW⟩ : ∃ g, g = w5.heap.size := ⟨_, rfl⟩
        rw [← egW] at K9 ⊢
        clear ew6 egW
        have b56 := b5.trans (b6.mono b5.size)
        have hEb : gE < wr.heap.size := Own.headlt st.2.1
        obtain ⟨bW, ebW⟩ : ∃ b, b = wr.heap.size := ⟨_, rfl⟩
        replace oW := oW.next b6
        rw [← ebW] at oW hEb
        have st : VuR wb w6 n N gT gE (tbv (pev (pl p (gs.take i)) A)) := ⟨st.1.next b56, st.2.1.next b56, st.2.2.1, st.2.2.2.1, st.2.2.2.2.trans (b56.mono hb0)⟩
        clear ebW b5 b6 b56 B1 hb0
        have hv := VaL.start gs A i
        obtain ⟨es, ees⟩ : ∃ es, es = tbv (pev (pl p (gs.take i)) A) := ⟨_, rfl⟩
        rw [← ees] at st hv
        clear ees
        go_wp2
        go_loopw [10] (fun kv wr => ∃ (k : Nat) (es : List Nat), k ≤ N ∧ kv = .int .i64 k ∧ VaL gs A i k es ∧ VuR wb wr n N gT gE es ∧ Blk 42 wr gW [.int .i64 n, .int .i64 n, .slice aW N kW] ∧ Own .u64 27 wr bW (.slice aW N kW) (tbv W)) (fun kv _ => N - (intOf kv).toNat)
        case atStart => exact ⟨0, es, by omega, rfl, hv, st, K9, oW⟩
        case round =>
          clear st hv K9 oW es
          obtain ⟨k, es, hk, rfl, hv, st, K9, oW⟩ := hrel
          have q2 := K9.cell 2
          by_cases hkN : k < N
          · have HHV := Lib.hid hv; clear hv
            have hz := HZ.out.below st.2.2.2.2 (Nat.le_refl _)
            obtain rfl := hz.ao (by intro h; subst h; simp at hil)
            have qx := hz.cell _ hil
            have lx : bv < wr.heap.size := hz.lt (by intro h; subst h; simp at hil)
            obtain ⟨x, ex⟩ : ∃ x, x = gs.getD i 0 := ⟨_, rfl⟩
            rw [← ex] at qx
            have EX := Lib.hid ex; clear ex hz
            have hlW : k < (tbv W).length := by rw [tbv_length, ← EN.out]; exact hkN
            obtain ⟨aw, bw, ow, cw, ew, lw, kw⟩ := oW.sl
            simp only [Value.slice.injEq] at ew
            obtain ⟨rfl, -, rfl⟩ := ew
            obtain rfl := kw.ao (by intro h; rw [h] at hlW; simp at hlW)
            have qy := kw.cell k hlW
            have ly : bw < wr.heap.size := kw.lt (by intro h; rw [h] at hlW; simp at hlW)
            obtain ⟨y, ey⟩ : ∃ y, y = (tbv W).getD k 0 := ⟨_, rfl⟩
            rw [← ey] at qy
            have EY := Lib.hid ey; clear ey kw lw hlW
            go_upto_region 9 with (fail)
            go_cut [11] (fun v11 wx => ∃ zs : List Nat, Sl .u64 wx v11 zs ∧ Nrm p zs ∧ pl p zs = pl p [x] * pl p [y] ∧ zs.length ≤ 2 ∧ Below wr.heap.size wr wx)
            case first =>
              clear hk oW
              have bd := Drawn.below (w' := wr.drew) ⟨1, rfl⟩ wr.heap.size
              replace K9 := K9.next bd
              replace qx := (bd.cell (p := ⟨bv, ov + i, none⟩) lx).trans qx
              replace qy := (bd.cell (p := ⟨bw, ow + k, none⟩) ly).trans qy
              replace lx : bv < wr.drew.heap.size := lx
              replace ly : bw < wr.drew.heap.size := ly
              clear st q2
              refine startL (S := (fun w' => Below (wr.drew).heap.size (wr.drew) w')) (by kernel_rfl) (Below.refl _ _) (fun hHeld => ?_)
              refine takeL 0 (v := ?_) rfl (by kernel_rfl) (by kernel_rfl) (by kernel_rfl) (fun _ _ _ h => h) ⟨by rfl, ?_⟩ (by assumption) ?_
              rotate_left
              · intro w hS; go_simp <;> with_reducible rfl
              simp only [Act.put, List.setIfInBounds_toArray, List.set_cons_zero, List.set_cons_succ]
              refine takeL 1 (v := ?_) rfl (by kernel_rfl) (by kernel_rfl) (by kernel_rfl) (fun _ _ _ h => h) ⟨by rfl, ?_⟩ (by assumption) ?_
              rotate_left
              · intro w hS; go_simp <;> with_reducible rfl
              simp only [Act.put, List.setIfInBounds_toArray, List.set_cons_zero, List.set_cons_succ]
              refine takeL 2 (v := ?_) rfl (by kernel_rfl) (by kernel_rfl) (by kernel_rfl) (fun _ _ _ h => h) ⟨by rfl, ?_⟩ (by assumption) ?_
              rotate_left
              · intro w hS; go_simp <;> with_reducible rfl
              simp only [Act.put, List.setIfInBounds_toArray, List.set_cons_zero, List.set_cons_succ]
              refine takeL 3 (v := ?_) rfl (by kernel_rfl) (by kernel_rfl) (by kernel_rfl) (fun _ _ _ h => h) ⟨by rfl, ?_⟩ (by assumption) ?_
              rotate_left
              · intro w hS; have fb := K9.at hS; have f1 := fb 0; have f2 := fb 1; have f3 := fb 2; clear fb; have f5 := (hS.cell (p := ⟨bv, ov + i, none⟩) lx).trans qx; have f6 := (hS.cell (p := ⟨bw, ow + k, none⟩) ly).trans qy; go_simp <;> with_reducible rfl
              simp only [Act.put, List.setIfInBounds_toArray, List.set_cons_zero, List.set_cons_succ]
              refine takeL 5 (v := ?_) rfl (by kernel_rfl) (by kernel_rfl) (by kernel_rfl) (fun _ _ _ h => h) ⟨by rfl, ?_⟩ (by assumption) ?_
              rotate_left
              · intro w hS; go_simp <;> with_reducible rfl
              simp only [Act.put, List.setIfInBounds_toArray, List.set_cons_zero, List.set_cons_succ]
              refine takeL 6 (v := ?_) rfl (by kernel_rfl) (by kernel_rfl) (by kernel_rfl) (fun _ _ _ h => h) ⟨by rfl, ?_⟩ (by assumption) ?_
              rotate_left
              · intro w hS; have fb := K9.at hS; have f1 := fb 0; have f2 := fb 1; have f3 := fb 2; clear fb; have f5 := (hS.cell (p := ⟨bv, ov + i, none⟩) lx).trans qx; have f6 := (hS.cell (p := ⟨bw, ow + k, none⟩) ly).trans qy; go_simp <;> with_reducible rfl
              simp only [Act.put, List.setIfInBounds_toArray, List.set_cons_zero, List.set_cons_succ]
              refine takeL 7 (v := ?_) rfl (by kernel_rfl) (by kernel_rfl) (by kernel_rfl) (fun _ _ _ h => h) ⟨by rfl, ?_⟩ (by assumption) ?_
              rotate_left
              · intro w hS; go_simp <;> with_reducible rfl
              simp only [Act.put, List.setIfInBounds_toArray, List.set_cons_zero, List.set_cons_succ]
              refine takeL 8 (v := ?_) rfl (by kernel_rfl) (by kernel_rfl) (by kernel_rfl) (fun _ _ _ h => h) ⟨by rfl, ?_⟩ (by assumption) ?_
              rotate_left
              · intro w hS; go_simp <;> with_reducible rfl
              simp only [Act.put, List.setIfInBounds_toArray, List.set_cons_zero, List.set_cons_succ]
              refine takeL 9 (v := ?_) rfl (by kernel_rfl) (by kernel_rfl) (by kernel_rfl) (fun _ _ _ h => h) ⟨by rfl, ?_⟩ (by assumption) ?_
              rotate_left
              · intro w hS; have fb := K9.at hS; have f1 := fb 0; have f2 := fb 1; have f3 := fb 2; clear fb; have f5 := (hS.cell (p := ⟨bv, ov + i, none⟩) lx).trans qx; have f6 := (hS.cell (p := ⟨bw, ow + k, none⟩) ly).trans qy; go_simp <;> with_reducible rfl
              simp only [Act.put, List.setIfInBounds_toArray, List.set_cons_zero, List.set_cons_succ]
              refine takeL 11 (v := ?_) rfl (by kernel_rfl) (by kernel_rfl) (by kernel_rfl) (fun _ _ _ h => h) ⟨by rfl, ?_⟩ (by assumption) ?_
              rotate_left
              · intro w hS; go_simp <;> with_reducible rfl
              simp only [Act.put, List.setIfInBounds_toArray, List.set_cons_zero, List.set_cons_succ]
              refine twoL 4 10 rfl rfl (by kernel_rfl) (by rfl) (by rfl) (fun K hK => ?_) (fun K hK => ?_)
              · go_simp
                have s1 : Sl .u64 (wr.drew.alloc (.cells #[.int .u64 x] 27)) (.slice (some ⟨wr.heap.size, 0, none⟩) 1 1) [x] := (own_lit1 wr.drew x).sl
                refine hK.out _ _ (hHeld.alloc hHeld.size _) (fun hHeld => ?_)
                clear hK K
                try simp only [Act.put, List.setIfInBounds_toArray, List.set_cons_zero, List.set_cons_succ]
                refine oneL 10 rfl (by kernel_rfl) (by rfl) (fun K hK => ?_)
                go_simp
                have s2 : Sl .u64 ((wr.drew.alloc (.cells #[.int .u64 x] 27)).alloc (.cells #[.int .u64 y] 27)) (.slice (some ⟨wr.heap.size + 1, 0, none⟩) 1 1) [y] := by have h := (own_lit1 (wr.drew.alloc (.cells #[.int .u64 x] 27)) y).sl; simpa using h
                replace s1 := s1.next ((Below.refl _ _).alloc (Nat.le_refl _) (.cells #[.int .u64 y] 27))
                refine hK.out _ _ (hHeld.alloc hHeld.size _) (fun hHeld => ?_)
                clear hK K
                try simp only [Act.put, List.setIfInBounds_toArray, List.set_cons_zero, List.set_cons_succ]
                refine oneL 12 rfl (by kernel_rfl) (by rfl) (fun K hK => ?_)
                go_simp
                go_at_call 108
                (refine (ref9_Mul p _ _ [x] [y] _ HP.out s1 s2 (by simp) (by simp)).mono ?_); rintro e w5 ⟨r5, zs, rfl, o5, n5, v5, l5, b5⟩
                refine hK.out _ _ (hHeld.trans (b5.mono hHeld.size)) (fun hHeld => ?_)
                clear hK K
                try simp only [Act.put, List.setIfInBounds_toArray, List.set_cons_zero, List.set_cons_succ]
                refine takeL 13 (v := ?_) rfl (by kernel_rfl) (by kernel_rfl) (by kernel_rfl) (fun _ _ _ h => h) ⟨by rfl, ?_⟩ (by assumption) ?_
                rotate_left
                · intro w hS; go_simp <;> with_reducible rfl
                simp only [Act.put, List.setIfInBounds_toArray, List.set_cons_zero, List.set_cons_succ]
                refine doneL (by kernel_rfl) ?_ _
                replace hHeld : Below wr.heap.size wr _ := (Drawn.below (w' := wr.drew) ⟨1, rfl⟩ wr.heap.size).trans hHeld
                have HN5 := Lib.hid (show Nrm p zs ∧ pl p zs = pl p [x] * pl p [y] ∧ zs.length ≤ 2 from ⟨n5, v5, l5⟩)
                have o6 := o5.sl
                clear n5 v5 l5 s1 s2 o5 b5
                go_wp2_with fail
                go_meet
                exact ⟨zs, o6, HN5.out.1, HN5.out.2.1, HN5.out.2.2, hHeld⟩
              · go_simp
                have s1 : Sl .u64 (wr.drew.alloc (.cells #[.int .u64 y] 27)) (.slice (some ⟨wr.heap.size, 0, none⟩) 1 1) [y] := (own_lit1 wr.drew y).sl
                refine hK.out _ _ (hHeld.alloc hHeld.size _) (fun hHeld => ?_)
                clear hK K
                try simp only [Act.put, List.setIfInBounds_toArray, List.set_cons_zero, List.set_cons_succ]
                refine oneL 4 rfl (by kernel_rfl) (by rfl) (fun K hK => ?_)
                go_simp
                have s2 : Sl .u64 ((wr.drew.alloc (.cells #[.int .u64 y] 27)).alloc (.cells #[.int .u64 x] 27)) (.slice (some ⟨wr.heap.size + 1, 0, none⟩) 1 1) [x] := by have h := (own_lit1 (wr.drew.alloc (.cells #[.int .u64 y] 27)) x).sl; simpa using h
                replace s1 := s1.next ((Below.refl _ _).alloc (Nat.le_refl _) (.cells #[.int .u64 x] 27))
                refine hK.out _ _ (hHeld.alloc hHeld.size _) (fun hHeld => ?_)
                clear hK K
                try simp only [Act.put, List.setIfInBounds_toArray, List.set_cons_zero, List.set_cons_succ]
                refine oneL 12 rfl (by kernel_rfl) (by rfl) (fun K hK => ?_)
                go_simp
                go_at_call 108
                (refine (ref9_Mul p _ _ [x] [y] _ HP.out s2 s1 (by simp) (by simp)).mono ?_); rintro e w5 ⟨r5, zs, rfl, o5, n5, v5, l5, b5⟩
                refine hK.out _ _ (hHeld.trans (b5.mono hHeld.size)) (fun hHeld => ?_)
                clear hK K
                try simp only [Act.put, List.setIfInBounds_toArray, List.set_cons_zero, List.set_cons_succ]
                refine takeL 13 (v := ?_) rfl (by kernel_rfl) (by kernel_rfl) (by kernel_rfl) (fun _ _ _ h => h) ⟨by rfl, ?_⟩ (by assumption) ?_
                rotate_left
                · intro w hS; go_simp <;> with_reducible rfl
                simp only [Act.put, List.setIfInBounds_toArray, List.set_cons_zero, List.set_cons_succ]
                refine doneL (by kernel_rfl) ?_ _
                replace hHeld : Below wr.heap.size wr _ := (Drawn.below (w' := wr.drew) ⟨1, rfl⟩ wr.heap.size).trans hHeld
                have HN5 := Lib.hid (show Nrm p zs ∧ pl p zs = pl p [x] * pl p [y] ∧ zs.length ≤ 2 from ⟨n5, v5, l5⟩)
                have o6 := o5.sl
                clear n5 v5 l5 s1 s2 o5 b5
                go_wp2_with fail
                go_meet
                exact ⟨zs, o6, HN5.out.1, HN5.out.2.1, HN5.out.2.2, hHeld⟩
            case rest =>
              obtain ⟨zs, sz, nz, vz, lz, bx⟩ := hcut
              clear qx qy lx ly q2
              obtain ⟨az, bz, oz, cz, rfl, lcz, kz⟩ := sz
              have NZ := Lib.hid nz; have VZ := Lib.hid vz; clear nz vz
              by_cases hzl : 0 < zs.length
              · obtain rfl := kz.ao (by intro h; subst h; simp at hzl)
                have qz : _ = _ := kz.cell 0 hzl
                rw [Nat.add_zero] at qz
                have lz0 : bz < wc.heap.size := kz.lt (by intro h; subst h; simp at hzl)
                obtain ⟨z, ez⟩ : ∃ z, z = zs.getD 0 0 := ⟨_, rfl⟩
                rw [← ez] at qz
                have EZ := Lib.hid ez; clear ez kz
                obtain ⟨KT, ho, hne, hgT, B1⟩ := st
                replace KT := KT.next bx; replace ho := ho.next bx; replace K9 := K9.next bx; replace oW := oW.next bx
                replace B1 := B1.trans (bx.mono B1.size)
                clear bx
                go_upto_region 11 with (fail)
                have bd := Drawn.below (w' := wc.drew) ⟨1, rfl⟩ wc.heap.size
                replace KT := KT.next bd; replace ho := ho.next bd; replace K9 := K9.next bd; replace oW := oW.next bd
                replace B1 := B1.trans (bd.mono B1.size)
                replace qz := (bd.cell (p := ⟨bz, oz, none⟩) lz0).trans qz
                replace lz0 : bz < wc.drew.heap.size := lz0
                clear bd
                have hle : k < es.length := by rw [HHV.out.1, ← EN.out]; exact hkN
                have qe := ho.cellAt k hle
                have fe := ho.frozenAt k
                have le0 : gE < wc.drew.heap.size := Own.headlt ho
                obtain ⟨u, eu⟩ : ∃ u, u = es.getD k 0 := ⟨_, rfl⟩
                rw [← eu] at qe
                obtain ⟨c, o, ac1, ao1, ao2, hst⟩ : ∃ c o : Nat, IntKind.u64.wrap ((u : Int) + (z : Int)) = (c : Int) ∧ (c : Int).tmod (p : Int) = (o : Int) ∧ (c : Int) % (p : Int) = (o : Int) ∧ VaL gs A i (k + 1) (es.set k o) := val_round HP.out HHV.out (by rw [← EN.out]; exact hkN) EX.out (by rw [← EW.out]; exact EY.out) NZ.out VZ.out hzl eu EZ.out
                have HST := Lib.hid hst; clear hst eu
                have hz1 : ¬ p = 0 := by have := HP.out.1; omega
                have hz2 : ¬ (p : Int) = 0 := by omega
                have hz0 : ((p : Int) == 0) = false := by simpa using hz1
                refine startP (S := (fun w' => Below (wc.drew).heap.size (wc.drew) w')) (by kernel_rfl) _ rfl rfl rfl (by kernel_rfl) (Below.refl _ _) (fun hHeld => ?_)
                refine takeL 0 (v := ?_) rfl (by kernel_rfl) (by kernel_rfl) (by kernel_rfl) (fun _ _ _ h => h) ⟨by rfl, ?_⟩ (by assumption) ?_
                rotate_left
                · intro w hS; go_simp <;> with_reducible rfl
                simp only [Act.put, List.setIfInBounds_toArray, List.set_cons_zero, List.set_cons_succ]
                refine takeL 1 (v := ?_) rfl (by kernel_rfl) (by kernel_rfl) (by kernel_rfl) (fun _ _ _ h => h) ⟨by rfl, ?_⟩ (by assumption) ?_
                rotate_left
                · intro w hS; have fb := KT.at hS; have f1 := fb 2; clear fb; have f5 := (hS.cell (p := ⟨gE, k, none⟩) le0).trans qe; have f6 := (hS.cell (p := ⟨bz, oz, none⟩) lz0).trans qz; go_simp <;> with_reducible rfl
                simp only [Act.put, List.setIfInBounds_toArray, List.set_cons_zero, List.set_cons_succ]
                refine takeL 2 (v := ?_) rfl (by kernel_rfl) (by kernel_rfl) (by kernel_rfl) (fun _ _ _ h => h) ⟨by rfl, ?_⟩ (by assumption) ?_
                rotate_left
                · intro w hS; go_simp <;> with_reducible rfl
                simp only [Act.put, List.setIfInBounds_toArray, List.set_cons_zero, List.set_cons_succ]
                refine takeL 3 (v := ?_) rfl (by kernel_rfl) (by kernel_rfl) (by kernel_rfl) (fun _ _ _ h => h) ⟨by rfl, ?_⟩ (by assumption) ?_
                rotate_left
                · intro w hS; go_simp <;> with_reducible rfl
                simp only [Act.put, List.setIfInBounds_toArray, List.set_cons_zero, List.set_cons_succ]
                refine takeL 4 (v := ?_) rfl (by kernel_rfl) (by kernel_rfl) (by kernel_rfl) (fun _ _ _ h => h) ⟨by rfl, ?_⟩ (by assumption) ?_
                rotate_left
                · intro w hS; have fb := KT.at hS; have f1 := fb 2; clear fb; have f5 := (hS.cell (p := ⟨gE, k, none⟩) le0).trans qe; have f6 := (hS.cell (p := ⟨bz, oz, none⟩) lz0).trans qz; go_simp <;> with_reducible rfl
                simp only [Act.put, List.setIfInBounds_toArray, List.set_cons_zero, List.set_cons_succ]
                refine takeL 5 (v := ?_) rfl (by kernel_rfl) (by kernel_rfl) (by kernel_rfl) (fun _ _ _ h => h) ⟨by rfl, ?_⟩ (by assumption) ?_
                rotate_left
                · intro w hS; go_simp <;> with_reducible rfl
                simp only [Act.put, List.setIfInBounds_toArray, List.set_cons_zero, List.set_cons_succ]
                refine takeL 6 (v := ?_) rfl (by kernel_rfl) (by kernel_rfl) (by kernel_rfl) (fun _ _ _ h => h) ⟨by rfl, ?_⟩ (by assumption) ?_
                rotate_left
                · intro w hS; go_simp <;> with_reducible rfl
                simp only [Act.put, List.setIfInBounds_toArray, List.set_cons_zero, List.set_cons_succ]
                refine takeL 7 (v := ?_) rfl (by kernel_rfl) (by kernel_rfl) (by kernel_rfl) (fun _ _ _ h => h) ⟨by rfl, ?_⟩ (by assumption) ?_
                rotate_left
                · intro w hS; have fb := KT.at hS; have f1 := fb 2; clear fb; have f5 := (hS.cell (p := ⟨gE, k, none⟩) le0).trans qe; have f6 := (hS.cell (p := ⟨bz, oz, none⟩) lz0).trans qz; go_simp <;> with_reducible rfl
                simp only [Act.put, List.setIfInBounds_toArray, List.set_cons_zero, List.set_cons_succ]
                refine takeL 8 (v := ?_) rfl (by kernel_rfl) (by kernel_rfl) (by kernel_rfl) (fun _ _ _ h => h) ⟨by rfl, ?_⟩ (by assumption) ?_
                rotate_left
                · intro w hS; go_simp <;> with_reducible rfl
                simp only [Act.put, List.setIfInBounds_toArray, List.set_cons_zero, List.set_cons_succ]
                refine takeL 9 (v := ?_) rfl (by kernel_rfl) (by kernel_rfl) (by kernel_rfl) (fun _ _ _ h => h) ⟨by rfl, ?_⟩ (by assumption) ?_
                rotate_left
                · intro w hS; go_simp <;> with_reducible rfl
                simp only [Act.put, List.setIfInBounds_toArray, List.set_cons_zero, List.set_cons_succ]
                refine takeL 10 (v := ?_) rfl (by kernel_rfl) (by kernel_rfl) (by kernel_rfl) (fun _ _ _ h => h) ⟨by rfl, ?_⟩ (by assumption) ?_
                rotate_left
                · intro w hS; have fb := KT.at hS; have f1 := fb 2; clear fb; have f5 := (hS.cell (p := ⟨gE, k, none⟩) le0).trans qe; have f6 := (hS.cell (p := ⟨bz, oz, none⟩) lz0).trans qz; go_simp <;> with_reducible rfl
                simp only [Act.put, List.setIfInBounds_toArray, List.set_cons_zero, List.set_cons_succ]
                refine takeL 11 (v := ?_) rfl (by kernel_rfl) (by kernel_rfl) (by kernel_rfl) (fun _ _ _ h => h) ⟨by rfl, ?_⟩ (by assumption) ?_
                rotate_left
                · intro w hS; go_simp <;> with_reducible rfl
                simp only [Act.put, List.setIfInBounds_toArray, List.set_cons_zero, List.set_cons_succ]
                refine takeL 12 (v := ?_) rfl (by kernel_rfl) (by kernel_rfl) (by kernel_rfl) (fun _ _ _ h => h) ⟨by rfl, ?_⟩ (by assumption) ?_
                rotate_left
                · intro w hS; go_simp <;> with_reducible rfl
                simp only [Act.put, List.setIfInBounds_toArray, List.set_cons_zero, List.set_cons_succ]
                refine takeL 13 (v := ?_) rfl (by kernel_rfl) (by kernel_rfl) (by kernel_rfl) (fun _ _ _ h => h) ⟨by rfl, ?_⟩ (by assumption) ?_
                rotate_left
                · intro w hS; go_simp <;> with_reducible rfl
                simp only [Act.put, List.setIfInBounds_toArray, List.set_cons_zero, List.set_cons_succ]
                refine takeL 14 (v := ?_) rfl (by kernel_rfl) (by kernel_rfl) (by kernel_rfl) (fun _ _ _ h => h) ⟨by rfl, ?_⟩ (by assumption) ?_
                rotate_left
                · intro w hS; go_simp <;> with_reducible rfl
                simp only [Act.put, List.setIfInBounds_toArray, List.set_cons_zero, List.set_cons_succ]
                refine doneL (by kernel_rfl) ?_ _
                refine lastL rfl (by rfl) ?_
                have hneW : gW ≠ gE := fun e => rowOwn_ne ho K9 (by decide) (by rw [e]; rfl)
                have hbE : wb.heap.size ≤ gE := ho.block_ge gE rfl
                have st2 : VuR wb (wc.drew.setCell ⟨gE, k, none⟩ (.int .u64 o)) n N gT gE (es.set k o) := ⟨KT.far (a := ⟨gE, k, none⟩) hne _, (ho.store k o).1, hne, hgT, B1.setCell (p := ⟨gE, k, none⟩) hbE _⟩
                have K92 := K9.far (a := ⟨gE, k, none⟩) hneW (.int .u64 o)
                have oW2 := oW.low (a := ⟨gE, k, none⟩) hEb (.int .u64 o)
                have qe1 : wc.cell? ⟨gE, k, none⟩ = some (.int .u64 (u : Nat)) := qe
                have fe1 : wc.frozen? ⟨gE, k, none⟩ = false := fe
                clear KT ho B1 K9 oW qz le0 lz0 hneW hbE
                go_wp2
                go_roundw
                case rel => exact ⟨k + 1, es.set k o, by omega, by go_num, HST.out, st2, K92, oW2⟩
                case measure => simp [intOf] <;> omega
              · obtain rfl : zs = [] := List.eq_nil_of_length_eq_zero (by omega)
                have hv2 : VaL gs A i (k + 1) es := by
                  refine HHV.out.keep HP.out (by rw [← EN.out]; exact hkN) ?_
                  rw [← EX.out, ← EW.out, ← EY.out]
                  exact val_nil VZ.out
                have st2 : VuR wb wc n N gT gE es := ⟨st.1.next bx, st.2.1.next bx, st.2.2.1, st.2.2.2.1, st.2.2.2.2.trans (bx.mono st.2.2.2.2.size)⟩
                have K92 := K9.next bx; have oW2 := oW.next bx
                clear st K9 oW bx kz lcz
                go_wp2
                go_roundw
                case rel => exact ⟨k + 1, es, by omega, by go_num, hv2, st2, K92, oW2⟩
                case measure => simp [intOf] <;> omega
          · obtain rfl : k = N := by omega
            have he : es = tbv (pev (pl p (gs.take (i + 1))) A) := by rw [EN.out] at hv; exact hv.fin
            rw [he] at st
            clear he hv
            go_wp2
            go_roundw
            case rel => exact ⟨i + 1, by omega, by go_num, st⟩
            case measure => simp [intOf] <;> omega
      · obtain rfl : i = gs.length := by omega
        rw [List.take_length] at st
        obtain ⟨KT, ho, hne, hgT, B1⟩ := st
        obtain ⟨M, eM⟩ : ∃ M, M = pev (pl p gs) A := ⟨_, rfl⟩
        rw [← eM] at ho
        have EM := Lib.hid eM; clear eM
        have hlN : (tbv M).length = N := by rw [tbv_length, EN.out]
        have KR := HKR.out.next B1
        have B2 := HB0.out.trans (B1.mono HB0.out.size)
        have k0 := KT.cell 0; have k1 := KT.cell 1; have k2 := KT.cell 2
        have f0 := KR.free 0; have f1 := KR.free 1; have f2 := KR.free 2
        have e0 := KR.cell 0; have e1 := KR.cell 1; have e2 := KR.cell 2
        have KF := ((KR.set 0 (.int .i64 n)).set 1 (.int .i64 n)).set 2 (.slice (some ⟨gE, 0, none⟩) N N)
        have d0 := KF.cell 0; have d1 := KF.cell 1; have d2 := KF.cell 2
        have hof := ((ho.low (a := ⟨g + 1, 0, none⟩) hgb (.int .i64 n)).low (a := ⟨g + 1, 1, none⟩) hgb (.int .i64 n)).low (a := ⟨g + 1, 2, none⟩) hgb (.slice (some ⟨gE, 0, none⟩) N N)
        have hgw2 : w.heap.size ≤ g + 1 := by omega
        have BF := ((B2.setCell (p := ⟨g + 1, 0, none⟩) hgw2 (.int .i64 n)).setCell (p := ⟨g + 1, 1, none⟩) hgw2 (.int .i64 n)).setCell (p := ⟨g + 1, 2, none⟩) hgw2 (.slice (some ⟨gE, 0, none⟩) N N)
        have FR := Lib.hid (show RetFm p w n n (pev (pl p gs) A) (.returned (.agg #[.int .i64 n, .int .i64 n, .slice (some ⟨gE, 0, none⟩) N N])) (((wr.setCell ⟨g + 1, 0, none⟩ (.int .i64 n)).setCell ⟨g + 1, 1, none⟩ (.int .i64 n)).setCell ⟨g + 1, 2, none⟩ (.slice (some ⟨gE, 0, none⟩) N N)) by
          rw [← EM.out]; exact ⟨some ⟨gE, 0, none⟩, N, by rw [hlN], by rw [hlN]; exact hof.mono HB0.out.size, BF⟩)
        clear KF KR KT hof BF ho B1 B2 hlN
        go_wp2
        exact bodyPost_ret (v := .agg #[.int .i64 n, .int .i64 n, .slice (some ⟨gE, 0, none⟩) N N]) (by simp [results, Try.results54, go_sem, d0, d1, d2]) rfl FR.out

end Go.Proofs.Ythghdjpjbngllaa
