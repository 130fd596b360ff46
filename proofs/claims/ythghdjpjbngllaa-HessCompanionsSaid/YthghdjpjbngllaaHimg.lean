/- hess.images: columns, side by side. -/
import Derived.Test.YthghdjpjbngllaaRdu
namespace Go.Proofs.Ythghdjpjbngllaa
open Go.RowKit


/-- A slice of columns: matrices of n rows and one column, of the words col t. -/
def Cls (w : World) (v : Value) (n m : Nat) (col : Nat → List Nat) : Prop := ∃ ao b o cap, v = .slice ao m cap ∧ m ≤ cap ∧ (0 < m → ao = some ⟨b, o, none⟩ ∧ b < w.heap.size) ∧
  ∀ t, t < m → ∃ a c, w.cell? ⟨b, o + t * 3, none⟩ = some (.int .i64 n) ∧ w.cell? ⟨b, o + t * 3 + 1, none⟩ = some (.int .i64 1) ∧ w.cell? ⟨b, o + t * 3 + 2, none⟩ = some (.slice a n c) ∧ (col t).length = n ∧ Sl .u64 w (.slice a n c) (col t)
theorem Cls.next {w w' : World} {v : Value} {n m : Nat} {col : Nat → List Nat} (h : Cls w v n m col) (hb : Below w.heap.size w w') : Cls w' v n m col := by
  obtain ⟨ao, b, o, cap, e, h1, h2, h3⟩ := h
  refine ⟨ao, b, o, cap, e, h1, fun h0 => ⟨(h2 h0).1, Nat.lt_of_lt_of_le (h2 h0).2 hb.size⟩, fun t ht => ?_⟩
  obtain ⟨a, c, k0, k1, k2, k3, k4⟩ := h3 t ht
  have hl := (h2 (by omega)).2
  exact ⟨a, c, (hb.cell (p := ⟨b, o + t * 3, none⟩) hl).trans k0, (hb.cell (p := ⟨b, o + t * 3 + 1, none⟩) hl).trans k1, (hb.cell (p := ⟨b, o + t * 3 + 2, none⟩) hl).trans k2, k3, k4.next hb⟩
/-- Where images stands. -/
def ImR (w wr : World) (g n m : Nat) (L : List Nat) : Prop := ∃ ao k, Blk 42 wr (g + 1) [.int .i64 n, .int .i64 m, .slice ao L.length k] ∧ Blk 42 wr g [.int .i64 0, .int .i64 0, .slice none 0 0] ∧
  Own .u64 27 wr (g + 1 + 1) (.slice ao L.length k) L ∧ Below w.heap.size w wr

set_option maxRecDepth 20000 in
set_option maxHeartbeats 2000000 in
theorem hs_images (p : Nat) (v : Value) (n m : Nat) (col : Nat → List Nat) (w : World) (hv : Cls w v n m col) (hn : n ≤ 64) (hm : m ≤ 64) (hw : ∀ t i, t < m → i < n → (col t).getD i 0 < p) :
    Calls Try.prog 142 #[v, .int .i64 n] w (RetFm p w n m (MT.of n m fun i t => Zp.of p ((col t).getD i 0))) := by
  have hv0 := Lib.hid hv
  obtain ⟨av, bv, ov, cv, rfl, hcv, -⟩ := hv
  obtain ⟨T, eT⟩ : ∃ T : Nat → Nat → Nat, T = fun i t => (col t).getD i 0 := ⟨_, rfl⟩
  have hfin := Lib.hid (show ftab m T (n * m) = tbv (MT.of n m fun i t => Zp.of p ((col t).getD i 0)) from tbv_of _ _ fun i k hi hk => by
    rw [eT, Zp.val_of]
    have := hw k i hk hi
    rw [Nat.mod_eq_of_lt (by omega)])
  obtain ⟨M, eM⟩ : ∃ M, M = MT.of n m fun i t => Zp.of p ((col t).getD i 0) := ⟨_, rfl⟩
  rw [← eM] at hfin ⊢
  have ET := Lib.hid eT; clear eT eM hw
  obtain ⟨wb, ew, KR, KT, B0, hsz⟩ := boxes2 w 42 42 [.int .i64 0, .int .i64 0, .slice none 0 0] [.int .i64 n, .int .i64 m, .slice none 0 0]
  clear hsz
  go_enter Try.func142, Try.ntmps142
  go_upto_region 2 with (fail)
  rw [← ew]
  obtain ⟨g, eg⟩ : ∃ g, g = w.heap.size := ⟨_, rfl⟩
  rw [← eg] at KR KT ⊢
  have hgw : w.heap.size ≤ g := by omega
  have hwg : g ≤ w.heap.size := by omega
  clear ew eg
  have st : ImR w wb g n m (ftab m T (0 * m)) := ⟨none, 0, by rw [Nat.zero_mul]; exact KT, KR, by rw [Nat.zero_mul]; exact Own.nil _ _ _ _, B0⟩
  clear KR KT B0
  go_wp2
  go_loopw [14] (fun iv wr => ∃ i : Nat, i ≤ n ∧ iv = .int .i64 i ∧ ImR w wr g n m (ftab m T (i * m))) (fun iv _ => n - (intOf iv).toNat)
  case atStart => exact ⟨0, by omega, rfl, st⟩
  case round =>
    clear st
    obtain ⟨i, hi, rfl, st⟩ := hrel
    by_cases hin : i < n
    · go_wp2
      go_loopw [19] (fun kv wr => ∃ k : Nat, k ≤ m ∧ kv = .int .i64 k ∧ ImR w wr g n m (ftab m T (i * m + k))) (fun kv _ => m - (intOf kv).toNat)
      case atStart => exact ⟨0, by omega, rfl, st⟩
      case round =>
        clear st
        obtain ⟨k, hk, rfl, st⟩ := hrel
        by_cases hkm : k < m
        · obtain ⟨ao, kk, KT, KR, ho, B0⟩ := st
          have hvr := hv0.out
          obtain ⟨av', b', o', cv', e1, -, h2, h3⟩ := hvr
          simp only [Value.slice.injEq] at e1
          obtain ⟨rfl, -, rfl⟩ := e1
          obtain ⟨rfl, hlb⟩ := h2 (by omega)
          obtain ⟨ac, cc, q0, q1, q2, q3, q4⟩ := h3 k hkm
          clear h2 h3
          obtain ⟨x, ex⟩ : ∃ x, x = T i k := ⟨_, rfl⟩
          obtain ⟨ac', bc, oc, cc', e2, k1, k2⟩ := q4
          simp only [Value.slice.injEq] at e2
          obtain ⟨rfl, -, rfl⟩ := e2
          have hne : col k ≠ [] := by intro h; rw [h] at q3; simp at q3; omega
          obtain rfl := k2.ao hne
          have hlc := k2.lt hne
          have qx := k2.cell i (by omega)
          rw [show (col k).getD i 0 = x by rw [ex, ET.out]] at qx
          replace q0 := (B0.cell (p := ⟨b', o' + k * 3, none⟩) hlb).trans q0
          replace q1 := (B0.cell (p := ⟨b', o' + k * 3 + 1, none⟩) hlb).trans q1
          replace q2 := (B0.cell (p := ⟨b', o' + k * 3 + 2, none⟩) hlb).trans q2
          replace qx := (B0.cell (p := ⟨bc, oc + i, none⟩) hlc).trans qx
          obtain ⟨L, eL⟩ : ∃ L, L = ftab m T (i * m + k) := ⟨_, rfl⟩
          have hL1 := Lib.hid (show ftab m T (i * m + (k + 1)) = L ++ [x] by rw [ftab_at T hkm, eL, ex])
          have hLl := Lib.hid (show L.length ≤ 10000 by
            rw [eL, ftab_length]
            have : (i + 1) * m ≤ 64 * 64 := Nat.mul_le_mul (by omega) hm
            rw [Nat.succ_mul] at this; omega)
          rw [← eL] at KT ho
          clear eL ex k2 hne q3
          have hgr : g + 1 < wr.heap.size := KT.lt
          obtain ⟨w7, ew7, KC, b7, -⟩ := boxes1 wr 42 [.int .i64 n, .int .i64 1, .slice (some ⟨bc, oc, none⟩) n cc]
          go_upto_region 8 with (fail)
          rw [← ew7]
          obtain ⟨gC, egC⟩ : ∃ g, g = wr.heap.size := ⟨_, rfl⟩
          rw [← egC] at KC ⊢
          clear ew7 q0 q1 q2
          have bd := b7.trans ((Drawn.below (w' := w7.drew) ⟨1, rfl⟩ w7.heap.size).mono b7.size)
          replace KC := KC.next (Drawn.below (w' := w7.drew) ⟨1, rfl⟩ w7.heap.size)
          have hbr : bc < wr.heap.size := Nat.lt_of_lt_of_le hlc B0.size
          replace qx := (bd.cell (p := ⟨bc, oc + i, none⟩) hbr).trans qx
          replace KT := KT.next bd; replace KR := KR.next bd; replace ho := ho.next bd
          replace B0 := B0.trans (bd.mono B0.size)
          have hgd : g + 1 + 1 ≤ w7.drew.heap.size := Nat.le_trans hgr bd.size
          clear bd b7 egC hbr hgr
          refine startP (S := (fun w' => w'.cell? ⟨g + 1, 2, none⟩ = some (.slice ao L.length kk) ∧ w'.cell? ⟨gC, 2, none⟩ = some (.slice (some ⟨bc, oc, none⟩) n cc) ∧ w'.cell? ⟨bc, oc + i, none⟩ = some (.int .u64 (x : Nat)))) (by kernel_rfl) _ rfl rfl rfl (by kernel_rfl) ⟨KT.cell 2, KC.cell 2, qx⟩ (fun hHeld => ?_)
          generalize w7.drew = wd at *
          refine takeL 0 (v := ?_) rfl (by kernel_rfl) (by kernel_rfl) (by kernel_rfl) (fun _ _ _ h => h) ⟨by rfl, ?_⟩ (by assumption) ?_
          rotate_left
          · intro w hS; go_simp <;> with_reducible rfl
          simp only [Act.put, List.setIfInBounds_toArray, List.set_cons_zero, List.set_cons_succ]
          refine takeL 1 (v := ?_) rfl (by kernel_rfl) (by kernel_rfl) (by kernel_rfl) (fun _ _ _ h => h) ⟨by rfl, ?_⟩ (by assumption) ?_
          rotate_left
          · intro w hS; have f1 := hS.1; have f2 := hS.2.1; have f3 := hS.2.2; go_simp <;> with_reducible rfl
          simp only [Act.put, List.setIfInBounds_toArray, List.set_cons_zero, List.set_cons_succ]
          refine takeL 2 (v := ?_) rfl (by kernel_rfl) (by kernel_rfl) (by kernel_rfl) (fun _ _ _ h => h) ⟨by rfl, ?_⟩ (by assumption) ?_
          rotate_left
          · intro w hS; go_simp <;> with_reducible rfl
          simp only [Act.put, List.setIfInBounds_toArray, List.set_cons_zero, List.set_cons_succ]
          refine takeL 3 (v := ?_) rfl (by kernel_rfl) (by kernel_rfl) (by kernel_rfl) (fun _ _ _ h => h) ⟨by rfl, ?_⟩ (by assumption) ?_
          rotate_left
          · intro w hS; have f1 := hS.1; have f2 := hS.2.1; have f3 := hS.2.2; go_simp <;> with_reducible rfl
          simp only [Act.put, List.setIfInBounds_toArray, List.set_cons_zero, List.set_cons_succ]
          refine takeL 4 (v := ?_) rfl (by kernel_rfl) (by kernel_rfl) (by kernel_rfl) (fun _ _ _ h => h) ⟨by rfl, ?_⟩ (by assumption) ?_
          rotate_left
          · intro w hS; go_simp <;> with_reducible rfl
          simp only [Act.put, List.setIfInBounds_toArray, List.set_cons_zero, List.set_cons_succ]
          refine takeL 5 (v := ?_) rfl (by kernel_rfl) (by kernel_rfl) (by kernel_rfl) (fun _ _ _ h => h) ⟨by rfl, ?_⟩ (by assumption) ?_
          rotate_left
          · intro w hS; go_simp <;> with_reducible rfl
          simp only [Act.put, List.setIfInBounds_toArray, List.set_cons_zero, List.set_cons_succ]
          refine takeL 6 (v := ?_) rfl (by kernel_rfl) (by kernel_rfl) (by kernel_rfl) (fun _ _ _ h => h) ⟨by rfl, ?_⟩ (by assumption) ?_
          rotate_left
          · intro w hS; have f1 := hS.1; have f2 := hS.2.1; have f3 := hS.2.2; go_simp <;> with_reducible rfl
          simp only [Act.put, List.setIfInBounds_toArray, List.set_cons_zero, List.set_cons_succ]
          refine oneL 7 rfl (by kernel_rfl) (by rfl) (fun K hK => ?_)
          go_simp
          have ba := (Below.refl wd.heap.size wd).alloc (Nat.le_refl _) (.cells #[.int .u64 (x : Nat)] 27)
          have hlcd : bc < wd.heap.size := Nat.lt_of_lt_of_le hlc B0.size
          refine hK.out _ _ ⟨(KT.next ba).cell 2, (KC.next ba).cell 2, (ba.cell (p := ⟨bc, oc + i, none⟩) hlcd).trans qx⟩ (fun hHeld => ?_)
          clear hK K ba hlcd
          try simp only [Act.put, List.setIfInBounds_toArray, List.set_cons_zero, List.set_cons_succ]
          refine oneL 8 rfl (by kernel_rfl) (by rfl) (fun K hK => ?_)
          refine apV 32 27 8 (.int .u64 0) Try.underlying32 (by kernel_rfl) (by decide) rfl _ _ rfl wd (g + 1 + 1) (.slice ao L.length kk) L.length (vs .u64 L) (.int .u64 (x : Nat)) rfl ho (by have := hLl.out; omega) hgd ?_ ?_ ?_
          exact rfl
          exact rfl
          intro gg cap8 wz ho8 hb8 hg8 _
          refine hK.out _ _ ⟨(KT.below hb8 (Nat.lt_succ_self _)).cell 2, (KC.kept hg8 (rowOwn_ne ho KC (by decide))).cell 2, (hb8.cell (p := ⟨bc, oc + i, none⟩) (show bc < g + 1 + 1 by omega)).trans qx⟩ (fun hHeld => ?_)
          clear hK K
          try simp only [Act.put, List.setIfInBounds_toArray, List.set_cons_zero, List.set_cons_succ]
          refine takeL 9 (v := ?_) rfl (by kernel_rfl) (by kernel_rfl) (by kernel_rfl) (fun _ _ _ h => h) ⟨by rfl, ?_⟩ (by assumption) ?_
          rotate_left
          · intro w hS; go_simp <;> with_reducible rfl
          simp only [Act.put, List.setIfInBounds_toArray, List.set_cons_zero, List.set_cons_succ]
          refine doneL (by kernel_rfl) ?_ _
          refine lastL rfl (by rfl) ?_
          have K5 := (KT.below hb8 (Nat.lt_succ_self _)).set 2 (.slice (some ⟨gg, 0, none⟩) (L.length + 1) cap8)
          have K6 := ((KR.below hb8 (by omega))).far (a := ⟨g + 1, 2, none⟩) (show g ≠ g + 1 by omega) (.slice (some ⟨gg, 0, none⟩) (L.length + 1) cap8)
          have o8 : Own .u64 27 wz (g + 1 + 1) (.slice (some ⟨gg, 0, none⟩) (L.length + 1) cap8) (L ++ [x]) := by
            unfold Own; rw [List.length_append]
            have e : vs .u64 (L ++ [x]) = vs .u64 L ++ [.int .u64 (x : Nat)] := by simp [vs]
            rw [e]; exact ho8
          have o9 := o8.low (a := ⟨g + 1, 2, none⟩) (show g + 1 < g + 1 + 1 by omega) (.slice (some ⟨gg, 0, none⟩) (L.length + 1) cap8)
          have B9 := (B0.trans (hb8.mono (by omega))).setCell (p := ⟨g + 1, 2, none⟩) (show w.heap.size ≤ g + 1 by omega) (.slice (some ⟨gg, 0, none⟩) (L.length + 1) cap8)
          have st := Lib.hid (show ImR w (wz.setCell ⟨g + 1, 2, none⟩ (.slice (some ⟨gg, 0, none⟩) (L.length + 1) cap8)) g n m (ftab m T (i * m + (k + 1))) by
            rw [hL1.out]; unfold ImR; rw [List.length_append]; exact ⟨_, _, K5, K6, o9, B9⟩)
          have y0 := (KT.below hb8 (Nat.lt_succ_self _)).cell 2; have y1 := (KT.below hb8 (Nat.lt_succ_self _)).free 2
          clear KT KR KC ho B0 qx ho8 hb8 hg8 K5 K6 o8 o9 B9 hHeld
          go_wp2
          go_roundw
          case rel => exact ⟨k + 1, by omega, by go_num, st.out⟩
          case measure => simp [intOf] <;> omega
        · obtain rfl : k = m := by omega
          go_wp2
          go_roundw
          case rel => exact ⟨i + 1, by omega, by go_num, by rw [Nat.succ_mul]; exact st⟩
          case measure => simp [intOf] <;> omega
    · obtain rfl : i = n := by omega
      rw [hfin.out] at st
      obtain ⟨ao, kk, KT, KR, ho, B0⟩ := st
      have k0 := KT.cell 0; have k1 := KT.cell 1; have k2 := KT.cell 2
      have e0 := KR.cell 0; have e1 := KR.cell 1; have e2 := KR.cell 2
      have f0 := KR.free 0; have f1 := KR.free 1; have f2 := KR.free 2
      have KF := ((KR.set 0 (.int .i64 i)).set 1 (.int .i64 m)).set 2 (.slice ao (tbv M).length kk)
      have d0 := KF.cell 0; have d1 := KF.cell 1; have d2 := KF.cell 2
      have hlt : g < g + 1 + 1 := by omega
      have hof := ((ho.low (a := ⟨g, 0, none⟩) hlt (.int .i64 i)).low (a := ⟨g, 1, none⟩) hlt (.int .i64 m)).low (a := ⟨g, 2, none⟩) hlt (.slice ao (tbv M).length kk)
      have BF := ((B0.setCell (p := ⟨g, 0, none⟩) hgw (.int .i64 i)).setCell (p := ⟨g, 1, none⟩) hgw (.int .i64 m)).setCell (p := ⟨g, 2, none⟩) hgw (.slice ao (tbv M).length kk)
      have FR := Lib.hid (show RetFm p w i m M (.returned (.agg #[.int .i64 i, .int .i64 m, .slice ao (tbv M).length kk])) (((wr.setCell ⟨g, 0, none⟩ (.int .i64 i)).setCell ⟨g, 1, none⟩ (.int .i64 m)).setCell ⟨g, 2, none⟩ (.slice ao (tbv M).length kk)) from ⟨_, _, rfl, hof.mono (by omega), BF⟩)
      clear KF KR KT hof BF ho B0
      go_wp2
      exact bodyPost_ret (v := .agg #[.int .i64 i, .int .i64 m, .slice ao (tbv M).length kk]) (by simp [results, Try.results142, go_sem, d0, d1, d2]) rfl FR.out

end Go.Proofs.Ythghdjpjbngllaa
