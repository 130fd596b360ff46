/- fmat.begun: the rows of two matrices side by side. -/
import Derived.Test.YthghdjpjbngllaaZeWork
namespace Go.Proofs.Ythghdjpjbngllaa
open Go.RowKit

/-- Where the loop of begun stands. -/
def BgR (p : Nat) (w wr : World) (r C D : Nat) (xs ys : List Nat) (aA aB : Option Addr) (cA cB g gW i : Nat) : Prop := ∃ rv vs, Blk 29 wr g [.int .u64 p] ∧ Blk 42 wr (g + 1) [.int .i64 r, .int .i64 C, .slice aA xs.length cA] ∧ Blk 42 wr (g + 1 + 1) [.int .i64 r, .int .i64 D, .slice aB ys.length cB] ∧
  Blk 126 wr gW [.int .u64 p, rv, .slice none 0 0, .int .u64 ((1 : Zp p).val : Nat)] ∧ Rws (VZ p) 27 32 wr (gW + 1) rv vs i (C + D) (beside C (mx p r C xs).e (mx p r D ys).e) ∧ Below w.heap.size w wr
/-- Where its inner loops stand. -/
def BgI (p : Nat) (wo wr : World) (v : Value) (N : Nat) (f : Nat → Zp p) : Prop := ∃ ao k, v = .slice ao N k ∧ Own .u64 27 wr wo.heap.size (.slice ao N k) (rwv N f) ∧ Below wo.heap.size wo wr
set_option maxRecDepth 20000 in
set_option maxHeartbeats 2000000 in
theorem fw_begun (p : Nat) (a b : Value) (r C D : Nat) (xs ys : List Nat) (w : World) (hp : FP p) (hA : Fm w a r C xs) (hB : Fm w b r D ys) (hr : r ≤ 64) (hC : C ≤ 64) (hD : D ≤ 64) (hx : xs.length = r * C) (hy : ys.length = r * D) :
    Calls Try.prog 137 #[.agg #[.int .u64 p], a, b] w (RetWk p w r (C + D) (fun W P d => W = beside C (mx p r C xs).e (mx p r D ys).e ∧ P = [] ∧ d = 1)) := by
  obtain ⟨aA, cA, rfl⟩ := hA.agg
  obtain ⟨aB, cB, rfl⟩ := hB.agg
  obtain ⟨wb, ew, KF, KA, KB, B0, hsz⟩ := boxes3 w 29 42 42 [.int .u64 p] [.int .i64 r, .int .i64 C, .slice aA xs.length cA] [.int .i64 r, .int .i64 D, .slice aB ys.length cB]
  have HSZ := Lib.hid hsz; clear hsz
  have HP := Lib.hid hp; clear hp
  have HX := Lib.hid hx; have HY := Lib.hid hy; clear hx hy
  obtain ⟨one, eone⟩ : ∃ one, one = (1 : Zp p).val := ⟨_, rfl⟩
  have EONE := Lib.hid eone; clear eone
  go_enter Try.func137, Try.ntmps137
  go_upto_region 1 with (fail)
  rw [← ew]
  obtain ⟨g, eg⟩ : ∃ g, g = w.heap.size := ⟨_, rfl⟩
  rw [← eg] at KF KA KB ⊢
  have hgw : w.heap.size ≤ g := by omega
  have HSZ := Lib.hid (show wb.heap.size = g + 1 + 1 + 1 by rw [HSZ.out, eg])
  clear eg ew
  have bd := Drawn.below (w' := wb.drew) ⟨1, rfl⟩ wb.heap.size
  replace KF := KF.next bd; replace KA := KA.next bd; replace KB := KB.next bd
  replace B0 := B0.trans (bd.mono B0.size)
  clear bd
  refine startL (S := (fun w' => Below (wb.drew).heap.size (wb.drew) w')) (by kernel_rfl) (Below.refl _ _) (fun hHeld => ?_)
  refine takeL 0 (v := ?_) rfl (by kernel_rfl) (by kernel_rfl) (by kernel_rfl) (fun _ _ _ h => h) ⟨by rfl, ?_⟩ (by assumption) ?_
  rotate_left
  · intro w hS; have ff := KF.at hS; have f1 := ff 0; clear ff; go_simp <;> with_reducible rfl
  simp only [Act.put, List.setIfInBounds_toArray, List.set_cons_zero, List.set_cons_succ]
  refine takeL 1 (v := ?_) rfl (by kernel_rfl) (by kernel_rfl) (by kernel_rfl) (fun _ _ _ h => h) ⟨by rfl, ?_⟩ (by assumption) ?_
  rotate_left
  · intro w hS; have ff := KF.at hS; have f1 := ff 0; clear ff; go_simp <;> with_reducible rfl
  simp only [Act.put, List.setIfInBounds_toArray, List.set_cons_zero, List.set_cons_succ]
  refine oneL 2 rfl (by kernel_rfl) (by rfl) (fun K hK => ?_)
  go_simp
  go_at_call 124
  (with_reducible refine (gfp_Norm1 p _ HP.out one EONE.out).mono ?_); rintro e w2 ⟨rfl, b2⟩
  refine hK.out _ _ (hHeld.trans (b2.mono hHeld.size)) (fun hHeld => ?_)
  clear hK K
  try simp only [Act.put, List.setIfInBounds_toArray, List.set_cons_zero, List.set_cons_succ]
  refine takeL 3 (v := ?_) rfl (by kernel_rfl) (by kernel_rfl) (by kernel_rfl) (fun _ _ _ h => h) ⟨by rfl, ?_⟩ (by assumption) ?_
  rotate_left
  · intro w hS; go_simp <;> with_reducible rfl
  simp only [Act.put, List.setIfInBounds_toArray, List.set_cons_zero, List.set_cons_succ]
  refine oneL 4 rfl (by kernel_rfl) (by rfl) (fun K hK => ?_)
  go_simp
  refine hK.out _ _ (hHeld.alloc hHeld.size _) (fun hHeld => ?_)
  clear hK K
  try simp only [Act.put, List.setIfInBounds_toArray, List.set_cons_zero, List.set_cons_succ]
  refine takeL 5 (v := ?_) rfl (by kernel_rfl) (by kernel_rfl) (by kernel_rfl) (fun _ _ _ h => h) ⟨by rfl, ?_⟩ (by assumption) ?_
  rotate_left
  · intro w hS; go_simp <;> with_reducible rfl
  simp only [Act.put, List.setIfInBounds_toArray, List.set_cons_zero, List.set_cons_succ]
  refine doneL (by kernel_rfl) ?_ _
  obtain ⟨wc, ewc, KW, bc, hsc⟩ := boxes1 w2 126 [.int .u64 p, .slice none 0 0, .slice none 0 0, .int .u64 (one : Nat)]
  rw [← ewc] at hHeld
  replace KF := KF.next hHeld; replace KA := KA.next hHeld; replace KB := KB.next hHeld
  replace B0 := B0.trans (hHeld.mono B0.size)
  rw [EONE.out] at KW
  obtain ⟨gW, egw⟩ : ∃ gW, gW = w2.heap.size := ⟨_, rfl⟩
  have hgW : g + 1 + 1 < gW := by
    have q1 := b2.size; have q2 := HSZ.out; have q3 : wb.drew.heap.size = wb.heap.size := rfl
    omega
  rw [← egw] at KW
  have st : BgR p w wc r C D xs ys aA aB cA cB g gW 0 := ⟨_, _, KF, KA, KB, KW, Rws.nil _ _ _ _, B0⟩
  have ka1 := KA.cell 0
  clear KF KA KB KW B0 hHeld bc hsc b2
  rw [← ewc, ← egw]
  clear ewc egw
  go_wp2
  clear ka1
  go_loopw [19] (fun iv wr => ∃ i : Nat, i ≤ r ∧ iv = .int .i64 i ∧ BgR p w wr r C D xs ys aA aB cA cB g gW i) (fun iv _ => r - (intOf iv).toNat)
  case atStart => exact ⟨0, by omega, rfl, st⟩
  case round =>
    clear st wc
    obtain ⟨i, hi, rfl, st⟩ := hrel
    obtain ⟨rv, vs, KF, KA, KB, KW, RW, B0⟩ := st
    by_cases hir : i < r
    · obtain ⟨wo, rfl⟩ : ∃ wo : World, wo = wr := ⟨_, rfl⟩
      have hA' := hA.next B0; have hB' := hB.next B0
      have f1 := KA.cell 1; have f2 := KB.cell 1
      have st : BgI p wo wo (.slice none 0 0) 0 (beside C (mx p r C xs).e (mx p r D ys).e i) := ⟨_, _, rfl, Own.nil _ _ _ _, Below.refl _ _⟩
      go_wp2
      clear f1
      go_loopw [24, 9] (fun kv ov wr => ∃ k : Nat, k ≤ C ∧ kv = .int .i64 k ∧ BgI p wo wr ov k (beside C (mx p r C xs).e (mx p r D ys).e i)) (fun kv _ _ => C - (intOf kv).toNat)
      case atStart => exact ⟨0, by omega, rfl, st⟩
      case round =>
        clear st f2
        obtain ⟨k, hk, rfl, ao, kc, rfl, ho, B1⟩ := hrel
        by_cases hkc : k < C
        · have hx0 := at_lt HX.out hir hkc
          obtain ⟨x, ex⟩ : ∃ x, x = xs.getD (i * C + k) 0 := ⟨_, rfl⟩
          obtain ⟨y, ey⟩ : ∃ y, y = x % p := ⟨_, rfl⟩
          have hy : rwv (k + 1) (beside C (mx p r C xs).e (mx p r D ys).e i) = rwv (k) (beside C (mx p r C xs).e (mx p r D ys).e i) ++ [y] := by
            rw [rwv_succ, ey, ex]; congr 2
            rw [beside_l hkc, mx_e _ hir hkc]
            exact (Zp.mod_is HP.out _ rfl).symm
          have hl := rwv_length (k) (beside C (mx p r C xs).e (mx p r D ys).e i)
          have EX := Lib.hid ex; have EY := Lib.hid ey; have HYY := Lib.hid hy; clear ex ey hy
          go_upto_region 9 with (fail)
          replace B1 := B1.trans (Drawn.below (w' := wr.drew) ⟨1, rfl⟩ wo.heap.size)
          replace ho := ho.drew
          have hbs : wo.heap.size ≤ wr.drew.heap.size := B1.size
          refine startL (S := (fun w' => Below wo.heap.size wr.drew w')) (by kernel_rfl) (Below.refl _ _) (fun hHeld => ?_)
          refine takeL 0 (v := ?_) rfl (by kernel_rfl) (by kernel_rfl) (by kernel_rfl) (fun _ _ _ h => h) ⟨by rfl, ?_⟩ (by assumption) ?_
          rotate_left
          · intro w hS; go_simp <;> with_reducible rfl
          simp only [Act.put, List.setIfInBounds_toArray, List.set_cons_zero, List.set_cons_succ]
          refine takeL 1 (v := ?_) rfl (by kernel_rfl) (by kernel_rfl) (by kernel_rfl) (fun _ _ _ h => h) ⟨by rfl, ?_⟩ (by assumption) ?_
          rotate_left
          · intro w hS; have bs := B1.trans hS; have fa := (KA.next bs).cell; have fb := (KF.next bs).cell; have f1 := fa 0; have f2 := fa 1; have f3 := fa 2; have f4 := fb 0; clear fa fb; go_simp <;> with_reducible rfl
          simp only [Act.put, List.setIfInBounds_toArray, List.set_cons_zero, List.set_cons_succ]
          refine takeL 2 (v := ?_) rfl (by kernel_rfl) (by kernel_rfl) (by kernel_rfl) (fun _ _ _ h => h) ⟨by rfl, ?_⟩ (by assumption) ?_
          rotate_left
          · intro w hS; have bs := B1.trans hS; have fa := (KA.next bs).cell; have fb := (KF.next bs).cell; have f1 := fa 0; have f2 := fa 1; have f3 := fa 2; have f4 := fb 0; clear fa fb; go_simp <;> with_reducible rfl
          simp only [Act.put, List.setIfInBounds_toArray, List.set_cons_zero, List.set_cons_succ]
          refine takeL 3 (v := ?_) rfl (by kernel_rfl) (by kernel_rfl) (by kernel_rfl) (fun _ _ _ h => h) ⟨by rfl, ?_⟩ (by assumption) ?_
          rotate_left
          · intro w hS; go_simp <;> with_reducible rfl
          simp only [Act.put, List.setIfInBounds_toArray, List.set_cons_zero, List.set_cons_succ]
          refine takeL 4 (v := ?_) rfl (by kernel_rfl) (by kernel_rfl) (by kernel_rfl) (fun _ _ _ h => h) ⟨by rfl, ?_⟩ (by assumption) ?_
          rotate_left
          · intro w hS; go_simp <;> with_reducible rfl
          simp only [Act.put, List.setIfInBounds_toArray, List.set_cons_zero, List.set_cons_succ]
          refine oneL 5 rfl (by kernel_rfl) (by rfl) (fun K hK => ?_)
          go_simp
          go_at_call 97
          (with_reducible refine (fm_get _ r C i k xs _ (hA'.next (B1.trans hHeld)) (by omega) (by omega) (by omega) hx0 x EX.out).mono ?_); rintro e w2 ⟨rfl, b2⟩
          refine hK.out _ _ (hHeld.trans (b2.mono (Nat.le_trans hbs hHeld.size))) (fun hHeld => ?_)
          clear hK K
          try simp only [Act.put, List.setIfInBounds_toArray, List.set_cons_zero, List.set_cons_succ]
          refine oneL 6 rfl (by kernel_rfl) (by rfl) (fun K hK => ?_)
          go_simp
          go_at_call 124
          (with_reducible refine (gfp_Norm p x _ HP.out).mono ?_); rintro e w3 ⟨rfl, b3⟩
          rw [← EY.out]
          refine hK.out _ _ (hHeld.trans (b3.mono (Nat.le_trans hbs hHeld.size))) (fun hHeld => ?_)
          clear hK K
          try simp only [Act.put, List.setIfInBounds_toArray, List.set_cons_zero, List.set_cons_succ]
          refine oneL 7 rfl (by kernel_rfl) (by rfl) (fun K hK => ?_)
          go_simp
          have hd := hHeld
          refine hK.out _ _ (hHeld.alloc (Nat.le_trans hbs hHeld.size) _) (fun hHeld => ?_)
          clear hK K
          try simp only [Act.put, List.setIfInBounds_toArray, List.set_cons_zero, List.set_cons_succ]
          refine oneL 8 rfl (by kernel_rfl) (by rfl) (fun K hK => ?_)
          refine ap2 (ops := #[]) .u64 32 27 8 Try.underlying32 (by kernel_rfl) (by decide) rfl _ _ rfl w3 wo.heap.size _ (rwv (k) (beside C (mx p r C xs).e (mx p r D ys).e i)) y _ (by rfl) ((ho.next b2).next b3) (by omega) (Nat.le_trans hbs hd.size) rfl rfl ?_
          intro gg cap1 wz hown' hbel'
          refine hK.out _ _ (hd.trans hbel') (fun hHeld => ?_)
          clear hK K
          try simp only [Act.put, List.setIfInBounds_toArray, List.set_cons_zero, List.set_cons_succ]
          refine takeL 9 (v := ?_) rfl (by kernel_rfl) (by kernel_rfl) (by kernel_rfl) (fun _ _ _ h => h) ⟨by rfl, ?_⟩ (by assumption) ?_
          rotate_left
          · intro w hS; go_simp <;> with_reducible rfl
          simp only [Act.put, List.setIfInBounds_toArray, List.set_cons_zero, List.set_cons_succ]
          refine doneL (by kernel_rfl) ?_ _
          rw [← HYY.out, hl] at hown'
          have st := Lib.hid (show BgI p wo wz (.slice (some ⟨gg, 0, none⟩) (k + 1) cap1) (k + 1) (beside C (mx p r C xs).e (mx p r D ys).e i) from ⟨_, _, rfl, hown', B1.trans hHeld⟩)
          rw [hl]
          clear hown' hHeld b2 b3 hd hbel' ho B1 hl
          go_wp2
          go_roundw
          case rel => exact ⟨k + 1, by omega, by go_num, st.out⟩
          case measure => simp [intOf] <;> omega
        · obtain rfl : k = C := by omega
          have f2 := (KB.next B1).cell 1
          have st : BgI p wo wr (.slice ao (k + 0) kc) (k + 0) (beside k (mx p r k xs).e (mx p r D ys).e i) := ⟨_, _, rfl, ho, B1⟩
          go_wp2
          clear f2
          go_loopw [39, 9] (fun kv ov wr => ∃ j : Nat, j ≤ D ∧ kv = .int .i64 j ∧ BgI p wo wr ov (k + j) (beside k (mx p r k xs).e (mx p r D ys).e i)) (fun kv _ _ => D - (intOf kv).toNat)
          case atStart => exact ⟨0, by omega, rfl, st⟩
          case round =>
            clear st ho B1
            obtain ⟨j, hj, rfl, ao, kc, rfl, ho, B1⟩ := hrel
            by_cases hjd : j < D
            · have hx0 := at_lt HY.out hir hjd
              obtain ⟨x, ex⟩ : ∃ x, x = ys.getD (i * D + j) 0 := ⟨_, rfl⟩
              obtain ⟨y, ey⟩ : ∃ y, y = x % p := ⟨_, rfl⟩
              have hy : rwv (k + j + 1) (beside k (mx p r k xs).e (mx p r D ys).e i) = rwv (k + j) (beside k (mx p r k xs).e (mx p r D ys).e i) ++ [y] := by
                rw [rwv_succ, ey, ex]; congr 2
                rw [beside_r, mx_e _ hir hjd]
                exact (Zp.mod_is HP.out _ rfl).symm
              have hl := rwv_length (k + j) (beside k (mx p r k xs).e (mx p r D ys).e i)
              have EX := Lib.hid ex; have EY := Lib.hid ey; have HYY := Lib.hid hy; clear ex ey hy
              go_upto_region 14 with (fail)
              replace B1 := B1.trans (Drawn.below (w' := wr.drew) ⟨1, rfl⟩ wo.heap.size)
              replace ho := ho.drew
              have hbs : wo.heap.size ≤ wr.drew.heap.size := B1.size
              refine startL (S := (fun w' => Below wo.heap.size wr.drew w')) (by kernel_rfl) (Below.refl _ _) (fun hHeld => ?_)
              refine takeL 0 (v := ?_) rfl (by kernel_rfl) (by kernel_rfl) (by kernel_rfl) (fun _ _ _ h => h) ⟨by rfl, ?_⟩ (by assumption) ?_
              rotate_left
              · intro w hS; go_simp <;> with_reducible rfl
              simp only [Act.put, List.setIfInBounds_toArray, List.set_cons_zero, List.set_cons_succ]
              refine takeL 1 (v := ?_) rfl (by kernel_rfl) (by kernel_rfl) (by kernel_rfl) (fun _ _ _ h => h) ⟨by rfl, ?_⟩ (by assumption) ?_
              rotate_left
              · intro w hS; have bs := B1.trans hS; have fa := (KB.next bs).cell; have fb := (KF.next bs).cell; have f1 := fa 0; have f2 := fa 1; have f3 := fa 2; have f4 := fb 0; clear fa fb; go_simp <;> with_reducible rfl
              simp only [Act.put, List.setIfInBounds_toArray, List.set_cons_zero, List.set_cons_succ]
              refine takeL 2 (v := ?_) rfl (by kernel_rfl) (by kernel_rfl) (by kernel_rfl) (fun _ _ _ h => h) ⟨by rfl, ?_⟩ (by assumption) ?_
              rotate_left
              · intro w hS; have bs := B1.trans hS; have fa := (KB.next bs).cell; have fb := (KF.next bs).cell; have f1 := fa 0; have f2 := fa 1; have f3 := fa 2; have f4 := fb 0; clear fa fb; go_simp <;> with_reducible rfl
              simp only [Act.put, List.setIfInBounds_toArray, List.set_cons_zero, List.set_cons_succ]
              refine takeL 3 (v := ?_) rfl (by kernel_rfl) (by kernel_rfl) (by kernel_rfl) (fun _ _ _ h => h) ⟨by rfl, ?_⟩ (by assumption) ?_
              rotate_left
              · intro w hS; go_simp <;> with_reducible rfl
              simp only [Act.put, List.setIfInBounds_toArray, List.set_cons_zero, List.set_cons_succ]
              refine takeL 4 (v := ?_) rfl (by kernel_rfl) (by kernel_rfl) (by kernel_rfl) (fun _ _ _ h => h) ⟨by rfl, ?_⟩ (by assumption) ?_
              rotate_left
              · intro w hS; go_simp <;> with_reducible rfl
              simp only [Act.put, List.setIfInBounds_toArray, List.set_cons_zero, List.set_cons_succ]
              refine oneL 5 rfl (by kernel_rfl) (by rfl) (fun K hK => ?_)
              go_simp
              go_at_call 97
              (with_reducible refine (fm_get _ r D i j ys _ (hB'.next (B1.trans hHeld)) (by omega) (by omega) (by omega) hx0 x EX.out).mono ?_); rintro e w2 ⟨rfl, b2⟩
              refine hK.out _ _ (hHeld.trans (b2.mono (Nat.le_trans hbs hHeld.size))) (fun hHeld => ?_)
              clear hK K
              try simp only [Act.put, List.setIfInBounds_toArray, List.set_cons_zero, List.set_cons_succ]
              refine oneL 6 rfl (by kernel_rfl) (by rfl) (fun K hK => ?_)
              go_simp
              go_at_call 124
              (with_reducible refine (gfp_Norm p x _ HP.out).mono ?_); rintro e w3 ⟨rfl, b3⟩
              rw [← EY.out]
              refine hK.out _ _ (hHeld.trans (b3.mono (Nat.le_trans hbs hHeld.size))) (fun hHeld => ?_)
              clear hK K
              try simp only [Act.put, List.setIfInBounds_toArray, List.set_cons_zero, List.set_cons_succ]
              refine oneL 7 rfl (by kernel_rfl) (by rfl) (fun K hK => ?_)
              go_simp
              have hd := hHeld
              refine hK.out _ _ (hHeld.alloc (Nat.le_trans hbs hHeld.size) _) (fun hHeld => ?_)
              clear hK K
              try simp only [Act.put, List.setIfInBounds_toArray, List.set_cons_zero, List.set_cons_succ]
              refine oneL 8 rfl (by kernel_rfl) (by rfl) (fun K hK => ?_)
              refine ap2 (ops := #[]) .u64 32 27 8 Try.underlying32 (by kernel_rfl) (by decide) rfl _ _ rfl w3 wo.heap.size _ (rwv (k + j) (beside k (mx p r k xs).e (mx p r D ys).e i)) y _ (by rfl) ((ho.next b2).next b3) (by omega) (Nat.le_trans hbs hd.size) rfl rfl ?_
              intro gg cap1 wz hown' hbel'
              refine hK.out _ _ (hd.trans hbel') (fun hHeld => ?_)
              clear hK K
              try simp only [Act.put, List.setIfInBounds_toArray, List.set_cons_zero, List.set_cons_succ]
              refine takeL 9 (v := ?_) rfl (by kernel_rfl) (by kernel_rfl) (by kernel_rfl) (fun _ _ _ h => h) ⟨by rfl, ?_⟩ (by assumption) ?_
              rotate_left
              · intro w hS; go_simp <;> with_reducible rfl
              simp only [Act.put, List.setIfInBounds_toArray, List.set_cons_zero, List.set_cons_succ]
              refine doneL (by kernel_rfl) ?_ _
              rw [← HYY.out, hl] at hown'
              have st := Lib.hid (show BgI p wo wz (.slice (some ⟨gg, 0, none⟩) (k + j + 1) cap1) (k + j + 1) (beside k (mx p r k xs).e (mx p r D ys).e i) from ⟨_, _, rfl, hown', B1.trans hHeld⟩)
              rw [hl]
              clear hown' hHeld b2 b3 hd hbel' ho B1 hl
              go_wp2
              go_roundw
              case rel => exact ⟨j + 1, by omega, by go_num, st.out⟩
              case measure => simp [intOf] <;> omega
            · obtain rfl : j = D := by omega
              have KW' := KW.next B1
              have w0 := KW'.cell 1
              have fr0 := KW'.free 1
              have hgs : gW < wr.heap.size := KW'.lt
              go_wp2_with (at_builtin; refine apVl 99 32 24 (.slice none 0 0) Try.underlying99 (by kernel_rfl) (by decide) rfl rfl _ _ rfl wr (gW + 1) rv i vs _ rfl (rowOwn_next RW.own B1 (Nat.le_refl _)) (by omega) hgs rfl rfl ?_; intro g2 cap2 w4 ho4 hb4 hg4 _; have KW4 := KW'.below hb4 (Nat.lt_succ_self _); have q1 := KW4.cell 1; have q2 := KW4.free 1)
              have R4 := RW.push (by decide) B1 (RowAt.of_own ho rfl) KW.lt hg4 ho4 (fun _ _ h => h) (fun _ _ h => h)
              have R5 := R4.far (a := ⟨gW, 1, none⟩) (y := .slice (some ⟨g2, 0, none⟩) (i + 1) cap2) KW4 (by decide) (by decide) (fun _ _ h => h)
              have hF := ((KF.next B1).below hb4 (by omega)).far (a := ⟨gW, 1, none⟩) (Nat.ne_of_lt (show g < gW by omega)) (.slice (some ⟨g2, 0, none⟩) (i + 1) cap2)
              have hAA := ((KA.next B1).below hb4 (by omega)).far (a := ⟨gW, 1, none⟩) (Nat.ne_of_lt (show g + 1 < gW by omega)) (.slice (some ⟨g2, 0, none⟩) (i + 1) cap2)
              have hBB := ((KB.next B1).below hb4 (by omega)).far (a := ⟨gW, 1, none⟩) (Nat.ne_of_lt (show g + 1 + 1 < gW by omega)) (.slice (some ⟨g2, 0, none⟩) (i + 1) cap2)
              have hW := KW4.set 1 (.slice (some ⟨g2, 0, none⟩) (i + 1) cap2)
              have hB5 := (((B0.trans (B1.mono B0.size)).trans (hb4.mono (by omega))).setCell (p := ⟨gW, 1, none⟩) (show w.heap.size ≤ gW by omega) (.slice (some ⟨g2, 0, none⟩) (i + 1) cap2))
              have st := Lib.hid (show BgR p w (w4.setCell ⟨gW, 1, none⟩ (.slice (some ⟨g2, 0, none⟩) (i + 1) cap2)) r k j xs ys aA aB cA cB g gW (i + 1) from ⟨_, _, hF, hAA, hBB, hW, R5, hB5⟩)
              clear R4 R5 hF hAA hBB hW hB5 KF KA KB KW KW' KW4 ho4 hb4 hg4 RW B0 B1 ho q1 q2 w0 fr0
              go_roundw
              case rel => exact ⟨i + 1, by omega, by go_num, st.out⟩
              case measure => simp [intOf] <;> omega
    · obtain rfl : i = r := by omega
      have KWf := Lib.hid KW
      go_wp2
      go_ret
      exact ⟨gW, _, _, _, _, _, _, rfl, ⟨by rw [← show ((1 : Zp p).val) = ((1 : Zp p).val) from rfl]; exact KW, by omega, RW.mono (by omega), Own.nil _ _ _ _⟩, ⟨rfl, rfl, rfl⟩, B0⟩

end Go.Proofs.Ythghdjpjbngllaa
