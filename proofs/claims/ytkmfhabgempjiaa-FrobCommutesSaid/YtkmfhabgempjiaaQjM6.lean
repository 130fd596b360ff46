/- fmat.begun: the rows of two matrices side by side. -/
import Derived.Test.YtkmfhabgempjiaaQjM5
import Derived.Test.YtkmfhabgempjiaaQjM3
namespace Go.Proofs.Ytkmfhabgempjiaa
set_option maxHeartbeats 2000000
open Go.RowKit
def BgR (p : Nat) (w wr : World) (r C D : Nat) (xs ys : List Nat) (aA aB : Option Addr) (cA cB g gW i : Nat) : Prop := ∃ rv vs, Blk 29 wr g [.int .u64 p] ∧ Blk 63 wr (g + 1) [.int .i64 r, .int .i64 C, .slice aA xs.length cA] ∧ Blk 63 wr (g + 1 + 1) [.int .i64 r, .int .i64 D, .slice aB ys.length cB] ∧
 Blk 136 wr gW [.int .u64 p, rv, .slice none 0 0, .int .u64 ((1 : Zp p).val : Nat)] ∧ Rws (VZ p) 27 41 wr (gW + 1) rv vs i (C + D) (beside C (mx p r C xs).e (mx p r D ys).e) ∧ Below w.heap.size w wr
def BgI (p : Nat) (wo wr : World) (v : Value) (N : Nat) (f : Nat → Zp p) : Prop := ∃ ao k, v = .slice ao N k ∧ Own .u64 27 wr wo.heap.size (.slice ao N k) (rwv N f) ∧ Below wo.heap.size wo wr
set_option maxRecDepth 20000 in
theorem fw_begun (p : Nat) (a b : Value) (r C D : Nat) (xs ys : List Nat) (w : World) (hp : FP p) (hA : Fm w a r C xs) (hB : Fm w b r D ys) (hr : r ≤ 64) (hC : C ≤ 64) (hD : D ≤ 64) (hx : xs.length = r * C) (hy : ys.length = r * D) :
  Calls Try.prog 143 #[.agg #[.int .u64 p], a, b] w (RetWk p w r (C + D) (fun W P d => W = beside C (mx p r C xs).e (mx p r D ys).e ∧ P = [] ∧ d = 1)) := by
 obtain ⟨aA, cA, rfl⟩ := hA.agg
 obtain ⟨aB, cB, rfl⟩ := hB.agg
 obtain ⟨wb, ew, KF, KA, KB, B0, hsz⟩ := boxes3 w 29 63 63 [.int .u64 p] [.int .i64 r, .int .i64 C, .slice aA xs.length cA] [.int .i64 r, .int .i64 D, .slice aB ys.length cB]
 have HSZ := Lib.hid hsz; clear hsz
 have HP := Lib.hid hp; clear hp
 have HX := Lib.hid hx; have HY := Lib.hid hy; clear hx hy
 obtain ⟨one, eone⟩ : ∃ one, one = (1 : Zp p).val := ⟨_, rfl⟩
 have EONE := Lib.hid eone; clear eone
 go_enter Try.func143, Try.ntmps143
 go_upto_region 1 with (fail)
 rw [← ew]
 obtain ⟨g, eg⟩ : ∃ g, g = w.heap.size := ⟨_, rfl⟩
 rw [← eg] at KF KA KB ⊢
 have hgw : w.heap.size ≤ g := by omega
 have HSZ := Lib.hid (show wb.heap.size = g + 1 + 1 + 1 by rw [HSZ.out, eg])
 clear eg ew
 have bd := dw wb
 replace KF := KF.next bd; replace KA := KA.next bd; replace KB := KB.next bd
 replace B0 := B0.trans (bd.mono B0.size)
 clear bd
 have z0 := Lib.hid fun (w : World) (hS : Below (wb.drew).heap.size (wb.drew) w) => (KF.at hS) 0
 refine startL (S := (fun w' => Below (wb.drew).heap.size (wb.drew) w')) (by kernel_rfl) (Below.refl _ _) (fun hHeld => ?_)
 refine tf 0 z0.out ?_
 refine tf 1 z0.out ?_
 refine on 2 fun K hK => ?_
 go_simp
 go_at_call 134
 (with_reducible refine (gfp_Norm1 p _ HP.out one EONE.out).mono ?_); rintro e w2 ⟨rfl, b2⟩
 refine hK.out _ _ (hHeld.trans (b2.mono hHeld.size)) (fun hHeld => ?_)
 clear hK K
 try simp only [Act.put, zq1, zq2, zq3]
 refine tk 3 ?_
 refine on 4 fun K hK => ?_
 go_simp
 refine hK.out _ _ (hHeld.alloc hHeld.size _) (fun hHeld => ?_)
 clear hK K
 try simp only [Act.put, zq1, zq2, zq3]
 refine tk 5 ?_
 clear z0; refine doneL (by kernel_rfl) ?_ _
 obtain ⟨wc, ewc, KW, bc, hsc⟩ := boxes1 w2 136 [.int .u64 p, .slice none 0 0, .slice none 0 0, .int .u64 (one : Nat)]
 rw [← ewc] at hHeld
 replace KF := KF.next hHeld; replace KA := KA.next hHeld; replace KB := KB.next hHeld
 replace B0 := B0.trans (hHeld.mono B0.size)
 rw [EONE.out] at KW
 obtain ⟨gW, egw⟩ : ∃ gW, gW = w2.heap.size := ⟨_, rfl⟩
 have hgW : g + 1 + 1 < gW := by
  have q1 := b2.size; have q2 := HSZ.out; have q3 : wb.drew.heap.size = wb.heap.size := rfl
  omega
 rw [← egw] at KW
 have st : BgR p w wc r C D xs ys aA aB cA cB g gW 0 := ⟨_, _, KF, KA, KB, KW, Rws.nil _ _ _ _, B0⟩
 have ka1 := KA.cell 0
 clear KF KA KB KW B0 hHeld bc hsc b2
 rw [← ewc, ← egw]
 clear ewc egw
 go_wp2
 clear ka1
 go_loopw [19] (fun iv wr => ∃ i : Nat, i ≤ r ∧ iv = .int .i64 i ∧ BgR p w wr r C D xs ys aA aB cA cB g gW i) (fun iv _ => r - (intOf iv).toNat)
 case atStart => exact ⟨0, by omega, rfl, st⟩
 case round =>
  clear st wc
  obtain ⟨i, hi, rfl, st⟩ := hrel
  obtain ⟨rv, vs, KF, KA, KB, KW, RW, B0⟩ := st
  by_cases hir : i < r
  ·obtain ⟨wo, rfl⟩ : ∃ wo : World, wo = wr := ⟨_, rfl⟩
   have hA' := hA.next B0; have hB' := hB.next B0
   have f1 := KA.cell 1; have f2 := KB.cell 1
   have st : BgI p wo wo (.slice none 0 0) 0 (beside C (mx p r C xs).e (mx p r D ys).e i) := ⟨_, _, rfl, Own.nil _ _ _ _, Below.refl _ _⟩
   go_wp2
   clear f1
   go_loopw [24, 9] (fun kv ov wr => ∃ k : Nat, k ≤ C ∧ kv = .int .i64 k ∧ BgI p wo wr ov k (beside C (mx p r C xs).e (mx p r D ys).e i)) (fun kv _ _ => C - (intOf kv).toNat)
   case atStart => exact ⟨0, by omega, rfl, st⟩
   case round =>
    clear st f2
    obtain ⟨k, hk, rfl, ao, kc, rfl, ho, B1⟩ := hrel
    by_cases hkc : k < C
    ·have hx0 := at_lt HX.out hir hkc
     obtain ⟨x, ex⟩ : ∃ x, x = xs.getD (i * C + k) 0 := ⟨_, rfl⟩
     obtain ⟨y, ey⟩ : ∃ y, y = x % p := ⟨_, rfl⟩
     have hy : rwv (k + 1) (beside C (mx p r C xs).e (mx p r D ys).e i) = rwv (k) (beside C (mx p r C xs).e (mx p r D ys).e i) ++ [y] := by
      rw [rwv_succ, ey, ex]; congr 2
      rw [beside_l hkc, mx_e _ hir hkc]
      exact (Zp.mod_is HP.out _ rfl).symm
     have hl := rwv_length (k) (beside C (mx p r C xs).e (mx p r D ys).e i)
     have EX := Lib.hid ex; have EY := Lib.hid ey; have HYY := Lib.hid hy; clear ex ey hy
     go_upto_region 9 with (fail)
     replace B1 := B1.trans (Drawn.below (w' := wr.drew) ⟨1, rfl⟩ wo.heap.size)
     replace ho := ho.drew
     have hbs : wo.heap.size ≤ wr.drew.heap.size := B1.size
     have z0 := Lib.hid fun (w : World) (hS : Below wo.heap.size wr.drew w) => And.intro (B1.trans hS) (And.intro (((KA.next (B1.trans hS)).cell) 0) (And.intro (((KA.next (B1.trans hS)).cell) 1) (And.intro (((KA.next (B1.trans hS)).cell) 2) (((KF.next (B1.trans hS)).cell) 0))))
     refine startL (S := (fun w' => Below wo.heap.size wr.drew w')) (by kernel_rfl) (Below.refl _ _) (fun hHeld => ?_)
     refine tk 0 ?_
     refine tf 1 z0.out ?_
     refine tf 2 z0.out ?_
     refine tk 3 ?_
     refine tk 4 ?_
     refine on 5 fun K hK => ?_
     go_simp
     go_at_call 150
     (with_reducible refine (fm_get _ r C i k xs _ (hA'.next (B1.trans hHeld)) (by omega) (by omega) (by omega) hx0 x EX.out).mono ?_); rintro e w2 ⟨rfl, b2⟩
     refine hK.out _ _ (hHeld.trans (b2.mono (Nat.le_trans hbs hHeld.size))) (fun hHeld => ?_)
     clear hK K
     try simp only [Act.put, zq1, zq2, zq3]
     refine on 6 fun K hK => ?_
     go_simp
     go_at_call 134
     (with_reducible refine (gfp_Norm p x _ HP.out).mono ?_); rintro e w3 ⟨rfl, b3⟩
     rw [← EY.out]
     refine hK.out _ _ (hHeld.trans (b3.mono (Nat.le_trans hbs hHeld.size))) (fun hHeld => ?_)
     clear hK K
     try simp only [Act.put, zq1, zq2, zq3]
     refine on 7 fun K hK => ?_
     go_simp
     have hd := hHeld
     refine hK.out _ _ (hHeld.alloc (Nat.le_trans hbs hHeld.size) _) (fun hHeld => ?_)
     clear hK K
     try simp only [Act.put, zq1, zq2, zq3]
     refine on 8 fun K hK => ?_
     refine ap2 (ops := #[]) .u64 41 27 8 Try.underlying41 (by kernel_rfl) (by decide) rfl _ _ rfl w3 wo.heap.size _ (rwv (k) (beside C (mx p r C xs).e (mx p r D ys).e i)) y _ (by rfl) ((ho.next b2).next b3) (by omega) (Nat.le_trans hbs hd.size) rfl rfl ?_
     intro gg cap1 wz hown' hbel'
     refine hK.out _ _ (hd.trans hbel') (fun hHeld => ?_)
     clear hK K
     try simp only [Act.put, zq1, zq2, zq3]
     refine tk 9 ?_
     clear z0; refine doneL (by kernel_rfl) ?_ _
     rw [← HYY.out, hl] at hown'
     have st := Lib.hid (show BgI p wo wz (.slice (some ⟨gg, 0, none⟩) (k + 1) cap1) (k + 1) (beside C (mx p r C xs).e (mx p r D ys).e i) from ⟨_, _, rfl, hown', B1.trans hHeld⟩)
     rw [hl]
     clear hown' hHeld b2 b3 hd hbel' ho B1 hl
     go_wp2
     go_roundw
     case rel => exact ⟨k + 1, by omega, by go_num, st.out⟩
     case measure => simp [intOf] <;> omega
    ·obtain rfl : k = C := by omega
     have f2 := (KB.next B1).cell 1
     have st : BgI p wo wr (.slice ao (k + 0) kc) (k + 0) (beside k (mx p r k xs).e (mx p r D ys).e i) := ⟨_, _, rfl, ho, B1⟩
     go_wp2
     clear f2
     go_loopw [39, 9] (fun kv ov wr => ∃ j : Nat, j ≤ D ∧ kv = .int .i64 j ∧ BgI p wo wr ov (k + j) (beside k (mx p r k xs).e (mx p r D ys).e i)) (fun kv _ _ => D - (intOf kv).toNat)
     case atStart => exact ⟨0, by omega, rfl, st⟩
     case round =>
      clear st ho B1
      obtain ⟨j, hj, rfl, ao, kc, rfl, ho, B1⟩ := hrel
      by_cases hjd : j < D
      ·have hx0 := at_lt HY.out hir hjd
       obtain ⟨x, ex⟩ : ∃ x, x = ys.getD (i * D + j) 0 := ⟨_, rfl⟩
       obtain ⟨y, ey⟩ : ∃ y, y = x % p := ⟨_, rfl⟩
       have hy : rwv (k + j + 1) (beside k (mx p r k xs).e (mx p r D ys).e i) = rwv (k + j) (beside k (mx p r k xs).e (mx p r D ys).e i) ++ [y] := by
        rw [rwv_succ, ey, ex]; congr 2
        rw [beside_r, mx_e _ hir hjd]
        exact (Zp.mod_is HP.out _ rfl).symm
       have hl := rwv_length (k + j) (beside k (mx p r k xs).e (mx p r D ys).e i)
       have EX := Lib.hid ex; have EY := Lib.hid ey; have HYY := Lib.hid hy; clear ex ey hy
       go_upto_region 14 with (fail)
       replace B1 := B1.trans (Drawn.below (w' := wr.drew) ⟨1, rfl⟩ wo.heap.size)
       replace ho := ho.drew
       have hbs : wo.heap.size ≤ wr.drew.heap.size := B1.size
       have z0 := Lib.hid fun (w : World) (hS : Below wo.heap.size wr.drew w) => And.intro (B1.trans hS) (And.intro (((KB.next (B1.trans hS)).cell) 0) (And.intro (((KB.next (B1.trans hS)).cell) 1) (And.intro (((KB.next (B1.trans hS)).cell) 2) (((KF.next (B1.trans hS)).cell) 0))))
       refine startL (S := (fun w' => Below wo.heap.size wr.drew w')) (by kernel_rfl) (Below.refl _ _) (fun hHeld => ?_)
       refine tk 0 ?_
       refine tf 1 z0.out ?_
       refine tf 2 z0.out ?_
       refine tk 3 ?_
       refine tk 4 ?_
       refine on 5 fun K hK => ?_
       go_simp
       go_at_call 150
       (with_reducible refine (fm_get _ r D i j ys _ (hB'.next (B1.trans hHeld)) (by omega) (by omega) (by omega) hx0 x EX.out).mono ?_); rintro e w2 ⟨rfl, b2⟩
       refine hK.out _ _ (hHeld.trans (b2.mono (Nat.le_trans hbs hHeld.size))) (fun hHeld => ?_)
       clear hK K
       try simp only [Act.put, zq1, zq2, zq3]
       refine on 6 fun K hK => ?_
       go_simp
       go_at_call 134
       (with_reducible refine (gfp_Norm p x _ HP.out).mono ?_); rintro e w3 ⟨rfl, b3⟩
       rw [← EY.out]
       refine hK.out _ _ (hHeld.trans (b3.mono (Nat.le_trans hbs hHeld.size))) (fun hHeld => ?_)
       clear hK K
       try simp only [Act.put, zq1, zq2, zq3]
       refine on 7 fun K hK => ?_
       go_simp
       have hd := hHeld
       refine hK.out _ _ (hHeld.alloc (Nat.le_trans hbs hHeld.size) _) (fun hHeld => ?_)
       clear hK K
       try simp only [Act.put, zq1, zq2, zq3]
       refine on 8 fun K hK => ?_
       refine ap2 (ops := #[]) .u64 41 27 8 Try.underlying41 (by kernel_rfl) (by decide) rfl _ _ rfl w3 wo.heap.size _ (rwv (k + j) (beside k (mx p r k xs).e (mx p r D ys).e i)) y _ (by rfl) ((ho.next b2).next b3) (by omega) (Nat.le_trans hbs hd.size) rfl rfl ?_
       intro gg cap1 wz hown' hbel'
       refine hK.out _ _ (hd.trans hbel') (fun hHeld => ?_)
       clear hK K
       try simp only [Act.put, zq1, zq2, zq3]
       refine tk 9 ?_
       clear z0; refine doneL (by kernel_rfl) ?_ _
       rw [← HYY.out, hl] at hown'
       have st := Lib.hid (show BgI p wo wz (.slice (some ⟨gg, 0, none⟩) (k + j + 1) cap1) (k + j + 1) (beside k (mx p r k xs).e (mx p r D ys).e i) from ⟨_, _, rfl, hown', B1.trans hHeld⟩)
       rw [hl]
       clear hown' hHeld b2 b3 hd hbel' ho B1 hl
       go_wp2
       go_roundw
       case rel => exact ⟨j + 1, by omega, by go_num, st.out⟩
       case measure => simp [intOf] <;> omega
      ·obtain rfl : j = D := by omega
       have KW' := KW.next B1
       have w0 := KW'.cell 1
       have fr0 := KW'.free 1
       have hgs : gW < wr.heap.size := KW'.lt
       go_wp2_with (at_builtin; refine apVl 68 41 24 (.slice none 0 0) Try.underlying68 (by kernel_rfl) (by decide) rfl rfl _ _ rfl wr (gW + 1) rv i vs _ rfl (rowOwn_next RW.own B1 (Nat.le_refl _)) (by omega) hgs rfl rfl ?_; intro g2 cap2 w4 ho4 hb4 hg4 _; have KW4 := KW'.below hb4 (Nat.lt_succ_self _); have q1 := KW4.cell 1; have q2 := KW4.free 1)
       have R4 := RW.push (by decide) B1 (RowAt.of_own ho rfl) KW.lt hg4 ho4 (fun _ _ h => h) (fun _ _ h => h)
       have R5 := R4.far (a := ⟨gW, 1, none⟩) (y := .slice (some ⟨g2, 0, none⟩) (i + 1) cap2) KW4 (by decide) (by decide) (fun _ _ h => h)
       have hF := ((KF.next B1).below hb4 (by omega)).far (a := ⟨gW, 1, none⟩) (Nat.ne_of_lt (show g < gW by omega)) (.slice (some ⟨g2, 0, none⟩) (i + 1) cap2)
       have hAA := ((KA.next B1).below hb4 (by omega)).far (a := ⟨gW, 1, none⟩) (Nat.ne_of_lt (show g + 1 < gW by omega)) (.slice (some ⟨g2, 0, none⟩) (i + 1) cap2)
       have hBB := ((KB.next B1).below hb4 (by omega)).far (a := ⟨gW, 1, none⟩) (Nat.ne_of_lt (show g + 1 + 1 < gW by omega)) (.slice (some ⟨g2, 0, none⟩) (i + 1) cap2)
       have hW := KW4.set 1 (.slice (some ⟨g2, 0, none⟩) (i + 1) cap2)
       have hB5 := (((B0.trans (B1.mono B0.size)).trans (hb4.mono (by omega))).setCell (p := ⟨gW, 1, none⟩) (show w.heap.size ≤ gW by omega) (.slice (some ⟨g2, 0, none⟩) (i + 1) cap2))
       have st := Lib.hid (show BgR p w (w4.setCell ⟨gW, 1, none⟩ (.slice (some ⟨g2, 0, none⟩) (i + 1) cap2)) r k j xs ys aA aB cA cB g gW (i + 1) from ⟨_, _, hF, hAA, hBB, hW, R5, hB5⟩)
       clear R4 R5 hF hAA hBB hW hB5 KF KA KB KW KW' KW4 ho4 hb4 hg4 RW B0 B1 ho q1 q2 w0 fr0
       go_roundw
       case rel => exact ⟨i + 1, by omega, by go_num, st.out⟩
       case measure => simp [intOf] <;> omega
  ·obtain rfl : i = r := by omega
   have KWf := Lib.hid KW
   go_wp2
   go_ret
   exact ⟨gW, _, _, _, _, _, _, rfl, ⟨by rw [← show ((1 : Zp p).val) = ((1 : Zp p).val) from rfl]; exact KW, by omega, RW.mono (by omega), Own.nil _ _ _ _⟩, ⟨rfl, rfl, rfl⟩, B0⟩
end Go.Proofs.Ytkmfhabgempjiaa
/- fmat.work: a multiple of one row is taken out of another one. -/
namespace Go.Proofs.Ytkmfhabgempjiaa
set_option maxHeartbeats 2000000
open Go.RowKit
section
variable {α : Type} {V : World → Value → α → Prop} {e er : TypeId} {w : World} {base n N : Nat} {rv : Value} {vs : List Value} {W W' : Nat → Nat → α}
theorem Rws.congr (h : Rws V e er w base rv vs n N W) (hW : ∀ i k, i < n → k < N → W i k = W' i k) : Rws V e er w base rv vs n N W' :=
 ⟨h.len, h.own, fun i v hv => by
  have hi : i < n := by rw [← h.len]; exact (List.getElem?_eq_some_iff.1 hv).1
  obtain ⟨ao, cap, b, o, cur, e1, h1, h2⟩ := h.row i v hv
  refine ⟨ao, cap, b, o, cur, e1, h1, fun hN => ?_⟩
  obtain ⟨h3, h4, h5, h6⟩ := h2 hN
  refine ⟨h3, h4, h5, fun k hk => ?_⟩
  rw [← hW i k hi hk]; exact h6 k hk, h.sep⟩
theorem Rws.ao (h : Rws V e er w base rv vs n N W) {i : Nat} {ao : Option Addr} {cap : Nat} (hv : vs[i]? = some (.slice ao N cap)) (hN : 0 < N) : ∃ b o, ao = some ⟨b, o, none⟩ := by
 obtain ⟨ao', cap', b, o, cur, e1, h1, h2⟩ := h.row i _ hv
 simp only [Value.slice.injEq, true_and] at e1
 exact ⟨b, o, e1.1.trans (h2 hN).1⟩
theorem Rws.at (h : Rws V e er w base rv vs n N W) {i b o cap k : Nat} (hv : vs[i]? = some (.slice (some ⟨b, o, none⟩) N cap)) (hk : k < N) :
  (∃ u, w.cell? ⟨b, o + k, none⟩ = some u ∧ V w u (W i k)) ∧ w.frozen? ⟨b, o + k, none⟩ = false ∧ base ≤ b ∧ b < w.heap.size := by
 obtain ⟨ao', cap', b', o', cur, e1, h1, h2⟩ := h.row i _ hv
 obtain ⟨h3, h4, h5, h6⟩ := h2 (by omega)
 simp only [Value.slice.injEq, true_and] at e1
 rw [h3] at e1
 simp only [Option.some.injEq, Addr.mk.injEq, and_true] at e1
 obtain ⟨⟨rfl, rfl⟩, rfl⟩ := e1
 obtain ⟨u, h7, h8⟩ := h6 k hk
 exact ⟨⟨u, (cell_of_row w b (o + k) cur e (0, 0) h5).trans h7, h8⟩, frozen_of_row w b (o + k) cur e h5, h4, (Array.getElem?_eq_some_iff.1 h5).1⟩
theorem Rws.atc (h : Rws V e er w base rv vs n N W) {i b o cap k : Nat} (hv : vs[i]? = some (.slice (some ⟨b, o, none⟩) N cap)) (hk : k < N) : ∃ cur, w.heap[b]? = some (.cells cur e (0, 0)) := by
 obtain ⟨ao', cap', b', o', cur, e1, h1, h2⟩ := h.row i _ hv
 obtain ⟨h3, h4, h5, h6⟩ := h2 (by omega)
 simp only [Value.slice.injEq, true_and] at e1
 rw [h3] at e1
 simp only [Option.some.injEq, Addr.mk.injEq, and_true] at e1
 obtain ⟨⟨rfl, rfl⟩, rfl⟩ := e1
 exact ⟨cur, h5⟩
end
section
variable {p : Nat} {w : World} {base gW n N : Nat} {W W' : Nat → Nat → Zp p} {P : List Nat} {d : Zp p} {rv pv : Value} {vs : List Value}
theorem Wk.congr (h : Wk p w base gW n N W P d rv pv vs) (hW : ∀ i k, i < n → k < N → W i k = W' i k) : Wk p w base gW n N W' P d rv pv vs := ⟨h.blk, h.gw, h.rows.congr hW, h.piv⟩
theorem Wk.store (h : Wk p w base gW n N W P d rv pv vs) {i k b o cap : Nat} (hv : vs[i]? = some (.slice (some ⟨b, o, none⟩) N cap)) (hk : k < N) {x : Zp p} {z : Int} (hz : z = (x.val : Nat)) :
  Wk p (w.setCell ⟨b, o + k, none⟩ (.int .u64 z)) base gW n N (updE W i k x) P d rv pv vs := by
 subst hz
 obtain ⟨cur, hc⟩ := h.rows.atc hv hk
 refine ⟨h.blk.far (fun e => ?_) _, h.gw, h.rows.store (by decide) hv hk (fun _ _ h => h) rfl, ownsRow_setCell_other h.piv (rowOwn_ne h.piv hc (by decide)) _⟩
 have := h.blk
 unfold Blk at this
 rw [e, hc] at this
 simp at this
theorem Wk.field (h : Wk p w base gW n N W P d rv pv vs) : w.cell? ⟨gW, 0, none⟩ = some (.int .u64 p) := h.blk.cell 0
end
def KpB (w w' : World) : Prop := ∀ (e : TypeId) (g : Nat) (vals : List Value), e ≠ 27 → Blk e w g vals → Blk e w' g vals
theorem KpB.refl (w : World) : KpB w w := fun _ _ _ _ h => h
theorem KpB.next {w w1 w2 : World} (h : KpB w w1) (b : Below w1.heap.size w1 w2) : KpB w w2 := fun e g vals he hb => (h e g vals he hb).next b
theorem KpB.store {w w1 : World} (h : KpB w w1) {a : Addr} {cur : Array Value} (hc : w1.heap[a.block]? = some (.cells cur 27 (0, 0))) (v : Value) : KpB w (w1.setCell a v) := fun e g vals he hb => by
 refine (h e g vals he hb).far (fun e1 => he ?_) v
 have := h e g vals he hb
 unfold Blk at this
 rw [e1, hc] at this
 simp at this
 exact this.2.symm
def TkR (p : Nat) (w wr : World) (base gW n N : Nat) (W : Nat → Nat → Zp p) (P : List Nat) (d : Zp p) (rv pv : Value) (vs : List Value) (r t : Nat) (c : Zp p) (k : Nat) : Prop :=
 Wk p wr base gW n N (fun a j => if a = r ∧ j < k then W a j - c * W t j else W a j) P d rv pv vs ∧ Below base w wr ∧ KpB w wr
set_option maxRecDepth 20000 in
theorem fw_take (p : Nat) (w : World) (hp : FP p) (base gW n N : Nat) (W : Nat → Nat → Zp p) (P : List Nat) (d : Zp p) (rv pv : Value) (vs : List Value) (h : Wk p w base gW n N W P d rv pv vs)
  (r t : Nat) (vr vt : Value) (hr : vs[r]? = some vr) (ht : vs[t]? = some vt) (hrt : r ≠ t) (c : Nat) (C : Zp p) (hc : c = C.val) (hN : N ≤ 1000) (hbase : base ≤ w.heap.size) :
  Calls Try.prog 170 #[.pointer (some ⟨gW, 0, none⟩), vr, vt, .int .u64 c] w (fun e w' => e = .returned (.tuple #[]) ∧ Wk p w' base gW n N (fun a j => if a = r then W a j - C * W t j else W a j) P d rv pv vs ∧ Below base w w' ∧ KpB w w') := by
 have HP := Lib.hid hp; clear hp
 have HC := Lib.hid hc; clear hc
 obtain ⟨ao, cr, rfl, -⟩ := (h.rows.row r vr hr).slice
 obtain ⟨at', ct, rfl, -⟩ := (h.rows.row t vt ht).slice
 have HR := Lib.hid hr; have HT := Lib.hid ht; clear hr ht
 have st : TkR p w w base gW n N W P d rv pv vs r t C 0 := ⟨h.congr fun i k _ _ => by rw [if_neg (by omega)], Below.refl _ _, KpB.refl _⟩
 clear h
 go_enter Try.func170, Try.ntmps170
 go_wp2
 go_loopw [11] (fun kv wr => ∃ k : Nat, k ≤ N ∧ kv = .int .i64 k ∧ TkR p w wr base gW n N W P d rv pv vs r t C k) (fun kv _ => N - (intOf kv).toNat)
 case atStart => exact ⟨0, by omega, rfl, st⟩
 case round =>
  clear st
  obtain ⟨k, hk, rfl, hw, B0, K0⟩ := hrel
  by_cases hkN : k < N
  ·obtain ⟨b, o, rfl⟩ := hw.rows.ao HR.out (by omega)
   obtain ⟨b', o', rfl⟩ := hw.rows.ao HT.out (by omega)
   have hbw : base ≤ wr.heap.size := Nat.le_trans hbase B0.size
   go_upto_region 3 with (fail)
   have bd := dw wr
   replace hw := hw.next bd
   replace B0 := B0.trans (bd.mono hbw)
   replace K0 := K0.next bd
   have hbw : base ≤ wr.drew.heap.size := hbw
   clear bd
   obtain ⟨⟨u, q1, hu⟩, f1, b1, s1⟩ := hw.rows.at HR.out hkN
   obtain ⟨⟨v, q2, hv⟩, f2, b2, s2⟩ := hw.rows.at HT.out hkN
   have hu : u = .int .u64 ((W r k).val : Nat) := by rw [hu, if_neg (by omega)]
   have hv : v = .int .u64 ((W t k).val : Nat) := by rw [hv, if_neg (by omega)]
   obtain ⟨x, ex⟩ : ∃ x, x = (W r k).val := ⟨_, rfl⟩
   obtain ⟨y, ey⟩ : ∃ y, y = (W t k).val := ⟨_, rfl⟩
   obtain ⟨z, ez⟩ : ∃ z, z = (Zp.of p c * Zp.of p y).val := ⟨_, rfl⟩
   obtain ⟨z', ez'⟩ : ∃ z', z' = (Zp.of p x - Zp.of p z).val := ⟨_, rfl⟩
   have ez2 : z' = (W r k - C * W t k).val := by rw [ez', ez, ex, ey, HC.out, Zp.of_val, Zp.of_val, Zp.of_val, Zp.of_val]
   rw [hu, ← ex] at q1
   rw [hv, ← ey] at q2
   have EZ := Lib.hid ez; have EZ' := Lib.hid ez'; have EZ2 := Lib.hid ez2
   clear ex ey ez ez' ez2 hu hv f1 f2 b2
   have qf := hw.field
   have z0 := Lib.hid fun (w : World) (hS : Below (wr.drew).heap.size (wr.drew) w) => And.intro ((hS.cell (p := ⟨gW, 0, none⟩) hw.blk.lt).trans qf) (And.intro ((hS.cell (p := ⟨b, o + k, none⟩) s1).trans q1) ((hS.cell (p := ⟨b', o' + k, none⟩) s2).trans q2))
   refine startP (S := (fun w' => Below (wr.drew).heap.size (wr.drew) w')) (by kernel_rfl) _ rfl rfl rfl (by kernel_rfl) (Below.refl _ _) (fun hHeld => ?_)
   refine tk 0 ?_
   refine tk 1 ?_
   refine tk 2 ?_
   refine tk 3 ?_
   refine tk 4 ?_
   refine tf 5 z0.out ?_
   refine tk 6 ?_
   refine tk 7 ?_
   refine tk 8 ?_
   refine tf 9 z0.out ?_
   refine tk 10 ?_
   refine tk 11 ?_
   refine tk 12 ?_
   refine tf 13 z0.out ?_
   refine tk 14 ?_
   refine tk 15 ?_
   refine tk 16 ?_
   refine tk 17 ?_
   refine tf 18 z0.out ?_
   refine on 19 fun K hK => ?_
   go_simp
   go_at_call 118
   (with_reducible refine (gfp_Mul p c y z _ HP.out EZ.out).mono ?_); rintro e w2 ⟨rfl, b2⟩
   refine hK.out _ _ (hHeld.trans (b2.mono hHeld.size)) (fun hHeld => ?_)
   clear hK K
   try simp only [Act.put, zq1, zq2, zq3]
   refine on 20 fun K hK => ?_
   go_simp
   go_at_call 136
   (with_reducible refine (gfp_Sub p x z z' _ HP.out EZ'.out).mono ?_); rintro e w3 ⟨rfl, b3⟩
   refine hK.out _ _ (hHeld.trans (b3.mono hHeld.size)) (fun hHeld => ?_)
   clear hK K
   try simp only [Act.put, zq1, zq2, zq3]
   refine tk 21 ?_
   clear z0; refine doneL (by kernel_rfl) ?_ _
   refine lastL rfl (by rfl) ?_
   have hw2 := hw.next hHeld
   have B2 := (B0.trans (hHeld.mono hbw)).setCell (p := ⟨b, o + k, none⟩) b1 (.int .u64 (z' : Nat))
   obtain ⟨⟨u, q3, -⟩, f3, -, -⟩ := hw2.rows.at HR.out hkN
   obtain ⟨cur, hcur⟩ := hw2.rows.atc HR.out hkN
   have K2 := (K0.next hHeld).store (a := ⟨b, o + k, none⟩) hcur (.int .u64 (z' : Nat))
   have st := Lib.hid (show TkR p w (w3.setCell ⟨b, o + k, none⟩ (.int .u64 (z' : Nat))) base gW n N W P d rv pv vs r t C (k + 1) from ⟨(hw2.store HR.out hkN (x := W r k - C * W t k) (by rw [EZ2.out])).congr fun a j _ _ => by
    unfold updE; dsimp only
    by_cases h1 : a = r
    ·subst h1
     by_cases h2 : j = k
     ·subst h2; rw [if_pos ⟨rfl, rfl⟩, if_pos ⟨rfl, by omega⟩]
     ·rw [if_neg (fun h => h2 h.2)]
      by_cases h3 : j < k
      ·rw [if_pos ⟨rfl, h3⟩, if_pos ⟨rfl, by omega⟩]
      ·rw [if_neg (fun h => h3 h.2), if_neg (by omega)]
    ·rw [if_neg (fun h => h1 h.1), if_neg (fun h => h1 h.1), if_neg (fun h => h1 h.1)], B2, K2⟩)
   clear hw hw2 B0 B2 K0 K2 hcur hHeld b2 b3 q1 q2 qf s1 s2 b1
   go_wp2
   go_roundw
   case rel => exact ⟨k + 1, by omega, by go_num, st.out⟩
   case measure => simp [intOf] <;> omega
  ·obtain rfl : k = N := by omega
   go_wp2
   go_end0
   refine ⟨rfl, hw.congr fun a j _ hj => ?_, B0, K0⟩
   by_cases h1 : a = r
   ·rw [if_pos ⟨h1, hj⟩, if_pos h1]
   ·rw [if_neg (fun h => h1 h.1), if_neg h1]
end Go.Proofs.Ytkmfhabgempjiaa
/- slices.IndexFunc of rows; which row has something in a column. -/
namespace Go.Proofs.Ytkmfhabgempjiaa
set_option maxHeartbeats 2000000
open Go.RowKit
def IxR (β : Nat → Bool) (m : Nat) (R : Int) : Prop := (∃ j : Nat, R = j ∧ j < m ∧ β j = true ∧ ∀ l, l < j → β l = false) ∨ (R = -1 ∧ ∀ l, l < m → β l = false)
theorem IxR.ex (β : Nat → Bool) : ∀ m, ∃ R, IxR β m R
 | 0 => ⟨-1, .inr ⟨rfl, fun l h => by omega⟩⟩
 | m + 1 => by
  obtain ⟨R, h | ⟨rfl, h⟩⟩ := IxR.ex β m
  ·obtain ⟨j, e, hj, h1, h2⟩ := h
   exact ⟨R, .inl ⟨j, e, by omega, h1, h2⟩⟩
  ·cases hb : β m with
   | true => exact ⟨m, .inl ⟨m, rfl, by omega, hb, h⟩⟩
   | false => exact ⟨-1, .inr ⟨rfl, fun l hl => by
     by_cases e : l = m
     ·rw [e]; exact hb
     ·exact h l (by omega)⟩⟩
set_option maxRecDepth 20000 in
theorem ixf_rows (fn : Nat) (hE : Enters Try.prog fn) (caps : List Value) (g off m cap : Nat) (us : List Value) (w : World) (hlen : us.length = m) (hm : m ≤ 1000000000) (hcell : ∀ (j : Nat) (u : Value), us[j]? = some u → w.cell? ⟨g, off + j, none⟩ = some u)
  (β : Nat → Bool) (hf : ∀ (j : Nat) (u : Value), us[j]? = some u → Calls Try.prog fn (u :: caps).toArray w (fun e w' => e = .returned (.bool (β j)) ∧ w = w')) (R : Int) (hR : IxR β m R) :
  Calls Try.prog 168 #[.slice (some ⟨g, off, none⟩) m cap, .func (.func fn) #[] caps.toArray] w (fun e w' => e = .returned (.int .i64 R) ∧ w = w') := by
 have HR := Lib.hid hR; have HF := Lib.hid hf; have HC := Lib.hid hcell; have HL := Lib.hid hlen
 clear hR hf hcell hlen
 go_enter Try.func168, Try.ntmps168
 go_wp2
 go_loop [8] (fun kv => ∃ k : Nat, k ≤ m ∧ kv = .int .i64 k ∧ ∀ l, l < k → β l = false) (fun kv => m - (intOf kv).toNat)
 case atStart => exact ⟨0, by omega, rfl, fun l h => by omega⟩
 case round =>
  obtain ⟨k, hk, rfl, hb⟩ := hrel
  have HB := Lib.hid hb; clear hb
  by_cases hkm : k < m
  ·obtain ⟨u, hu⟩ : ∃ u, us[k]? = some u := ⟨_, List.getElem?_eq_getElem (by rw [HL.out]; exact hkm)⟩
   have q1 := HC.out k u hu
   have hc := HF.out k u hu
   have HU := Lib.hid hu; clear hu
   by_cases hβ : β k = true
   ·have e : R = (k : Int) := by
     rcases HR.out with ⟨j, rfl, hj, h1, h2⟩ | ⟨_, h2⟩
     ·congr 1
      rcases Nat.lt_trichotomy j k with h | h | h
      ·rw [HB.out j h] at h1; cases h1
      ·exact h
      ·rw [h2 k h] at hβ; cases hβ
     ·rw [h2 k hkm] at hβ; cases hβ
    subst e
    rw [hβ] at hc
    have hc := Lib.hid hc
    clear hβ
    go_wp2_with fail
    rw [hE]
    refine hc.out.mono ?_; rintro e w' ⟨rfl, rfl⟩
    go_wp2
    go_ret
    exact ⟨rfl, rfl⟩
   ·have hβ : β k = false := by simpa using hβ
    rw [hβ] at hc
    have hc := Lib.hid hc
    have HN := Lib.hid (show ∀ l, l < k + 1 → β l = false from fun l hl => by
     by_cases e : l = k
     ·rw [e]; exact hβ
     ·exact HB.out l (by omega))
    clear hβ
    go_wp2_with fail
    rw [hE]
    refine hc.out.mono ?_; rintro e w' ⟨rfl, rfl⟩
    go_wp2
    go_round
    case rel => exact ⟨k + 1, by omega, by go_num, HN.out⟩
    case measure => simp [intOf] <;> omega
  ·have e : R = -1 := by
    rcases HR.out with ⟨j, rfl, hj, h1, h2⟩ | ⟨h, _⟩
    ·rw [HB.out j (by omega)] at h1; cases h1
    ·exact h
   subst e
   go_wp2
   go_ret
   exact ⟨rfl, rfl⟩
theorem fw_column1 (g : Nat) (w : World) (b o N cap col : Nat) (x : Nat) (hg : w.cell? ⟨g, 0, none⟩ = some (.int .i64 col)) (hN : col < N) (hx : w.cell? ⟨b, o + col, none⟩ = some (.int .u64 x)) (β : Bool) (hβ : β = decide (x ≠ 0)) :
  Calls Try.prog 169 #[.slice (some ⟨b, o, none⟩) N cap, .pointer (some ⟨g, 0, none⟩)] w (fun e w' => e = .returned (.bool β) ∧ w = w') := by
 by_cases h : x = 0
 ·subst h
  obtain rfl : β = false := by rw [hβ]; rfl
  clear hβ
  go_enter Try.func169, Try.ntmps169
  go_wp2
  go_ret
  exact ⟨rfl, rfl⟩
 ·obtain rfl : β = true := by rw [hβ]; exact decide_eq_true h
  have h2 : ((x : Int) != 0) = true := by simpa using h
  clear hβ h
  go_enter Try.func169, Try.ntmps169
  go_wp2
  go_ret
  exact ⟨rfl, rfl⟩
theorem gfp_Sub0 (p a z : Nat) (w : World) (hp : FP p) (hz : z = (-Zp.of p a).val) : Calls Try.prog 136 #[.agg #[.int .u64 p], .int .u64 0, .int .u64 a] w (RetW w (.int .u64 (z : Nat))) :=
 gfp_Sub p 0 a z w hp (by rw [hz, Zp.of_zero, CR.zero_sub])
theorem gfp_Neg (p a z : Nat) (w : World) (hp : FP p) (hz : z = (-Zp.of p a).val) : Calls Try.prog 110 #[.agg #[.int .u64 p], .int .u64 a] w (RetW w (.int .u64 (z : Nat))) := by
 obtain ⟨wb, ew, KF, B0, hsz⟩ := boxes1 w 29 [.int .u64 p]
 clear hsz
 have HP := Lib.hid hp; have HZ := Lib.hid hz; clear hp hz
 have f0 := KF.cell 0
 go_enter Try.func110, Try.ntmps110
 go_upto_region 1 with (fail)
 rw [← ew]
 clear ew KF
 go_wp2_with fail
 refine (gfp_Sub0 p a z _ HP.out HZ.out).mono ?_; rintro e w2 ⟨rfl, b2⟩
 go_wp2
 go_ret
 exact ⟨rfl, B0.trans (b2.mono B0.size)⟩
end Go.Proofs.Ytkmfhabgempjiaa
/- A region that draws its order and stores twice: one condition on the world ahead of the first store, none behind it. -/
namespace Go.Proofs.Ytkmfhabgempjiaa
set_option maxHeartbeats 2000000
open Go
section
variable {P : Program} {ops : Array Oper} {Q : Exit → Act → World → Prop} {S : World → Prop} {m : Nat}
def SSc (S : World → Prop) (m : Nat) (l : Array Bool) (w : World) : Prop := l.getD m false = false → S w
def wpAnyD (P : Program) (ops : Array Oper) (Q : Exit → Act → World → Prop) (S : World → Prop) (m : Nat) : Nat → Array Bool → Act → World → Prop
 | 0, listed, a, w => Region.ready .any ops listed = [] ∧ Q .normal a w
 | fuel + 1, listed, a, w =>
  (Region.ready .any ops listed = [] → Q .normal a w) ∧
  ∀ i ∈ Region.ready .any ops listed, wpOp P ops Q i (fun a' w' => SSc S m (listed.setIfInBounds i true) w' ∧ wpAnyD P ops Q S m fuel (listed.setIfInBounds i true) a' w') a w
theorem wpAny_of_D : ∀ (fuel : Nat) (listed : Array Bool) (a : Act) (w : World), wpAnyD P ops Q S m fuel listed a w → wpAny P .any ops Q fuel listed a w
 | 0, _, _, _, h => h
 | fuel + 1, _, _, _, h => ⟨h.1, fun i hi => wpOp_mono (fun a' w' h' => wpAny_of_D fuel _ a' w' h'.2) (h.2 i hi)⟩
theorem D_of_H : ∀ (fuel : Nat) (listed : Array Bool) (a : Act) (w : World), listed.getD m false = true → wpAnyH P .any ops Q (fun _ => True) fuel listed a w → wpAnyD P ops Q S m fuel listed a w
 | 0, _, _, _, _, h => h
 | fuel + 1, listed, _, _, hm, h => ⟨h.1, fun i hi => wpOp_mono (fun a' w' h' => ⟨fun e => (by have := getD_set_true (i := i) hm; rw [this] at e; cases e), D_of_H fuel _ a' w' (getD_set_true hm) h'.2⟩) (h.2 i hi)⟩
theorem not_ready {listed : Array Bool} {i j : Nat} {oj : Oper} (hr : i ∈ Region.ready .any ops listed) (hj : j ∈ Region.ready .any ops listed) (ho : ops[j]? = some oj) : ∀ e ∈ oj.after, Region.binds .any e = true → e.on ≠ i := by
 obtain ⟨_, o, hoj, hall⟩ := mem_ready.1 hj
 obtain rfl : o = oj := Option.some.inj (hoj.symm.trans ho)
 intro e he hb heq
 have h1 := hall e he hb
 have h0 := (mem_ready.1 hr).1
 rw [heq] at h1
 rcases Nat.lt_or_ge i listed.size with h' | h'
 ·simp [h'] at h0 h1; rw [h0] at h1; cases h1
 ·simp [Array.getElem?_eq_none h'] at h1
theorem SSc.set {i : Nat} (him : i ≠ m) {l : Array Bool} {w : World} : SSc S m (l.setIfInBounds i true) w ↔ SSc S m l w := by
 unfold SSc; rw [getD_set_ne false him]
theorem firstD {i : Nat} {oi : Oper} {v : Value} {U : World → Prop} (hi : ops[i]? = some oi) (hsel : ∀ (j : Nat) (o : Oper) cs b, ops[j]? = some o → o.op ≠ .select cs b)
  (hQ : ∀ c a w, Q (.panic c) (a.put oi.dst v) w → Q (.panic c) a w) (him : i ≠ m)
  (hU : (∀ w, U w) ∨ ((∀ w, S w → U w) ∧ ∃ om, ops[m]? = some om ∧ ∃ e ∈ om.after, Region.binds .any e = true ∧ e.on = i)) :
  ∀ (fuel : Nat) (listed : Array Bool) (a : Act) (w : World),
   (∀ j oj, ops[j]? = some oj → j ≠ i → listed.getD j true = false → (∀ e ∈ oj.after, Region.binds .any e = true → e.on ≠ i) → oi.apart ops oj = true) →
   i ∈ Region.ready .any ops listed → ((∀ w, U w) ∨ listed.getD m false = false) → YieldsIf P ops U oi v a → SSc S m listed w →
   wpAnyD P ops Q S m fuel (listed.setIfInBounds i true) (a.put oi.dst v) w → wpAnyD P ops Q S m (fuel + 1) listed a w := by
 intro fuel
 induction fuel with
 | zero =>
  intro listed a w _ hr hl hy hS H
  have hUw : U w := hl.elim (fun h => h w) (fun h => hU.elim (fun k => k w) (fun k => k.1 w (hS h)))
  refine ⟨fun h => (by rw [h] at hr; cases hr), fun j hj => ?_⟩
  by_cases hji : j = i
  ·subst hji; exact hy.wpOp hi hUw ⟨(SSc.set him).2 hS, H⟩
  ·have := ready_mono hj hji
   rw [H.1] at this
   cases this
 | succ fuel ih =>
  intro listed a w hfree hr hl hy hS H
  have hUw : U w := hl.elim (fun h => h w) (fun h => hU.elim (fun k => k w) (fun k => k.1 w (hS h)))
  refine ⟨fun h => (by rw [h] at hr; cases hr), fun j hj => ?_⟩
  by_cases hji : j = i
  ·subst hji; exact hy.wpOp hi hUw ⟨(SSc.set him).2 hS, H⟩
  ·have h1 := H.2 j (ready_mono hj hji)
   obtain ⟨hjun, oj, hoj, hall⟩ := mem_ready.1 hj
   have hnot := not_ready hr hj hoj
   have h2 := wpOp_putIf hoj (hfree j oj hoj hji hjun hnot) (fun cs b => hsel i oi cs b hi) (fun cs b => hsel j oj cs b hoj) hQ hy h1
   have hfree' : ∀ k ok, ops[k]? = some ok → k ≠ i → (listed.setIfInBounds j true).getD k true = false →
     (∀ e ∈ ok.after, Region.binds .any e = true → e.on ≠ i) → oi.apart ops ok = true := fun k ok hk hki hun hno => by
    refine hfree k ok hk hki ?_ hno
    by_cases hjk : j = k
    ·subst hjk; exact hjun
    ·rw [getD_set_ne true hjk] at hun; exact hun
   have hl' : (∀ w, U w) ∨ (listed.setIfInBounds j true).getD m false = false := by
    rcases hl with h | h
    ·exact .inl h
    ·rcases hU with hU | ⟨_, om, hom, e, he, hb, heq⟩
     ·exact .inl hU
     ·have hjm : j ≠ m := by
       intro hjm; subst hjm
       obtain rfl : oj = om := Option.some.inj (hoj.symm.trans hom)
       exact hnot e he hb heq
      exact .inr (by rw [getD_set_ne false hjm]; exact h)
   refine wpOp_mono (fun a' w' h3 => ?_) h2
   have h4 := h3.2.1
   have h5 := h3.2.2
   rw [← Array.setIfInBounds_comm _ _ hji] at h4 h5
   have hSw := (SSc.set him).1 h4
   exact ⟨hSw, ih (listed.setIfInBounds j true) a' w' hfree' (ready_mono hr (Ne.symm hji)) hl' h3.1 hSw h5⟩
end
section
variable {P : Program} {l : List Oper} {Q : Exit → Act → World → Prop} {S : World → Prop} {m : Nat}
theorem startD {id : Nat} {a : Act} {w : World} (m : Nat) (hm : P.follows .mixedOrders = true) (hS : S w.drew)
  (h : S w.drew → wpAnyD P l.toArray Q S m l.length (Array.replicate l.length false) a w.drew) : (Code.region id l.toArray true).wp P Q a w := by
 refine wp_region_any hm (wpAny_of_D (S := S) (m := m) _ _ _ _ ?_)
 simpa using h hS
theorem takeDA {fuel : Nat} {listed : Array Bool} {a : Act} {w : World} (i : Nat) {oi : Oper} {v : Value} (hi : l[i]? = some oi)
  (hs : Region.noSelect l.toArray = true) (hf : Region.free .any l.toArray listed i = true) (hr : (Region.ready .any l.toArray listed).contains i = true)
  (hQ : ∀ c a w, Q (.panic c) (a.put oi.dst v) w → Q (.panic c) a w) (him : i ≠ m) (hy : Region.wanted oi (yielded l.toArray a.tmps) = true ∧ ∀ w, (execOp a.eval oi).run P w = .ok (.value v) w) (hS : S w)
  (h : wpAnyD P l.toArray Q S m fuel (listed.setIfInBounds i true) (a.put oi.dst v) w) : wpAnyD P l.toArray Q S m (fuel + 1) listed a w :=
 firstD (U := fun _ => True) (by simpa using hi) (Region.noSelect_spec hs) hQ him (.inl fun _ => trivial) fuel listed a w (Region.free_spec (by simpa using hi) hf) (by simpa using hr) (.inl fun _ => trivial) (.inl ⟨hy.1, fun w _ => hy.2 w⟩) (fun _ => hS) h
def waitsB (l : List Oper) (m i : Nat) : Bool := match l[m]? with
 | some o => o.after.toList.any fun e => Region.binds .any e && e.on == i
 | none => false
theorem waits_spec {i : Nat} (h : waitsB l m i = true) : ∃ om, l.toArray[m]? = some om ∧ ∃ e ∈ om.after, Region.binds .any e = true ∧ e.on = i := by
 unfold waitsB at h
 cases ho : l[m]? with
 | none => rw [ho] at h; cases h
 | some o =>
  rw [ho] at h
  obtain ⟨e, he, hb⟩ := List.any_eq_true.1 h
  simp only [Bool.and_eq_true, beq_iff_eq] at hb
  exact ⟨o, by simpa using ho, e, Array.mem_toList_iff.1 he, hb.1, hb.2⟩
theorem takeD0 {fuel : Nat} {listed : Array Bool} {a : Act} {w : World} (i : Nat) {oi : Oper} {v : Value} (hi : l[i]? = some oi)
  (hs : Region.noSelect l.toArray = true) (hf : Region.free .any l.toArray listed i = true) (hr : (Region.ready .any l.toArray listed).contains i = true)
  (hQ : ∀ c a w, Q (.panic c) (a.put oi.dst v) w → Q (.panic c) a w) (him : i ≠ m) (hw : waitsB l m i = true) (hl : listed.getD m false = false)
  (hy : Region.wanted oi (yielded l.toArray a.tmps) = true ∧ ∀ w, S w → (execOp a.eval oi).run P w = .ok (.value v) w) (hS : S w)
  (h : wpAnyD P l.toArray Q S m fuel (listed.setIfInBounds i true) (a.put oi.dst v) w) : wpAnyD P l.toArray Q S m (fuel + 1) listed a w :=
 firstD (U := S) (by simpa using hi) (Region.noSelect_spec hs) hQ him (.inr ⟨fun _ h => h, waits_spec hw⟩) fuel listed a w (Region.free_spec (by simpa using hi) hf) (by simpa using hr) (.inr hl) (.inl hy) (fun _ => hS) h
theorem oneD {fuel : Nat} {listed : Array Bool} {a : Act} {w : World} (i : Nat) {o : Oper} (hi : l[i]? = some o) (hr : Region.ready .any l.toArray listed = [i])
  (hw : Region.wanted o (yielded l.toArray a.tmps) = true)
  (h : ∀ K' : Act → World → Prop, Shut (∀ a w, S w → (S w → wpAnyD P l.toArray Q S m fuel (listed.setIfInBounds i true) a w) → K' a w) → Oper.wp P o a w K' Q) : wpAnyD P l.toArray Q S m (fuel + 1) listed a w := by
 refine ⟨fun h0 => (by rw [hr] at h0; cases h0), fun j hj => ?_⟩
 rw [hr] at hj
 obtain rfl := List.mem_singleton.1 hj
 refine wpOp_step (by simpa using hi) (fun K' hK => ?_)
 rw [if_pos hw]
 exact h K' (fun a w hS hW => hK a w ⟨fun _ => hS, hW hS⟩)
theorem oneM {fuel : Nat} {listed : Array Bool} {a : Act} {w : World} {o : Oper} (hi : l[m]? = some o) (hr : Region.ready .any l.toArray listed = [m]) (hl : m < listed.size)
  (hw : Region.wanted o (yielded l.toArray a.tmps) = true)
  (h : ∀ K' : Act → World → Prop, Shut (∀ a w, wpAnyH P .any l.toArray Q (fun _ => True) fuel (listed.setIfInBounds m true) a w → K' a w) → Oper.wp P o a w K' Q) : wpAnyD P l.toArray Q S m (fuel + 1) listed a w := by
 refine ⟨fun h0 => (by rw [hr] at h0; cases h0), fun j hj => ?_⟩
 rw [hr] at hj
 obtain rfl := List.mem_singleton.1 hj
 have hm : (listed.setIfInBounds j true).getD j false = true := by simp [hl]
 refine wpOp_step (by simpa using hi) (fun K' hK => ?_)
 rw [if_pos hw]
 exact h K' (fun a w hW => hK a w ⟨fun e => (by rw [hm] at e; cases e), D_of_H _ _ _ _ hm hW⟩)
end
end Go.Proofs.Ytkmfhabgempjiaa
