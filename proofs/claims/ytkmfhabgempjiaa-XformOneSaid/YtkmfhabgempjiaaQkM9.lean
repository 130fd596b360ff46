/- xform: a column is brought into form. -/
import Derived.Test.YtkmfhabgempjiaaQkM8
namespace Go.Proofs.Ytkmfhabgempjiaa
set_option maxHeartbeats 4000000
open Go.RowKit
set_option maxRecDepth 20000 in
theorem xf_column (p : Nat) (w : World) (base gW : Nat) (rv : Value) (top n M : Nat) (U : Nat → Value) (E : Nat → Nat → Value) (W : Nat → Nat → Pol (Zp p)) (P : List Nat) (col L : Nat) (hp : FP p) (ht : Trial p) (h : Hst p w base gW rv top n M U E W) (hPl : P.length = top) (hher : HerI n col W P) (htn : top < n) (hcol : col < M) (hL : 2 ^ (n - top) * L ≤ 200000) (hM : M ≤ 1000) (hn : n ≤ 1000)
  (hb : ∀ r k, r < n → k < M → (W r k).dlt L) :
  Calls Try.prog 135 #[.pointer (some ⟨gW, 0, none⟩), .int .i64 col] w (RetHs p w base gW rv n M (ColQ n M col top L W P)) := by
 have hM0 : 0 < M := by omega
 have hP2 : ∀ i, top < i → i ≤ n → 2 ^ (i - top - 1) * L ≤ 100000 := fun i h1 h2 => by
  have e1 : 2 ^ (i - top - 1) * L * 2 ≤ 2 ^ (n - top) * L := by
   rw [Nat.mul_right_comm, ← Nat.pow_succ]
   exact Nat.mul_le_mul_right _ (Nat.pow_le_pow_right (by decide) (by omega))
  omega
 obtain ⟨gh, cap, rfl, hg1, hg2, -⟩ := h.rows.hdr htn
 obtain ⟨Kb, eK⟩ : ∃ Kb, Kb = 2 ^ (n - top - 1) * L := ⟨_, rfl⟩
 have EK := Lib.hid eK
 have HP := Lib.hid hp; have HTR := Lib.hid ht; have HPL := Lib.hid hPl; have HP2 := Lib.hid hP2; have HB := Lib.hid hb
 have hK : Kb ≤ 100000 := by rw [eK]; exact hP2 n htn (Nat.le_refl _)
 have st : JnI n M col top L W P (top + 1) W := JnI.start hher hb
 have hbase : base ≤ w.heap.size := by omega
 have h0 : ∃ U E, Hst p w base gW (.slice (some ⟨gh, 0, none⟩) n cap) top n M U E W ∧ Below base w w := ⟨U, E, h, Below.refl _ _⟩
 have HW := Lib.hid h0; have ST := Lib.hid st
 clear hp ht hPl hP2 hb eK hg2 h0 st hL hher
 have c2 := h.blk.cell 2
 go_enter Try.func135, Try.ntmps135
 clear h
 go_wp2
 clear c2
 go_loopw [4] (fun iv wr => ∃ i : Nat, top < i ∧ i ≤ n ∧ iv = .int .i64 i ∧ ∃ V U E, JnI n M col top L W P i V ∧ Hst p wr base gW (.slice (some ⟨gh, 0, none⟩) n cap) top n M U E V ∧ Below base w wr) (fun iv _ => n - (intOf iv).toNat)
 case atStart => exact ⟨top + 1, by omega, by omega, by go_num, W, _, _, ST.out, HW.out.choose_spec.choose_spec⟩
 case round =>
  obtain ⟨i, hi1, hi2, rfl, V, U1, E1, JN, H1, B1⟩ := hrel
  by_cases hin : i < n
  ·have c1 := H1.blk.cell 1
   go_wp2_with fail
   clear c1
   refine (xf_join p wr base gW _ top n M U1 E1 V i col (2 ^ (i - top - 1) * L) HP.out HTR.out H1 hi1 hin hcol (by have := HP2.out i hi1 hi2; omega) hM (by have := B1.size; omega) JN.bd).mono ?_; rintro e w2 ⟨rfl, top', U2, E2, V2, H2, ⟨rfl, hJ⟩, B2⟩
   have FJ := Lib.hid (JN.step HPL.out hi1 hin hJ)
   have F2 := Lib.hid H2
   have F3 := Lib.hid (B1.trans B2)
   clear JN H1 B1 hJ H2 B2
   go_wp2
   go_roundw
   case rel => exact ⟨i + 1, by omega, by omega, by go_num, V2, U2, E2, FJ.out, F2.out, F3.out⟩
   case measure => simp [intOf] <;> omega
  ·obtain rfl : i = n := by omega
   have hbs1 : base ≤ wr.heap.size := by have := B1.size; omega
   have c1 := H1.blk.cell 1
   have HJ := Lib.hid JN
   obtain ⟨bT, cT, eT, hT1, hT2, hT3, -, hTc, -⟩ := H1.rows.at htn hM0
   obtain ⟨aP, nP, cP, zP, eP, lP, oP, mP, vP⟩ := Vn.open (H1.rows.el top col htn hcol)
   have kP := hTc col hcol
   rw [eP] at kP
   have hzP : zP.length ≤ Kb := nrm_len HP.out.pos mP (by rw [vP, EK.out]; exact JN.bd top col htn hcol)
   have rT := H1.rows.rowP HP.out.pos htn hM0 (L := Kb) (fun k hk => by rw [EK.out]; exact JN.bd top k htn hk)
   rw [eT] at rT
   have qH : wr.cell? ⟨gh, top, none⟩ = some (U1 top) := by
    obtain ⟨g', cap', e1, -, -, -, -, hc, -⟩ := H1.rows.hdr htn
    simp only [Value.slice.injEq, Option.some.injEq, Addr.mk.injEq, true_and] at e1
    obtain ⟨⟨e2, -⟩, -⟩ := e1
    rw [e2]; exact hc top htn
   rw [eT] at qH
   have VP := Lib.hid vP; have LP := Lib.hid lP; have MP := Lib.hid mP
   have tP := oP.sl
   have H1h := Lib.hid H1
   have hgl : gh < wr.heap.size := World.block_lt_of_cell? wr _ qH
   clear JN hTc eP vP lP mP oP
   go_upto_region 4 with (fail)
   clear c1
   have bd := dw wr
   have KW := (H1.next bd).blk
   have qH' : wr.drew.cell? ⟨gh, top, none⟩ = some (.slice (some ⟨bT, 0, none⟩) M cT) := qH
   have hgl' : gh < wr.drew.heap.size := hgl
   clear bd
   have z0 := Lib.hid fun (w : World) (hS : Below (wr.drew).heap.size (wr.drew) w) => And.intro ((KW.at hS) 1) (And.intro ((KW.at hS) 2) ((hS.cell (p := ⟨gh, top, none⟩) hgl').trans qH'))
   refine startL (S := (fun w' => Below (wr.drew).heap.size (wr.drew) w')) (by kernel_rfl) (Below.refl _ _) (fun hHeld => ?_)
   refine tk 0 ?_
   refine tk 1 ?_
   refine tk 2 ?_
   refine tf 3 z0.out ?_
   refine tk 4 ?_
   refine tk 5 ?_
   refine tk 6 ?_
   refine tf 7 z0.out ?_
   refine tk 8 ?_
   refine tf 9 z0.out ?_
   refine tk 10 ?_
   clear z0; refine doneL (by kernel_rfl) ?_ _
   clear hHeld qH' hgl' KW
   have B1' : Below base w wr.drew := B1.trans (Drawn.below (w' := wr.drew) ⟨1, rfl⟩ base)
   have B0 : Below wr.heap.size wr wr.drew := dw wr
   have H2 := H1.next B0
   replace tP := tP.next B0
   have rT2 := rT.next B0
   have kP2 : wr.drew.cell? ⟨bT, col, none⟩ = some (.slice aP nP cP) := kP
   have hnn : nP = zP.length := LP.out.symm
   obtain ⟨w2, ew2⟩ : ∃ w2, w2 = wr.drew := ⟨_, rfl⟩
   have hbs2 : base ≤ w2.heap.size := by rw [ew2]; exact hbs1
   have lT2 : bT < w2.heap.size := by rw [ew2]; exact hT2
   have lH2 : gh < w2.heap.size := by rw [ew2]; exact hgl
   rw [← ew2] at B1' H2 tP rT2 kP2 ⊢
   clear B1 H1 B0 ew2 rT kP qH hgl hbs1 hT2 H1h wr
   by_cases hz : nP = 0
   ·have hW0 : V top col = 0 := by
     rw [← VP.out, List.length_eq_zero_iff.1 (show zP.length = 0 by omega), pl_nil]
    have FIN := Lib.hid (show RetHs p w base gW (.slice (some ⟨gh, 0, none⟩) i cap) i M (ColQ i M col top L W P) (.returned (.tuple #[])) w2 from ⟨rfl, top, U1, E1, V, H2, .inl ⟨rfl, HJ.out.none HPL.out hW0⟩, B1'⟩)
    have hz1 : ((nP : Int) == 0) = true := by simp [hz]
    clear H2 B1' hz hnn hzP tP rT2
    go_wp2
    go_end0
    exact FIN.out
   ·have hz1 : ((nP : Int) == 0) = false := by simp [hz]
    have HNZ := Lib.hid hz
    have hl0 : 0 < zP.length := by omega
    obtain ⟨jj, hjj⟩ : ∃ jj, nP = jj + 1 := ⟨nP - 1, by omega⟩
    obtain ⟨x, ex⟩ : ∃ x, x = zP.getD jj 0 := ⟨_, rfl⟩
    obtain ⟨ao, bP, oP, cP', eP', hlP, hcsP⟩ := tP
    simp only [Value.slice.injEq] at eP'
    obtain ⟨rfl, -, rfl⟩ := eP'
    obtain rfl := hcsP.ao (by intro h; rw [h] at hl0; simp at hl0)
    have hxc := hcsP.cell jj (by omega)
    rw [← ex] at hxc
    have lP2 : bP < w2.heap.size := hcsP.lt (by intro h; rw [h] at hl0; simp at hl0)
    obtain ⟨y, ey⟩ : ∃ y, y = (Zp.of p x).iv.val := ⟨_, rfl⟩
    have EY := Lib.hid ey
    have EX := Lib.hid ex
    have hwr : IntKind.i64.wrap ((nP : Int) - 1) = (jj : Int) := by rw [IntWalk.i64_in _ ⟨by omega, by omega⟩]; omega
    have hj0 : (0 : Int) ≤ (jj : Int) := Int.natCast_nonneg _
    have hj1 : (jj : Int) < (nP : Int) := by omega
    have HNN := Lib.hid hnn
    have HJJ := Lib.hid hjj
    clear hz ex ey hnn hjj
    go_upto_region 7 with (fail)
    have bd := dw w2
    have KW := (H2.next bd).blk
    have kP3 : w2.drew.cell? ⟨bT, col, none⟩ = some (.slice (some ⟨bP, oP, none⟩) nP cP) := kP2
    have hxc3 : w2.drew.cell? ⟨bP, oP + jj, none⟩ = some (.int .u64 x) := hxc
    have l3 : bT < w2.drew.heap.size := lT2
    have l3' : bP < w2.drew.heap.size := lP2
    clear bd kP2 hxc
    have z0 := Lib.hid fun (w : World) (hS : Below (w2.drew).heap.size (w2.drew) w) => And.intro ((KW.at hS) 0) (And.intro ((hS.cell (p := ⟨bT, col, none⟩) l3).trans kP3) ((hS.cell (p := ⟨bP, oP + jj, none⟩) l3').trans hxc3))
    refine startL (S := (fun w' => Below (w2.drew).heap.size (w2.drew) w')) (by kernel_rfl) (Below.refl _ _) (fun hHeld => ?_)
    refine tk 0 ?_
    refine tk 1 ?_
    refine tk 2 ?_
    refine tf 3 z0.out ?_
    refine tk 4 ?_
    refine tk 5 ?_
    refine tk 6 ?_
    refine tf 7 z0.out ?_
    refine tk 8 ?_
    refine tk 9 ?_
    refine tk 10 ?_
    refine tf 11 z0.out ?_
    refine on 12 fun K hK => ?_
    go_simp
    go_at_call 131
    (with_reducible refine (gfp_Inv p x y _ HP.out EY.out).mono ?_); rintro e w3 ⟨rfl, b3⟩
    refine hK.out _ _ (hHeld.trans (b3.mono hHeld.size)) (fun hHeld => ?_)
    clear hK K
    try simp only [Act.put, zq1, zq2, zq3]
    refine on 13 fun K hK => ?_
    go_simp
    have tl : Sl .u64 (w3.alloc (.cells #[.int .u64 y] 27)) (.slice (some ⟨w3.heap.size, 0, none⟩) 1 1) [y] := (own_lit1 w3 (y)).sl
    have btl : Below w3.heap.size w3 (w3.alloc (.cells #[.int .u64 y] 27)) := (Below.refl _ _).alloc (Nat.le_refl _) (.cells #[.int .u64 y] 27)
    generalize w3.alloc (.cells #[.int .u64 y] 27) = w4 at *
    refine hK.out _ _ (hHeld.trans (btl.mono hHeld.size)) (fun hHeld => ?_)
    clear hK K btl
    try simp only [Act.put, zq1, zq2, zq3]
    refine tk 14 ?_
    clear z0; refine doneL (by kernel_rfl) ?_ _
    have B4 : Below w2.heap.size w2 w4 := (dw w2).trans hHeld
    have H4 := H2.next B4
    have rT4 := rT2.next B4
    have BB4 := B1'.trans (B4.mono hbs2)
    have hbs4 : base ≤ w4.heap.size := Nat.le_trans hbs2 B4.size
    have hK1 : 1 ≤ Kb := by have := HNN.out; have := HJJ.out; omega
    clear hHeld KW kP3 hxc3 l3 l3' B4 H2 rT2 B1' lT2 lH2 lP2
    go_wp2_with fail
    refine (xf_mixed p gW Kb M _ _ _ _ _ _ [y] [] (V top) (V top) _ HP.out H4.blk tl (Sl.nil _ _) rT4 rT4 hK1 (Nat.zero_le _) (by omega) hM hM0).mono ?_; rintro e w5 ⟨gA, FA, rfl, oA, eA, b5⟩
    have H5 := H4.next b5
    have BB5 := BB4.trans (b5.mono hbs4)
    have gA0 : w4.heap.size ≤ gA := (rowOwn_tyb (b := gA) oA rfl).2.1
    have hfr : ∀ j, j < i → ∀ b, (U1 j).ownBlock = some b → b < w4.heap.size := fun j hj b hb => (rowOwn_tyb (H4.rows.row j hj) hb).2.2
    have HFR := Lib.hid hfr
    have RD0 := Lib.hid (show RdI i M col top Kb W P 0 (scl V top (mon (Zp.of p x).iv 0)) by
     have hLn := nrm_ln HP.out.pos MP.out
     rw [VP.out, LP.out, HJJ.out] at hLn
     have hu := lead_inv (l := jj) HTR.out MP.out (by rw [LP.out]; exact HJJ.out)
     rw [VP.out, ← EX.out] at hu
     have hx0 : Zp.of p x ≠ 0 := fun e => by
      have := hLn.2 jj rfl
      rw [← VP.out, pl_c, ← EX.out, e] at this
      exact this rfl
     exact RdI.start HTR.out HJ.out HPL.out htn EK.out.symm (Zp.iv_mul HTR.out hx0) hLn hu)
    clear H4 rT4 BB4 hfr b5
    go_upto_region 9 with (fail)
    have bd := dw w5
    have KW := (H5.next bd).blk
    clear bd
    have z0 := Lib.hid fun (w : World) (hS : Below (w5.drew).heap.size (w5.drew) w) => And.intro ((KW.at hS) 1) ((KW.at hS) 2)
    refine startP (S := (fun w' => Below (w5.drew).heap.size (w5.drew) w')) (by kernel_rfl) _ rfl rfl rfl (by kernel_rfl) (Below.refl _ _) (fun hHeld => ?_)
    refine tk 0 ?_
    refine tk 1 ?_
    refine tk 2 ?_
    refine tf 3 z0.out ?_
    refine tk 4 ?_
    refine tk 5 ?_
    refine tk 6 ?_
    refine tf 7 z0.out ?_
    refine tk 8 ?_
    refine tk 9 ?_
    clear z0; refine doneL (by kernel_rfl) ?_ _
    refine lastL rfl (by rfl) ?_
    have B6 := dw w5
    have H6 := H5.next B6
    have oA6 := rowOwn_next oA B6 (Nat.le_refl _)
    have eA6 : ∀ k, k < M → Vn p w5.drew base (FA k) (pl p [y] * V top k + pl p [] * V top k) := fun k hk => ((eA k hk).next B6).mono hbs4
    have BB6 := BB5.trans (B6.mono (show base ≤ w5.heap.size by have := (rowOwn_tyb (b := gA) oA rfl).2.2; omega))
    obtain ⟨c9, -, fz⟩ := H6.rows.cellU htn
    have fz9 := fz top
    have H7 := H6.put1 rfl (rowOwn_mono oA6 hbs4) eA6 (s := top) (fun j hj b hb hb' => by
     have h1 := HFR.out j hj b hb'
     simp [Value.ownBlock] at hb
     omega) (W' := scl V top (mon (Zp.of p x).iv 0)) (fun a k ha hk => by
     unfold scl
     by_cases h1 : a = top
     ·rw [if_pos h1, if_pos h1, h1, pl_nil, CR.zero_mul, CR.add_zero, pl_sing, EY.out, Zp.of_val, CR.mul_comm]
     ·rw [if_neg h1, if_neg h1])
    have BB7 := BB6.setCell (p := ⟨gh, top, none⟩) hg1 (.slice (some ⟨gA, 0, none⟩) M M)
    have hUT : (fun a => if a = top then (.slice (some ⟨gA, 0, none⟩) M M : Value) else U1 a) top = .slice (some ⟨gA, 0, none⟩) M M := if_pos rfl
    have st7 : ∃ V U E, RdI i M col top Kb W P 0 V ∧ Hst p ((w5.setCell ⟨gh, top, none⟩ (.slice (some ⟨gA, 0, none⟩) M M)).drew) base gW (.slice (some ⟨gh, 0, none⟩) i cap) top i M U E V ∧ U top = .slice (some ⟨gA, 0, none⟩) M M ∧ Below base w ((w5.setCell ⟨gh, top, none⟩ (.slice (some ⟨gA, 0, none⟩) M M)).drew) := ⟨_, _, _, RD0.out, H7, hUT, BB7⟩
    have ST7 := Lib.hid st7
    clear H5 H6 H7 B6 oA oA6 eA eA6 BB5 BB6 BB7 st7 hUT fz hHeld KW
    go_upto_region 10 with (fail)
    clear c9 fz9
    generalize (w5.setCell ⟨gh, top, none⟩ (.slice (some ⟨gA, 0, none⟩) M M)).drew = w7 at *
    have c27 : w7.cell? ⟨gW, 2, none⟩ = some (.int .i64 top) := by
     obtain ⟨V7, U7, E7, h71, h72, h73, h74⟩ := ST7.out
     exact h72.blk.cell 2
    go_wp2
    clear c27
    go_loopw [80] (fun kv wr => ∃ k : Nat, k ≤ top ∧ kv = .int .i64 k ∧ ∃ V U E, RdI i M col top Kb W P k V ∧ Hst p wr base gW (.slice (some ⟨gh, 0, none⟩) i cap) top i M U E V ∧ U top = .slice (some ⟨gA, 0, none⟩) M M ∧ Below base w wr) (fun kv _ => top - (intOf kv).toNat)
    case atStart => exact ⟨0, Nat.zero_le _, rfl, ST7.out⟩
    case round =>
     clear ST7 RD0 HFR tl gA0 EX EY
     obtain ⟨k, hk, rfl, V3, U3, E3, RD, H3, hUT, B3⟩ := hrel
     have hbs3 : base ≤ wr.heap.size := by have h1 := H3.gw; have h2 := H3.blk.lt; omega
     have RDh := Lib.hid RD
     by_cases hkt : k < top
     ·have hki : k < i := by omega
      obtain ⟨bI, cI, eI, hI1, hI2, -, -, hIc, -⟩ := H3.rows.at hki hM0
      obtain ⟨bA, cA, eA', hA1, hA2, -, -, hAc, -⟩ := H3.rows.at htn hM0
      rw [hUT] at eA'
      simp only [Value.slice.injEq, Option.some.injEq, Addr.mk.injEq, and_true, true_and] at eA'
      obtain ⟨rfl, -⟩ := eA'
      obtain ⟨aX, nX, cX, zX, eX', lX, oX, mX, vX⟩ := Vn.open (H3.rows.el k col hki hcol)
      obtain ⟨aY, nY, cY, zY, eY', lY, oY, mY, vY⟩ := Vn.open (H3.rows.el top col htn hcol)
      obtain rfl : nX = zX.length := lX.symm
      obtain rfl : nY = zY.length := lY.symm
      obtain ⟨q1, lg, -⟩ := H3.rows.cellU hki
      rw [eI] at q1
      have q2 := hIc col hcol; rw [eX'] at q2
      have q3 := hAc col hcol; rw [eY'] at q3
      have hbk : ∀ j, j < M → (V3 k j).dlt Kb := fun j hj => by have := RD.bd k j hki hj; rwa [if_neg (by omega)] at this
      have hbt : ∀ j, j < M → (V3 top j).dlt Kb := fun j hj => by have := RD.bd top j htn hj; rwa [if_neg (by omega)] at this
      have hzX : zX.length ≤ Kb := nrm_len HP.out.pos mX (by rw [vX]; exact hbk col hcol)
      have hzY : zY.length ≤ Kb := nrm_len HP.out.pos mY (by rw [vY]; exact hbt col hcol)
      have rI := H3.rows.rowP HP.out.pos hki hM0 (L := Kb) hbk
      have rA := H3.rows.rowP HP.out.pos htn hM0 (L := Kb) hbt
      rw [eI] at rI; rw [hUT] at rA
      have HY0 := Lib.hid (show nl p zY ≠ [] from fun e => RD.ne (by rw [← vY]; exact (nl_nil HP.out.pos).1 e))
      have VX := Lib.hid vX; have VY := Lib.hid vY
      have tX := oX.sl; have tY := oY.sl
      have HUT := Lib.hid hUT
      clear vX vY oX oY mX mY hbk hbt eX' eY' hIc hAc lX lY RD eI hUT
      go_upto_region 13 with (fail)
      have bd := dw wr
      have KW := (H3.next bd).blk
      replace tX := tX.next bd; replace tY := tY.next bd
      have q1' : wr.drew.cell? ⟨gh, k, none⟩ = some (.slice (some ⟨bI, 0, none⟩) M cI) := q1
      have q2' : wr.drew.cell? ⟨bI, col, none⟩ = some (.slice aX zX.length cX) := q2
      have q3' : wr.drew.cell? ⟨gA, col, none⟩ = some (.slice aY zY.length cY) := q3
      have g1' : gh < wr.drew.heap.size := lg
      have g2' : bI < wr.drew.heap.size := hI2
      have g3' : gA < wr.drew.heap.size := hA2
      clear bd q2 q3
      have z0 := Lib.hid fun (w : World) (hS : Below (wr.drew).heap.size (wr.drew) w) => And.intro ((KW.at hS) 0) (And.intro ((KW.at hS) 1) (And.intro ((hS.cell (p := ⟨gh, k, none⟩) g1').trans q1') (And.intro ((hS.cell (p := ⟨bI, col, none⟩) g2').trans q2') ((hS.cell (p := ⟨gA, col, none⟩) g3').trans q3'))))
      refine startL (S := (fun w' => Below (wr.drew).heap.size (wr.drew) w')) (by kernel_rfl) (Below.refl _ _) (fun hHeld => ?_)
      refine tk 0 ?_
      refine tk 1 ?_
      refine tk 2 ?_
      refine tf 3 z0.out ?_
      refine tk 4 ?_
      refine tk 5 ?_
      refine tk 6 ?_
      refine tf 7 z0.out ?_
      refine tk 8 ?_
      refine tk 9 ?_
      refine tf 10 z0.out ?_
      refine tk 11 ?_
      refine tk 12 ?_
      refine tf 13 z0.out ?_
      refine tk 14 ?_
      refine tk 15 ?_
      refine tk 16 ?_
      refine tf 17 z0.out ?_
      refine on 18 fun K hK => ?_
      go_simp
      go_at_call 88
      (with_reducible refine (fp_DivMod p _ _ zX zY _ HP.out HTR.out (tX.next hHeld) (tY.next hHeld) (by omega) (by omega) HY0.out).mono ?_); rintro e w8 ⟨rq, rr, zq, zr, rfl, o8, p8, m8, n8, v8, d8, l8, k8, b8⟩
      have HDV := Lib.hid (show V3 k col = pl p zq * V3 top col + pl p zr ∧ Dl (pl p zr) (V3 top col) by
       rw [VX.out, VY.out] at v8
       obtain ⟨d, hd⟩ : ∃ d, (nl p zY).length = d + 1 := ⟨(nl p zY).length - 1, by omega⟩
       refine ⟨v8, d, fun t ht => pl_dlt p zr t (by omega), ?_⟩
       rw [← hd, ← VY.out, ← nl_pl p zY]; exact nrm_ln HP.out.pos (nl_nrm HP.out.pos zY))
      have s8 := o8.sl
      have hlq : zq.length ≤ Kb := by omega
      clear o8 p8 m8 n8 v8 d8 l8 k8
      refine hK.out _ _ (hHeld.trans (b8.mono hHeld.size)) (fun hHeld => ?_)
      clear hK K
      try simp only [Act.put, zq1, zq2, zq3]
      refine tk 19 ?_
      refine tk 20 ?_
      refine tk 21 ?_
      refine tk 22 ?_
      refine tk 23 ?_
      refine tk 24 ?_
      refine tk 25 ?_
      clear z0; refine doneL (by kernel_rfl) ?_ _
      have B8 : Below wr.heap.size wr w8 := (dw wr).trans hHeld
      clear hHeld KW q1' q2' q3' g1' g2' g3' tX tY b8
      go_upto_region 14 with (fail)
      replace B8 : Below wr.heap.size wr w8.drew := B8.trans (Drawn.below (w' := w8.drew) ⟨1, rfl⟩ wr.heap.size)
      replace s8 := s8.next (dw w8)
      have H9 := H3.next B8
      have BB9 := B3.trans (B8.mono hbs3)
      have rI9 := rI.next B8; have rA9 := rA.next B8
      have q9 : w8.drew.cell? ⟨gh, k, none⟩ = some (.slice (some ⟨bI, 0, none⟩) M cI) := (B8.cell (p := ⟨gh, k, none⟩) lg).trans q1
      have g9 : gh < w8.drew.heap.size := by have := B8.size; omega
      have hbs9 : base ≤ w8.drew.heap.size := Nat.le_trans hbs3 B8.size
      have hK1 : 1 ≤ Kb := by have := HNN.out; have := HJJ.out; omega
      have hK2 : ([1] : List Nat).length ≤ Kb := hK1
      clear H3 rI rA q1 lg hI2 hA2 B3 hbs3 B8
      have KW := H9.blk
      have z0 := Lib.hid fun (w : World) (hS : Below (w8.drew).heap.size (w8.drew) w) => And.intro ((KW.at hS) 1) ((hS.cell (p := ⟨gh, k, none⟩) g9).trans q9)
      refine startP (S := (fun w' => Below (w8.drew).heap.size (w8.drew) w')) (by kernel_rfl) _ rfl rfl rfl (by kernel_rfl) (Below.refl _ _) (fun hHeld => ?_)
      generalize w8.drew = w9 at *
      refine tk 0 ?_
      refine tk 1 ?_
      refine tk 2 ?_
      refine tf 3 z0.out ?_
      refine tk 4 ?_
      refine tk 5 ?_
      refine tk 7 ?_
      refine tk 8 ?_
      refine tk 9 ?_
      refine tf 10 z0.out ?_
      refine tk 11 ?_
      refine tk 12 ?_
      refine tf 13 z0.out ?_
      refine tk 14 ?_
      refine tk 15 ?_
      refine tk 17 ?_
      refine twoL 6 16 rfl rfl (by kernel_rfl) (by rfl) (by rfl) (fun K hK => ?_) (fun K hK => ?_)
      ·go_simp
       have tl : Sl .u64 (w9.alloc (.cells #[.int .u64 1] 27)) (.slice (some ⟨w9.heap.size, 0, none⟩) 1 1) [1] := (own_lit1 w9 (1)).sl
       have btl : Below w9.heap.size w9 (w9.alloc (.cells #[.int .u64 1] 27)) := (Below.refl _ _).alloc (Nat.le_refl _) (.cells #[.int .u64 1] 27)
       generalize w9.alloc (.cells #[.int .u64 1] 27) = w10 at *
       refine hK.out _ _ (hHeld.trans (btl.mono hHeld.size)) (fun hHeld => ?_)
       clear hK K btl
       try simp only [Act.put, zq1, zq2, zq3]
       refine on 16 fun K hK => ?_
       go_simp
       go_at_call 164
       (with_reducible refine (xf_minus p gW _ _ _ zq _ HP.out ((H9.next hHeld).blk) (s8.next hHeld) (by omega)).mono ?_); rintro e w11 ⟨r7, z7, rfl, o7, n7, v7, l7, b7⟩
       replace tl := tl.next b7
       have s7 := o7.sl; clear o7 n7; have V7 := Lib.hid v7; clear v7
       refine hK.out _ _ (hHeld.trans (b7.mono hHeld.size)) (fun hHeld => ?_)
       clear hK K
       try simp only [Act.put, zq1, zq2, zq3]
       refine on 18 fun K hK => ?_
       go_simp
       go_at_call 163
       (with_reducible refine (xf_mixed p gW Kb M _ _ _ _ r7 _ [1] z7 (V3 k) (V3 top) _ HP.out ((H9.next hHeld).blk) tl s7 (rI9.next hHeld) (rA9.next hHeld) hK2 (by omega) (by omega) hM hM0).mono ?_); rintro e w12 ⟨gB, FB, rfl, oB, eB, b12⟩
       have hs11 := hHeld.size
       refine hK.out _ _ (hHeld.trans (b12.mono hHeld.size)) (fun hHeld => ?_)
       clear hK K
       try simp only [Act.put, zq1, zq2, zq3]
       refine tk 19 ?_
       clear z0; refine doneL (by kernel_rfl) ?_ _
       refine lastL rfl (by rfl) ?_
       have H12 := H9.next hHeld
       have BB12 := BB9.trans (hHeld.mono hbs9)
       obtain ⟨c9, -, fz⟩ := H12.rows.cellU hki
       have fz9 := fz k
       have gB0 : w9.heap.size ≤ gB := Nat.le_trans hs11 (rowOwn_tyb (b := gB) oB rfl).2.1
       have H13 := H12.put1 rfl (rowOwn_mono oB (Nat.le_trans hbs9 hs11)) (fun j hj => (eB j hj).mono (Nat.le_trans hbs9 hs11)) (s := k) (fun j hj b hb hb' => by
        have h1 := (rowOwn_tyb (H9.rows.row j hj) hb').2.2
        simp [Value.ownBlock] at hb
        omega) (W' := mix2 V3 k top 1 (-pl p zq) 0 1) (fun a j ha hj => by
        by_cases h1 : a = k
        ·rw [if_pos h1, h1, mix2_s, pl_sing1, V7.out]
        ·rw [if_neg h1]
         by_cases h2 : a = top
         ·rw [h2, mix2_t V3 (by omega), CR.zero_mul, CR.one_mul, CR.zero_add]
         ·exact mix2_o V3 h1 h2 _ _ _ _ j)
       have F1 := Lib.hid (RDh.out.step HPL.out hkt htn HDV.out.1 HDV.out.2 (dlt_mono (pl_dlt p zq) hlq))
       have F2 := Lib.hid H13
       have F3 := Lib.hid (show (fun a => if a = k then (.slice (some ⟨gB, 0, none⟩) M M : Value) else U3 a) top = .slice (some ⟨gA, 0, none⟩) M M by
        show (if top = k then _ else U3 top) = _
        rw [if_neg (by omega)]; exact HUT.out)
       have F4 := Lib.hid (BB12.setCell (p := ⟨gh, k, none⟩) hg1 (.slice (some ⟨gB, 0, none⟩) M M))
       clear H9 H12 H13 BB9 BB12 oB eB rI9 rA9 s7 s8 tl hHeld b12 KW q9 fz
       go_wp2
       go_roundw
       case rel => exact ⟨k + 1, by omega, by go_num, _, _, _, F1.out, F2.out, F3.out, F4.out⟩
       case measure => simp [intOf] <;> omega
      ·go_simp
       go_at_call 164
       (with_reducible refine (xf_minus p gW _ _ _ zq _ HP.out ((H9.next hHeld).blk) (s8.next hHeld) (by omega)).mono ?_); rintro e w10 ⟨r7, z7, rfl, o7, n7, v7, l7, b7⟩
       have s7 := o7.sl; clear o7 n7; have V7 := Lib.hid v7; clear v7
       refine hK.out _ _ (hHeld.trans (b7.mono hHeld.size)) (fun hHeld => ?_)
       clear hK K
       try simp only [Act.put, zq1, zq2, zq3]
       refine on 6 fun K hK => ?_
       go_simp
       have tl : Sl .u64 (w10.alloc (.cells #[.int .u64 1] 27)) (.slice (some ⟨w10.heap.size, 0, none⟩) 1 1) [1] := (own_lit1 w10 (1)).sl
       have btl : Below w10.heap.size w10 (w10.alloc (.cells #[.int .u64 1] 27)) := (Below.refl _ _).alloc (Nat.le_refl _) (.cells #[.int .u64 1] 27)
       generalize w10.alloc (.cells #[.int .u64 1] 27) = w11 at *
       replace s7 := s7.next btl
       refine hK.out _ _ (hHeld.trans (btl.mono hHeld.size)) (fun hHeld => ?_)
       clear hK K btl
       try simp only [Act.put, zq1, zq2, zq3]
       refine on 18 fun K hK => ?_
       go_simp
       go_at_call 163
       (with_reducible refine (xf_mixed p gW Kb M _ _ _ _ r7 _ [1] z7 (V3 k) (V3 top) _ HP.out ((H9.next hHeld).blk) tl s7 (rI9.next hHeld) (rA9.next hHeld) hK2 (by omega) (by omega) hM hM0).mono ?_); rintro e w12 ⟨gB, FB, rfl, oB, eB, b12⟩
       have hs11 := hHeld.size
       refine hK.out _ _ (hHeld.trans (b12.mono hHeld.size)) (fun hHeld => ?_)
       clear hK K
       try simp only [Act.put, zq1, zq2, zq3]
       refine tk 19 ?_
       clear z0; refine doneL (by kernel_rfl) ?_ _
       refine lastL rfl (by rfl) ?_
       have H12 := H9.next hHeld
       have BB12 := BB9.trans (hHeld.mono hbs9)
       obtain ⟨c9, -, fz⟩ := H12.rows.cellU hki
       have fz9 := fz k
       have gB0 : w9.heap.size ≤ gB := Nat.le_trans hs11 (rowOwn_tyb (b := gB) oB rfl).2.1
       have H13 := H12.put1 rfl (rowOwn_mono oB (Nat.le_trans hbs9 hs11)) (fun j hj => (eB j hj).mono (Nat.le_trans hbs9 hs11)) (s := k) (fun j hj b hb hb' => by
        have h1 := (rowOwn_tyb (H9.rows.row j hj) hb').2.2
        simp [Value.ownBlock] at hb
        omega) (W' := mix2 V3 k top 1 (-pl p zq) 0 1) (fun a j ha hj => by
        by_cases h1 : a = k
        ·rw [if_pos h1, h1, mix2_s, pl_sing1, V7.out]
        ·rw [if_neg h1]
         by_cases h2 : a = top
         ·rw [h2, mix2_t V3 (by omega), CR.zero_mul, CR.one_mul, CR.zero_add]
         ·exact mix2_o V3 h1 h2 _ _ _ _ j)
       have F1 := Lib.hid (RDh.out.step HPL.out hkt htn HDV.out.1 HDV.out.2 (dlt_mono (pl_dlt p zq) hlq))
       have F2 := Lib.hid H13
       have F3 := Lib.hid (show (fun a => if a = k then (.slice (some ⟨gB, 0, none⟩) M M : Value) else U3 a) top = .slice (some ⟨gA, 0, none⟩) M M by
        show (if top = k then _ else U3 top) = _
        rw [if_neg (by omega)]; exact HUT.out)
       have F4 := Lib.hid (BB12.setCell (p := ⟨gh, k, none⟩) hg1 (.slice (some ⟨gB, 0, none⟩) M M))
       clear H9 H12 H13 BB9 BB12 oB eB rI9 rA9 s7 s8 tl hHeld b12 KW q9 fz
       go_wp2
       go_roundw
       case rel => exact ⟨k + 1, by omega, by go_num, _, _, _, F1.out, F2.out, F3.out, F4.out⟩
       case measure => simp [intOf] <;> omega
     ·obtain rfl : k = top := by omega
      have hwt : IntKind.i64.wrap ((k : Int) + 1) = ((k + 1 : Nat) : Int) := by rw [IntWalk.i64_in _ ⟨by omega, by omega⟩]; omega
      have c2 := H3.blk.cell 2
      have fz2 := H3.blk.free 2
      have FIN := Lib.hid (show RetHs p w base gW (.slice (some ⟨gh, 0, none⟩) i cap) i M (ColQ i M col k L W P) (.returned (.tuple #[])) (wr.setCell ⟨gW, 2, none⟩ (.int .i64 ((k + 1 : Nat) : Int))) from ⟨rfl, k + 1, U3, E3, V3, H3.topped (k + 1), RD.done HPL.out htn EK.out.symm, B3.setCell (p := ⟨gW, 2, none⟩) H3.gw _⟩)
      clear H3 B3 RD
      go_wp2
      go_end0
      exact FIN.out
end Go.Proofs.Ytkmfhabgempjiaa
/- xform: a row is put behind another; what formed starts with. -/
namespace Go.Proofs.Ytkmfhabgempjiaa
set_option maxHeartbeats 4000000
open Go.RowKit
open CR
theorem apWo {P : Program} {o : Oper} {a : Act} {K : Act → World → Prop} {Q : Exit → Act → World → Prop} (T e bytes : Nat) (z0 : Value)
  (hu : P.underlying T = some (.slice e)) (hi : (P.info? e).map (fun i => (i.zero, i.size, i.bytes)) = some (some z0, 1, bytes)) (hby : bytes ≤ 32) (hz0 : z0.cells.size = 1)
  (s x : Operand) (ho : o.op = .call { callee := .builtin .append, args := #[s, x], argTypes := #[T, T] })
  (w : World) (base : Nat) (v : Value) (n : Nat) (vs : List Value) (hown : w.ownsRow base e 1 v n vs) (hbase : base ≤ w.heap.size)
  (ad : Addr) (m c : Nat) (news : List Value) (hs : a.eval s = v) (hx : a.eval x = .slice (some ad) m c)
  (hl : news.length = m) (hnews : ∀ j u, news[j]? = some u → w.cell? (ad.add j) = some u) (h1 : ∀ u ∈ news, u.oneCell' = true) (hlen : n + m ≤ 1000000000)
  (h : ∀ (v' : Value) (w' : World), w'.ownsRow base e 1 v' (n + m) (vs ++ news) → Below base w w' → w.grownBy w' v.ownBlock → (v'.ownBlock = v.ownBlock ∨ v'.ownBlock = some w.heap.size) → K (a.put o.dst v') w') :
  Oper.wp P o a w K Q := by
 obtain ⟨i0, e1, e2, e3, e4⟩ := info_parts hi
 have hb : (n + m) * bytes ≤ (n + m) * 32 := Nat.mul_le_mul_left _ hby
 obtain ⟨v', w', hr, k1, k2, _, k4⟩ := run_append_own_at (P := P) w base T o.type e i0 z0 1 bytes hu e1 e2 e3 e4 hz0 (by decide) v n vs hown ad m c news (by rw [hl, Nat.mul_one]) hnews h1 (by unfold maxLen; omega) (by omega) hbase
 unfold Oper.wp execOp
 simp only [ho, resolve, invoke, builtin, Sem.run_bind, Sem.run_pure, Result.andThen_ok, List.map_toArray, List.map_cons, List.map_nil, hs, hx, hr]
 exact h v' w' k1 (below_grown k2 hbase fun k hk => (World.ownsRow.lt hown k hk).1) k2 k4
section
variable {p : Nat} {w w' : World} {base n : Nat} {rv : Value} {N : Nat → Nat} {U : Nat → Value} {E : Nat → Nat → Value} {W : Nat → Nat → Pol (Zp p)}
theorem Xr.apR (h : Xr p w base rv n N U E W) {i g cap M : Nat} (hi : i < n) (hrv : rv = .slice (some ⟨g, 0, none⟩) n cap) {r : Value} {F : Nat → Value} {R : Nat → Pol (Zp p)} (hg : w.grownBy w' (U i).ownBlock)
  (hr : w'.ownsRow base 43 1 r M (rowL M F)) (hb : r.ownBlock = (U i).ownBlock ∨ r.ownBlock = some w.heap.size) (he : ∀ k, k < M → Vn p w' base (F k) (R k)) :
  Xr p (w'.setCell ⟨g, i, none⟩ r) base rv n (fun a => if a = i then M else N a) (fun a => if a = i then r else U a) (fun a => if a = i then F else E a) (fun a => if a = i then R else W a) := by
 have hc0 := Chg.grown hg
 have hS : ∀ b, b < w.heap.size → (U i).ownBlock = some b → Tyb w 43 b := fun b _ hb => (rowOwn_tyb (h.row i hi) hb).1
 have ho := rowOwn_chgT h.own hc0 (e' := 43) hS (by decide)
 rw [hrv] at ho
 have hc : Chg w' (w'.setCell ⟨g, i, none⟩ r) (fun j => j = g) := Chg.setCell w' ⟨g, i, none⟩ r
 have hgt : Tyb w' 22 g := (rowOwn_tyb ho rfl).1
 have keep : ∀ {u : Value} {q : Pol (Zp p)}, Vn p w' base u q → Vn p (w'.setCell ⟨g, i, none⟩ r) base u q := fun hu => hu.chg hc (e := 22) (fun c _ hcb => by rw [hcb]; exact hgt) (by decide)
 have keep0 : ∀ {u : Value} {q : Pol (Zp p)}, Vn p w base u q → Vn p w' base u q := fun hu => hu.chg hc0 (e := 43) hS (by decide)
 have keepR : ∀ {v : Value} {m : Nat} {xs : List Value}, w'.ownsRow base 43 1 v m xs → (w'.setCell ⟨g, i, none⟩ r).ownsRow base 43 1 v m xs := fun hv => rowOwn_chgT hv hc (e' := 22) (fun c _ hcb => by rw [hcb]; exact hgt) (by decide)
 have keepR0 : ∀ a, a < n → a ≠ i → w'.ownsRow base 43 1 (U a) (N a) (rowL (N a) (E a)) := fun a ha hne => rowOwn_chg (h.row a ha) hc0 fun b hb => h.sep a i ha hi hne b hb
 have sp : ∀ a, a < n → a ≠ i → ∀ b, (U a).ownBlock = some b → r.ownBlock ≠ some b := fun a ha hne b hb' => by
  rcases hb with hb | hb
  ·rw [hb]; exact h.sep a i ha hi hne b hb'
  ·rw [hb]; intro e2
   have := (rowOwn_tyb (h.row a ha) hb').2.2
   simp at e2; omega
 refine ⟨?_, fun a ha => ?_, fun a b ha hb' hne c hac => ?_, fun a c ha hc' => ?_⟩
 ·have := (World.ownsRow.stored ho i r).1
  rw [rowL_set] at this
  rw [hrv]; exact this
 ·by_cases e : a = i
  ·simp only [e, if_true]; exact keepR hr
  ·simp only [e, if_false]; exact keepR (keepR0 a ha e)
 ·by_cases e : a = i
  ·have e2 : b ≠ i := by omega
   simp only [e, if_true] at hac
   simp only [e2, if_false]
   exact fun h2 => sp b hb' e2 c h2 hac
  ·simp only [e, if_false] at hac
   by_cases e2 : b = i
   ·simp only [e2, if_true]
    exact sp a ha e c hac
   ·simp only [e2, if_false]
    exact h.sep a b ha hb' hne c hac
 ·by_cases e : a = i
  ·simp only [e, if_true] at hc' ⊢; exact keep (he c hc')
  ·simp only [e, if_false] at hc' ⊢; exact keep (keep0 (h.el a c ha hc'))
end
def augM {p : Nat} (c : Nat) (A : Nat → Nat → Pol (Zp p)) : Nat → Nat → Pol (Zp p) := fun i k => if k < c then A i k else if i = k - c then 1 else 0
def hbd (n : Nat) : Nat → Nat
 | 0 => 0
 | t + 1 => hbd n t + (n - t)
theorem hbd_mono (n : Nat) {s t : Nat} (h : s ≤ t) : hbd n s ≤ hbd n t := by
  induction t with
  | zero => obtain rfl : s = 0 := by omega
            exact Nat.le_refl _
  | succ t ih =>
    by_cases e : s = t + 1
    · rw [e]; exact Nat.le_refl _
    · exact Nat.le_trans (ih (by omega)) (Nat.le_add_right _ _)
section
variable {p n col : Nat} {W V : Nat → Nat → Pol (Zp p)} {P : List Nat}
theorem HerI.full (h : HerI n col W P) (hP : P.length = n) {c : Nat} (hc : col ≤ c) : HerI n c W P :=
 ⟨⟨fun t ht => Nat.lt_of_lt_of_le (h.inc.1 t ht) hc, h.inc.2⟩, h.len, h.mo, h.ne, h.zer, fun i h1 h2 => by omega, h.red⟩
structure FoI (n M L col top : Nat) (W : Nat → Nat → Pol (Zp p)) (V : Nat → Nat → Pol (Zp p)) (P : List Nat) : Prop where
 rq : Rq n M W V
 her : HerI n col V P
 len : P.length = top
 bd : ∀ r k, r < n → k < M → (V r k).dlt (2 ^ hbd n top * L)
 tr : CTr n W col top V
theorem FoI.start {M L : Nat} (hb : ∀ r k, r < n → k < M → (W r k).dlt L) : FoI n M L 0 0 W W [] :=
 ⟨Rq.refl W, HerI.start n W, rfl, fun r k hr hk => by have := hb r k hr hk; rwa [show hbd n 0 = 0 from rfl, Nat.pow_zero, Nat.one_mul], .start⟩
theorem FoI.step {M L top top' : Nat} {V' : Nat → Nat → Pol (Zp p)} (h : FoI n M L col top W V P) (hq : ColQ n M col top (2 ^ hbd n top * L) V P top' V') : ∃ P', FoI n M L (col + 1) top' W V' P' := by
 rcases hq with ⟨rfl, rfl, h1⟩ | ⟨rfl, h1, h2, h3, V1, h4, h5⟩
 ·exact ⟨P, h.rq, h1, h.len, h.bd, h.tr.none⟩
 ·refine ⟨_, h.rq.trans h1, h2, by rw [List.length_append, h.len]; rfl, fun r k hr hk => ?_, h.tr.step (by have h6 := h2.len; rw [List.length_append, h.len] at h6; exact h6) h4 h5⟩
  have := h3 r k hr hk
  rwa [← Nat.mul_assoc, ← Nat.pow_add, Nat.add_comm (n - top)] at this
theorem hbd_le {L top B : Nat} (ht : top < n) (hB : 2 ^ hbd n n * L ≤ B) : 2 ^ (n - top) * (2 ^ hbd n top * L) ≤ B := by
 rw [← Nat.mul_assoc, ← Nat.pow_add, Nat.add_comm (n - top)]
 exact Nat.le_trans (Nat.mul_le_mul_right _ (Nat.pow_le_pow_right (by decide) (hbd_mono n (s := top + 1) (by omega)))) hB
end
end Go.Proofs.Ytkmfhabgempjiaa
/- xform: a matrix in form, with what makes it behind it. -/
namespace Go.Proofs.Ytkmfhabgempjiaa
set_option maxHeartbeats 4000000
open Go.RowKit
def RetHf (p : Nat) (w : World) (r c L : Nat) (A : Nat → Nat → Pol (Zp p)) (e : Ending) (w' : World) : Prop :=
 ∃ gW rv top U E V P, e = .returned (.pointer (some ⟨gW, 0, none⟩)) ∧ Hst p w' w.heap.size gW rv top r (c + r) U E V ∧ FoI r (c + r) L c top (augM c A) V P ∧ Below w.heap.size w w'
theorem FoI.full {p n M L col top : Nat} {W V : Nat → Nat → Pol (Zp p)} {P : List Nat} (h : FoI n M L col top W V P) (hP : top = n) {c : Nat} (hc : col ≤ c) : FoI n M L c top W V P :=
 ⟨h.rq, h.her.full (h.len.trans hP) hc, h.len, h.bd, h.tr.wide hc⟩
theorem rowL_cat (c r : Nat) (f h : Nat → Value) : rowL c f ++ rowL r h = rowL (c + r) fun k => if k < c then f k else h (k - c) := by
 induction r with
 | zero =>
  show rowL c f ++ [] = _
  rw [List.append_nil]; exact rowL_congr fun k hk => (if_pos (by omega)).symm
 | succ r ih =>
  have e1 : rowL (r + 1) h = rowL r h ++ [h r] := by rw [rowL_snoc]
  have e2 : (rowL (c + r + 1) fun k => if k < c then f k else h (k - c)) = (rowL (c + r) fun k => if k < c then f k else h (k - c)) ++ [h r] := by
   rw [rowL_snoc, if_neg (by omega), show c + r - c = r by omega]
  rw [e1, show c + (r + 1) = c + r + 1 by omega, e2, ← ih, List.append_assoc]
theorem row_news {w : World} {base b n cap : Nat} {e : TypeId} {U : Nat → Value} (h : w.ownsRow base e 1 (.slice (some ⟨b, 0, none⟩) n cap) n (rowL n U)) : ∀ j u, (rowL n U)[j]? = some u → w.cell? ((⟨b, 0, none⟩ : Addr).add j) = some u := by
 intro j u hj
 obtain ⟨h1, rfl⟩ := rowL_get' hj
 have e2 : (⟨b, 0, none⟩ : Addr).add j = ⟨b, j, none⟩ := by
  unfold Addr.add; split
  ·rename_i h; subst h; rfl
  ·simp
 rw [e2, World.ownsRow.cellAt h j (by omega), rowL_get h1]
theorem Hst.mono {p : Nat} {w : World} {base base' gW : Nat} {rv : Value} {top n M : Nat} {U : Nat → Value} {E : Nat → Nat → Value} {W : Nat → Nat → Pol (Zp p)} (h : Hst p w base gW rv top n M U E W) (hb : base' ≤ base) : Hst p w base' gW rv top n M U E W := ⟨h.blk, by have := h.gw; omega, h.rows.mono hb⟩
structure AgI (p : Nat) (w : World) (g gH : Nat) (rv rv2 : Value) (r c i : Nat) (A I : Nat → Nat → Pol (Zp p)) (U : Nat → Value) (E : Nat → Nat → Value) (U2 : Nat → Value) (E2 : Nat → Nat → Value) : Prop where
 blk : Blk 116 w gH [.int .u64 p, rv, .int .i64 0]
 hg : g ≤ gH
 x1 : Xr p w g rv r (fun a => if a < i then c + r else c) U E (augM c A)
 x2 : Xr p w g rv2 r (fun _ => r) U2 E2 I
 sep : ∀ b, Xbl rv r U b → ¬ Xbl rv2 r U2 b
theorem AgI.next {p : Nat} {w w' : World} {g gH : Nat} {rv rv2 : Value} {r c i : Nat} {A I : Nat → Nat → Pol (Zp p)} {U : Nat → Value} {E : Nat → Nat → Value} {U2 : Nat → Value} {E2 : Nat → Nat → Value} (h : AgI p w g gH rv rv2 r c i A I U E U2 E2) (hb : Below w.heap.size w w') : AgI p w' g gH rv rv2 r c i A I U E U2 E2 :=
 ⟨h.blk.next hb, h.hg, h.x1.next hb, h.x2.next hb, h.sep⟩
theorem AgI.step {p : Nat} {w w' : World} {g gH : Nat} {rv rv2 : Value} {r c i : Nat} {A I : Nat → Nat → Pol (Zp p)} {U : Nat → Value} {E : Nat → Nat → Value} {U2 : Nat → Value} {E2 : Nat → Nat → Value} (h : AgI p w g gH rv rv2 r c i A I U E U2 E2) (hi : i < r) (hI : ∀ a k, a < r → k < r → I a k = if a = k then 1 else 0) {gh cap : Nat} (hrv : rv = .slice (some ⟨gh, 0, none⟩) r cap) {v' : Value}
  (ho : w'.ownsRow g 43 1 v' (c + r) (rowL c (E i) ++ rowL r (E2 i))) (hg : w.grownBy w' (U i).ownBlock) (hb : v'.ownBlock = (U i).ownBlock ∨ v'.ownBlock = some w.heap.size) :
  AgI p (w'.setCell ⟨gh, i, none⟩ v') g gH rv rv2 r c (i + 1) A I (fun a => if a = i then v' else U a) (fun a => if a = i then (fun k => if k < c then E i k else E2 i (k - c)) else E a) U2 E2 := by
 rw [rowL_cat] at ho
 have hc0 := Chg.grown hg
 have hri := h.x1.row i hi
 have hS : ∀ b, b < w.heap.size → (U i).ownBlock = some b → Tyb w 43 b := fun b _ hb => (rowOwn_tyb hri hb).1
 have hoh := h.x1.own
 rw [hrv] at hoh
 have hgt : Tyb w 22 gh := (rowOwn_tyb hoh rfl).1
 have hgl : gh < w.heap.size := (rowOwn_tyb (b := gh) hoh rfl).2.2
 have keep0 : ∀ {u : Value} {q : Pol (Zp p)}, Vn p w g u q → Vn p w' g u q := fun hu => hu.chg hc0 (e := 43) hS (by decide)
 have hch : Chg w (w'.setCell ⟨gh, i, none⟩ v') (fun b => (U i).ownBlock = some b ∨ b = gh) :=
  (hc0.mono fun _ _ hb => .inl hb).trans ((Chg.setCell w' ⟨gh, i, none⟩ v').mono fun _ _ hb => .inr hb)
 refine ⟨h.blk.chg hch ?_, h.hg, (h.x1.apR hi hrv hg ho hb (R := augM c A i) fun k hk => ?_).congr (fun a ha => ?_) (fun _ _ => rfl) (fun _ _ _ _ => rfl) (fun a k _ _ => ?_), h.x2.chg hch fun b hb hs => ?_, fun b hb1 hb2 => ?_⟩
 ·rintro (hb1 | hb1)
  ·exact (h.blk.tyb.ne (rowOwn_tyb hri hb1).1 (by decide)) rfl
  ·exact (h.blk.tyb.ne hgt (by decide)) hb1
 ·by_cases hkc : k < c
  ·rw [if_pos hkc]
   exact keep0 (h.x1.el i k hi (by rw [if_neg (by omega)]; exact hkc))
  ·rw [if_neg hkc]
   have h2 := h.x2.el i (k - c) hi (by omega)
   rw [hI i (k - c) hi (by omega)] at h2
   unfold augM
   rw [if_neg hkc]
   exact keep0 h2
 ·show (if a < i + 1 then c + r else c) = if a = i then c + r else if a < i then c + r else c
  by_cases e : a = i
  ·rw [if_pos e, if_pos (by omega)]
  ·rw [if_neg e]
   by_cases e2 : a < i
   ·rw [if_pos e2, if_pos (by omega)]
   ·rw [if_neg e2, if_neg (by omega)]
 ·by_cases e : a = i
  ·rw [if_pos e, e]
  ·rw [if_neg e]
 ·rcases hs with hs | hs
  ·exact ⟨h.sep b (.inr ⟨i, hi, hs⟩), fun hu => (rowOwn_tyb hri hs).1.ne hu (by decide) rfl⟩
  ·refine ⟨h.sep b (.inl (by rw [hrv, hs]; rfl)), fun hu => ?_⟩
   exact hgt.ne hu (by decide) hs.symm
 ·rcases hb1 with hb1 | ⟨a, ha, hb1⟩
  ·exact h.sep b (.inl hb1) hb2
  ·replace hb1 : (if a = i then v' else U a).ownBlock = some b := hb1
   by_cases e : a = i
   ·rw [if_pos e] at hb1
    rcases hb with hb | hb
    ·rw [hb] at hb1; exact h.sep b (.inr ⟨i, hi, hb1⟩) hb2
    ·rw [hb] at hb1
     have := (h.x2.blk hb2).2.1
     simp at hb1; omega
   ·rw [if_neg e] at hb1
    exact h.sep b (.inr ⟨a, ha, hb1⟩) hb2
set_option maxRecDepth 20000 in
theorem xf_formed (p : Nat) (a : Value) (r c L : Nat) (xs : List (List Nat)) (w : World) (hp : FP p) (ht : Trial p) (hA : Xm w a r c xs) (hr : r ≤ 64) (hc : c ≤ 64) (hx : xs.length = r * c) (hl : ∀ j, j < r * c → (xs.getD j []).length ≤ L) (hL1 : 1 ≤ L) (hB : 2 ^ hbd r r * L ≤ 200000) :
  Calls Try.prog 84 #[.agg #[.int .u64 p], a] w (RetHf p w r c L (aT p c xs)) := by
 obtain ⟨aA, cA, rfl⟩ := hA.agg
 obtain ⟨wb, ew, KF, KA, B0, hsz⟩ := boxes2 w 29 24 [.int .u64 p] [.int .i64 r, .int .i64 c, .slice aA xs.length cA]
 clear hsz
 replace hA := hA.next B0
 have hLb : L ≤ 200000 := Nat.le_trans (Nat.le_mul_of_pos_left L (Nat.two_pow_pos _)) hB
 have HP := Lib.hid hp; have HTR := Lib.hid ht; have HX := Lib.hid hx; have HLL := Lib.hid hl; have HBB := Lib.hid hB; clear hp ht hx hl hB
 go_enter Try.func84, Try.ntmps84
 go_upto_region 1 with (fail)
 rw [← ew]
 obtain ⟨g, eg⟩ : ∃ g, g = w.heap.size := ⟨_, rfl⟩
 rw [← eg] at KF KA ⊢
 have EG := Lib.hid eg
 clear ew eg
 have f0 := KF.cell 0; have a0 := KA.cell 0
 go_wp2_with fail
 clear f0 a0
 refine (xm_Identity p 1 r _ HP.out hr (by omega) (by omega) (fun j => if j / r = j % r then 1 else 0) (fun i k hi hk => by
  show (if (i * r + k) / r = (i * r + k) % r then (1 : Pol (Zp p)) else 0) = _
  rw [Nat.mul_comm, Nat.mul_add_div (by omega), Nat.div_eq_of_lt hk, Nat.mul_add_mod, Nat.mod_eq_of_lt hk, Nat.add_zero])).mono ?_; rintro e w2 ⟨aI, kI, us, rfl, hQ, b2⟩
 obtain ⟨qs, hql, hqn, hqv⟩ := hQ.ns HP.out
 have hI : Xm w2 (.agg #[.int .i64 r, .int .i64 r, .slice aI (r * r) kI]) r r qs := ⟨_, rfl, hqn⟩
 have B2 := B0.trans (b2.mono B0.size)
 replace KF := KF.next b2; replace KA := KA.next b2; replace hA := hA.next b2
 clear hQ b2 hqn B0
 go_upto_region 2 with (fail)
 have KI := Blk.lit w2 24 [.int .i64 r, .int .i64 r, .slice aI (r * r) kI]
 have ba : Below w2.heap.size w2 (w2.alloc (.cells #[.int .i64 r, .int .i64 r, .slice aI (r * r) kI] 24)) := (Below.refl w2.heap.size w2).alloc (Nat.le_refl _) _
 generalize w2.alloc (.cells #[.int .i64 r, .int .i64 r, .slice aI (r * r) kI] 24) = w3 at *
 have B3 := (B2.trans (ba.mono B2.size)).trans (Drawn.below (w' := w3.drew) ⟨1, rfl⟩ w.heap.size)
 have b3 := ba.trans (Drawn.below (w' := w3.drew) ⟨1, rfl⟩ w2.heap.size)
 replace KF := KF.next b3; replace KA := KA.next b3; replace hA := hA.next b3
 replace KI := KI.drew
 replace hI := hI.next b3
 obtain ⟨gI, egI⟩ : ∃ gI, gI = w2.heap.size := ⟨_, rfl⟩
 rw [← egI] at KI ⊢
 clear ba b3 B2 egI
 have HQV := Lib.hid hqv; have HQL := Lib.hid hql; clear hqv hql
 obtain ⟨gB, egB⟩ : ∃ gB, gB = w3.drew.heap.size := ⟨_, rfl⟩
 have hgB : w.heap.size ≤ gB := by rw [egB]; exact B3.size
 have hKF : g < gB := by rw [egB]; exact KF.lt
 have hKA : g + 1 < gB := by rw [egB]; exact KA.lt
 have z0 := Lib.hid fun (w : World) (hS : Below (w3.drew).heap.size (w3.drew) w) => And.intro ((KF.at hS) 0) (And.intro ((KA.at hS) 0) (And.intro ((KA.at hS) 1) ((KA.at hS) 2)))
 refine startL (S := (fun w' => Below (w3.drew).heap.size (w3.drew) w')) (by kernel_rfl) (Below.refl _ _) (fun hHeld => ?_)
 refine tf 0 z0.out ?_
 refine tf 1 z0.out ?_
 refine tf 2 z0.out ?_
 refine on 3 fun K hK => ?_
 go_simp
 go_at_call 71
 (with_reducible refine (xf_rowsOf p _ r c xs _ HP.out (hA.next hHeld) hr hc HX.out (fun j hj => by have := HLL.out j hj; omega)).mono ?_); rintro e w5 ⟨rv, U1, E1, rfl, X1, b5⟩
 obtain ⟨arv, crv, erv⟩ := X1.slc; subst erv
 refine hK.out _ _ (hHeld.trans (b5.mono hHeld.size)) (fun hHeld => ?_)
 clear hK K
 try simp only [Act.put, zq1, zq2, zq3]
 refine tk 4 ?_
 refine on 5 fun K hK => ?_
 go_simp
 have KH := Blk.lit w5 116 [.int .u64 p, .slice arv r crv, .int .i64 0]
 have bh : Below w5.heap.size w5 (w5.alloc (.cells #[.int .u64 p, .slice arv r crv, .int .i64 0] 116)) := (Below.refl _ _).alloc (Nat.le_refl _) _
 generalize w5.alloc (.cells #[.int .u64 p, .slice arv r crv, .int .i64 0] 116) = w6 at *
 have hg5 : w3.drew.heap.size ≤ w5.heap.size := hHeld.size
 refine hK.out _ _ (hHeld.trans (bh.mono hHeld.size)) (fun hHeld => ?_)
 clear hK K
 replace X1 := X1.next bh
 try simp only [Act.put, zq1, zq2, zq3]
 refine tk 6 ?_
 clear z0; refine doneL (by kernel_rfl) ?_ _
 have B6 := B3.trans (hHeld.mono B3.size)
 rw [← egB] at X1 hg5
 replace KF := KF.next hHeld; replace KA := KA.next hHeld; replace KI := KI.next hHeld; replace hI := hI.next hHeld
 generalize w5.heap.size = gH at *
 clear hHeld hA B3
 have f0 := KF.cell 0; have i0 := KI.cell 0; have i1 := KI.cell 1; have i2 := KI.cell 2
 go_wp2_with fail
 clear f0 i0 i1 i2
 refine (xf_rowsOf p _ r r qs w6 HP.out hI hr hr HQL.out (fun j hj => by have := (HQV.out j hj).2.2; omega)).mono ?_; rintro e w7 ⟨rv2, U2, E2, rfl, X2, b7⟩
 obtain ⟨arv2, crv2, erv2⟩ := X2.slc
 subst erv2
 have B7 := B6.trans (b7.mono B6.size)
 replace KA := KA.next b7
 have hgl7 : gB ≤ w7.heap.size := by have := (KH.next b7).lt; omega
 have AG : AgI p w7 gB gH (.slice arv r crv) (.slice arv2 r crv2) r c 0 (aT p c xs) (aT p r qs) U1 E1 U2 E2 :=
  ⟨KH.next b7, hg5, (X1.next b7).congr (fun a _ => by simp) (fun _ _ => rfl) (fun _ _ _ _ => rfl) (fun a k _ hk => if_pos hk), X2.mono (by have := b7.size; have := KH.lt; omega), fun b h1 h2 => by
   have k1 := (X1.blk h1).2.1
   have k2 := (X2.blk h2).1
   omega⟩
 have HI := Lib.hid (show ∀ a k, a < r → k < r → aT p r qs a k = if a = k then 1 else 0 from fun a k ha hk => by
  have h1 := (HQV.out (a * r + k) (at_lt rfl ha hk)).2.1
  show pl p (qs.getD (a * r + k) []) = _
  rw [h1]
  show (if (a * r + k) / r = (a * r + k) % r then (1 : Pol (Zp p)) else 0) = _
  rw [Nat.mul_comm, Nat.mul_add_div (by omega), Nat.div_eq_of_lt hk, Nat.mul_add_mod, Nat.mod_eq_of_lt hk, Nat.add_zero])
 have HAG := Lib.hid AG
 clear KF KI hI KH X1 X2 b7 B6 AG
 go_wp2
 go_loopw [28] (fun iv wr => ∃ (i : Nat) (U : Nat → Value) (E : Nat → Nat → Value), i ≤ r ∧ iv = .int .i64 i ∧ AgI p wr gB gH (.slice arv r crv) (.slice arv2 r crv2) r c i (aT p c xs) (aT p r qs) U E U2 E2 ∧ Below gB w7 wr) (fun iv _ => r - (intOf iv).toNat)
 case atStart => exact ⟨0, _, _, by omega, rfl, HAG.out, Below.refl _ _⟩
 case round =>
  clear HAG
  obtain ⟨i, U, E, hi, rfl, AG, B8⟩ := hrel
  by_cases hir : i < r
  ·obtain ⟨gh, cap, e1, -⟩ := AG.x1.hdr hir
   simp only [Value.slice.injEq, true_and] at e1
   obtain ⟨rfl, rfl⟩ := e1
   obtain ⟨gh2, cap2, e1, -⟩ := AG.x2.hdr hir
   simp only [Value.slice.injEq, true_and] at e1
   obtain ⟨rfl, rfl⟩ := e1
   obtain ⟨b2, c2, eU2, -, -, -, -, -, -⟩ := AG.x2.at hir (by omega)
   obtain ⟨aU, cU, eU⟩ := AG.x1.rslc hir
   rw [if_neg (Nat.lt_irrefl i)] at eU
   have hro := AG.x1.row i hir
   rw [if_neg (Nat.lt_irrefl i), eU] at hro
   have q2 := (AG.x2.cellU hir).1
   rw [eU2] at q2
   have q1 := (AG.x1.cellU hir).1
   rw [eU] at q1
   have hro2 := AG.x2.row i hir
   rw [eU2] at hro2
   have hone : ∀ u ∈ rowL r (E2 i), u.oneCell' = true := fun u hu => by
    obtain ⟨j, hj, rfl⟩ := List.mem_map.1 hu
    exact (AG.x2.el i j hir (List.mem_range.1 hj)).one
   have HONE := Lib.hid hone
   have hbs : gB ≤ wr.heap.size := by have := B8.size; omega
   clear hone
   go_upto_region 6 with (fail)
   have bd := dw wr
   have AG6 := AG.next bd
   have KH6 := AG6.blk
   have q6 : wr.drew.cell? ⟨gh, i, none⟩ = some (.slice aU c cU) := q1
   have ho6 := rowOwn_next hro bd (Nat.le_refl _)
   have hn6 := row_news (rowOwn_next hro2 bd (Nat.le_refl _))
   have B9 := B8.trans (bd.mono hbs)
   have hbs9 : gB ≤ wr.drew.heap.size := hbs
   have hhd := AG6.x1.own
   clear bd AG B8 q1 q2 hro hro2
   have z0 := Lib.hid fun (w : World) (hS : Blk 116 w gH [.int .u64 p, .slice (some ⟨gh, 0, none⟩) r crv, .int .i64 0] ∧ w.cell? ⟨gh, i, none⟩ = some (.slice aU c cU)) => And.intro (hS.1.cell 1) (hS.2)
   refine startP (S := (fun w' => Blk 116 w' gH [.int .u64 p, .slice (some ⟨gh, 0, none⟩) r crv, .int .i64 0] ∧ w'.cell? ⟨gh, i, none⟩ = some (.slice aU c cU))) (by kernel_rfl) _ rfl rfl rfl (by kernel_rfl) ⟨KH6, q6⟩ (fun hHeld => ?_)
   refine tk 0 ?_
   refine tk 1 ?_
   refine tk 2 ?_
   refine tf 3 z0.out ?_
   refine tk 4 ?_
   refine tk 5 ?_
   refine tk 6 ?_
   refine tk 7 ?_
   refine tf 8 z0.out ?_
   refine tk 9 ?_
   refine tk 10 ?_
   refine tf 11 z0.out ?_
   refine tk 12 ?_
   refine on 13 fun K hK => ?_
   refine apWo 22 43 24 (.slice none 0 0) Try.underlying22 (by kernel_rfl) (by decide) rfl _ _ rfl wr.drew gB (.slice aU c cU) c (rowL c (E i)) ho6 hbs9 ⟨b2, 0, none⟩ r c2 (rowL r (E2 i)) rfl rfl (rowL_length _ _) hn6 HONE.out (by omega) ?_
   intro v8 w8 ho8 hb8 hg8 hv8
   have hS8 : Blk 116 w8 gH [.int .u64 p, .slice (some ⟨gh, 0, none⟩) r crv, .int .i64 0] ∧ w8.cell? ⟨gh, i, none⟩ = some (.slice aU c cU) := by
    refine ⟨KH6.chg (Chg.grown hg8) fun hb => (rowOwn_tyb ho6 hb).1.ne KH6.tyb (by decide) rfl, ?_⟩
    have h1 := World.ownsRow.cellAt (rowOwn_chgT hhd (Chg.grown hg8) (e' := 43) (fun b _ hb => (rowOwn_tyb ho6 hb).1) (by decide)) i (by omega)
    rw [rowL_get hir, eU] at h1; exact h1
   refine hK.out _ _ hS8 (fun hHeld => ?_)
   clear hK K hS8
   try simp only [Act.put, zq1, zq2, zq3]
   refine tk 14 ?_
   clear z0; refine doneL (by kernel_rfl) ?_ _
   refine lastL rfl (by rfl) ?_
   have c9 := hHeld.2
   obtain ⟨av, cv, ev⟩ : ∃ a k, v8 = .slice a (c + r) k := by
    rcases rowOwn_shape ho8 with ⟨e1, e2⟩ | ⟨_, k, e1, _⟩
    ·exact ⟨none, 0, by rw [e1, e2]⟩
    ·exact ⟨_, k, e1⟩
   subst ev
   have fz9 := World.ownsRow.frozenAt (rowOwn_chgT hhd (Chg.grown hg8) (e' := 43) (fun b _ hb => (rowOwn_tyb ho6 hb).1) (by decide)) i
   have F1 := Lib.hid (AG6.step hir HI.out rfl ho8 (by rw [eU]; exact hg8) (by rw [eU]; exact hv8))
   have F2 := Lib.hid (B9.trans (hb8.setCell (p := ⟨gh, i, none⟩) (rowOwn_tyb (b := gh) hhd rfl).2.1 (.slice av (c + r) cv)))
   clear AG6 KH6 q6 ho6 hn6 B9 hhd ho8 hb8 hg8 hv8 hHeld
   go_wp2
   go_roundw
   case rel => exact ⟨i + 1, _, _, by omega, by go_num, F1.out, F2.out⟩
   case measure => simp [intOf] <;> omega
  ·obtain rfl : i = r := by omega
   have hbs : gB ≤ wr.heap.size := by have := B8.size; omega
   have hb0 : ∀ a k, a < i → k < c + i → (augM c (aT p c xs) a k).dlt L := fun a k ha hk => by
    unfold augM
    by_cases hkc : k < c
    ·rw [if_pos hkc]; exact dlt_mono (pl_dlt p _) (HLL.out _ (at_lt rfl ha hkc))
    ·rw [if_neg hkc]
     split
     ·exact dlt_mono (show (1 : Pol (Zp p)).dlt 1 from fun j hj => by rw [Pol.one_def, c_mon, if_neg (by omega)]) hL1
     ·exact dlt_zero _
   have HS0 := Lib.hid (show ∃ top V P U E, Hst p wr gB gH (.slice arv i crv) top i (c + i) U E V ∧ FoI i (c + i) L 0 top (augM c (aT p c xs)) V P ∧ Below gB wr wr from
    ⟨0, _, [], U, E, ⟨AG.blk, AG.hg, AG.x1.congr (fun a ha => (if_pos ha).symm) (fun _ _ => rfl) (fun _ _ _ _ => rfl) fun _ _ _ _ => rfl⟩, FoI.start hb0, Below.refl _ _⟩)
   have KA8 := KA.below B8 hKA
   have B9 := B7.trans (B8.mono hgB)
   clear AG KA B7 B8 hb0 HI HQV HQL
   go_wp2
   obtain ⟨wA, ewA⟩ : ∃ wA, wA = wr := ⟨_, rfl⟩
   rw [← ewA] at HS0 KA8 B9 hbs ⊢
   clear ewA wr
   go_loopw [10] (fun cv wr => ∃ col : Nat, col ≤ c ∧ cv = .int .i64 col ∧ ∃ top V P U E, Hst p wr gB gH (.slice arv i crv) top i (c + i) U E V ∧ FoI i (c + i) L col top (augM c (aT p c xs)) V P ∧ Below gB wA wr) (fun cv _ => c - (intOf cv).toNat)
   case atStart => exact ⟨0, Nat.zero_le _, rfl, HS0.out⟩
   case round =>
    clear HS0
    obtain ⟨col, hcc, rfl, top, V, P, U, E, H, FI, B10⟩ := hrel
    have KA9 := KA8.below B10 hKA
    have hbs10 : gB ≤ wr.heap.size := Nat.le_trans hbs B10.size
    have htr : top ≤ i := by have h1 := FI.her.len; have h2 := FI.len; omega
    by_cases hcl : col < c
    ·go_upto_region 9 with (fail)
     have bd := dw wr
     have H9 := H.next bd
     have KA10 := KA9.next bd
     have KH := H9.blk
     have B11 := B10.trans (bd.mono hbs10)
     have hbs11 : gB ≤ wr.drew.heap.size := hbs10
     clear bd H KA9 B10 hbs10
     have z0 := Lib.hid fun (w : World) (hS : Below (wr.drew).heap.size (wr.drew) w) => And.intro ((KA10.at hS) 0) (And.intro ((KA10.at hS) 1) ((KH.at hS) 2))
     refine startL (S := (fun w' => Below (wr.drew).heap.size (wr.drew) w')) (by kernel_rfl) (Below.refl _ _) (fun hHeld => ?_)
     refine tk 0 ?_
     refine tk 1 ?_
     refine tf 2 z0.out ?_
     refine tk 3 ?_
     refine tk 4 ?_
     refine tk 5 ?_
     refine tk 6 ?_
     refine tk 7 ?_
     refine tf 8 z0.out ?_
     refine tk 9 ?_
     refine tf 10 z0.out ?_
     refine tk 11 ?_
     refine tk 12 ?_
     clear z0; refine doneL (by kernel_rfl) ?_ _
     clear hHeld
     by_cases htl : top < i
     ·have h1 : decide ((top : Int) < (i : Int)) = true := decide_eq_true (by omega)
      go_wp2_with fail
      refine (xf_column p wr.drew gB gH _ top i (c + i) U E V P col (2 ^ hbd i top * L) HP.out HTR.out H9 FI.len FI.her htl (by omega) (hbd_le htl HBB.out) (by omega) (by omega) FI.bd).mono ?_; rintro e w12 ⟨rfl, top', U', E', V', H12, hq, b12⟩
      obtain ⟨P', FI'⟩ := FI.step hq
      have F1 := Lib.hid H12; have F2 := Lib.hid FI'; have F3 := Lib.hid (B11.trans b12)
      clear H9 KA10 KH B11 H12 hq b12 FI FI' hbs11
      go_wp2
      go_roundw
      case rel => exact ⟨col + 1, by omega, by go_num, _, _, _, _, _, F1.out, F2.out, F3.out⟩
      case measure => simp [intOf] <;> omega
     ·have h1 : decide ((top : Int) < (i : Int)) = false := decide_eq_false (by omega)
      have FIN := Lib.hid (show RetHf p w i c L (aT p c xs) (.returned (.pointer (some ⟨gH, 0, none⟩))) wr.drew from ⟨gH, _, top, U, E, V, P, rfl, H9.mono hgB, FI.full (by omega) (by omega), B9.trans (B11.mono hgB)⟩)
      clear H9 KA10 KH B11 FI
      go_wp2
      go_ret
      exact FIN.out
    ·obtain rfl : col = c := by omega
     go_upto_region 9 with (fail)
     have bd := dw wr
     have H9 := H.next bd
     have KA10 := KA9.next bd
     have KH := H9.blk
     have B11 := B10.trans (bd.mono hbs10)
     clear bd H KA9 B10 hbs10
     refine startL (S := (fun w' => Below (wr.drew).heap.size (wr.drew) w')) (by kernel_rfl) (Below.refl _ _) (fun hHeld => ?_)
     refine tk 0 ?_
     refine tk 1 ?_
     refine tg 2 rfl (fun w hS => by have fa := KA10.at hS; have f1 := fa 0; have f2 := fa 1; clear fa; have fb := KH.at hS; have f3 := fb 2; clear fb; go_simp <;> with_reducible rfl) ?_
     refine tk 3 ?_
     refine tk 4 ?_
     refine skipL 5 rfl (by kernel_rfl) (by kernel_rfl) (by kernel_rfl) (fun _ _ _ h => h) (by rfl) (by assumption) ?_
     simp only [Act.put, zq1, zq2, zq3]
     refine skipL 6 rfl (by kernel_rfl) (by kernel_rfl) (by kernel_rfl) (fun _ _ _ h => h) (by rfl) (by assumption) ?_
     simp only [Act.put, zq1, zq2, zq3]
     refine skipL 7 rfl (by kernel_rfl) (by kernel_rfl) (by kernel_rfl) (fun _ _ _ h => h) (by rfl) (by assumption) ?_
     simp only [Act.put, zq1, zq2, zq3]
     refine skipL 8 rfl (by kernel_rfl) (by kernel_rfl) (by kernel_rfl) (fun _ _ _ h => h) (by rfl) (by assumption) ?_
     simp only [Act.put, zq1, zq2, zq3]
     refine skipL 9 rfl (by kernel_rfl) (by kernel_rfl) (by kernel_rfl) (fun _ _ _ h => h) (by rfl) (by assumption) ?_
     simp only [Act.put, zq1, zq2, zq3]
     refine skipL 10 rfl (by kernel_rfl) (by kernel_rfl) (by kernel_rfl) (fun _ _ _ h => h) (by rfl) (by assumption) ?_
     simp only [Act.put, zq1, zq2, zq3]
     refine skipL 11 rfl (by kernel_rfl) (by kernel_rfl) (by kernel_rfl) (fun _ _ _ h => h) (by rfl) (by assumption) ?_
     simp only [Act.put, zq1, zq2, zq3]
     refine tk 12 ?_
     refine doneL (by kernel_rfl) ?_ _
     clear hHeld
     have FIN := Lib.hid (show RetHf p w i col L (aT p col xs) (.returned (.pointer (some ⟨gH, 0, none⟩))) wr.drew from ⟨gH, _, top, U, E, V, P, rfl, H9.mono hgB, FI, B9.trans (B11.mono hgB)⟩)
     clear H9 KA10 KH B11 FI
     go_wp2
     go_ret
     exact FIN.out
end Go.Proofs.Ytkmfhabgempjiaa
