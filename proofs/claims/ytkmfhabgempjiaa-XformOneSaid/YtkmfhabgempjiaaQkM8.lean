/- xform: two rows are joined in a column. -/
import Derived.Test.YtkmfhabgempjiaaQkM4
import Derived.Test.YtkmfhabgempjiaaQkM7
namespace Go.Proofs.Ytkmfhabgempjiaa
set_option maxHeartbeats 4000000
open Go.RowKit
structure Hst (p : Nat) (w : World) (base gW : Nat) (rv : Value) (top n M : Nat) (U : Nat → Value) (E : Nat → Nat → Value) (W : Nat → Nat → Pol (Zp p)) : Prop where
 blk : Blk 116 w gW [.int .u64 p, rv, .int .i64 top]
 gw : base ≤ gW
 rows : Xr p w base rv n (fun _ => M) U E W
theorem Hst.next {p : Nat} {w w' : World} {base gW : Nat} {rv : Value} {top n M : Nat} {U : Nat → Value} {E : Nat → Nat → Value} {W : Nat → Nat → Pol (Zp p)} (h : Hst p w base gW rv top n M U E W) (hb : Below w.heap.size w w') : Hst p w' base gW rv top n M U E W := ⟨h.blk.next hb, h.gw, h.rows.next hb⟩
def JoinR {p : Nat} (n M col top i L : Nat) (W W' : Nat → Nat → Pol (Zp p)) : Prop :=
 (W' = W ∧ W i col = 0) ∨ (∃ a b c d : Pol (Zp p), a * d - b * c = 1 ∧ W' = mix2 W top i a b c d ∧ W' i col = 0 ∧ W' top col ≠ 0 ∧ (∀ r k, r < n → k < M → (W' r k).dlt (2 * L)) ∧ Dl a c)
theorem dl_neg {p : Nat} {f g : Pol (Zp p)} (h : Dl f g) : Dl f (-g) := by
 obtain ⟨d, h1, h2, h3⟩ := h
 exact ⟨d, h1, dlt_neg h2, fun m hm e => h3 m hm (by rw [Pol.c_neg] at e; have e2 := congrArg Neg.neg e; rwa [CR.neg_neg, CR.neg_zero] at e2)⟩
def RetHs (p : Nat) (w : World) (base gW : Nat) (rv : Value) (n M : Nat) (Q : Nat → (Nat → Nat → Pol (Zp p)) → Prop) (e : Ending) (w' : World) : Prop :=
 e = .returned (.tuple #[]) ∧ ∃ top' U' E' W', Hst p w' base gW rv top' n M U' E' W' ∧ Q top' W' ∧ Below base w w'
theorem xg_vals {p : Nat} (hp : 0 < p) (tr : Trial p) {a b g x y v : Pol (Zp p)} {la lb lx : Nat} (hg : g = x * a + y * b) (hv : b = v * g) (hb : b ≠ 0) (ha : a.dlt la) (hbl : b.dlt lb) (hx : x.dlt lx) {zv : List Nat} (nv : Nrm p zv) (ev : pl p zv = v) (hxv : lx < zv.length) (hl1 : 1 ≤ la) : y.dlt la ∧ zv.length ≤ lb := by
 obtain ⟨nb, hnb⟩ := Ln.exists b
 have lv : Ln v zv.length := by rw [← ev]; exact nrm_ln hp nv
 have h1 := gcd_len tr hg hv hb ha hnb lv hx hxv
 refine ⟨dlt_mono h1 (by omega), ?_⟩
 have h2 : zv.length ≤ nb := Dv.len tr ⟨g, hv⟩ hb lv hnb
 have h3 := hnb.le hbl
 omega
theorem exact_q {p : Nat} (hp : 0 < p) (tr : Trial p) {a g q r : Pol (Zp p)} {zg zr : List Nat} (hd : Dv g a) (eg : pl p zg = g) (h : a = q * g + r) (er : pl p zr = r) (hl : zr.length < (nl p zg).length) : a = q * g := by
 obtain ⟨n, hn⟩ : ∃ n, (nl p zg).length = n + 1 := ⟨(nl p zg).length - 1, by omega⟩
 have hy : Ln g (n + 1) := by rw [← hn, ← eg, ← nl_pl p zg]; exact nrm_ln hp (nl_nrm hp zg)
 have h0 := (dv_rem tr hy (r := r) (fun i hi => by rw [← er]; exact pl_dlt p zr i (by omega)) h).1 hd
 rw [h0, CR.add_zero] at h; exact h
theorem Hst.put2 {p : Nat} {w : World} {base gW : Nat} {rv : Value} {top n M : Nat} {U : Nat → Value} {E : Nat → Nat → Value} {W : Nat → Nat → Pol (Zp p)} (H : Hst p w base gW rv top n M U E W) {g cap : Nat} (hrv : rv = .slice (some ⟨g, 0, none⟩) n cap) {A B : Value} {FA FB : Nat → Value} {PA PB : Nat → Pol (Zp p)}
  (hA : w.ownsRow base 43 1 A M (rowL M FA)) (eA : ∀ k, k < M → Vn p w base (FA k) (PA k)) (hB : w.ownsRow base 43 1 B M (rowL M FB)) (eB : ∀ k, k < M → Vn p w base (FB k) (PB k)) {s t : Nat}
  (fA : ∀ j, j < n → ∀ b, A.ownBlock = some b → (U j).ownBlock ≠ some b) (fB : ∀ j, j < n → ∀ b, B.ownBlock = some b → (U j).ownBlock ≠ some b ∧ A.ownBlock ≠ some b) {W' : Nat → Nat → Pol (Zp p)} (hW : ∀ a k, a < n → k < M → W' a k = if a = t then PB k else if a = s then PA k else W a k) :
  ∃ U' E', Hst p ((w.setCell ⟨g, s, none⟩ A).setCell ⟨g, t, none⟩ B) base gW rv top n M U' E' W' := by
 have ho := H.rows.own
 rw [hrv] at ho
 have hgt : Tyb w 22 g := (rowOwn_tyb ho rfl).1
 have hc : Chg w (w.setCell ⟨g, s, none⟩ A) (fun j => j = g) := Chg.setCell w ⟨g, s, none⟩ A
 have X1 := H.rows.setU hrv hA (fun j hj _ b hb => fA j hj b hb) eA (i := s)
 have hB1 := rowOwn_chgT hB hc (e' := 22) (fun c _ hcb => by rw [hcb]; exact hgt) (by decide)
 have eB1 : ∀ k, k < M → Vn p (w.setCell ⟨g, s, none⟩ A) base (FB k) (PB k) := fun k hk => (eB k hk).chg hc (e := 22) (fun c _ hcb => by rw [hcb]; exact hgt) (by decide)
 have X2 := X1.setU hrv hB1 (fun j hj _ b hb => by
  show (if j = s then A else U j).ownBlock ≠ some b
  split
  ·exact (fB j hj b hb).2
  ·exact (fB j hj b hb).1) eB1 (i := t)
 have hgw : gW ≠ g := H.blk.tyb.ne hgt (by decide)
 have K1 := H.blk.chg hc hgw
 have K2 := K1.chg (Chg.setCell _ ⟨g, t, none⟩ B) hgw
 exact ⟨_, _, K2, H.gw, X2.congr (fun a _ => by simp) (fun _ _ => rfl) (fun _ _ _ _ => rfl) fun a k ha hk => by
  have hk' : k < M := by simpa using hk
  rw [hW a k ha hk']
  show (if a = t then PB k else if a = s then PA k else W a k) = (if a = t then PB else if a = s then PA else W a) k
  by_cases h1 : a = t
  ·rw [if_pos h1, if_pos h1]
  ·rw [if_neg h1, if_neg h1]
   by_cases h2 : a = s
   ·rw [if_pos h2, if_pos h2]
   ·rw [if_neg h2, if_neg h2]⟩
theorem mix2_dlt {p : Nat} {W : Nat → Nat → Pol (Zp p)} {s t n M L : Nat} {a b c d : Pol (Zp p)} (hs : s < n) (ht : t < n) (hb : ∀ r k, r < n → k < M → (W r k).dlt L) (ha : a.dlt L) (hbb : b.dlt L) (hc : c.dlt L) (hd : d.dlt L) : ∀ r k, r < n → k < M → (mix2 W s t a b c d r k).dlt (2 * L) := fun r k hr hk => by
 have e : ∀ {x y : Pol (Zp p)}, x.dlt L → y.dlt L → (x * y).dlt (2 * L) := fun hx hy => dlt_mono (mul_dlt hx hy) (by omega)
 unfold mix2
 split
 ·exact dlt_add (e ha (hb s k hs hk)) (e hbb (hb t k ht hk))
 ·split
  ·exact dlt_add (e hc (hb s k hs hk)) (e hd (hb t k ht hk))
  ·exact dlt_mono (hb r k hr hk) (by omega)
set_option maxRecDepth 20000 in
theorem xf_join (p : Nat) (w : World) (base gW : Nat) (rv : Value) (top n M : Nat) (U : Nat → Value) (E : Nat → Nat → Value) (W : Nat → Nat → Pol (Zp p)) (i col L : Nat) (hp : FP p) (ht : Trial p) (h : Hst p w base gW rv top n M U E W) (hti : top < i) (hin : i < n) (hcol : col < M) (hL : L ≤ 200000) (hM : M ≤ 1000) (hbase : base ≤ w.heap.size)
  (hb : ∀ r k, r < n → k < M → (W r k).dlt L) :
  Calls Try.prog 162 #[.pointer (some ⟨gW, 0, none⟩), .int .i64 i, .int .i64 col] w (RetHs p w base gW rv n M fun top' W' => top' = top ∧ JoinR n M col top i L W W') := by
 have hM0 : 0 < M := by omega
 have htn : top < n := by omega
 have hk : gW < w.heap.size := h.blk.lt
 have KW := h.blk
 have XR := h.rows
 have hgw := h.gw
 obtain ⟨g, cap, rfl, hg1, hg2, hnc, hgt, hcells, hfree⟩ := XR.hdr hin
 obtain ⟨bT, cT, eT, hT1, hT2, hT3, -, hTc, -⟩ := XR.at (i := top) (by omega) hM0
 obtain ⟨bI, cI, eI, hI1, hI2, hI3, -, hIc, -⟩ := XR.at hin hM0
 have qT := hcells top (by omega); have qI := hcells i hin
 rw [eT] at qT; rw [eI] at qI
 obtain ⟨aP, nP, cP, zP, eP, lP, oP, mP, vP⟩ := (XR.el top col (by omega) hcol).open
 obtain ⟨aQ, nQ, cQ, zQ, eQ, lQ, oQ, mQ, vQ⟩ := (XR.el i col hin hcol).open
 have kP := hTc col hcol; have kQ := hIc col hcol
 rw [eP] at kP; rw [eQ] at kQ
 have hzP : zP.length ≤ L := nrm_len hp.pos mP (by rw [vP]; exact hb top col (by omega) hcol)
 have hzQ : zQ.length ≤ L := nrm_len hp.pos mQ (by rw [vQ]; exact hb i col hin hcol)
 have rT := XR.rowP hp.pos (i := top) (by omega) hM0 (fun k hk => hb top k (by omega) hk)
 have rI := XR.rowP hp.pos hin hM0 (fun k hk => hb i k hin hk)
 rw [eT] at rT; rw [eI] at rI
 have VP := Lib.hid vP; have VQ := Lib.hid vQ; have HB := Lib.hid hb; have HP := Lib.hid hp; have HTR := Lib.hid ht
 have LP := Lib.hid lP; have LQ := Lib.hid lQ
 have ET := Lib.hid eT; have EI := Lib.hid eI
 have HF := Lib.hid hfree
 have tP := oP.sl; have tQ := oQ.sl
 have HMP := Lib.hid mP; have HMQ := Lib.hid mQ
 have h0 := h
 clear h hgt hcells hfree hTc hIc eP eQ vP vQ hb hp ht oP oQ lP lQ eT eI mP mQ XR
 have hnn : nP = zP.length := LP.out.symm
 have hnq : nQ = zQ.length := LQ.out.symm
 subst hnn hnq
 go_enter Try.func162, Try.ntmps162
 go_upto_region 0 with (fail)
 have bd := dw w
 replace KW := KW.next bd
 have qT' : w.drew.cell? ⟨g, top, none⟩ = some (.slice (some ⟨bT, 0, none⟩) M cT) := qT
 have qI' : w.drew.cell? ⟨g, i, none⟩ = some (.slice (some ⟨bI, 0, none⟩) M cI) := qI
 have hgl : g < w.drew.heap.size := hg2
 clear bd
 refine startL (S := (fun w' => Below (w.drew).heap.size (w.drew) w')) (by kernel_rfl) (Below.refl _ _) (fun hHeld => ?_)
 refine tk 0 ?_
 refine tk 1 ?_
 refine tk 2 ?_
 refine tg 3 rfl (fun w hS => by have fa := KW.at hS; have f1 := fa 1; have f2 := fa 2; clear fa; have f3 := (hS.cell (p := ⟨g, top, none⟩) hgl).trans qT'; have f4 := (hS.cell (p := ⟨g, i, none⟩) hgl).trans qI'; go_simp <;> with_reducible rfl) ?_
 refine tk 4 ?_
 refine tk 5 ?_
 refine tk 6 ?_
 refine tg 7 rfl (fun w hS => by have fa := KW.at hS; have f1 := fa 1; have f2 := fa 2; clear fa; have f3 := (hS.cell (p := ⟨g, top, none⟩) hgl).trans qT'; have f4 := (hS.cell (p := ⟨g, i, none⟩) hgl).trans qI'; go_simp <;> with_reducible rfl) ?_
 refine tk 8 ?_
 refine tg 9 rfl (fun w hS => by have fa := KW.at hS; have f1 := fa 1; have f2 := fa 2; clear fa; have f3 := (hS.cell (p := ⟨g, top, none⟩) hgl).trans qT'; have f4 := (hS.cell (p := ⟨g, i, none⟩) hgl).trans qI'; go_simp <;> with_reducible rfl) ?_
 refine tk 10 ?_
 refine tk 11 ?_
 refine tk 12 ?_
 refine tg 13 rfl (fun w hS => by have fa := KW.at hS; have f1 := fa 1; have f2 := fa 2; clear fa; have f3 := (hS.cell (p := ⟨g, top, none⟩) hgl).trans qT'; have f4 := (hS.cell (p := ⟨g, i, none⟩) hgl).trans qI'; go_simp <;> with_reducible rfl) ?_
 refine tk 14 ?_
 refine tk 15 ?_
 refine tg 16 rfl (fun w hS => by have fa := KW.at hS; have f1 := fa 1; have f2 := fa 2; clear fa; have f3 := (hS.cell (p := ⟨g, top, none⟩) hgl).trans qT'; have f4 := (hS.cell (p := ⟨g, i, none⟩) hgl).trans qI'; go_simp <;> with_reducible rfl) ?_
 refine tk 17 ?_
 refine tk 18 ?_
 refine doneL (by kernel_rfl) ?_ _
 clear hHeld qT' qI' hgl KW
 have B1 : Below w.heap.size w w.drew := dw w
 have HW := Lib.hid h0
 obtain ⟨w1, ew1⟩ : ∃ w1, w1 = w.drew := ⟨_, rfl⟩
 rw [← ew1] at B1 ⊢
 clear ew1
 have kQ1 := (B1.cell (p := ⟨bI, col, none⟩) hI2).trans kQ
 obtain ⟨m, em⟩ : ∃ m, m = zQ.length := ⟨_, rfl⟩
 have EM := Lib.hid em
 rw [← em] at kQ1 hzQ
 by_cases hz : m = 0
 ·have hW0 : W i col = 0 := by
   rw [← VQ.out, List.length_eq_zero_iff.1 (show zQ.length = 0 by omega), pl_nil]
  have FIN := Lib.hid (show RetHs p w base gW (.slice (some ⟨g, 0, none⟩) n cap) n M (fun top' W' => top' = top ∧ JoinR n M col top i L W W') (.returned (.tuple #[])) w1 from ⟨rfl, top, U, E, W, h0.next B1, ⟨rfl, .inl ⟨rfl, hW0⟩⟩, B1.mono hbase⟩)
  have hz1 : ((m : Int) == 0) = true := by simp [hz]
  clear em B1 hz rT rI tP tQ kP kQ
  go_wp2
  go_end0
  exact FIN.out
 ·have hz1 : ((m : Int) == 0) = false := by simp [hz]
  have hQ0 : W i col ≠ 0 := by
   intro e
   rw [← VQ.out] at e
   have := pl_inj HP.out.pos HMQ.out (nrm_nil p) (e.trans (pl_nil p).symm)
   rw [this] at em; simp at em; omega
  have HQ0 := Lib.hid hQ0
  have HL1 := Lib.hid (show 1 ≤ L by omega)
  clear em hz hQ0
  go_upto_region 2 with (fail)
  clear kQ1
  have bd := dw w1
  have B2 := B1.trans (bd.mono B1.size)
  clear bd B1
  have KW := (h0.next B2).blk
  have kP2 := (B2.cell (p := ⟨bT, col, none⟩) hT2).trans kP
  have kQ2 := (B2.cell (p := ⟨bI, col, none⟩) hI2).trans kQ
  rw [← EM.out] at kQ2
  have u1 : bT < w1.drew.heap.size := by have := B2.size; omega
  have u2 : bI < w1.drew.heap.size := by have := B2.size; omega
  have z0 := Lib.hid fun (w : World) (hS : Below (w1.drew).heap.size (w1.drew) w) => And.intro ((KW.at hS) 0) (And.intro ((hS.cell (p := ⟨bT, col, none⟩) u1).trans kP2) ((hS.cell (p := ⟨bI, col, none⟩) u2).trans kQ2))
  refine startL (S := (fun w' => Below (w1.drew).heap.size (w1.drew) w')) (by kernel_rfl) (Below.refl _ _) (fun hHeld => ?_)
  refine tk 0 ?_
  refine tk 1 ?_
  refine tk 2 ?_
  refine tf 3 z0.out ?_
  refine tk 4 ?_
  refine tk 5 ?_
  refine tk 6 ?_
  refine tf 7 z0.out ?_
  refine tk 8 ?_
  refine tk 9 ?_
  refine tk 10 ?_
  refine tf 11 z0.out ?_
  refine on 12 fun K hK => ?_
  go_simp
  go_at_call 179
  (with_reducible refine (fp_Xgcd p _ _ zP zQ _ HP.out HTR.out (tP.next (B2.trans (hHeld.mono B2.size))) (by rw [EM.out]; exact tQ.next (B2.trans (hHeld.mono B2.size))) (by omega) (by rw [← EM.out]; omega)).mono ?_); rintro e w2 ⟨rg, rs, rt, zg, zs, zt, rfl, sg, ss, st, ng, ns, nt, hgcd, hbez, hnil, hfac, lg, ls, lt, b2⟩
  have HX1 := Lib.hid (show pl p zg = pl p zs * pl p zP + pl p zt * pl p zQ ∧ zs.length ≤ L ∧ zt.length ≤ L ∧ pl p zg ≠ 0 ∧ ∃ v, pl p zQ = v * pl p zg ∧ Dl (pl p zs) v by
   have hQn : nl p zQ ≠ [] := fun e => HQ0.out (by rw [← VQ.out]; exact (nl_nil HP.out.pos).1 e)
   obtain ⟨zp, np, ep, lp⟩ := hfac hQn
   have hQ1 : pl p zQ ≠ 0 := by rw [VQ.out]; exact HQ0.out
   obtain ⟨h1, h2⟩ := xg_vals HP.out.pos HTR.out hbez ep hQ1 (by rw [VP.out]; exact HB.out top col (by omega) hcol) (by rw [VQ.out]; exact HB.out i col hin hcol) (pl_dlt p zs) np rfl lp HL1.out
   refine ⟨hbez, by omega, nrm_len HP.out.pos nt h1, fun e => hQ1 (by rw [ep, e, CR.mul_zero]), pl p zp, ep, zp.length - 1, dlt_mono (pl_dlt p zs) (by omega), by rw [show zp.length - 1 + 1 = zp.length by omega]; exact nrm_ln HP.out.pos np⟩)
  have HDV := Lib.hid (show Dv (pl p zg) (pl p zP) ∧ Dv (pl p zg) (pl p zQ) from ⟨hgcd.2.1, hgcd.2.2.1⟩)
  have HNG := Lib.hid ng; have HNS := Lib.hid ns; have HNT := Lib.hid nt
  clear hbez hfac ng ns nt
  refine hK.out _ _ (hHeld.trans (b2.mono hHeld.size)) (fun hHeld => ?_)
  clear hK K
  try simp only [Act.put, zq1, zq2, zq3]
  refine tk 13 ?_
  refine tk 14 ?_
  refine tk 15 ?_
  refine tk 16 ?_
  refine tk 17 ?_
  refine tk 18 ?_
  refine tk 19 ?_
  clear z0; refine doneL (by kernel_rfl) ?_ _
  replace B2 := B2.trans (hHeld.mono B2.size)
  clear hHeld KW kP2 kQ2 u1 u2 b2 hgcd hnil
  have hg0 : pl p zg ≠ 0 := HX1.out.2.2.2.1
  have hgn : nl p zg ≠ [] := fun e => hg0 ((nl_nil HP.out.pos).1 e)
  have HGN := Lib.hid hgn
  clear hg0 hgn
  go_upto_region 3 with (fail)
  have bd := dw w2
  have B3 := B2.trans (bd.mono B2.size)
  replace sg := sg.next bd; replace ss := ss.next bd; replace st := st.next bd
  clear bd B2
  have KW := (h0.next B3).blk
  have kP2 := (B3.cell (p := ⟨bT, col, none⟩) hT2).trans kP
  have u1 : bT < w2.drew.heap.size := by have := B3.size; omega
  have z0 := Lib.hid fun (w : World) (hS : Below (w2.drew).heap.size (w2.drew) w) => And.intro ((KW.at hS) 0) ((hS.cell (p := ⟨bT, col, none⟩) u1).trans kP2)
  refine startL (S := (fun w' => Below (w2.drew).heap.size (w2.drew) w')) (by kernel_rfl) (Below.refl _ _) (fun hHeld => ?_)
  refine tk 0 ?_
  refine tk 1 ?_
  refine tk 2 ?_
  refine tf 3 z0.out ?_
  refine tk 4 ?_
  refine tk 5 ?_
  refine tk 6 ?_
  refine tf 7 z0.out ?_
  refine tk 8 ?_
  refine on 9 fun K hK => ?_
  go_simp
  go_at_call 88
  (with_reducible refine (fp_DivMod p _ rg zP zg _ HP.out HTR.out (tP.next (B3.trans (hHeld.mono B3.size))) (sg.next hHeld) (by omega) (by omega) HGN.out).mono ?_); rintro e w3 ⟨rq3, rr3, zy3, zr3, rfl, o3, p3, m3, n3, v3, d3, l3, k3, b3⟩
  have HX3 := Lib.hid (show pl p zP = pl p zy3 * pl p zg from exact_q HP.out.pos HTR.out HDV.out.1 rfl v3 rfl d3)
  have s3 := o3.sl
  have hl3 : zy3.length ≤ L := by omega
  clear o3 p3 m3 n3 v3 d3 l3 k3
  refine hK.out _ _ (hHeld.trans (b3.mono hHeld.size)) (fun hHeld => ?_)
  clear hK K
  try simp only [Act.put, zq1, zq2, zq3]
  refine tk 10 ?_
  refine tk 11 ?_
  refine tk 12 ?_
  refine tk 13 ?_
  refine tk 14 ?_
  refine tk 15 ?_
  refine tk 16 ?_
  clear z0; refine doneL (by kernel_rfl) ?_ _
  replace B3 := B3.trans (hHeld.mono B3.size)
  replace sg := sg.next hHeld; replace ss := ss.next hHeld; replace st := st.next hHeld
  clear hHeld KW kP2 u1 b3
  go_upto_region 4 with (fail)
  have bd := dw w3
  have B4 := B3.trans (bd.mono B3.size)
  replace sg := sg.next bd; replace ss := ss.next bd; replace st := st.next bd; replace s3 := s3.next bd
  clear bd B3
  have KW := (h0.next B4).blk
  have kQ2 := (B4.cell (p := ⟨bI, col, none⟩) hI2).trans kQ
  rw [← EM.out] at kQ2
  have u2 : bI < w3.drew.heap.size := by have := B4.size; omega
  have z0 := Lib.hid fun (w : World) (hS : Below (w3.drew).heap.size (w3.drew) w) => And.intro ((KW.at hS) 0) ((hS.cell (p := ⟨bI, col, none⟩) u2).trans kQ2)
  refine startL (S := (fun w' => Below (w3.drew).heap.size (w3.drew) w')) (by kernel_rfl) (Below.refl _ _) (fun hHeld => ?_)
  refine tk 0 ?_
  refine tk 1 ?_
  refine tk 2 ?_
  refine tf 3 z0.out ?_
  refine tk 4 ?_
  refine tk 5 ?_
  refine tk 6 ?_
  refine tf 7 z0.out ?_
  refine tk 8 ?_
  refine on 9 fun K hK => ?_
  go_simp
  go_at_call 88
  (with_reducible refine (fp_DivMod p _ rg zQ zg _ HP.out HTR.out (by rw [EM.out]; exact tQ.next (B4.trans (hHeld.mono B4.size))) (sg.next hHeld) (by rw [← EM.out]; omega) (by omega) HGN.out).mono ?_); rintro e w4 ⟨rq4, rr4, zy4, zr4, rfl, o4, p4, m4, n4, v4, d4, l4, k4, b4⟩
  have HX2 := Lib.hid (show pl p zg = pl p zs * pl p zP + pl p zt * pl p zQ ∧ pl p zP = pl p zy3 * pl p zg ∧ pl p zQ = pl p zy4 * pl p zg from ⟨HX1.out.1, HX3.out, exact_q HP.out.pos HTR.out HDV.out.2 rfl v4 rfl d4⟩)
  have s4 := o4.sl
  have hl4 : zy4.length ≤ L := by rw [← EM.out] at l4; omega
  clear o4 p4 m4 n4 v4 d4 l4 k4
  refine hK.out _ _ (hHeld.trans (b4.mono hHeld.size)) (fun hHeld => ?_)
  clear hK K
  try simp only [Act.put, zq1, zq2, zq3]
  refine tk 10 ?_
  refine tk 11 ?_
  refine tk 12 ?_
  refine tk 13 ?_
  refine tk 14 ?_
  refine tk 15 ?_
  refine tk 16 ?_
  clear z0; refine doneL (by kernel_rfl) ?_ _
  replace B4 := B4.trans (hHeld.mono B4.size)
  replace ss := ss.next hHeld; replace st := st.next hHeld; replace s3 := s3.next hHeld
  clear hHeld KW kQ2 u2 b4 sg
  obtain ⟨hg1', hu1, hv1⟩ := HX2.out
  obtain ⟨hdet, hzero, hgn0⟩ := gcd_mix HTR.out HX1.out.1 hu1 hv1 (by rw [VQ.out]; exact HQ0.out)
  have HDL := Lib.hid (show Dl (pl p zs) (-pl p zy4) from by
   obtain ⟨v, hv', hD'⟩ := HX1.out.2.2.2.2
   have ev : v = pl p zy4 := mul_cancel HTR.out HX1.out.2.2.2.1 (by rw [CR.mul_comm, ← hv', hv1, CR.mul_comm])
   rw [← ev]; exact dl_neg hD')
  have HDET := Lib.hid hdet; have HZERO := Lib.hid hzero; have HGN0 := Lib.hid hgn0
  have hls : zs.length ≤ L := by have := HX1.out.2.1; omega
  have hlt' : zt.length ≤ L := HX1.out.2.2.1
  clear hg1' hu1 hv1 hdet hzero hgn0
  go_upto_region 5 with (fail)
  have bd := dw w4
  have B5 := B4.trans (bd.mono B4.size)
  replace ss := ss.next bd; replace st := st.next bd; replace s3 := s3.next bd; replace s4 := s4.next bd
  clear bd B4
  have H5 := h0.next B5
  have KW := H5.blk
  have rT5 := rT.next B5; have rI5 := rI.next B5
  refine startD (S := (fun w' => Below (w4.drew).heap.size (w4.drew) w')) 28 (by kernel_rfl) (Below.refl _ _) (fun hHeld => ?_)
  refine takeDA 0 (v := ?_) rfl (by kernel_rfl) (by kernel_rfl) (by kernel_rfl) (fun _ _ _ h => h) (by decide) ⟨by rfl, ?_⟩ (by assumption) ?_
  rotate_left
  ·intro w; go_simp <;> with_reducible rfl
  simp only [Act.put, zq1, zq2, zq3]
  refine takeDA 1 (v := ?_) rfl (by kernel_rfl) (by kernel_rfl) (by kernel_rfl) (fun _ _ _ h => h) (by decide) ⟨by rfl, ?_⟩ (by assumption) ?_
  rotate_left
  ·intro w; go_simp <;> with_reducible rfl
  simp only [Act.put, zq1, zq2, zq3]
  refine takeDA 2 (v := ?_) rfl (by kernel_rfl) (by kernel_rfl) (by kernel_rfl) (fun _ _ _ h => h) (by decide) ⟨by rfl, ?_⟩ (by assumption) ?_
  rotate_left
  ·intro w; go_simp <;> with_reducible rfl
  simp only [Act.put, zq1, zq2, zq3]
  refine takeD0 3 (v := ?_) rfl (by kernel_rfl) (by kernel_rfl) (by kernel_rfl) (fun _ _ _ h => h) (by decide) (by kernel_rfl) (by kernel_rfl) ⟨by rfl, ?_⟩ (by assumption) ?_
  rotate_left
  ·intro w hS; have fa := KW.at hS; have f1 := fa 1; have f2 := fa 2; clear fa; go_simp <;> with_reducible rfl
  simp only [Act.put, zq1, zq2, zq3]
  refine takeDA 4 (v := ?_) rfl (by kernel_rfl) (by kernel_rfl) (by kernel_rfl) (fun _ _ _ h => h) (by decide) ⟨by rfl, ?_⟩ (by assumption) ?_
  rotate_left
  ·intro w; go_simp <;> with_reducible rfl
  simp only [Act.put, zq1, zq2, zq3]
  refine takeDA 5 (v := ?_) rfl (by kernel_rfl) (by kernel_rfl) (by kernel_rfl) (fun _ _ _ h => h) (by decide) ⟨by rfl, ?_⟩ (by assumption) ?_
  rotate_left
  ·intro w; go_simp <;> with_reducible rfl
  simp only [Act.put, zq1, zq2, zq3]
  refine takeDA 6 (v := ?_) rfl (by kernel_rfl) (by kernel_rfl) (by kernel_rfl) (fun _ _ _ h => h) (by decide) ⟨by rfl, ?_⟩ (by assumption) ?_
  rotate_left
  ·intro w; go_simp <;> with_reducible rfl
  simp only [Act.put, zq1, zq2, zq3]
  refine takeD0 7 (v := ?_) rfl (by kernel_rfl) (by kernel_rfl) (by kernel_rfl) (fun _ _ _ h => h) (by decide) (by kernel_rfl) (by kernel_rfl) ⟨by rfl, ?_⟩ (by assumption) ?_
  rotate_left
  ·intro w hS; have fa := KW.at hS; have f1 := fa 1; have f2 := fa 2; clear fa; go_simp <;> with_reducible rfl
  simp only [Act.put, zq1, zq2, zq3]
  refine takeDA 8 (v := ?_) rfl (by kernel_rfl) (by kernel_rfl) (by kernel_rfl) (fun _ _ _ h => h) (by decide) ⟨by rfl, ?_⟩ (by assumption) ?_
  rotate_left
  ·intro w; go_simp <;> with_reducible rfl
  simp only [Act.put, zq1, zq2, zq3]
  refine takeDA 9 (v := ?_) rfl (by kernel_rfl) (by kernel_rfl) (by kernel_rfl) (fun _ _ _ h => h) (by decide) ⟨by rfl, ?_⟩ (by assumption) ?_
  rotate_left
  ·intro w; go_simp <;> with_reducible rfl
  simp only [Act.put, zq1, zq2, zq3]
  refine takeDA 10 (v := ?_) rfl (by kernel_rfl) (by kernel_rfl) (by kernel_rfl) (fun _ _ _ h => h) (by decide) ⟨by rfl, ?_⟩ (by assumption) ?_
  rotate_left
  ·intro w; go_simp <;> with_reducible rfl
  simp only [Act.put, zq1, zq2, zq3]
  refine takeD0 11 (v := ?_) rfl (by kernel_rfl) (by kernel_rfl) (by kernel_rfl) (fun _ _ _ h => h) (by decide) (by kernel_rfl) (by kernel_rfl) ⟨by rfl, ?_⟩ (by assumption) ?_
  rotate_left
  ·intro w hS; have fa := KW.at hS; have f1 := fa 1; have f2 := fa 2; clear fa; go_simp <;> with_reducible rfl
  simp only [Act.put, zq1, zq2, zq3]
  refine takeDA 12 (v := ?_) rfl (by kernel_rfl) (by kernel_rfl) (by kernel_rfl) (fun _ _ _ h => h) (by decide) ⟨by rfl, ?_⟩ (by assumption) ?_
  rotate_left
  ·intro w; go_simp <;> with_reducible rfl
  simp only [Act.put, zq1, zq2, zq3]
  refine takeDA 13 (v := ?_) rfl (by kernel_rfl) (by kernel_rfl) (by kernel_rfl) (fun _ _ _ h => h) (by decide) ⟨by rfl, ?_⟩ (by assumption) ?_
  rotate_left
  ·intro w; go_simp <;> with_reducible rfl
  simp only [Act.put, zq1, zq2, zq3]
  refine takeDA 14 (v := ?_) rfl (by kernel_rfl) (by kernel_rfl) (by kernel_rfl) (fun _ _ _ h => h) (by decide) ⟨by rfl, ?_⟩ (by assumption) ?_
  rotate_left
  ·intro w; go_simp <;> with_reducible rfl
  simp only [Act.put, zq1, zq2, zq3]
  refine takeDA 15 (v := ?_) rfl (by kernel_rfl) (by kernel_rfl) (by kernel_rfl) (fun _ _ _ h => h) (by decide) ⟨by rfl, ?_⟩ (by assumption) ?_
  rotate_left
  ·intro w; go_simp <;> with_reducible rfl
  simp only [Act.put, zq1, zq2, zq3]
  refine takeDA 16 (v := ?_) rfl (by kernel_rfl) (by kernel_rfl) (by kernel_rfl) (fun _ _ _ h => h) (by decide) ⟨by rfl, ?_⟩ (by assumption) ?_
  rotate_left
  ·intro w; go_simp <;> with_reducible rfl
  simp only [Act.put, zq1, zq2, zq3]
  refine takeDA 17 (v := ?_) rfl (by kernel_rfl) (by kernel_rfl) (by kernel_rfl) (fun _ _ _ h => h) (by decide) ⟨by rfl, ?_⟩ (by assumption) ?_
  rotate_left
  ·intro w; go_simp <;> with_reducible rfl
  simp only [Act.put, zq1, zq2, zq3]
  refine takeDA 19 (v := ?_) rfl (by kernel_rfl) (by kernel_rfl) (by kernel_rfl) (fun _ _ _ h => h) (by decide) ⟨by rfl, ?_⟩ (by assumption) ?_
  rotate_left
  ·intro w; go_simp <;> with_reducible rfl
  simp only [Act.put, zq1, zq2, zq3]
  refine takeDA 20 (v := ?_) rfl (by kernel_rfl) (by kernel_rfl) (by kernel_rfl) (fun _ _ _ h => h) (by decide) ⟨by rfl, ?_⟩ (by assumption) ?_
  rotate_left
  ·intro w; go_simp <;> with_reducible rfl
  simp only [Act.put, zq1, zq2, zq3]
  refine takeDA 21 (v := ?_) rfl (by kernel_rfl) (by kernel_rfl) (by kernel_rfl) (fun _ _ _ h => h) (by decide) ⟨by rfl, ?_⟩ (by assumption) ?_
  rotate_left
  ·intro w; go_simp <;> with_reducible rfl
  simp only [Act.put, zq1, zq2, zq3]
  refine takeDA 23 (v := ?_) rfl (by kernel_rfl) (by kernel_rfl) (by kernel_rfl) (fun _ _ _ h => h) (by decide) ⟨by rfl, ?_⟩ (by assumption) ?_
  rotate_left
  ·intro w; go_simp <;> with_reducible rfl
  simp only [Act.put, zq1, zq2, zq3]
  refine takeDA 24 (v := ?_) rfl (by kernel_rfl) (by kernel_rfl) (by kernel_rfl) (fun _ _ _ h => h) (by decide) ⟨by rfl, ?_⟩ (by assumption) ?_
  rotate_left
  ·intro w; go_simp <;> with_reducible rfl
  simp only [Act.put, zq1, zq2, zq3]
  refine takeDA 25 (v := ?_) rfl (by kernel_rfl) (by kernel_rfl) (by kernel_rfl) (fun _ _ _ h => h) (by decide) ⟨by rfl, ?_⟩ (by assumption) ?_
  rotate_left
  ·intro w; go_simp <;> with_reducible rfl
  simp only [Act.put, zq1, zq2, zq3]
  refine oneD 18 rfl (by kernel_rfl) (by rfl) (fun K hK => ?_)
  go_simp
  go_at_call 163
  (with_reducible refine (xf_mixed p gW L M _ _ rs _ rt _ zs zt (W top) (W i) _ HP.out ((H5.next hHeld).blk) (ss.next hHeld) (st.next hHeld) (rT5.next hHeld) (rI5.next hHeld) hls hlt' (by omega) hM hM0).mono ?_); rintro e w6 ⟨gA, FA, rfl, oA, eA, b6⟩
  have hA6 := hHeld.size
  refine hK.out _ _ (hHeld.trans (b6.mono hHeld.size)) (fun hHeld => ?_)
  clear hK K
  try simp only [Act.put, zq1, zq2, zq3]
  refine oneD 22 rfl (by kernel_rfl) (by rfl) (fun K hK => ?_)
  go_simp
  go_at_call 164
  (with_reducible refine (xf_minus p gW _ _ rq4 zy4 _ HP.out ((H5.next hHeld).blk) (s4.next hHeld) (by omega)).mono ?_); rintro e w7 ⟨r7, z7, rfl, o7, n7, v7, l7, b7⟩
  have s7 := o7.sl; clear o7 n7; have V7 := Lib.hid v7; clear v7
  refine hK.out _ _ (hHeld.trans (b7.mono hHeld.size)) (fun hHeld => ?_)
  clear hK K
  try simp only [Act.put, zq1, zq2, zq3]
  refine oneD 26 rfl (by kernel_rfl) (by rfl) (fun K hK => ?_)
  go_simp
  go_at_call 163
  (with_reducible refine (xf_mixed p gW L M _ _ r7 _ rq3 _ z7 zy3 (W top) (W i) _ HP.out ((H5.next hHeld).blk) s7 (s3.next hHeld) (rT5.next hHeld) (rI5.next hHeld) (by omega) hl3 (by omega) hM hM0).mono ?_); rintro e w8 ⟨gB, FB, rfl, oB, eB, b8⟩
  refine hK.out _ _ (hHeld.trans (b8.mono hHeld.size)) (fun hHeld => ?_)
  clear hK K
  try simp only [Act.put, zq1, zq2, zq3]
  refine takeDA 27 (v := ?_) rfl (by kernel_rfl) (by kernel_rfl) (by kernel_rfl) (fun _ _ _ h => h) (by decide) ⟨by rfl, ?_⟩ (by assumption) ?_
  rotate_left
  ·intro w; go_simp <;> with_reducible rfl
  simp only [Act.put, zq1, zq2, zq3]
  have B8 := B5.trans (hHeld.mono B5.size)
  have H8 := h0.next B8
  have c9 := (B8.cell (p := ⟨g, top, none⟩) hg2).trans qT
  have c10 := (B8.cell (p := ⟨g, i, none⟩) hg2).trans qI
  have fz1 := World.ownsRow.frozenAt H8.rows.own top
  have fz2 := World.ownsRow.frozenAt H8.rows.own i
  obtain ⟨zz, qz⟩ := cell_set_some (p := ⟨g, top, none⟩) (x := .slice (some ⟨gA, 0, none⟩) M M) c10
  refine oneM rfl (by kernel_rfl) (of_decide_eq_true (by kernel_rfl)) (by rfl) (fun K hK => ?_)
  go_simp
  refine hK.out _ _ ?_
  clear hK K
  try simp only [Act.put, zq1, zq2, zq3]
  clear fz1
  refine takeL 29 (v := ?_) rfl (by kernel_rfl) (by kernel_rfl) (by kernel_rfl) (fun _ _ _ h => h) ⟨by rfl, ?_⟩ trivial ?_
  rotate_left
  ·intro w _; go_simp <;> with_reducible rfl
  simp only [Act.put, zq1, zq2, zq3]
  refine on 30 fun K hK => ?_
  go_simp
  refine hK.out _ _ trivial (fun _ => ?_)
  clear hK K
  try simp only [Act.put, zq1, zq2, zq3]
  refine doneL (by kernel_rfl) ?_ _
  have hw5 : w.heap.size ≤ w4.drew.heap.size := B5.size
  have FIN := Lib.hid (show RetHs p w base gW (.slice (some ⟨g, 0, none⟩) n cap) n M (fun top' W' => top' = top ∧ JoinR n M col top i L W W') (.returned (.tuple #[])) ((w8.setCell ⟨g, top, none⟩ (.slice (some ⟨gA, 0, none⟩) M M)).setCell ⟨g, i, none⟩ (.slice (some ⟨gB, 0, none⟩) M M)) by
   have hfr : ∀ j, j < n → ∀ b, (U j).ownBlock = some b → b < w.heap.size := fun j hj b hb => (rowOwn_tyb (h0.rows.row j hj) hb).2.2
   have gA0 : w.heap.size ≤ gA := Nat.le_trans hw5 (rowOwn_tyb (b := gA) oA rfl).2.1
   have gB0 : gA < gB := by
    have h1 := (rowOwn_tyb (b := gB) oB rfl).2.1; have h2 := (rowOwn_tyb (b := gA) oA rfl).2.2; have h3 := b7.size; omega
   have hw7 : base ≤ w7.heap.size := by have h2 := (rowOwn_tyb (b := gA) oA rfl).2.2; have h3 := b7.size; omega
   obtain ⟨U', E', HS⟩ := H8.put2 rfl (rowOwn_mono (rowOwn_next (rowOwn_next oA b7 (Nat.le_refl _)) b8 (Nat.le_refl _)) (by omega)) (fun k hk => (((eA k hk).next b7).next b8).mono (by omega)) (rowOwn_mono oB (by omega)) (fun k hk => (eB k hk).mono (by omega)) (s := top) (t := i)
    (fun j hj b hb hb' => by have := hfr j hj b hb'; simp [Value.ownBlock] at hb; omega)
    (fun j hj b hb => ⟨fun hb' => by have := hfr j hj b hb'; simp [Value.ownBlock] at hb; omega, fun hb' => by simp [Value.ownBlock] at hb hb'; omega⟩)
    (W' := mix2 W top i (pl p zs) (pl p zt) (pl p z7) (pl p zy3)) (fun a k ha hk => by
     unfold mix2
     by_cases h1 : a = i
     ·rw [if_pos h1, if_neg (show ¬ a = top by omega), if_pos h1]
     ·rw [if_neg h1, if_neg h1])
   have dz7 : (pl p z7).dlt L := dlt_mono (pl_dlt p z7) (by omega)
   refine ⟨rfl, top, U', E', _, HS, ⟨rfl, .inr ⟨_, _, _, _, ?_, rfl, ?_, ?_, mix2_dlt (by omega) hin HB.out (dlt_mono (pl_dlt p zs) hls) (dlt_mono (pl_dlt p zt) hlt') dz7 (dlt_mono (pl_dlt p zy3) hl3), by rw [V7.out]; exact HDL.out⟩⟩, ?_⟩
   ·rw [V7.out]; exact HDET.out
   ·rw [mix2_t _ (show top ≠ i by omega), V7.out, ← VP.out, ← VQ.out]; exact HZERO.out
   ·rw [mix2_s, ← VP.out, ← VQ.out, ← HX2.out.1]; exact HGN0.out
   ·exact ((B8.mono hbase).setCell (p := ⟨g, top, none⟩) hg1 _).setCell (p := ⟨g, i, none⟩) hg1 _)
  clear oA eA oB eB H8 B8 B5 H5 KW rT5 rI5 ss st s3 s4 s7
  go_wp2
  go_end0
  exact FIN.out
end Go.Proofs.Ytkmfhabgempjiaa
/- xform: what the steps of a column do; a row is put in. -/
namespace Go.Proofs.Ytkmfhabgempjiaa
set_option maxHeartbeats 4000000
open Go.RowKit
open CR
theorem Hst.put1 {p : Nat} {w : World} {base gW : Nat} {rv : Value} {top n M : Nat} {U : Nat → Value} {E : Nat → Nat → Value} {W : Nat → Nat → Pol (Zp p)} (H : Hst p w base gW rv top n M U E W) {g cap : Nat} (hrv : rv = .slice (some ⟨g, 0, none⟩) n cap) {A : Value} {FA : Nat → Value} {PA : Nat → Pol (Zp p)}
  (hA : w.ownsRow base 43 1 A M (rowL M FA)) (eA : ∀ k, k < M → Vn p w base (FA k) (PA k)) {s : Nat}
  (fA : ∀ j, j < n → ∀ b, A.ownBlock = some b → (U j).ownBlock ≠ some b) {W' : Nat → Nat → Pol (Zp p)} (hW : ∀ a k, a < n → k < M → W' a k = if a = s then PA k else W a k) :
  Hst p (w.setCell ⟨g, s, none⟩ A) base gW rv top n M (fun a => if a = s then A else U a) (fun a => if a = s then FA else E a) W' := by
 have ho := H.rows.own
 rw [hrv] at ho
 have hgt : Tyb w 22 g := (rowOwn_tyb ho rfl).1
 have hc : Chg w (w.setCell ⟨g, s, none⟩ A) (fun j => j = g) := Chg.setCell w ⟨g, s, none⟩ A
 have X1 := H.rows.setU hrv hA (fun j hj _ b hb => fA j hj b hb) eA (i := s)
 have hgw : gW ≠ g := H.blk.tyb.ne hgt (by decide)
 exact ⟨H.blk.chg hc hgw, H.gw, X1.congr (fun a _ => by simp) (fun _ _ => rfl) (fun _ _ _ _ => rfl) fun a k ha hk => by
  have hk' : k < M := by simpa using hk
  rw [hW a k ha hk']
  show (if a = s then PA k else W a k) = (if a = s then PA else W a) k
  by_cases h1 : a = s
  ·rw [if_pos h1, if_pos h1]
  ·rw [if_neg h1, if_neg h1]⟩
theorem Hst.topped {p : Nat} {w : World} {base gW : Nat} {rv : Value} {top n M : Nat} {U : Nat → Value} {E : Nat → Nat → Value} {W : Nat → Nat → Pol (Zp p)} (H : Hst p w base gW rv top n M U E W) (t : Nat) :
  Hst p (w.setCell ⟨gW, 2, none⟩ (.int .i64 t)) base gW rv t n M U E W := by
 refine ⟨by have := H.blk.set 2 (.int .i64 t); simpa using this, H.gw, H.rows.chg (Chg.setCell w ⟨gW, 2, none⟩ (.int .i64 t)) fun b _ hb => ?_⟩
 have h1 : Tyb w 116 b := by rw [hb]; exact H.blk.tyb
 refine ⟨fun hx => ?_, fun hu => h1.ne hu (by decide) rfl⟩
 rcases (H.rows.blk hx).2.2 with h2 | h2
 ·exact h1.ne h2 (by decide) rfl
 ·exact h1.ne h2 (by decide) rfl
theorem Xr.cellU {p : Nat} {w : World} {base g n cap : Nat} {N : Nat → Nat} {U : Nat → Value} {E : Nat → Nat → Value} {W : Nat → Nat → Pol (Zp p)} (h : Xr p w base (.slice (some ⟨g, 0, none⟩) n cap) n N U E W) {i : Nat} (hi : i < n) : w.cell? ⟨g, i, none⟩ = some (U i) ∧ g < w.heap.size ∧ ∀ j, w.frozen? ⟨g, j, none⟩ = false := by
 have ho := h.own
 have h1 := World.ownsRow.cellAt ho i (by omega)
 rw [rowL_get hi] at h1
 exact ⟨h1, World.block_lt_of_cell? w _ h1, fun j => World.ownsRow.frozenAt ho j⟩
section
variable {p n M col top L B : Nat} {W V : Nat → Nat → Pol (Zp p)} {P : List Nat} {i : Nat}
inductive JTr {p : Nat} (n col top : Nat) (W : (Nat → Nat → Pol (Zp p))) : Nat → (Nat → Nat → Pol (Zp p)) → Prop
 | start : JTr n col top W (top + 1) W
 | skip {i : Nat} {V : (Nat → Nat → Pol (Zp p))} : JTr n col top W i V → JTr n col top W (i + 1) V
 | mix {i : Nat} {V : (Nat → Nat → Pol (Zp p))} {a b c d : Pol (Zp p)} : JTr n col top W i V → top < i → i < n → a * d - b * c = 1 → mix2 V top i a b c d i col = 0 → mix2 V top i a b c d top col ≠ 0 → Dl a c → JTr n col top W (i + 1) (mix2 V top i a b c d)
inductive RTr {p : Nat} (col top : Nat) (W : (Nat → Nat → Pol (Zp p))) : Nat → (Nat → Nat → Pol (Zp p)) → Prop
 | start {u : Zp p} : RTr col top W 0 (scl W top (mon u 0))
 | step {i : Nat} {V : (Nat → Nat → Pol (Zp p))} {q r : Pol (Zp p)} : RTr col top W i V → i < top → V i col = q * V top col + r → Dl r (V top col) → V top col ≠ 0 → RTr col top W (i + 1) (mix2 V i top 1 (-q) 0 1)
inductive CTr {p : Nat} (n : Nat) (W : (Nat → Nat → Pol (Zp p))) : Nat → Nat → (Nat → Nat → Pol (Zp p)) → Prop
 | start : CTr n W 0 0 W
 | none {col top : Nat} {V : (Nat → Nat → Pol (Zp p))} : CTr n W col top V → CTr n W (col + 1) top V
 | step {col top : Nat} {V V1 V2 : (Nat → Nat → Pol (Zp p))} : CTr n W col top V → top < n → JTr n col top V n V1 → RTr col top V1 top V2 → CTr n W (col + 1) (top + 1) V2
theorem CTr.wide {n : Nat} {W V : (Nat → Nat → Pol (Zp p))} {col top c : Nat} (h : CTr n W col top V) (hc : col ≤ c) : CTr n W c top V := by
 induction hc with
 | refl => exact h
 | step _ ih => exact ih.none
structure JnI (n M col top L : Nat) (W : Nat → Nat → Pol (Zp p)) (P : List Nat) (i : Nat) (V : Nat → Nat → Pol (Zp p)) : Prop where
 rq : Rq n M W V
 her : HerI n col V P
 zer : ∀ r, top < r → r < i → V r col = 0
 bd : ∀ r k, r < n → k < M → (V r k).dlt (2 ^ (i - top - 1) * L)
 or : V = W ∨ V top col ≠ 0
 jt : JTr n col top W i V
theorem JnI.start (h : HerI n col W P) (hb : ∀ r k, r < n → k < M → (W r k).dlt L) : JnI n M col top L W P (top + 1) W :=
 ⟨Rq.refl W, h, fun r h1 h2 => by omega, fun r k hr hk => by have := hb r k hr hk; rwa [show top + 1 - top - 1 = 0 by omega, Nat.pow_zero, Nat.one_mul], .inl rfl, .start⟩
theorem JnI.step {V' : Nat → Nat → Pol (Zp p)} (h : JnI n M col top L W P i V) (hP : P.length = top) (hi : top < i) (hn : i < n) (hJ : JoinR n M col top i (2 ^ (i - top - 1) * L) V V') : JnI n M col top L W P (i + 1) V' := by
 have e : 2 ^ (i + 1 - top - 1) * L = 2 * (2 ^ (i - top - 1) * L) := by
  rw [show i + 1 - top - 1 = (i - top - 1) + 1 by omega, Nat.pow_succ, Nat.mul_comm (2 ^ (i - top - 1)) 2, Nat.mul_assoc]
 rcases hJ with ⟨rfl, h0⟩ | ⟨a, b, c, d, hd, rfl, h0, hne, hbd, hDl⟩
 ·refine ⟨h.rq, h.her, fun r h1 h2 => ?_, fun r k hr hk => dlt_mono (h.bd r k hr hk) (by omega), h.or, h.jt.skip⟩
  by_cases e1 : r = i
  ·rw [e1]; exact h0
  ·exact h.zer r h1 (by omega)
 ·refine ⟨h.rq.trans (Rq.mix (by omega) (by omega) hn hd), by have := h.her.mix (i := i) (by omega) hn a b c d; rwa [hP] at this, fun r h1 h2 => ?_, fun r k hr hk => by rw [e]; exact hbd r k hr hk, .inr hne, h.jt.mix hi hn hd h0 hne hDl⟩
  by_cases e1 : r = i
  ·rw [e1]; exact h0
  ·rw [mix2_o V (by omega) e1]; exact h.zer r h1 (by omega)
structure RdI (n M col top B : Nat) (W : Nat → Nat → Pol (Zp p)) (P : List Nat) (i : Nat) (V : Nat → Nat → Pol (Zp p)) : Prop where
 rq : Rq n M W V
 her : HerI n col V P
 zer : ∀ r, top < r → r < n → V r col = 0
 mo : Mo (V top col)
 ne : V top col ≠ 0
 red : ∀ r, r < i → Dl (V r col) (V top col)
 bd : ∀ r k, r < n → k < M → (V r k).dlt (if r < i then 2 * B else B)
 rt : ∃ V1, JTr n col top W n V1 ∧ RTr col top V1 i V
theorem RdI.start (tr : Trial p) (h : JnI n M col top L W P n V) (hP : P.length = top) (hn : top < n) (hB : 2 ^ (n - top - 1) * L = B) {u v : Zp p} (huv : u * v = 1) {m : Nat} (hl : Ln (V top col) (m + 1)) (hu : u * (V top col).c m = 1) : RdI n M col top B W P 0 (scl V top (mon u 0)) := by
  have e1 : (mon u 0 : Pol (Zp p)) * mon v 0 = 1 := by rw [mon_mul, huv, Nat.add_zero, ← Pol.one_def]
  have hs : ∀ k, scl V top (mon u 0) top k = V top k * mon u 0 := fun k => if_pos rfl
  have ho : ∀ r k, r ≠ top → scl V top (mon u 0) r k = V r k := fun r k hr => if_neg hr
  have d1 : (mon u 0 : Pol (Zp p)).dlt 1 := fun i hi => by rw [c_mon, if_neg (by omega)]
  refine ⟨h.rq.trans (Rq.scl e1), h.her.keep (fun i k hi hk => ho i k (by omega)) fun i k h1 h2 hk => ?_, fun r h1 h2 => by rw [ho r col (by omega)]; exact h.zer r h1 h2, by rw [hs]; exact mo_scale hl hu, ?_, fun r hr => by omega, fun r k hr hk => ?_, V, h.jt, .start⟩
  · by_cases e : i = top
    · rw [e, hs, h.her.low top (by omega) hn k hk, zero_mul]
    · rw [ho i k e]; exact h.her.low i h1 h2 k hk
  · rw [hs]
    exact mul_ne tr hl.ne fun e => by
                         rw [e, zero_mul] at e1
                         have h1 : (0 : Pol (Zp p)).c 0 = (1 : Pol (Zp p)).c 0 := congrArg (fun f : Pol (Zp p) => f.c 0) e1
                         exact Zp.one_ne tr (by
                           have h2 : (1 : Pol (Zp p)).c 0 = 1 := by rw [Pol.one_def, c_mon, if_pos rfl]
                           rw [← h2, ← h1]; rfl)
  · rw [if_neg (by omega), ← hB]
    have hb := h.bd r k hr hk
    by_cases e : r = top
    · rw [e, hs]
      rw [e] at hb
      have := mul_dlt1 hb d1
      rwa [Nat.add_sub_cancel] at this
    · rw [ho r k e]; exact hb
theorem RdI.step {q r : Pol (Zp p)} (h : RdI n M col top B W P i V) (hP : P.length = top) (hi : i < top) (hn : top < n) (e : V i col = q * V top col + r) (hr : Dl r (V top col)) (hq : q.dlt B) : RdI n M col top B W P (i + 1) (mix2 V i top 1 (-q) 0 1) := by
 have hs : ∀ k, mix2 V i top 1 (-q) 0 1 i k = V i k + -q * V top k := fun k => by rw [mix2_s, one_mul]
 have hT : ∀ k, mix2 V i top 1 (-q) 0 1 top k = V top k := fun k => by rw [mix2_t V (by omega), zero_mul, one_mul, zero_add]
 have ho : ∀ a k, a ≠ i → mix2 V i top 1 (-q) 0 1 a k = V a k := fun a k ha => by
  by_cases e2 : a = top
  ·rw [e2, hT]
  ·exact mix2_o V ha e2 _ _ _ _ k
 refine ⟨h.rq.trans (Rq.mix (by omega) (by omega) hn (by rw [mul_one, mul_zero, sub_zero])), h.her.keep (fun a k ha hk => ?_) (fun a k h1 h2 hk => by rw [ho a k (by omega)]; exact h.her.low a h1 h2 k hk), fun a h1 h2 => by rw [ho a col (by omega)]; exact h.zer a h1 h2, by rw [hT]; exact h.mo, by rw [hT]; exact h.ne, fun a ha => ?_, fun a k ha hk => ?_, by obtain ⟨V1, h1, h2⟩ := h.rt; exact ⟨V1, h1, h2.step hi e hr h.ne⟩⟩
 ·by_cases e2 : a = i
  ·rw [e2, hs, h.her.low top (by omega) hn k hk, mul_zero, add_zero]
  ·exact ho a k e2
 ·rw [hT]
  by_cases e2 : a = i
  ·rw [e2, hs, e]
   have : q * V top col + r + -q * V top col = r := by_ring [q, V top col, r] (X0 * X1 + X2 + -X0 * X1) X2 rfl
   rw [this]; exact hr
  ·rw [ho a col e2]; exact h.red a (by omega)
 ·by_cases e2 : a = i
  ·rw [if_pos (by omega), e2, hs]
   have h1 := h.bd i k (by omega) hk
   have h2 := h.bd top k hn hk
   rw [if_neg (by omega)] at h1 h2
   exact dlt_add (dlt_mono h1 (by omega)) (dlt_mono (mul_dlt (dlt_neg hq) h2) (by omega))
  ·rw [ho a k e2]
   have h1 := h.bd a k ha hk
   by_cases e3 : a < i
   ·rw [if_pos (by omega)]; rwa [if_pos e3] at h1
   ·rw [if_neg (by omega)]; rwa [if_neg e3] at h1
def ColQ (n M col top L : Nat) (W : Nat → Nat → Pol (Zp p)) (P : List Nat) (top' : Nat) (W' : Nat → Nat → Pol (Zp p)) : Prop :=
 (top' = top ∧ W' = W ∧ HerI n (col + 1) W P) ∨ (top' = top + 1 ∧ Rq n M W W' ∧ HerI n (col + 1) W' (P ++ [col]) ∧ (∀ r k, r < n → k < M → (W' r k).dlt (2 ^ (n - top) * L)) ∧ ∃ V1, JTr n col top W n V1 ∧ RTr col top V1 top W')
theorem JnI.none (h : JnI n M col top L W P n V) (hP : P.length = top) (h0 : V top col = 0) : V = W ∧ HerI n (col + 1) W P := by
 have e : V = W := h.or.elim id fun hne => absurd h0 hne
 subst e
 refine ⟨rfl, h.her.none fun i h1 h2 => ?_⟩
 by_cases e : i = top
 ·rw [e]; exact h0
 ·exact h.zer i (by omega) h2
theorem RdI.done (h : RdI n M col top B W P top V) (hP : P.length = top) (hn : top < n) (hB : 2 ^ (n - top - 1) * L = B) : ColQ n M col top L W P (top + 1) V := by
 subst hP
 refine .inr ⟨rfl, h.rq, h.her.add hn h.mo h.ne (fun i h1 h2 => h.zer i h1 h2) (fun s hs => h.red s hs), fun r k hr hk => ?_, h.rt⟩
 have e : 2 ^ (n - P.length) * L = 2 * B := by
  rw [← hB, show n - P.length = (n - P.length - 1) + 1 by omega, Nat.pow_succ, Nat.add_sub_cancel, Nat.mul_comm (2 ^ (n - P.length - 1)) 2, Nat.mul_assoc]
 rw [e]
 have := h.bd r k hr hk
 split at this
 ·exact this
 ·exact dlt_mono this (by omega)
theorem pl_sing (p x : Nat) : pl p [x] = mon (Zp.of p x) 0 := by
 have := pl_snoc p [] x
 rwa [List.nil_append, pl_nil, CR.zero_add] at this
theorem pl_sing1 (p : Nat) : pl p [1] = 1 := by rw [pl_sing, show Zp.of p 1 = 1 from rfl, ← Pol.one_def]
end
end Go.Proofs.Ytkmfhabgempjiaa
