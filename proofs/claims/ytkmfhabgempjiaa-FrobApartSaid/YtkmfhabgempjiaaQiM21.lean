/- Layer 25: Frobenius. -/
import Derived.Test.YtkmfhabgempjiaaQiM20
import Derived.Test.YtkmfhabgempjiaaQiM8
import Derived.Test.YtkmfhabgempjiaaQiM9
import Derived.Test.YtkmfhabgempjiaaQiM10
import Derived.Test.YtkmfhabgempjiaaQiM18
namespace Go.Proofs.Ytkmfhabgempjiaa
set_option maxHeartbeats 4000000
open Go.RowKit
section
open CR
variable {p n : Nat}
def SmF (A : MT (Zp p) n n) (W U V : (Nat → Nat → Pol (Zp p))) (X : MT (Pol (Zp p)) n n) : Prop := SmR (XA A) U W V ∧ Inv (MT.of n n U) X ∧ (∀ i k, i < n → k < n → i ≠ k → W i k = 0) ∧ (∀ k, k < n → Mo (W k k)) ∧ (∀ i k, i ≤ k → k < n → Dv (W i i) (W k k))
noncomputable def bsM (A : MT (Zp p) n n) (W : (Nat → Nat → Pol (Zp p))) (X : MT (Pol (Zp p)) n n) : MT (Zp p) n n := MT.of n n fun i s => (bcl A (prl A W X) s).e i 0
noncomputable def frM (A : MT (Zp p) n n) (W : (Nat → Nat → Pol (Zp p))) (X : MT (Pol (Zp p)) n n) : MT (Zp p) n n := MT.of n n (fmE (prl A W X))
theorem bsM_det (tr : Trial p) {A : MT (Zp p) n n} {W U V : (Nat → Nat → Pol (Zp p))} {X : MT (Pol (Zp p)) n n} (h : SmF A W U V X) : (bsM A W X).det ≠ 0 := fun e => by
 obtain ⟨h1, h2, h3, h4, -⟩ := h
 obtain ⟨-, ⟨Y, hY⟩, -⟩ := frob_form tr h1 h2 h3 h4
 have h5 : (bsM A W X).det * Y.det = 1 := by rw [← MT.det_mul]; exact (congrArg MT.det hY).trans MT.det_one
 rw [e, zero_mul] at h5
 exact Zp.one_ne tr h5.symm
theorem frM_by (tr : Trial p) {A : MT (Zp p) n n} {W U V : (Nat → Nat → Pol (Zp p))} {X : MT (Pol (Zp p)) n n} (h : SmF A W U V X) {Y : MT (Zp p) n n} (hY : Inv (bsM A W X) Y) : Y * A = frM A W X * Y := by
 obtain ⟨h1, h2, h3, h4, -⟩ := h
 have e : A * bsM A W X = bsM A W X * frM A W X := (frob_form tr h1 h2 h3 h4).2.2
 have e2 : Y * A = Y * (A * bsM A W X) * Y := by rw [MT.mul_assoc, MT.mul_assoc, hY.1, MT.mul_one]
 rw [e2, e, ← MT.mul_assoc, hY.2, MT.one_mul]
def IvL (n : Nat) (W : (Nat → Nat → Pol (Zp p))) (zz : List (List Nat)) : Prop := zz.length = (pks W n).length ∧ ∀ j, j < (pks W n).length → Nrm p (zz.getD j []) ∧ pl p (zz.getD j []) = W ((pks W n).getD j 0) ((pks W n).getD j 0)
theorem ivl_bls (hp : FP p) (tr : Trial p) {A : MT (Zp p) n n} {W U V : (Nat → Nat → Pol (Zp p))} {X : MT (Pol (Zp p)) n n} (h : SmF A W U V X) {zz : List (List Nat)} (hz : IvL n W zz) :
  bdm (bls p zz) = n ∧ (MT.of n n (fmE (bls p zz)) : MT (Zp p) n n) = frM A W X ∧ ∀ j, j < zz.length → 1 < (nl p (zz.getD j [])).length ∧ (nl p (zz.getD j [])).getD ((nl p (zz.getD j [])).length - 1) 0 = 1 ∧ (zz.getD j []).length ≤ n + 1 := by
 obtain ⟨h1, h2, h3, h4, -⟩ := h
 obtain ⟨hd, -, -⟩ := frob_form tr h1 h2 h3 h4
 obtain ⟨hl, hj⟩ := hz
 have hpl : (prl A W X).length = zz.length := by rw [hl, prl_pks, List.length_map]
 have hat : ∀ j (h : j < (prl A W X).length), (prl A W X)[j] = prts A W X ((pks W n).getD j 0) := fun j h => by
  have h2 : j < (pks W n).length := by omega
  simp only [prl_pks, List.getElem_map, List.getD, List.getElem?_eq_getElem h2, Option.getD_some]
 have hln : ∀ j, j < zz.length → nl p (zz.getD j []) = zz.getD j [] ∧ pln (W ((pks W n).getD j 0) ((pks W n).getD j 0)) = (zz.getD j []).length := fun j hjz => by
  obtain ⟨k1, k2⟩ := hj j (by omega)
  exact ⟨nl_of hp.pos k1, pln_nrm hp.pos k1 k2⟩
 obtain ⟨e1, e2⟩ := fmE_congr (prl A W X) (bls p zz) (by rw [hpl, bls_length]) fun j hj1 hj2 => by
  have hjz : j < zz.length := by omega
  obtain ⟨k1, k2⟩ := hln j hjz
  obtain ⟨b1, b2⟩ := bls_get (p := p) zz j hj2
  rw [hat j hj1, b1, b2, k1]
  refine ⟨?_, fun i _ => ?_⟩
  ·show pln (W _ _) - 1 = _
   rw [k2]
  ·show (W _ _).c i = _
   rw [(hj j (by omega)).2]
 refine ⟨by rw [← e1, hd], MT.of_congr fun i k _ _ => (e2 i k).symm, fun j hjz => ?_⟩
 obtain ⟨k1, k2⟩ := hln j hjz
 obtain ⟨k3, k4⟩ := pks_getD W n j (by omega)
 have hmo := h4 _ k3
 have h0 : W ((pks W n).getD j 0) ((pks W n).getD j 0) ≠ 0 := fun e => by
  rw [e] at k4
  have : pln (0 : Pol (Zp p)) = 0 := pln_eq (by exact ⟨fun _ _ => rfl, fun m hm => by omega⟩)
  omega
 obtain ⟨k5, k6, k7⟩ := mo_top tr hmo h0
 rw [k1]
 refine ⟨by omega, ?_, ?_⟩
 ·rw [k2, ← (hj j (by omega)).2, pl_c] at k7
  have k8 := congrArg Zp.val k7
  have hwf : (zz.getD j []).getD ((zz.getD j []).length - 1) 0 < p := wf_getD (hj j (by omega)).1.1 hp.pos _
  have hp2 := hp.1
  rw [Zp.val_of, Nat.mod_eq_of_lt (by omega), ← Zp.of_one, Zp.val_of, Nat.mod_eq_of_lt (by omega)] at k8
  exact k8
 ·have hjL : j < (prl A W X).length := by omega
  have k9 := bdm_take (prl A W X) j hjL
  have k10 := bdm_le (prl A W X) (j + 1)
  have k11 : ((prl A W X)[j]).1 = (zz.getD j []).length - 1 := by
   rw [hat j hjL]; show pln (W _ _) - 1 = _; rw [k2]
  omega
end
theorem PtS.next {p n : Nat} {A : MT (Zp p) n n} {W : (Nat → Nat → Pol (Zp p))} {X : MT (Pol (Zp p)) n n} {w w' : World} {base i : Nat} {iv cv : Value} (h : PtS p n A W X w base iv cv i) (hb : Below w.heap.size w w') : PtS p n A W X w' base iv cv i := by
 obtain ⟨us, S, h1, h2⟩ := h; exact ⟨us, S, h1.next hb, h2.next hb⟩
theorem fm_Inverse_ok (p : Nat) (a : Value) (n : Nat) (xs : List Nat) (w : World) (hp : FP p) (ht : Trial p) (hA : Fm w a n n xs) (hn : n ≤ 64) (hx : xs.length = n * n) (hd : (mx p n n xs).det ≠ 0) :
  Calls Try.prog 62 #[.agg #[.int .u64 p], a] w (fun e w' => ∃ X : MT (Zp p) n n, Inv (mx p n n xs) X ∧ RetFE p w n n X e w') :=
 (fm_Inverse p a n xs w hp ht hA hn hx).mono fun _ _ h => h.elim id fun h => absurd h.1 hd
def RetFr (p : Nat) (w : World) (n : Nat) (A : MT (Zp p) n n) (e : Ending) (w' : World) : Prop :=
 ∃ (W U V : (Nat → Nat → Pol (Zp p))) (X : MT (Pol (Zp p)) n n) (M Y : MT (Zp p) n n), SmF A W U V X ∧ M = frM A W X ∧ (∃ Y' : MT (Zp p) n n, Inv Y Y') ∧ Y * A = M * Y ∧
  ∃ aF kF aY kY, e = .returned (.tuple #[.agg #[.int .i64 n, .int .i64 n, .slice aF (n * n) kF], .agg #[.int .i64 n, .int .i64 n, .slice aY (n * n) kY], .int .i64 0]) ∧ Own .u64 27 w' w.heap.size (.slice aF (n * n) kF) (tbv M) ∧ Own .u64 27 w' w.heap.size (.slice aY (n * n) kY) (tbv Y) ∧ Below w.heap.size w w'
set_option maxRecDepth 20000 in
theorem fb_Frobenius (p : Nat) (a : Value) (n : Nat) (xs : List Nat) (w : World) (hp : FP p) (tr : Trial p) (hA : Fm w a n n xs) (hn : n ≤ 4) (hx : xs.length = n * n) :
  Calls Try.prog 57 #[.agg #[.int .u64 p], a] w (RetFr p w n (mx p n n xs)) := by
 obtain ⟨aA, cA, rfl⟩ := hA.agg
 obtain ⟨wb, ew, KF, KA, KR, KS, B0, hsz⟩ := boxes4 w 29 63 63 63 [.int .u64 p] [.int .i64 n, .int .i64 n, .slice aA xs.length cA] [.int .i64 0, .int .i64 0, .slice none 0 0] [.int .i64 0, .int .i64 0, .slice none 0 0]
 clear hsz
 replace hA := hA.next B0
 have HX := Lib.hid hx; have HP := Lib.hid hp; have HT := Lib.hid tr; clear hx hp tr
 obtain ⟨A, eA⟩ : ∃ A, A = mx p n n xs := ⟨_, rfl⟩
 rw [← eA]
 have EA := Lib.hid eA; clear eA
 go_enter Try.func57, Try.ntmps57
 go_upto_region 1 with (fail)
 rw [← ew]
 obtain ⟨g, eg⟩ : ∃ g, g = w.heap.size := ⟨_, rfl⟩
 rw [← eg] at KF KA KR KS ⊢
 have hgw : w.heap.size ≤ g := by omega
 clear ew eg
 have qKA0 := KA.cell 0
 have qKA1 := KA.cell 1
 have qKA2 := KA.cell 2
 go_wp2_with fail
 refine (fb_square_yes _ n xs _ hA (by omega) HX.out).mono ?_; rintro e w1 ⟨rfl, b1⟩
 clear qKA0 qKA1 qKA2
 replace KF := KF.next b1
 replace KA := KA.next b1
 replace KR := KR.next b1
 replace KS := KS.next b1
 replace hA := hA.next b1
 replace B0 := B0.trans (b1.mono B0.size)
 clear b1
 have qKF0 := KF.cell 0
 have qKA0 := KA.cell 0
 have qKA1 := KA.cell 1
 have qKA2 := KA.cell 2
 go_wp2_with fail
 refine (fb_part p _ n xs _ HP.out HT.out hA hn HX.out).mono ?_; rintro e w2 ⟨W, U, V, X, h1, h2, h3, h4, h5, iv, cv, rfl, PT, b2⟩
 clear qKF0 qKA0 qKA1 qKA2
 replace KF := KF.next b2
 replace KA := KA.next b2
 replace KR := KR.next b2
 replace KS := KS.next b2
 replace hA := hA.next b2
 replace B0 := B0.trans (b2.mono B0.size)
 clear b2
 rw [← EA.out] at h1 PT
 obtain ⟨ai, ci, rfl⟩ : ∃ ao c, iv = .slice ao (pks W n).length c := by obtain ⟨us, S, QI, -⟩ := PT; exact QI.slc
 obtain ⟨ac, cc, rfl⟩ : ∃ ao c, cv = .slice ao (pks W n).length c := by obtain ⟨us, S, -, ML⟩ := PT; exact ML.shape
 have hSF : SmF A W U V X := ⟨h1, h2, h3, h4, h5⟩
 have hfr := frob_form HT.out h1 h2 h3 h4
 have hbd := hfr.1
 obtain ⟨zz, zl, nz, hz⟩ : ∃ zz : List (List Nat), zz.length = (pks W n).length ∧ Ns w2 (.slice ai (pks W n).length ci) zz ∧ IvL n W zz := by
  obtain ⟨us, S, QI, -⟩ := PT
  obtain ⟨zz, zl, nz, hz⟩ := QI.ns HP.out
  exact ⟨zz, zl, nz, zl, fun j hj => ⟨(hz j hj).1, (hz j hj).2.1⟩⟩
 obtain ⟨hb1, hb2, hb3⟩ := ivl_bls HP.out HT.out hSF hz
 obtain ⟨M, eM⟩ : ∃ M, M = (MT.of n n (fmE (bls p zz)) : MT (Zp p) n n) := ⟨_, rfl⟩
 have HSF := Lib.hid hSF; have HBD := Lib.hid hbd; have HB1 := Lib.hid hb1; have HB3 := Lib.hid (show ∀ j, j < zz.length → 1 < (nl p (zz.getD j [])).length ∧ (nl p (zz.getD j [])).getD ((nl p (zz.getD j [])).length - 1) 0 = 1 ∧ (zz.getD j []).length ≤ 60 from fun j hj => ⟨(hb3 j hj).1, (hb3 j hj).2.1, by have := (hb3 j hj).2.2; omega⟩)
 have EM := Lib.hid eM
 have HM := Lib.hid (show M = frM A W X by rw [eM, hb2])
 clear h1 h2 h3 h4 h5 hSF hfr hbd zl hz hb1 hb2 hb3 eM
 obtain ⟨w3, e3, KP, b3, hs3⟩ := boxes1 w2 130 [.slice ai (pks W n).length ci, .slice ac (pks W n).length cc]
 clear hs3
 replace KF := KF.next b3
 replace KA := KA.next b3
 replace KR := KR.next b3
 replace KS := KS.next b3
 replace hA := hA.next b3
 replace PT := PT.next b3
 replace nz := nz.next b3
 replace B0 := B0.trans (b3.mono B0.size)
 clear b3
 go_upto_region 4 with (fail)
 rw [← e3]
 clear e3
 have qKF0 := KF.cell 0
 have qKP0 := KP.cell 0
 have hg3 := KS.lt; have hww := B0.size
 go_wp2_with fail
 refine (fb_Blocks p n _ zz _ HP.out HT.out nz HB3.out HB1.out (by omega)).mono ?_; rintro e w4 ⟨aF, kF, rfl, oF, b4⟩; rw [← EM.out] at oF ⊢; have hlM : (tbv M).length = n * n := tbv_length _; rw [hlM] at oF ⊢
 clear qKF0 qKP0
 replace KF := KF.next b4
 replace KA := KA.next b4
 replace KR := KR.next b4
 replace KS := KS.next b4
 replace hA := hA.next b4
 replace PT := PT.next b4
 replace nz := nz.next b4
 replace KP := KP.next b4
 replace B0 := B0.trans (b4.mono B0.size)
 clear b4
 have hgB := KS.lt
 obtain ⟨w5, e5, KB, b5, hs5⟩ := boxes1 w4 63 [.int .i64 n, .int .i64 n, .slice aF (n * n) kF]
 clear hs5
 replace KF := KF.next b5
 replace KA := KA.next b5
 replace KR := KR.next b5
 replace KS := KS.next b5
 replace hA := hA.next b5
 replace PT := PT.next b5
 replace nz := nz.next b5
 replace KP := KP.next b5
 replace oF := oF.next b5
 replace B0 := B0.trans (b5.mono B0.size)
 clear b5
 go_upto_region 7 with (fail)
 rw [← e5]
 clear e5
 clear nz
 go_cut [10, 9] (fun v10 v9 wx => ∃ (gI : Nat) (Y : MT (Zp p) n n) (aY : Option Addr) (kY : Nat), v10 = .pointer (some ⟨gI, 0, none⟩) ∧ v9 = .int .i64 0 ∧ w5.heap.size ≤ gI ∧ Blk 63 wx gI [.int .i64 n, .int .i64 n, .slice aY (n * n) kY] ∧ Own .u64 27 wx w5.heap.size (.slice aY (n * n) kY) (tbv Y) ∧ Inv (bsM A W X) Y ∧ Below w5.heap.size w5 wx)
 case first =>
  have bd := dw w5
  replace KF := KF.next bd; replace KA := KA.next bd; replace KP := KP.next bd; replace hA := hA.next bd; replace PT := PT.next bd
  clear KR KS B0 KB oF
  have zF0 := Lib.hid fun (w : World) (hS : Below (w5.drew).heap.size (w5.drew) w) => And.intro ((KF.at hS) 0) (And.intro ((KA.at hS) 0) (And.intro ((KA.at hS) 1) (And.intro ((KA.at hS) 2) (And.intro ((KP.at hS) 0) ((KP.at hS) 1)))))
  refine startL (S := (fun w' => Below (w5.drew).heap.size (w5.drew) w')) (by kernel_rfl) (Below.refl _ _) (fun hHeld => ?_)
  generalize w5.drew = wd at *
  refine tf 0 zF0.out ?_
  refine tf 1 zF0.out ?_
  refine tf 2 zF0.out ?_
  refine tf 3 zF0.out ?_
  refine twoL 4 9 rfl rfl (by kernel_rfl) (by rfl) (by rfl) (fun K hK => ?_) (fun K hK => ?_)
  ·go_simp
   go_at_call 113
   (with_reducible refine (fb_basis p n _ _ _ _ xs _ W X HP.out (hA.next hHeld) (by omega) HX.out (by rw [← EA.out]; exact PT.next hHeld) (by rw [← EA.out]; exact HBD.out)).mono ?_); rintro e w7 ⟨a7, k7, rfl, o7, b7⟩; rw [← EA.out] at o7 ⊢; rw [show (MT.of n n fun i s => (bcl A (prl A W X) s).e i 0) = bsM A W X from rfl] at o7 ⊢
   have hlP := Lib.hid (tbv_length (bsM A W X))
   refine hK.out _ _ (hHeld.trans (b7.mono hHeld.size)) (fun hHeld => ?_)
   clear hK K
   try simp only [Act.put, zq1, zq2, zq3]
   refine twoL 5 9 rfl rfl (by kernel_rfl) (by rfl) (by rfl) (fun K hK => ?_) (fun K hK => ?_)
   ·have m7 : Fm w7 (.agg #[.int .i64 n, .int .i64 n, .slice a7 (tbv (bsM A W X)).length k7]) n n (tbv (bsM A W X)) := ⟨_, rfl, o7.sl⟩
    go_simp
    go_at_call 62
    (with_reducible refine (fm_Inverse_ok p _ n (tbv (bsM A W X)) _ HP.out HT.out m7 (by omega) hlP.out (by rw [mx_tbv]; exact bsM_det HT.out HSF.out)).mono ?_); rintro e w8 ⟨Y, hY, aY, kY, rfl, oY, b8⟩; rw [mx_tbv] at hY; have hlY : (tbv Y).length = n * n := tbv_length _; rw [hlY] at oY ⊢
    have HY := Lib.hid hY; clear hY hlY
    refine hK.out _ _ (hHeld.trans (b8.mono hHeld.size)) (fun hHeld => ?_)
    clear hK K
    try simp only [Act.put, zq1, zq2, zq3]
    refine tk 6 ?_
    refine tk 7 ?_
    refine tk 8 ?_
    refine on 9 fun K hK => ?_
    go_simp
    have hd9 := hHeld
    obtain ⟨w9, e9, KZ, b9, -⟩ := boxes1 w8 63 [.int .i64 0, .int .i64 0, .slice none 0 0]
    rw [← e9]
    clear e9
    refine hK.out _ _ (hHeld.trans (b9.mono hHeld.size)) (fun hHeld => ?_)
    clear hK K
    try simp only [Act.put, zq1, zq2, zq3]
    have y0 := KZ.cell 0; have y1 := KZ.cell 1; have y2 := KZ.cell 2; have z0 := KZ.free 0; have z1 := KZ.free 1; have z2 := KZ.free 2
    refine on 10 fun K hK => ?_
    go_simp
    have he9 := hHeld
    refine hK.out _ _ (((hHeld.setCell (p := ⟨w8.heap.size, 0, none⟩) hd9.size (.int .i64 n)).setCell (p := ⟨w8.heap.size, 1, none⟩) hd9.size (.int .i64 n)).setCell (p := ⟨w8.heap.size, 2, none⟩) hd9.size (.slice aY (n * n) kY)) (fun hHeld => ?_)
    clear hK K
    try simp only [Act.put, zq1, zq2, zq3]
    refine tk 11 ?_
    clear zF0; refine doneL (by kernel_rfl) ?_ _
    have hsz1 := bd.size; have hsz2 := b7.size; have hsz3 := b9.size
    have K9 := ((KZ.set 0 (.int .i64 n)).set 1 (.int .i64 n)).set 2 (.slice aY (n * n) kY)
    have o9 := ((((oY.next b9).off KZ 0 (.int .i64 n)).off (KZ.set 0 (.int .i64 n)) 1 (.int .i64 n)).off ((KZ.set 0 (.int .i64 n)).set 1 (.int .i64 n)) 2 (.slice aY (n * n) kY)).mono (show w5.heap.size ≤ w7.heap.size by omega)
    have hgI : w5.heap.size ≤ w8.heap.size := by have := b8.size; omega
    have BF := bd.trans (hHeld.mono hsz1)
    clear hHeld KZ b7 b8 b9 bd KF KA KP hA PT m7 o7 oY y0 y1 y2 z0 z1 z2
    go_wp2_with fail
    go_meet
    exact ⟨_, Y, aY, kY, rfl, rfl, hgI, K9, o9, HY.out, BF⟩
   ·go_simp
    have hd9 := hHeld
    obtain ⟨w9, e9, KZ, b9, -⟩ := boxes1 w7 63 [.int .i64 0, .int .i64 0, .slice none 0 0]
    rw [← e9]
    clear e9
    refine hK.out _ _ (hHeld.trans (b9.mono hHeld.size)) (fun hHeld => ?_)
    clear hK K
    try simp only [Act.put, zq1, zq2, zq3]
    refine on 5 fun K hK => ?_
    have m7 : Fm w9 (.agg #[.int .i64 n, .int .i64 n, .slice a7 (tbv (bsM A W X)).length k7]) n n (tbv (bsM A W X)) := ⟨_, rfl, (o7.next b9).sl⟩
    go_simp
    go_at_call 62
    (with_reducible refine (fm_Inverse_ok p _ n (tbv (bsM A W X)) _ HP.out HT.out m7 (by omega) hlP.out (by rw [mx_tbv]; exact bsM_det HT.out HSF.out)).mono ?_); rintro e w8 ⟨Y, hY, aY, kY, rfl, oY, b8⟩; rw [mx_tbv] at hY; have hlY : (tbv Y).length = n * n := tbv_length _; rw [hlY] at oY ⊢
    have HY := Lib.hid hY; clear hY hlY
    have KZ8 := KZ.next b8; have y0 := KZ8.cell 0; have y1 := KZ8.cell 1; have y2 := KZ8.cell 2; have z0 := KZ8.free 0; have z1 := KZ8.free 1; have z2 := KZ8.free 2
    refine hK.out _ _ (hHeld.trans (b8.mono hHeld.size)) (fun hHeld => ?_)
    clear hK K
    try simp only [Act.put, zq1, zq2, zq3]
    refine tk 6 ?_
    refine tk 7 ?_
    refine tk 8 ?_
    refine on 10 fun K hK => ?_
    go_simp
    have he9 := hHeld
    refine hK.out _ _ (((hHeld.setCell (p := ⟨w7.heap.size, 0, none⟩) b7.size (.int .i64 n)).setCell (p := ⟨w7.heap.size, 1, none⟩) b7.size (.int .i64 n)).setCell (p := ⟨w7.heap.size, 2, none⟩) b7.size (.slice aY (n * n) kY)) (fun hHeld => ?_)
    clear hK K
    try simp only [Act.put, zq1, zq2, zq3]
    refine tk 11 ?_
    clear zF0; refine doneL (by kernel_rfl) ?_ _
    have hsz1 := bd.size; have hsz2 := b7.size; have hsz3 := b9.size
    have K9 := ((KZ8.set 0 (.int .i64 n)).set 1 (.int .i64 n)).set 2 (.slice aY (n * n) kY)
    have o9 := (((oY.off KZ8 0 (.int .i64 n)).off (KZ8.set 0 (.int .i64 n)) 1 (.int .i64 n)).off ((KZ8.set 0 (.int .i64 n)).set 1 (.int .i64 n)) 2 (.slice aY (n * n) kY)).mono (show w5.heap.size ≤ w9.heap.size by omega)
    have hgI : w5.heap.size ≤ w7.heap.size := by omega
    have BF := bd.trans (hHeld.mono hsz1)
    clear hHeld KZ b7 b8 b9 bd KF KA KP hA PT m7 o7 oY y0 y1 y2 z0 z1 z2
    go_wp2_with fail
    go_meet
    exact ⟨_, Y, aY, kY, rfl, rfl, hgI, K9, o9, HY.out, BF⟩
  ·go_simp
   have hd9 := hHeld
   obtain ⟨w9, e9, KZ, b9, -⟩ := boxes1 wd 63 [.int .i64 0, .int .i64 0, .slice none 0 0]
   rw [← e9]
   clear e9
   refine hK.out _ _ (hHeld.trans (b9.mono hHeld.size)) (fun hHeld => ?_)
   clear hK K
   try simp only [Act.put, zq1, zq2, zq3]
   refine on 4 fun K hK => ?_
   go_simp
   go_at_call 113
   (with_reducible refine (fb_basis p n _ _ _ _ xs _ W X HP.out (hA.next hHeld) (by omega) HX.out (by rw [← EA.out]; exact PT.next hHeld) (by rw [← EA.out]; exact HBD.out)).mono ?_); rintro e w7 ⟨a7, k7, rfl, o7, b7⟩; rw [← EA.out] at o7 ⊢; rw [show (MT.of n n fun i s => (bcl A (prl A W X) s).e i 0) = bsM A W X from rfl] at o7 ⊢
   have hlP := Lib.hid (tbv_length (bsM A W X))
   have KZ7 := KZ.next b7
   refine hK.out _ _ (hHeld.trans (b7.mono hHeld.size)) (fun hHeld => ?_)
   clear hK K
   try simp only [Act.put, zq1, zq2, zq3]
   refine on 5 fun K hK => ?_
   have m7 : Fm w7 (.agg #[.int .i64 n, .int .i64 n, .slice a7 (tbv (bsM A W X)).length k7]) n n (tbv (bsM A W X)) := ⟨_, rfl, o7.sl⟩
   go_simp
   go_at_call 62
   (with_reducible refine (fm_Inverse_ok p _ n (tbv (bsM A W X)) _ HP.out HT.out m7 (by omega) hlP.out (by rw [mx_tbv]; exact bsM_det HT.out HSF.out)).mono ?_); rintro e w8 ⟨Y, hY, aY, kY, rfl, oY, b8⟩; rw [mx_tbv] at hY; have hlY : (tbv Y).length = n * n := tbv_length _; rw [hlY] at oY ⊢
   have HY := Lib.hid hY; clear hY hlY
   have KZ8 := KZ7.next b8; have y0 := KZ8.cell 0; have y1 := KZ8.cell 1; have y2 := KZ8.cell 2; have z0 := KZ8.free 0; have z1 := KZ8.free 1; have z2 := KZ8.free 2
   refine hK.out _ _ (hHeld.trans (b8.mono hHeld.size)) (fun hHeld => ?_)
   clear hK K
   try simp only [Act.put, zq1, zq2, zq3]
   refine tk 6 ?_
   refine tk 7 ?_
   refine tk 8 ?_
   refine on 10 fun K hK => ?_
   go_simp
   have he9 := hHeld
   refine hK.out _ _ (((hHeld.setCell (p := ⟨wd.heap.size, 0, none⟩) (Nat.le_refl _) (.int .i64 n)).setCell (p := ⟨wd.heap.size, 1, none⟩) (Nat.le_refl _) (.int .i64 n)).setCell (p := ⟨wd.heap.size, 2, none⟩) (Nat.le_refl _) (.slice aY (n * n) kY)) (fun hHeld => ?_)
   clear hK K
   try simp only [Act.put, zq1, zq2, zq3]
   refine tk 11 ?_
   clear zF0; refine doneL (by kernel_rfl) ?_ _
   have hsz1 := bd.size; have hsz2 := b7.size; have hsz3 := b9.size
   have K9 := ((KZ8.set 0 (.int .i64 n)).set 1 (.int .i64 n)).set 2 (.slice aY (n * n) kY)
   have o9 := (((oY.off KZ8 0 (.int .i64 n)).off (KZ8.set 0 (.int .i64 n)) 1 (.int .i64 n)).off ((KZ8.set 0 (.int .i64 n)).set 1 (.int .i64 n)) 2 (.slice aY (n * n) kY)).mono (show w5.heap.size ≤ w7.heap.size by omega)
   have hgI : w5.heap.size ≤ wd.heap.size := by omega
   have BF := bd.trans (hHeld.mono hsz1)
   clear hHeld KZ b7 b8 b9 bd KF KA KP hA PT m7 o7 oY y0 y1 y2 z0 z1 z2
   go_wp2_with fail
   go_meet
   exact ⟨_, Y, aY, kY, rfl, rfl, hgI, K9, o9, HY.out, BF⟩
 case rest =>
  obtain ⟨gI, Y, aY, kY, rfl, rfl, hgI, KI, oY, hY, b7⟩ := hcut
  have hY2 := Lib.hid (show (∃ Y' : MT (Zp p) n n, Inv Y Y') ∧ Y * A = M * Y from ⟨⟨_, hY.symm⟩, by rw [HM.out]; exact frM_by HT.out HSF.out hY⟩)
  have hgS := KS.lt
  have hgBI : w4.heap.size < w5.heap.size := KB.lt
  replace KR := KR.next b7; replace KS := KS.next b7; replace KB := KB.next b7; replace oF := oF.next b7
  replace B0 := B0.trans (b7.mono B0.size)
  clear hY b7 KF KA KP hA PT
  go_upto_region 10 with (fail)
  have bd := dw wc
  replace KR := KR.next bd; replace KS := KS.next bd; replace KB := KB.next bd; replace KI := KI.next bd; replace oF := oF.next bd; replace oY := oY.next bd
  replace B0 := B0.trans (bd.mono B0.size)
  clear bd
  have e0 := KR.cell 0; have e1 := KR.cell 1; have e2 := KR.cell 2
  have f0 := KR.free 0; have f1 := KR.free 1; have f2 := KR.free 2
  have h0 := KS.cell 0; have h1 := KS.cell 1; have h2 := KS.cell 2
  have i0 := KS.free 0; have i1 := KS.free 1; have i2 := KS.free 2
  have K7 := ((KR.set 0 (.int .i64 n)).set 1 (.int .i64 n)).set 2 (.slice aF (n * n) kF)
  have U7 := ((KS.far (a := ⟨g + 1 + 1, 0, none⟩) (by simp) (.int .i64 n)).far (a := ⟨g + 1 + 1, 1, none⟩) (by simp) (.int .i64 n)).far (a := ⟨g + 1 + 1, 2, none⟩) (by simp) (.slice aF (n * n) kF)
  have K8 := ((K7.far (a := ⟨g + 1 + 1 + 1, 0, none⟩) (by simp) (.int .i64 n)).far (a := ⟨g + 1 + 1 + 1, 1, none⟩) (by simp) (.int .i64 n)).far (a := ⟨g + 1 + 1 + 1, 2, none⟩) (by simp) (.slice aY (n * n) kY)
  have U8 := ((U7.set 0 (.int .i64 n)).set 1 (.int .i64 n)).set 2 (.slice aY (n * n) kY)
  have d0 := K8.cell 0; have d1 := K8.cell 1; have d2 := K8.cell 2
  have d3 := U8.cell 0; have d4 := U8.cell 1; have d5 := U8.cell 2
  have l1 : g + 1 + 1 < w3.heap.size := by omega
  have l2 : g + 1 + 1 < w5.heap.size := by omega
  have m1 : w.heap.size ≤ g + 1 + 1 := by omega
  have m2 : w.heap.size ≤ g + 1 + 1 + 1 := by omega
  have n1 : w4.heap.size ≠ g + 1 + 1 := by omega
  have n2 : w4.heap.size ≠ g + 1 + 1 + 1 := by omega
  have n3 : gI ≠ g + 1 + 1 := by omega
  have n4 : gI ≠ g + 1 + 1 + 1 := by omega
  have ww := hgw
  have FIN := Lib.hid (show RetFr p w n A (.returned (.tuple #[.agg #[.int .i64 n, .int .i64 n, .slice aF (n * n) kF], .agg #[.int .i64 n, .int .i64 n, .slice aY (n * n) kY], .int .i64 0])) ((((((wc.drew.setCell ⟨g + 1 + 1, 0, none⟩ (.int .i64 n)).setCell ⟨g + 1 + 1, 1, none⟩ (.int .i64 n)).setCell ⟨g + 1 + 1, 2, none⟩ (.slice aF (n * n) kF)).setCell ⟨g + 1 + 1 + 1, 0, none⟩ (.int .i64 n)).setCell ⟨g + 1 + 1 + 1, 1, none⟩ (.int .i64 n)).setCell ⟨g + 1 + 1 + 1, 2, none⟩ (.slice aY (n * n) kY)) from
   ⟨W, U, V, X, M, Y, HSF.out, HM.out, hY2.out.1, hY2.out.2, aF, kF, aY, kY, rfl,
    ((((((oF.low (a := ⟨g + 1 + 1, 0, none⟩) l1 _).low (a := ⟨g + 1 + 1, 1, none⟩) l1 _).low (a := ⟨g + 1 + 1, 2, none⟩) l1 _).low (a := ⟨g + 1 + 1 + 1, 0, none⟩) hg3 _).low (a := ⟨g + 1 + 1 + 1, 1, none⟩) hg3 _).low (a := ⟨g + 1 + 1 + 1, 2, none⟩) hg3 _).mono hww,
    ((((((oY.low (a := ⟨g + 1 + 1, 0, none⟩) l2 _).low (a := ⟨g + 1 + 1, 1, none⟩) l2 _).low (a := ⟨g + 1 + 1, 2, none⟩) l2 _).low (a := ⟨g + 1 + 1 + 1, 0, none⟩) hgS _).low (a := ⟨g + 1 + 1 + 1, 1, none⟩) hgS _).low (a := ⟨g + 1 + 1 + 1, 2, none⟩) hgS _).mono (by omega),
    (((((B0.setCell (p := ⟨g + 1 + 1, 0, none⟩) m1 _).setCell (p := ⟨g + 1 + 1, 1, none⟩) m1 _).setCell (p := ⟨g + 1 + 1, 2, none⟩) m1 _).setCell (p := ⟨g + 1 + 1 + 1, 0, none⟩) m2 _).setCell (p := ⟨g + 1 + 1 + 1, 1, none⟩) m2 _).setCell (p := ⟨g + 1 + 1 + 1, 2, none⟩) m2 _⟩)
  clear K7 U7 K8 U8 oF oY B0
  have zF0 := Lib.hid fun (w : World) (hS : Blk 63 w w4.heap.size [.int .i64 n, .int .i64 n, .slice aF (n * n) kF] ∧ Blk 63 w gI [.int .i64 n, .int .i64 n, .slice aY (n * n) kY]) => And.intro (hS.1.cell 0) (And.intro (hS.1.cell 1) (And.intro (hS.1.cell 2) (And.intro (hS.2.cell 0) (And.intro (hS.2.cell 1) (hS.2.cell 2)))))
  refine startL (S := (fun w' => Blk 63 w' w4.heap.size [.int .i64 n, .int .i64 n, .slice aF (n * n) kF] ∧ Blk 63 w' gI [.int .i64 n, .int .i64 n, .slice aY (n * n) kY])) (by kernel_rfl) ⟨KB, KI⟩ (fun hHeld => ?_)
  generalize wc.drew = wd at *
  refine tf 0 zF0.out ?_
  refine tf 1 zF0.out ?_
  refine on 2 fun K hK => ?_
  go_simp
  refine hK.out _ _ ⟨((hHeld.1.far (a := ⟨g + 1 + 1, 0, none⟩) n1 _).far (a := ⟨g + 1 + 1, 1, none⟩) n1 _).far (a := ⟨g + 1 + 1, 2, none⟩) n1 _, ((hHeld.2.far (a := ⟨g + 1 + 1, 0, none⟩) n3 _).far (a := ⟨g + 1 + 1, 1, none⟩) n3 _).far (a := ⟨g + 1 + 1, 2, none⟩) n3 _⟩ (fun hHeld => ?_)
  clear hK K
  try simp only [Act.put, zq1, zq2, zq3]
  refine on 3 fun K hK => ?_
  go_simp
  refine hK.out _ _ ⟨((hHeld.1.far (a := ⟨g + 1 + 1 + 1, 0, none⟩) n2 _).far (a := ⟨g + 1 + 1 + 1, 1, none⟩) n2 _).far (a := ⟨g + 1 + 1 + 1, 2, none⟩) n2 _, ((hHeld.2.far (a := ⟨g + 1 + 1 + 1, 0, none⟩) n4 _).far (a := ⟨g + 1 + 1 + 1, 1, none⟩) n4 _).far (a := ⟨g + 1 + 1 + 1, 2, none⟩) n4 _⟩ (fun hHeld => ?_)
  clear hK K
  try simp only [Act.put, zq1, zq2, zq3]
  refine tk 4 ?_
  clear zF0; refine doneL (by kernel_rfl) ?_ _
  clear hHeld KB KI KR KS
  go_wp2
  exact bodyPost_ret (v := .tuple #[.agg #[.int .i64 n, .int .i64 n, .slice aF (n * n) kF], .agg #[.int .i64 n, .int .i64 n, .slice aY (n * n) kY], .int .i64 0]) (by simp [results, Try.results57, go_sem, d0, d1, d2, d3, d4, d5]) rfl FIN.out
end Go.Proofs.Ytkmfhabgempjiaa
/- The reference of chapter 25: lists of polynomials, degrees, the form. -/
namespace Go.Proofs.Ytkmfhabgempjiaa
set_option maxHeartbeats 4000000
open Go.RowKit
section
open CR
variable {p n : Nat}
theorem fmE_cons (x : Prt p n) (l : List (Prt p n)) (i k : Nat) : fmE (x :: l) i k = if i < x.1 ∨ k < x.1 then (if i < x.1 ∧ k < x.1 then cmpE x.1 x.2.1 i k else 0) else fmE l (i - x.1) (k - x.1) := rfl
theorem bls_drop (qs : List (List Nat)) (j : Nat) (h : j < qs.length) : (bls p qs).drop j = ((nl p (qs.getD j [])).length - 1, (fun i => (pl p (qs.getD j [])).c i), 0) :: (bls p qs).drop (j + 1) := by
 have h2 : j < (bls p qs).length := by rwa [bls_length]
 rw [List.drop_eq_getElem_cons h2]
 congr 1
 have e : (bls p qs)[j] = ((nl p qs[j]).length - 1, fun i => (pl p qs[j]).c i, 0) := List.getElem_map ..
 have e2 : qs.getD j [] = qs[j] := by simp only [List.getD, List.getElem?_eq_getElem h, Option.getD_some]
 rw [e, e2]
def MoL (p : Nat) (qs : List (List Nat)) : Prop := ∀ j, j < qs.length → 1 < (nl p (qs.getD j [])).length ∧ (nl p (qs.getD j [])).getD ((nl p (qs.getD j [])).length - 1) 0 = 1 ∧ (qs.getD j []).length ≤ 60
end
theorem Ns.get {w : World} {az : Option Addr} {cz M : Nat} {qs : List (List Nat)} (h : Ns w (.slice az M cz) qs) (hM : M = qs.length) {i : Nat} (hi : i < M) : ∃ b o ak ck, az = some ⟨b, o, none⟩ ∧ b < w.heap.size ∧ w.cell? ⟨b, o + i, none⟩ = some (.slice ak (qs.getD i []).length ck) ∧ Sl .u64 w (.slice ak (qs.getD i []).length ck) (qs.getD i []) := by
 obtain ⟨az', b, o, cz', U, ez, -, hz1, hz2⟩ := h
 simp only [Value.slice.injEq] at ez
 obtain ⟨rfl, -, rfl⟩ := ez
 obtain ⟨rfl, lz⟩ := hz1 (by omega)
 obtain ⟨qz, sz, -⟩ := hz2 i (by omega)
 obtain ⟨ak, ck, eu⟩ : ∃ ao c, U i = .slice ao (qs.getD i []).length c := by
  obtain ⟨a', b', o', c', e', -⟩ := sz; exact ⟨a', c', e'⟩
 rw [eu] at qz sz
 exact ⟨b, o, ak, ck, rfl, lz, qz, sz⟩
theorem Ns.slice {w : World} {v : Value} {qs : List (List Nat)} (h : Ns w v qs) : ∃ az cz, v = .slice az qs.length cz := by
 obtain ⟨ao, b, off, cap, U, e, -⟩ := h; exact ⟨ao, cap, e⟩
set_option maxRecDepth 20000 in
theorem law25_plain (v : Value) (qs : List (List Nat)) (w : World) (h : Ns w v qs) (hm : qs.length ≤ 1000) :
  Calls Try.prog 46 #[v] w (fun e w' => ∃ r, e = .returned r ∧ Ns w' r qs ∧ Below w.heap.size w w') := by
 obtain ⟨M, eM⟩ : ∃ M, M = qs.length := ⟨_, rfl⟩
 obtain ⟨az, cz, rfl⟩ := h.slice
 have hU : ∃ U : Nat → Value, ∀ j, j < M → (∃ b o, az = some ⟨b, o, none⟩ ∧ b < w.heap.size ∧ w.cell? ⟨b, o + j, none⟩ = some (U j)) ∧ Sl .u64 w (U j) (qs.getD j []) ∧ wf W64 (qs.getD j []) ∧ (U j).oneCell' = true := by
  obtain ⟨az', b, o, cz', U, ez, -, hz1, hz2⟩ := h
  simp only [Value.slice.injEq] at ez
  obtain ⟨rfl, -, rfl⟩ := ez
  refine ⟨U, fun j hj => ?_⟩
  obtain ⟨k1, k2⟩ := hz1 (by omega)
  obtain ⟨q1, q2, q3⟩ := hz2 j (by omega)
  refine ⟨⟨b, o, k1, k2, q1⟩, q2, q3, ?_⟩
  obtain ⟨a', b', o', c', e', -⟩ := q2
  rw [e']; rfl
 obtain ⟨U, hU⟩ := hU
 rw [← eM] at h hm ⊢
 have HU := Lib.hid hU; have HM := Lib.hid eM; clear hU h eM
 go_enter Try.func46, Try.ntmps46
 go_wp2
 go_loopw [3, 4] (fun rv jv wr => ∃ i : Nat, i ≤ M ∧ jv = .int .i64 i ∧ wr.ownsRow w.heap.size 41 1 rv i (rowL i U) ∧ Below w.heap.size w wr) (fun _ jv _ => M - (intOf jv).toNat)
 case atStart => exact ⟨0, by omega, rfl, World.ownsRow_nil _ _ _ _, Below.refl _ _⟩
 case round =>
  obtain ⟨i, hi, rfl, ho, B⟩ := hrel
  by_cases him : i < M
  ·obtain ⟨⟨b, o, rfl, lb, q1⟩, s1, -, h1⟩ := HU.out i him
   have q2 := (B.cell (p := ⟨b, o + i, none⟩) lb).trans q1
   obtain ⟨ua, uc, eu⟩ : ∃ ua uc, U i = .slice ua (qs.getD i []).length uc := by
    obtain ⟨a', b', o', c', e', -⟩ := s1; exact ⟨a', c', e'⟩
   obtain ⟨un, eun⟩ : ∃ un, un = (qs.getD i []).length := ⟨_, rfl⟩
   rw [← eun] at eu
   rw [eu] at q2
   have HEU := Lib.hid eu
   have hbz := B.size
   clear q1 lb s1 h1 eun eu
   go_wp2_with (at_builtin; refine apVl 68 41 24 (.slice none 0 0) Try.underlying68 (by kernel_rfl) (by decide) rfl rfl _ _ rfl wr w.heap.size u3 i (rowL i U) (.slice ua un uc) rfl ho (by omega) hbz rfl rfl ?_; intro g9 cap9 w9 ho9 hb9 hg9 _)
   have B9 := B.trans hb9
   rw [← HEU.out, ← rowL_snoc] at ho9
   clear ho hb9 hg9 q2 B
   go_roundw
   case rel => exact ⟨i + 1, by omega, by go_num, ho9, B9⟩
   case measure => simp [intOf] <;> omega
  ·obtain rfl : M = i := by omega
   obtain ⟨ao, c, rfl⟩ := rowOwn_slc ho
   have FIN := Lib.hid (show Ns wr (.slice ao M c) qs from by
    rcases ho.2 with ⟨e1, e2⟩ | ⟨g, cap, cur, e1, hb, hg, hnc, hcm, hcs, htk⟩
    ·simp only [Value.slice.injEq] at e1
     refine ⟨ao, 0, 0, c, U, by rw [← HM.out], by rw [← HM.out]; omega, fun h => absurd h (by rw [← HM.out]; omega), fun j hj => absurd hj (by rw [← HM.out]; omega)⟩
    ·have e1' := e1
     simp only [Value.slice.injEq] at e1'
     obtain ⟨rfl, -, rfl⟩ := e1'
     refine ⟨_, g, 0, c, U, by rw [← HM.out], by rw [← HM.out]; exact hnc, fun _ => ⟨rfl, (Array.getElem?_eq_some_iff.1 hg).1⟩, fun j hj => ?_⟩
     have hjM : j < M := by rw [HM.out]; exact hj
     obtain ⟨-, s1, s2, -⟩ := HU.out j hjM
     refine ⟨?_, s1.next B, s2⟩
     rw [Nat.zero_add, World.ownsRow.cellAt ho j (by omega), rowL_get hjM])
   clear ho
   go_wp2
   go_ret
   exact ⟨_, rfl, FIN.out, B⟩
set_option maxRecDepth 20000 in
theorem rf25_Degrees (p : Nat) (v : Value) (qs : List (List Nat)) (N : Nat) (w : World) (hp : FP p) (h : Ns w v qs) (hq : MoL p qs) (hN : bdm (bls p qs) = N) (h64 : N ≤ 64) :
  Calls Try.prog 45 #[v, .int .u64 p] w (RetW w (.tuple #[.int .i64 N, .bool true])) := by
 obtain ⟨M, eM⟩ : ∃ M, M = qs.length := ⟨_, rfl⟩
 obtain ⟨az, cz, rfl⟩ := h.slice
 obtain ⟨L, eL⟩ : ∃ L, L = bls p qs := ⟨_, rfl⟩
 rw [← eL] at hN
 have hLM : L.length = M := by rw [eL, eM, bls_length]
 have hD : ∀ j, j < M → 1 < (nl p (qs.getD j [])).length ∧ (nl p (qs.getD j [])).getD ((nl p (qs.getD j [])).length - 1) 0 = 1 ∧ (qs.getD j []).length ≤ 60 ∧ bdm (L.take (j + 1)) = bdm (L.take j) + ((nl p (qs.getD j [])).length - 1) ∧ bdm (L.take (j + 1)) ≤ N := fun j hj => by
  obtain ⟨h1, h2, h3⟩ := hq j (by omega)
  have hjL : j < L.length := by omega
  have h5 : (L[j]).1 = (nl p (qs.getD j [])).length - 1 := by subst eL; exact (bls_get qs j hjL).1
  have h6 := bdm_take L j hjL
  have h7 := bdm_le L (j + 1)
  exact ⟨h1, h2, h3, by omega, by omega⟩
 have hMN : M ≤ N := by
  have := bdm_ge L fun j hj => by
   have h1 := hD j (by omega)
   have h5 : (L[j]).1 = (nl p (qs.getD j [])).length - 1 := by subst eL; exact (bls_get qs j hj).1
   omega
  omega
 rw [← eM] at h ⊢
 have HNS := Lib.hid h; have HP := Lib.hid hp; have HLM := Lib.hid hLM; have HN := Lib.hid hN; have HD := Lib.hid hD; have HM := Lib.hid eM
 clear h hp hLM hN hD hq eM eL
 go_enter Try.func45, Try.ntmps45
 go_wp2
 go_loopw [6, 7, 8] (fun nv bv jv wr => ∃ i s : Nat, i ≤ M ∧ jv = .int .i64 i ∧ nv = .int .i64 s ∧ bv = .bool true ∧ RowKit.Hid (s = bdm (L.take i)) ∧ Below w.heap.size w wr) (fun _ _ jv _ => M - (intOf jv).toNat)
 case atStart => exact ⟨0, 0, by omega, rfl, rfl, rfl, Lib.hid rfl, Below.refl _ _⟩
 case round =>
  obtain ⟨i, s, hi, rfl, rfl, rfl, HS, B⟩ := hrel
  by_cases him : i < M
  ·obtain ⟨b, o, ak, ck, rfl, lb, qz, sz⟩ := (HNS.out.next B).get HM.out him
   obtain ⟨hd1, hd2, hd3, hd4, hd5⟩ := HD.out i him
   obtain ⟨q, eq⟩ : ∃ q, q = qs.getD i [] := ⟨_, rfl⟩
   rw [← eq] at qz sz hd1 hd2 hd3 hd4
   clear eq
   go_wp2_with fail
   refine (ref9_Norm p _ q _ HP.out sz (by omega)).mono ?_; rintro e w2 ⟨r2, z, rfl, o2, n2, v2, l2, b2⟩
   obtain rfl : z = nl p q := nl_is HP.out.pos n2 v2
   obtain ⟨z, ez⟩ : ∃ z, z = nl p q := ⟨_, rfl⟩
   rw [← ez] at o2 hd1 hd2 hd4 l2
   obtain ⟨a2, c2, rfl⟩ := o2.sliced
   obtain ⟨d, ed⟩ : ∃ d, z.length = d + 1 := ⟨z.length - 1, by omega⟩
   have hs64 : s + d ≤ 64 := by have := HS.out; omega
   have hz1 : IntKind.i64.wrap ((z.length : Int) - 1) = (d : Int) := by rw [IntWalk.i64_in _ ⟨by omega, by omega⟩]; omega
   have hz2 : IntKind.i64.wrap ((s : Int) + (d : Int)) = ((s + d : Nat) : Int) := by rw [IntWalk.i64_in _ ⟨by omega, by omega⟩]; omega
   have t1 : decide ((1 : Int) < (z.length : Int)) = true := by simp; omega
   have HS2 := Lib.hid (show s + d = bdm (L.take (i + 1)) by rw [hd4, HS.out]; omega)
   have B2 := B.trans (b2.mono B.size)
   have hmo := ref9_Monic (.slice a2 z.length c2) z true w2 o2.sl (by omega) (decide_eq_true (.inr hd2)).symm
   have HMO := Lib.hid hmo
   clear qz sz n2 v2 hmo ez hd4 hd5 hd2 o2 b2 B lb ed
   go_wp2_with fail
   refine HMO.out.mono ?_; rintro e w3 ⟨rfl, rfl⟩
   clear HMO t1 hz1 
   go_wp2
   go_roundw
   case rel => exact ⟨i + 1, s + d, by omega, by go_num, by go_num, rfl, HS2, B2⟩
   case measure => simp [intOf] <;> omega
  ·obtain rfl : M = i := by omega
   obtain rfl : N = s := by
    have h1 := HS.out
    rw [← HLM.out, List.take_length] at h1
    have := HN.out; omega
   go_wp2
   exact bodyPost_ret (v := .tuple #[.int .i64 N, .bool true]) (by simp [results, Try.results45, go_sem]) rfl ⟨rfl, B⟩
set_option maxRecDepth 20000 in
theorem rf25_inside (p : Nat) (v : Value) (q z : List Nat) (d i k : Nat) (x : Nat) (w : World) (hp : FP p) (hv : Sl .u64 w v z) (hz : z = nl p q) (hd : z.length = d + 1) (hd2 : d ≤ 64) (hi : i ≤ 1000) (hk : k ≤ 1000) (hx : x = (if i < d ∧ k < d then cmpE d (fun i => (pl p q).c i) i k else (0 : Zp p)).val) :
  Calls Try.prog 139 #[v, .int .i64 i, .int .i64 k, .int .u64 p] w (RetW w (.int .u64 (x : Nat))) := by
 obtain ⟨ao, b, off, cap, rfl, hcap, hc⟩ := hv
 have hp1 := hp.1; have hp2 := hp.2
 have hz1 : ¬ p = 0 := by omega
 have hz2 : ¬ (p : Int) = 0 := by omega
 have hz0 : ((p : Int) == 0) = false := by simpa using (show p ≠ 0 by omega)
 obtain ⟨m, em⟩ : ∃ m, m = z.length := ⟨_, rfl⟩
 rw [← em] at hcap ⊢
 have hmd : m = d + 1 := by omega
 have s1 : IntKind.i64.wrap ((m : Int) - 1) = (d : Int) := by rw [IntWalk.i64_in _ ⟨by omega, by omega⟩]; omega
 have s2 : IntKind.i64.wrap ((k : Int) + 1) = (k : Int) + 1 := IntWalk.i64_in _ ⟨by omega, by omega⟩
 have s3 : IntKind.i64.wrap ((d : Int) - 1) = (d : Int) - 1 := IntWalk.i64_in _ ⟨by omega, by omega⟩
 have HP := Lib.hid hp
 by_cases h1 : i < d
 ·have t1 : decide ((d : Int) ≤ (i : Int)) = false := by simp; omega
  by_cases h2 : k < d
  ·have t2 : decide ((d : Int) ≤ (k : Int)) = false := by simp; omega
   rw [if_pos ⟨h1, h2⟩] at hx
   have hq : i < z.length := by omega
   obtain rfl := hc.ao (by intro h; rw [h] at hq; simp at hq)
   have qx := hc.cell i hq
   obtain ⟨y, ey⟩ : ∃ y, y = z.getD i 0 := ⟨_, rfl⟩
   rw [← ey] at qx
   have hyp : y < p := by rw [ey, hz]; exact wf_getD (nl_nrm hp.pos q).1 hp.pos _
   have hyc : (pl p q).c i = Zp.of p y := by rw [ey, hz, ← pl_c, nl_pl]
   by_cases h3 : k + 1 = d
   ·have h4 : i ≠ k + 1 := by omega
    have t3 : ((i : Int) == (k : Int) + 1) = false := by simp; omega
    have t4 : ((k : Int) == (d : Int) - 1) = true := by simp; omega
    have e1 : IntKind.u64.wrap (p : Int) = (p : Int) := wrap_u64 _ (by omega)
    have e1' : IntKind.u64.wrap (0 + (p : Int)) = (p : Int) := by rw [Int.zero_add]; exact e1
    obtain ⟨u, eu⟩ : ∃ u, u = p - y := ⟨_, rfl⟩
    have e2 : IntKind.u64.wrap ((p : Int) - (y : Int)) = (u : Int) := by
     rw [show (p : Int) - (y : Int) = (u : Int) by omega]; exact wrap_u64 _ (by omega)
    have hxx : x = u % p := by
     rw [hx]; unfold cmpE
     rw [if_neg h4, if_pos h3, CR.zero_add]
     show (-((pl p q).c i)).val = _
     rw [hyc, eu]
     rw [Zp.neg_val, Zp.val_of, show p - 1 + 1 = p by omega, Nat.mod_eq_of_lt hyp]
    have e3 : (u : Int).tmod (p : Int) = (x : Int) := by rw [hxx]; rfl
    have e4 : (u : Int) % (p : Int) = (x : Int) := by rw [hxx]; rfl
    clear hx hxx hyc eu ey hc hz em hd
    go_enter Try.func139, Try.ntmps139
    go_wp2
    go_ret
    exact ⟨rfl, Below.refl _ _⟩
   ·have t4 : ((k : Int) == (d : Int) - 1) = false := by simp; omega
    by_cases h4 : i = k + 1
    ·have t3 : ((i : Int) == (k : Int) + 1) = true := by simp; omega
     have hxx : x = 1 := by
      rw [hx]; unfold cmpE
      rw [if_pos h4, if_neg h3, CR.add_zero, ← Zp.of_one, Zp.val_of, Nat.mod_eq_of_lt (by omega)]
     subst hxx
     clear hx hyc ey hc hz em hd qx
     go_enter Try.func139, Try.ntmps139
     go_wp2
     go_ret
     exact ⟨rfl, Below.refl _ _⟩
    ·have t3 : ((i : Int) == (k : Int) + 1) = false := by simp; omega
     have hxx : x = 0 := by
      rw [hx]; unfold cmpE
      rw [if_neg h4, if_neg h3, CR.add_zero, Zp.zero_val]
     subst hxx
     clear hx hyc ey hc hz em hd qx
     go_enter Try.func139, Try.ntmps139
     go_wp2
     go_ret
     exact ⟨rfl, Below.refl _ _⟩
  ·have t2 : decide ((d : Int) ≤ (k : Int)) = true := by simp; omega
   rw [if_neg (fun h => h2 h.2), Zp.zero_val] at hx
   subst hx
   clear hc hz em hd
   go_enter Try.func139, Try.ntmps139
   go_wp2
   go_ret
   exact ⟨rfl, Below.refl _ _⟩
 ·have t1 : decide ((d : Int) ≤ (i : Int)) = true := by simp; omega
  rw [if_neg (fun h => h1 h.1), Zp.zero_val] at hx
  subst hx
  clear hc hz em hd
  go_enter Try.func139, Try.ntmps139
  go_wp2
  go_ret
  exact ⟨rfl, Below.refl _ _⟩
set_option maxRecDepth 20000 in
theorem rf25_At (p : Nat) (v : Value) (qs : List (List Nat)) (i k x : Nat) (w : World) (hp : FP p) (h : Ns w v qs) (hq : MoL p qs) (hm : qs.length ≤ 1000) (hi : i ≤ 1000) (hk : k ≤ 1000) (hx : x = (fmE (bls p qs) i k).val) :
  Calls Try.prog 100 #[v, .int .i64 i, .int .i64 k, .int .u64 p] w (RetW w (.int .u64 (x : Nat))) := by
 obtain ⟨M, eM⟩ : ∃ M, M = qs.length := ⟨_, rfl⟩
 obtain ⟨az, cz, rfl⟩ := h.slice
 rw [← eM] at h hm ⊢
 have HNS := Lib.hid h; have HP := Lib.hid hp; have HM := Lib.hid eM; have HQ := Lib.hid hq; have HX := Lib.hid hx
 clear h hp eM hq hx
 go_enter Try.func100, Try.ntmps100
 go_wp2
 go_loopw [1, 2, 9] (fun iv kv jv wr => ∃ j i' k' : Nat, j ≤ M ∧ jv = .int .i64 j ∧ iv = .int .i64 i' ∧ kv = .int .i64 k' ∧ i' ≤ 1000 ∧ k' ≤ 1000 ∧ RowKit.Hid (x = (fmE ((bls p qs).drop j) i' k').val) ∧ Below w.heap.size w wr) (fun _ _ jv _ => M - (intOf jv).toNat)
 case atStart => exact ⟨0, i, k, by omega, rfl, rfl, rfl, hi, hk, HX, Below.refl _ _⟩
 case round =>
  obtain ⟨j, i', k', hj, rfl, rfl, rfl, hi', hk', HX2, B⟩ := hrel
  by_cases hjM : j < M
  ·obtain ⟨b, o, ak, ck, rfl, lb, qz, sz⟩ := (HNS.out.next B).get HM.out hjM
   obtain ⟨hd1, -, hd3⟩ := HQ.out j (by rw [← HM.out]; exact hjM)
   have hdr := bls_drop (p := p) qs j (by rw [← HM.out]; exact hjM)
   obtain ⟨q, eq⟩ : ∃ q, q = qs.getD j [] := ⟨_, rfl⟩
   rw [← eq] at qz sz hd1 hd3 hdr
   obtain ⟨d, ed⟩ : ∃ d, d = (nl p q).length - 1 := ⟨_, rfl⟩
   have hx3 := HX2.out
   rw [hdr, fmE_cons] at hx3
   simp only [← ed] at hx3
   have HX3 := Lib.hid hx3
   clear eq HX2 hdr hx3
   go_wp2_with fail
   refine (ref9_Norm p _ q _ HP.out sz (by omega)).mono ?_; rintro e w2 ⟨r2, z, rfl, o2, n2, v2, l2, b2⟩
   have hzq : z = nl p q := nl_is HP.out.pos n2 v2
   have hzd : z.length = d + 1 := by rw [hzq]; omega
   have HZQ := Lib.hid hzq; have HZD := Lib.hid hzd
   obtain ⟨a2, c2, rfl⟩ := o2.sliced
   have hd64 : d ≤ 64 := by omega
   have hz1 : IntKind.i64.wrap ((z.length : Int) - 1) = (d : Int) := by rw [IntWalk.i64_in _ ⟨by omega, by omega⟩]; omega
   have B2 := B.trans (b2.mono B.size)
   have s2 := o2.sl
   clear qz sz n2 v2 hzq ed o2 b2 B lb hd1 hzd l2 hd3
   by_cases hc : i' < d ∨ k' < d
   ·have hx4 := HX3.out
    rw [if_pos hc] at hx4
    have HX4 := Lib.hid hx4
    clear hx4
    rcases Decidable.em (i' < d) with h1 | h1
    ·have t1 : decide ((i' : Int) < (d : Int)) = true := by simp; omega
     go_wp2_with fail
     refine (rf25_inside p _ q z d i' k' x _ HP.out s2 HZQ.out HZD.out hd64 hi' hk' HX4.out).mono ?_; rintro e w3 ⟨rfl, b3⟩
     have B3 := B2.trans (b3.mono B2.size)
     clear s2 t1 B2 b3 hz1
     go_wp2
     go_ret
     exact ⟨rfl, B3⟩
    ·have h2 : k' < d := by omega
     have t1 : decide ((i' : Int) < (d : Int)) = false := by simp; omega
     have t2 : decide ((k' : Int) < (d : Int)) = true := by simp; omega
     go_wp2_with fail
     refine (rf25_inside p _ q z d i' k' x _ HP.out s2 HZQ.out HZD.out hd64 hi' hk' HX4.out).mono ?_; rintro e w3 ⟨rfl, b3⟩
     have B3 := B2.trans (b3.mono B2.size)
     clear s2 t1 t2 B2 b3 hz1
     go_wp2
     go_ret
     exact ⟨rfl, B3⟩
   ·have hx4 := HX3.out
    rw [if_neg hc] at hx4
    have HX4 := Lib.hid hx4
    clear hx4
    have t1 : decide ((i' : Int) < (d : Int)) = false := by simp; omega
    have t2 : decide ((k' : Int) < (d : Int)) = false := by simp; omega
    obtain ⟨i2, ei2⟩ : ∃ y, y = i' - d := ⟨_, rfl⟩
    obtain ⟨k2, ek2⟩ : ∃ y, y = k' - d := ⟨_, rfl⟩
    rw [← ei2, ← ek2] at HX4
    have u1 : IntKind.i64.wrap ((i' : Int) - (d : Int)) = (i2 : Int) := by rw [IntWalk.i64_in _ ⟨by omega, by omega⟩]; omega
    have u2 : IntKind.i64.wrap ((k' : Int) - (d : Int)) = (k2 : Int) := by rw [IntWalk.i64_in _ ⟨by omega, by omega⟩]; omega
    have hi2 : i2 ≤ 1000 := by omega
    have hk2 : k2 ≤ 1000 := by omega
    clear ei2 ek2 s2
    go_wp2
    go_roundw
    case rel => exact ⟨j + 1, i2, k2, by omega, by go_num, rfl, rfl, hi2, hk2, HX4, B2⟩
    case measure => simp [intOf] <;> omega
  ·obtain rfl : M = j := by omega
   have hx0 : x = 0 := by
    have h1 := HX2.out
    rw [List.drop_eq_nil_of_le (by rw [bls_length, HM.out]; exact Nat.le_refl _)] at h1
    rw [h1]; exact Zp.zero_val _
   subst hx0
   go_wp2
   go_ret
   exact ⟨rfl, B⟩
def RfR (wb wr : World) (g N : Nat) (T : Nat → Nat → Nat) (n : Nat) : Prop := ∃ ao m k, Blk 63 wr (g + 1) [.int .i64 N, .int .i64 N, .slice ao m k] ∧ Own .u64 27 wr (g + 1 + 1) (.slice ao m k) (ftab N T n) ∧ Below (g + 1) wb wr
set_option maxRecDepth 20000 in
theorem rf25_Form (p : Nat) (v : Value) (qs : List (List Nat)) (N : Nat) (w : World) (hp : FP p) (h : Ns w v qs) (hq : MoL p qs) (hm : qs.length ≤ 1000) (h64 : N ≤ 64) :
  Calls Try.prog 49 #[v, .int .i64 N, .int .u64 p] w (RetFm p w N N (MT.of N N (fmE (bls p qs)))) := by
 obtain ⟨wb, ew, KR, KT, B0, hsz⟩ := boxes2 w 63 63 [.int .i64 0, .int .i64 0, .slice none 0 0] [.int .i64 N, .int .i64 N, .slice none 0 0]
 obtain ⟨az, cz, rfl⟩ := h.slice
 obtain ⟨T, eT⟩ : ∃ T : Nat → Nat → Nat, T = fun i k => (fmE (bls p qs) i k).val := ⟨_, rfl⟩
 have hTT : ftab N T (N * N) = tbv (MT.of N N (fmE (bls p qs))) := by
  unfold tbv; exact ftab_congr fun i k hi hk => by rw [eT, MT.of_e _ hi hk]
 have HTT := Lib.hid hTT; have HT := Lib.hid eT
 obtain ⟨M, eM⟩ : ∃ M, M = qs.length := ⟨_, rfl⟩
 rw [← eM] at h hm ⊢
 have hNS := h
 have HNS := Lib.hid hNS; have HP := Lib.hid hp; have HQ := Lib.hid hq; have HM := Lib.hid eM
 obtain ⟨Q, eQ⟩ : ∃ Q, Q = (MT.of N N (fmE (bls p qs)) : MT (Zp p) N N) := ⟨_, rfl⟩
 rw [← eQ] at HTT ⊢
 have hlQ : (tbv Q).length = N * N := tbv_length Q
 have HLQ := Lib.hid hlQ
 clear hTT eT h hNS hp hq eM eQ hlQ
 go_enter Try.func49, Try.ntmps49
 go_upto_region 2 with (fail)
 rw [← ew]
 obtain ⟨g, eg⟩ : ∃ g, g = w.heap.size := ⟨_, rfl⟩
 rw [← eg] at KR KT hsz ⊢
 have hgw : w.heap.size ≤ g := by omega
 have hgw2 : g ≤ w.heap.size := by omega
 clear ew eg
 have st : RfR wb wb g N T (0 * N) := ⟨_, _, _, KT, by rw [Nat.zero_mul]; exact Own.nil _ _ _ _, Below.refl _ _⟩
 have HKR := Lib.hid KR; have HB0 := Lib.hid B0
 have hwb : wb.heap.size = g + 1 + 1 := hsz
 have HWB := Lib.hid hwb
 clear KR KT B0 hsz hwb
 go_wp2
 go_loopw [8] (fun iv wr => ∃ i : Nat, i ≤ N ∧ iv = .int .i64 i ∧ RfR wb wr g N T (i * N)) (fun iv _ => N - (intOf iv).toNat)
 case atStart => exact ⟨0, by omega, rfl, st⟩
 case round =>
  clear st
  obtain ⟨i, hi, rfl, st⟩ := hrel
  by_cases hin : i < N
  ·go_wp2
   go_loopw [9] (fun kv wr => ∃ k : Nat, k ≤ N ∧ kv = .int .i64 k ∧ RfR wb wr g N T (i * N + k)) (fun kv _ => N - (intOf kv).toNat)
   case atStart => exact ⟨0, by omega, rfl, st⟩
   case round =>
    clear st
    obtain ⟨k, hk, rfl, st⟩ := hrel
    by_cases hkn : k < N
    ·obtain ⟨ao, mm, kk, KT, ho, B2⟩ := st
     go_upto_region 8 with (fail)
     have bd := dw wr
     have hgx : g + 1 + 1 ≤ wr.drew.heap.size := by have : g + 1 < wr.heap.size := KT.lt; exact this
     replace KT := KT.next bd; replace ho := ho.next bd
     replace B2 := B2.trans (bd.mono (show g + 1 ≤ wr.heap.size from Nat.le_of_lt (by have : g + 1 < wr.drew.heap.size := KT.lt; exact this)))
     clear bd
     have BW := HB0.out.trans (B2.mono (show w.heap.size ≤ g + 1 by omega))
     obtain ⟨x, ex⟩ : ∃ x, x = T i k := ⟨_, rfl⟩
     have hxx : x = (fmE (bls p qs) i k).val := by rw [ex, HT.out]
     have hat := Lib.hid (show ∀ w', Below wr.drew.heap.size wr.drew w' → Calls Try.prog 100 #[.slice az M cz, .int .i64 i, .int .i64 k, .int .u64 p] w' (RetW w' (.int .u64 (x : Nat))) from fun w' hb => rf25_At p _ qs i k x w' HP.out (HNS.out.next (BW.trans (hb.mono BW.size))) HQ.out (by rw [← HM.out]; exact hm) (by omega) (by omega) hxx)
     have hrow := Lib.hid (show ftab N T (i * N + k) ++ [x] = ftab N T (i * N + (k + 1)) from by rw [ex]; exact (ftab_at T hkn).symm)
     have hlen := Lib.hid (ftab_length N T (i * N + k))
     have hik : i * N ≤ 64 * 64 := Nat.mul_le_mul (by omega) h64
     clear ex hxx
     refine startP (S := (fun w' => Below (g + 1 + 1) wr.drew w')) (by kernel_rfl) _ rfl rfl rfl (by kernel_rfl) (Below.refl _ _) (fun hHeld => ?_)
     refine tk 0 ?_
     refine tg 1 rfl (fun w hS => by have fb := (KT.below hS (Nat.lt_succ_self _)).cell; have f4 := fb 2; clear fb; go_simp <;> with_reducible rfl) ?_
     refine tk 2 ?_
     refine tk 3 ?_
     refine tk 4 ?_
     refine tk 5 ?_
     refine on 6 fun K hK => ?_
     go_simp
     go_at_call 100
     (refine (hat.out _ (Below.refl _ _)).mono ?_); rintro e w5 ⟨rfl, b5⟩
     refine hK.out _ _ (hHeld.trans (b5.mono (Nat.le_trans hgx hHeld.size))) (fun hHeld => ?_)
     clear hK K
     try simp only [Act.put, zq1, zq2, zq3]
     refine on 7 fun K hK => ?_
     go_simp
     have hd := hHeld
     refine hK.out _ _ (hHeld.alloc (Nat.le_trans hgx hHeld.size) _) (fun hHeld => ?_)
     clear hK K
     try simp only [Act.put, zq1, zq2, zq3]
     refine on 8 fun K hK => ?_
     refine ap2 (ops := #[]) .u64 41 27 8 Try.underlying41 (by kernel_rfl) (by decide) rfl _ _ rfl w5 (g + 1 + 1) (.slice ao mm kk) (ftab N T (i * N + k)) x _ (by rfl) (ho.next b5) (by rw [hlen.out]; omega) (Nat.le_trans hgx hd.size) rfl rfl ?_
     intro gg cap1 wz hown' hbel'
     refine hK.out _ _ (hd.trans hbel') (fun hHeld => ?_)
     clear hK K
     try simp only [Act.put, zq1, zq2, zq3]
     refine tk 9 ?_
     refine doneL (by kernel_rfl) ?_ _
     refine lastL rfl (by rfl) ?_
     have KT2 := KT.below hHeld (Nat.lt_succ_self _)
     have q2 := KT2.cell 2; have qz := KT2.free 2
     have B3 := (B2.trans (hHeld.mono (by omega))).setCell (p := ⟨g + 1, 2, none⟩) (Nat.le_refl _) (.slice (some ⟨gg, 0, none⟩) ((ftab N T (i * N + k)).length + 1) cap1)
     have st := Lib.hid (show RfR wb (wz.setCell ⟨g + 1, 2, none⟩ (.slice (some ⟨gg, 0, none⟩) ((ftab N T (i * N + k)).length + 1) cap1)) g N T (i * N + (k + 1)) from
      ⟨_, _, _, KT2.set 2 _, by rw [← hrow.out]; exact hown'.low (a := ⟨g + 1, 2, none⟩) (Nat.lt_succ_self _) _, B3⟩)
     clear KT KT2 ho B2 B3 hown' hbel' hHeld hd hat b5 BW
     go_wp2
     go_roundw
     case rel => exact ⟨k + 1, by omega, by go_num, st.out⟩
     case measure => simp [intOf] <;> omega
    ·obtain rfl : N = k := by omega
     go_wp2
     go_roundw
     case rel => exact ⟨i + 1, by omega, by go_num, by rw [Nat.succ_mul]; exact st⟩
     case measure => simp [intOf] <;> omega
  ·obtain rfl : N = i := by omega
   obtain ⟨ao, mm, kk, KT, ho, B2⟩ := st
   rw [HTT.out] at ho
   obtain ⟨ao', c', e'⟩ := ho.sliced
   simp only [Value.slice.injEq] at e'
   obtain ⟨rfl, rfl, rfl⟩ := e'
   have KR := HKR.out.below B2 (Nat.lt_succ_self _)
   have BW := HB0.out.trans (B2.mono (show w.heap.size ≤ g + 1 by omega))
   have k0 := KT.cell 0; have k1 := KT.cell 1; have k2 := KT.cell 2
   have f0 := KR.free 0; have f1 := KR.free 1; have f2 := KR.free 2
   have r0 := KR.cell 0; have r1 := KR.cell 1; have r2 := KR.cell 2
   have KF := ((KR.set 0 (.int .i64 N)).set 1 (.int .i64 N)).set 2 (.slice ao (tbv Q).length kk)
   have d0 := KF.cell 0; have d1 := KF.cell 1; have d2 := KF.cell 2
   have hg1 : g < g + 1 + 1 := by omega
   have hof := ((ho.low (a := ⟨g, 0, none⟩) hg1 (.int .i64 N)).low (a := ⟨g, 1, none⟩) hg1 (.int .i64 N)).low (a := ⟨g, 2, none⟩) hg1 (.slice ao (tbv Q).length kk)
   have BF := ((BW.setCell (p := ⟨g, 0, none⟩) hgw (.int .i64 N)).setCell (p := ⟨g, 1, none⟩) hgw (.int .i64 N)).setCell (p := ⟨g, 2, none⟩) hgw (.slice ao (tbv Q).length kk)
   have FR := Lib.hid (show RetFm p w N N Q (.returned (.agg #[.int .i64 N, .int .i64 N, .slice ao (tbv Q).length kk])) (((wr.setCell ⟨g, 0, none⟩ (.int .i64 N)).setCell ⟨g, 1, none⟩ (.int .i64 N)).setCell ⟨g, 2, none⟩ (.slice ao (tbv Q).length kk)) from
    ⟨ao, kk, rfl, hof.mono (by omega), BF⟩)
   clear KF KR hof BF BW B2 ho KT
   go_wp2
   exact bodyPost_ret (v := .agg #[.int .i64 N, .int .i64 N, .slice ao (tbv Q).length kk]) (by simp [results, Try.results49, go_sem, d0, d1, d2]) rfl FR.out
end Go.Proofs.Ytkmfhabgempjiaa
/- Layer 25: invariants of equivalent matrices; Frobenius of what is not square. -/
namespace Go.Proofs.Ytkmfhabgempjiaa
set_option maxHeartbeats 4000000
open Go.RowKit
section
open CR
variable {p n : Nat}
theorem smF_chain {A : MT (Zp p) n n} {W U V : (Nat → Nat → Pol (Zp p))} {X : MT (Pol (Zp p)) n n} (h : SmF A W U V X) : Chain (dgo n W) ∧ MT.of n n W = MT.of n n (dg (dgo n W)) := by
 obtain ⟨-, -, h3, h4, h5⟩ := h
 refine ⟨⟨fun i => ?_, fun i j hij => ?_⟩, MT.of_congr fun i k hi hk => ?_⟩
 ·unfold dgo; split
  ·exact h4 i (by assumption)
  ·exact Or.inl rfl
 ·unfold dgo
  by_cases hj : j < n
  ·rw [if_pos hj, if_pos (by omega)]; exact h5 i j hij hj
  ·rw [if_neg hj]; exact ⟨0, (mul_zero _).symm⟩
 ·unfold dg dgo
  by_cases e : i = k
  ·subst e; rw [if_pos rfl, if_pos hi]
  ·rw [if_neg e, h3 i k hi hk e]
theorem smF_same (tr : Trial p) {A B : MT (Zp p) n n} {W U V W2 U2 V2 : (Nat → Nat → Pol (Zp p))} {X X2 : MT (Pol (Zp p)) n n} (hE : Eqv (XA A) (XA B)) (h : SmF A W U V X) (h' : SmF B W2 U2 V2 X2) : ∀ k, k < n → W k k = W2 k k := by
 obtain ⟨c1, e1⟩ := smF_chain h
 obtain ⟨c2, e2⟩ := smF_chain h'
 have hE2 : Eqv (MT.of n n (dg (dgo n W))) (MT.of n n (dg (dgo n W2))) := by
  rw [← e1, ← e2]
  exact (h.1.eqv.symm.trans hE).trans h'.1.eqv
 intro k hk
 have := smith_unique tr c1 c2 hE2 k hk hk
 unfold dgo at this
 rwa [if_pos hk, if_pos hk] at this
theorem pks_same {W W2 : (Nat → Nat → Pol (Zp p))} : ∀ i, (∀ k, k < i → W k k = W2 k k) → pks W i = pks W2 i
 | 0, _ => rfl
 | i + 1, h => by rw [pks_succ, pks_succ, pks_same i fun k hk => h k (by omega), h i (by omega)]
theorem frM_same {A B : MT (Zp p) n n} {W W2 : (Nat → Nat → Pol (Zp p))} {X X2 : MT (Pol (Zp p)) n n} (h : ∀ k, k < n → W k k = W2 k k) : frM A W X = frM B W2 X2 := by
 have hp := pks_same (p := p) n h
 have hl : (prl A W X).length = (prl B W2 X2).length := by rw [prl_pks, prl_pks, List.length_map, List.length_map, hp]
 refine MT.of_congr fun i k _ _ => (fmE_congr (prl A W X) (prl B W2 X2) hl fun j hj1 hj2 => ?_).2 i k
 have hjp : j < (pks W n).length := by rw [prl_pks, List.length_map] at hj1; exact hj1
 have hjp2 : j < (pks W2 n).length := by rw [← hp]; exact hjp
 have a1 : (prl A W X)[j] = prts A W X ((pks W n).getD j 0) := by
  simp only [prl_pks, List.getElem_map, List.getD, List.getElem?_eq_getElem hjp, Option.getD_some]
 have a2 : (prl B W2 X2)[j] = prts B W2 X2 ((pks W2 n).getD j 0) := by
  simp only [prl_pks, List.getElem_map, List.getD, List.getElem?_eq_getElem hjp2, Option.getD_some]
 have hk := (pks_getD W n j hjp).1
 rw [a1, a2, ← hp]
 have hw := h _ hk
 refine ⟨?_, fun i _ => ?_⟩
 ·show pln (W _ _) - 1 = pln (W2 _ _) - 1
  rw [hw]
 ·show (W _ _).c i = (W2 _ _).c i
  rw [hw]
theorem ivl_mol (hp : FP p) (tr : Trial p) {A : MT (Zp p) n n} {W U V : (Nat → Nat → Pol (Zp p))} {X : MT (Pol (Zp p)) n n} (h : SmF A W U V X) {zz : List (List Nat)} (hz : IvL n W zz) (hn : n ≤ 50) : MoL p zz := fun j hj => by
 obtain ⟨h1, h2, h3⟩ := (ivl_bls hp tr h hz).2.2 j hj
 exact ⟨h1, h2, by omega⟩
end
def RetFrX (w : World) (e : Ending) (w' : World) : Prop := e = .returned (.tuple #[.agg #[.int .i64 0, .int .i64 0, .slice none 0 0], .agg #[.int .i64 0, .int .i64 0, .slice none 0 0], .int .i64 2]) ∧ Below w.heap.size w w'
set_option maxRecDepth 20000 in
theorem fb_Frobenius_no (p : Nat) (a : Value) (R C : Int) (xs : List Nat) (w : World) (hA : Fm w a R C xs) (hno : ¬ (Fd R C xs.length ∧ R = C)) :
  Calls Try.prog 57 #[.agg #[.int .u64 p], a] w (RetFrX w) := by
 obtain ⟨aA, cA, rfl⟩ := hA.agg
 obtain ⟨wb, ew, KF, KA, KR, KS, B0, hsz⟩ := boxes4 w 29 63 63 63 [.int .u64 p] [.int .i64 R, .int .i64 C, .slice aA xs.length cA] [.int .i64 0, .int .i64 0, .slice none 0 0] [.int .i64 0, .int .i64 0, .slice none 0 0]
 clear hsz
 replace hA := hA.next B0
 have HNO := Lib.hid hno; clear hno
 go_enter Try.func57, Try.ntmps57
 go_upto_region 1 with (fail)
 rw [← ew]
 obtain ⟨g, eg⟩ : ∃ g, g = w.heap.size := ⟨_, rfl⟩
 rw [← eg] at KF KA KR KS ⊢
 have hgw : w.heap.size ≤ g := by omega
 clear ew eg
 have q0 := KA.cell 0; have q1 := KA.cell 1; have q2 := KA.cell 2
 go_wp2_with fail
 refine (fb_square_no _ R C xs _ hA HNO.out).mono ?_; rintro e w2 ⟨rfl, b2⟩
 replace KR := KR.next b2; replace KS := KS.next b2
 replace B0 := B0.trans (b2.mono B0.size)
 clear q0 q1 q2 KA KF hA b2
 have e0 := KR.cell 0; have e1 := KR.cell 1; have e2 := KR.cell 2
 have f0 := KR.free 0; have f1 := KR.free 1; have f2 := KR.free 2
 have h0 := KS.cell 0; have h1 := KS.cell 1; have h2 := KS.cell 2
 have i0 := KS.free 0; have i1 := KS.free 1; have i2 := KS.free 2
 have K7 := ((KR.set 0 (.int .i64 0)).set 1 (.int .i64 0)).set 2 (.slice none 0 0)
 have U7 := ((KS.far (a := ⟨g + 1 + 1, 0, none⟩) (by simp) (.int .i64 0)).far (a := ⟨g + 1 + 1, 1, none⟩) (by simp) (.int .i64 0)).far (a := ⟨g + 1 + 1, 2, none⟩) (by simp) (.slice none 0 0)
 have K8 := ((K7.far (a := ⟨g + 1 + 1 + 1, 0, none⟩) (by simp) (.int .i64 0)).far (a := ⟨g + 1 + 1 + 1, 1, none⟩) (by simp) (.int .i64 0)).far (a := ⟨g + 1 + 1 + 1, 2, none⟩) (by simp) (.slice none 0 0)
 have U8 := ((U7.set 0 (.int .i64 0)).set 1 (.int .i64 0)).set 2 (.slice none 0 0)
 have d0 := K8.cell 0; have d1 := K8.cell 1; have d2 := K8.cell 2
 have d3 := U8.cell 0; have d4 := U8.cell 1; have d5 := U8.cell 2
 have m1 : w.heap.size ≤ g + 1 + 1 := by omega
 have m2 : w.heap.size ≤ g + 1 + 1 + 1 := by omega
 have FIN := Lib.hid (show RetFrX w (.returned (.tuple #[.agg #[.int .i64 0, .int .i64 0, .slice none 0 0], .agg #[.int .i64 0, .int .i64 0, .slice none 0 0], .int .i64 2])) ((((((w2.setCell ⟨g + 1 + 1, 0, none⟩ (.int .i64 0)).setCell ⟨g + 1 + 1, 1, none⟩ (.int .i64 0)).setCell ⟨g + 1 + 1, 2, none⟩ (.slice none 0 0)).setCell ⟨g + 1 + 1 + 1, 0, none⟩ (.int .i64 0)).setCell ⟨g + 1 + 1 + 1, 1, none⟩ (.int .i64 0)).setCell ⟨g + 1 + 1 + 1, 2, none⟩ (.slice none 0 0)) from
  ⟨rfl, (((((B0.setCell (p := ⟨g + 1 + 1, 0, none⟩) m1 _).setCell (p := ⟨g + 1 + 1, 1, none⟩) m1 _).setCell (p := ⟨g + 1 + 1, 2, none⟩) m1 _).setCell (p := ⟨g + 1 + 1 + 1, 0, none⟩) m2 _).setCell (p := ⟨g + 1 + 1 + 1, 1, none⟩) m2 _).setCell (p := ⟨g + 1 + 1 + 1, 2, none⟩) m2 _⟩)
 clear K7 U7 K8 U8 B0 KR KS
 go_wp2
 exact bodyPost_ret (v := .tuple #[.agg #[.int .i64 0, .int .i64 0, .slice none 0 0], .agg #[.int .i64 0, .int .i64 0, .slice none 0 0], .int .i64 2]) (by simp [results, Try.results57, go_sem, d0, d1, d2, d3, d4, d5]) rfl FIN.out
end Go.Proofs.Ytkmfhabgempjiaa
/- What the laws of layer 25 begin with: awake. -/
namespace Go.Proofs.Ytkmfhabgempjiaa
set_option maxHeartbeats 4000000
open Go.RowKit
set_option maxRecDepth 20000 in
theorem law25_awake (w : World) : Calls Try.prog 42 #[] w (LawOk w) := by
 obtain ⟨p, ep⟩ : ∃ p, p = Ps 3 := ⟨_, rfl⟩
 have hp : FP p := by rw [ep]; exact Ps_FP (by omega)
 have ht : Trial p := by rw [ep]; exact Ps_trial (by omega)
 have c0 : ∀ w : World, Calls Try.prog 17 #[.int .u8 3] w fun e w' => e = .returned (.agg #[.int .u64 (p : Nat)]) ∧ Below w.heap.size w w' := fun w => by rw [ep]; exact law9_Of 3 w
 have h5 : Zp.of p 5 = -Zp.of p 2 := by rw [ep]; rfl
 have hn1 : Nrm p [5, 1] := by rw [ep]; exact ⟨wf_cons (by decide) (wf_cons (by decide) (wf_nil _)), rfl⟩
 have C0 := Lib.hid c0; have HP := Lib.hid hp; have HT := Lib.hid ht; have H5 := Lib.hid h5; have HN1 := Lib.hid hn1
 clear c0 hp ht h5 hn1 ep
 go_enter Try.func42, Try.ntmps42
 go_wp2_with fail
 refine (C0.out _).mono ?_; rintro e w1 ⟨rfl, b1⟩
 go_wp2_with fail
 obtain ⟨w2, e2, k1, B2, -⟩ := boxes1 w1 27 [.int .u64 2, .int .u64 0, .int .u64 0, .int .u64 2]
 rw [← e2]
 have B3 := b1.trans (B2.mono b1.size)
 have hA : Fm w2 (.agg #[.int .i64 2, .int .i64 2, .slice (some ⟨w1.heap.size, 0, none⟩) 4 4]) (2 : Nat) (2 : Nat) [2, 0, 0, 2] := ⟨_, rfl, Blk.sl (xs := [2, 0, 0, 2]) k1⟩
 refine (fb_Invariants p _ 2 [2, 0, 0, 2] w2 HP.out HT.out hA (by omega) rfl).mono ?_
 rintro e w3 ⟨W, U, V, X, h1, -, h3, h4, -, iv, us, rfl, QI, b3⟩
 obtain ⟨e0, e1, e4⟩ := awk25 HT.out H5.out h1 h3 h4
 rw [e0] at QI
 have B4 := B3.trans (b3.mono B3.size)
 obtain ⟨hrow, hul, hel⟩ := QI
 obtain ⟨u0, u1, rfl⟩ : ∃ u0 u1, us = [u0, u1] := by
  match us, hul with
  | [a, b], _ => exact ⟨a, b, rfl⟩
 obtain ⟨z0, o0, n0, v0, -⟩ := hel 0 u0 rfl
 obtain ⟨z1, o1, n1, v1, -⟩ := hel 1 u1 rfl
 obtain rfl : z0 = [5, 1] := pl_inj HP.out.pos n0 HN1.out (v0.trans e1)
 obtain rfl : z1 = [5, 1] := pl_inj HP.out.pos n1 HN1.out (v1.trans e4)
 obtain ⟨gb, cap, rfl⟩ : ∃ b cap, iv = .slice (some ⟨b, 0, none⟩) 2 cap := by
  rcases rowOwn_shape hrow with ⟨_, e2⟩ | ⟨b, cap, e1, _⟩
  ·simp at e2
  ·exact ⟨b, cap, e1⟩
 have q0 : w3.cell? ⟨gb, 0, none⟩ = some u0 := World.ownsRow.cellAt hrow 0 (by decide)
 have q1 : w3.cell? ⟨gb, 1, none⟩ = some u1 := World.ownsRow.cellAt hrow 1 (by decide)
 obtain ⟨a0, c0, h0⟩ := o0.sliced
 obtain ⟨a1, c1, h1⟩ := o1.sliced
 rw [h0] at q0 o0; rw [h1] at q1 o1
 have gl : gb < w3.heap.size := (rowOwn_tyb hrow rfl).2.2
 have HS0 := Lib.hid o0; have HS1 := Lib.hid o1
 clear hrow hel h3 h4 o0 o1 n0 v0 n1 v1 e0 e1 e4 h0 h1 B3 b3 hA e2 k1 b1 B2
 have b7 := (Below.refl w3.heap.size w3).alloc (Nat.le_refl _) (.cells #[.int .u64 5, .int .u64 1] 27)
 have l7 := own_lit2 w3 5 1
 have q1' := (b7.cell (p := ⟨gb, 1, none⟩) gl).trans q1
 go_wp2_with fail
 refine (ref9_Same _ _ [5, 1] [5, 1] true _ (HS0.out.next b7).sl l7.sl (by simp) (by simp) (decide_eq_true rfl).symm).mono ?_; rintro e w8 ⟨rfl, q8⟩
 have b8 := b7.trans (q8.below w3.heap.size)
 have HS1' := HS1.out.next b8
 have B5 := B4.trans (b8.mono B4.size)
 have q1'' := (q8.below _).cell (p := ⟨gb, 1, none⟩) (by have := b7.size; omega) |>.trans q1'
 clear HS0 HS1 l7 q0 q1 q1' b7 q8 b8 B4
 have b9 := (Below.refl w8.heap.size w8).alloc (Nat.le_refl _) (.cells #[.int .u64 5, .int .u64 1] 27)
 have l9 := own_lit2 w8 5 1
 go_wp2_with fail
 refine (ref9_Same _ _ [5, 1] [5, 1] true _ (HS1'.next b9).sl l9.sl (by simp) (by simp) (decide_eq_true rfl).symm).mono ?_; rintro e w10 ⟨rfl, q10⟩
 have FIN := Lib.hid (show LawOk w (.returned (.bool true)) w10 from ⟨rfl, (B5.trans (b9.mono B5.size)).trans (q10.below w.heap.size)⟩)
 clear HS1' q1'' l9 b9 q10 B5
 go_wp2
 go_ret
 exact FIN.out
end Go.Proofs.Ytkmfhabgempjiaa
/- fmat.Same. -/
namespace Go.Proofs.Ytkmfhabgempjiaa
set_option maxHeartbeats 4000000
open Go.RowKit
set_option maxRecDepth 20000 in
theorem fm_Same1 (p gF x y : Nat) (β : Bool) (w : World) (hp : FP p) (KF : Blk 29 w gF [.int .u64 p]) (hβ : β = decide (x % p = y % p)) :
  Calls Try.prog 148 #[.int .u64 x, .int .u64 y, .pointer (some ⟨gF, 0, none⟩)] w (RetW w (.bool β)) := by
 have hb : ((((x % p : Nat) : Int)) == ((y % p : Nat) : Int)) = β := by
  rw [hβ]
  by_cases h : x % p = y % p
  ·rw [decide_eq_true h, h]; simp
  ·rw [decide_eq_false h]; simp; omega
 obtain ⟨x1, ex1⟩ : ∃ z, z = x % p := ⟨_, rfl⟩
 obtain ⟨y1, ey1⟩ : ∃ z, z = y % p := ⟨_, rfl⟩
 rw [← ex1, ← ey1] at hb
 have HP := Lib.hid hp; have EX := Lib.hid ex1; have EY := Lib.hid ey1
 clear hp hβ ex1 ey1
 go_enter Try.func148, Try.ntmps148
 go_upto_region 1 with (fail)
 have bd := dw w
 replace KF := KF.next bd
 refine startL (S := (fun w' => Below (w.drew).heap.size (w.drew) w')) (by kernel_rfl) (Below.refl _ _) (fun hHeld => ?_)
 refine tg 0 rfl (fun w hS => by have f1 := (KF.at hS) 0; go_simp <;> with_reducible rfl) ?_
 refine tk 1 ?_
 refine tg 3 rfl (fun w hS => by have f1 := (KF.at hS) 0; go_simp <;> with_reducible rfl) ?_
 refine tk 4 ?_
 refine on 2 fun K hK => ?_
 go_simp
 go_at_call 134
 (with_reducible refine (gfp_Norm p x _ HP.out).mono ?_); rintro e w2 ⟨rfl, b2⟩; rw [← EX.out]
 refine hK.out _ _ (hHeld.trans (b2.mono hHeld.size)) (fun hHeld => ?_)
 clear hK K
 try simp only [Act.put, zq1, zq2, zq3]
 refine on 5 fun K hK => ?_
 go_simp
 go_at_call 134
 (with_reducible refine (gfp_Norm p y _ HP.out).mono ?_); rintro e w3 ⟨rfl, b3⟩; rw [← EY.out]
 refine hK.out _ _ (hHeld.trans (b3.mono hHeld.size)) (fun hHeld => ?_)
 clear hK K
 try simp only [Act.put, zq1, zq2, zq3]
 refine tk 6 ?_
 refine tk 7 ?_
 refine doneL (by kernel_rfl) ?_ _
 have B2 := bd.trans (hHeld.mono bd.size)
 clear hHeld bd KF
 go_wp2
 go_ret
 exact ⟨rfl, B2⟩
set_option maxRecDepth 20000 in
theorem ef_words (p gF m : Nat) (v u : Value) (xs ys : List Nat) (w : World) (hp : FP p) (KF : Blk 29 w gF [.int .u64 p]) (hv : Sl .u64 w v xs) (hu : Sl .u64 w u ys) (hq : xs.length = m) (hr : ys.length = m) (hm : m ≤ 1000000) (β : Bool) (hβ : β = true ↔ ∀ j, j < m → xs.getD j 0 % p = ys.getD j 0 % p) :
  Calls Try.prog 147 #[v, u, .func (.func 148) #[] #[.pointer (some ⟨gF, 0, none⟩)]] w (RetW w (.bool β)) := by
 obtain ⟨ao, b, off, cap, rfl, hcap, hA⟩ := hv
 obtain ⟨ao', b', off', cap', rfl, hcap', hA'⟩ := hu
 rw [hq] at hcap ⊢; rw [hr] at hcap' ⊢
 have HP := Lib.hid hp; have HA := Lib.hid hA; have HA' := Lib.hid hA'; have HB := Lib.hid hβ; have HQ := Lib.hid hq; have HR := Lib.hid hr
 have hmm : ((m : Int) != (m : Int)) = false := by simp
 clear hp hA hA' hβ hq hr
 go_enter Try.func147, Try.ntmps147
 go_wp2
 go_loopw [17] (fun kv wr => ∃ k : Nat, k ≤ m ∧ kv = .int .i64 k ∧ Hid (∀ j, j < k → xs.getD j 0 % p = ys.getD j 0 % p) ∧ Below w.heap.size w wr) (fun kv _ => m - (intOf kv).toNat)
 case atStart => exact ⟨0, by omega, rfl, Lib.hid (fun j h => by omega), Below.refl _ _⟩
 case round =>
  obtain ⟨k, hk, rfl, HK, hB⟩ := hrel
  by_cases hkm : k < m
  ·have hx := HA.out.below hB (Nat.le_refl _)
   have hy := HA'.out.below hB (Nat.le_refl _)
   obtain rfl := HA.out.ao (by intro h; have h1 := HQ.out; rw [h] at h1; simp at h1; omega)
   obtain rfl := HA'.out.ao (by intro h; have h1 := HR.out; rw [h] at h1; simp at h1; omega)
   have q1 := hx.cell k (by rw [HQ.out]; exact hkm)
   have q2 := hy.cell k (by rw [HR.out]; exact hkm)
   obtain ⟨x, ex⟩ : ∃ x, x = xs.getD k 0 := ⟨_, rfl⟩
   obtain ⟨y, ey⟩ : ∃ y, y = ys.getD k 0 := ⟨_, rfl⟩
   rw [← ex] at q1
   rw [← ey] at q2
   have KF2 := KF.below hB KF.lt
   obtain ⟨γ, eγ⟩ : ∃ γ, γ = decide (x % p = y % p) := ⟨_, rfl⟩
   have EG := Lib.hid eγ; have EX := Lib.hid ex; have EY := Lib.hid ey
   clear eγ ex ey hx hy
   go_wp2_with fail
   refine (fm_Same1 p gF x y γ wr HP.out KF2 EG.out).mono ?_; rintro e w2 ⟨rfl, b2⟩
   have B2 := hB.trans (b2.mono hB.size)
   clear b2 q1 q2 KF2 hB
   cases γ with
   | true =>
    have HN := Lib.hid (show ∀ j, j < k + 1 → xs.getD j 0 % p = ys.getD j 0 % p from fun j hj => by
     by_cases e : j = k
     ·rw [e, ← EX.out, ← EY.out]; exact of_decide_eq_true EG.out.symm
     ·exact HK.out j (by omega))
    go_wp2
    go_roundw
    case rel => exact ⟨k + 1, by omega, by go_num, HN, B2⟩
    case measure => simp [intOf] <;> omega
   | false =>
    have e : β = false := by
     cases β with
     | false => rfl
     | true =>
      have h1 := HB.out.1 rfl k hkm
      rw [← EX.out, ← EY.out] at h1
      exact absurd h1 (of_decide_eq_false EG.out.symm)
    subst e
    go_wp2
    go_ret
    exact ⟨rfl, B2⟩
  ·obtain rfl : m = k := by omega
   have e : β = true := HB.out.2 fun j hj => HK.out j hj
   subst e
   go_wp2
   go_ret
   exact ⟨rfl, hB⟩
theorem fm_Same (p : Nat) (a b : Value) (r c : Nat) (xs ys : List Nat) (w : World) (hp : FP p) (hA : Fm w a r c xs) (hB : Fm w b r c ys) (hr : r ≤ 64) (hc : c ≤ 64) (hx : xs.length = r * c) (hy : ys.length = r * c) (β : Bool) (hβ : β = true ↔ ∀ j, j < r * c → xs.getD j 0 % p = ys.getD j 0 % p) :
  Calls Try.prog 115 #[.agg #[.int .u64 p], a, b] w (RetW w (.bool β)) := by
 have hrc : r * c ≤ 4096 := Nat.mul_le_mul hr hc
 obtain ⟨aA, cA, rfl⟩ := hA.agg
 obtain ⟨aB, cB, rfl⟩ := hB.agg
 obtain ⟨m, em⟩ : ∃ m, m = r * c := ⟨_, rfl⟩
 obtain ⟨wb, ew, KF, KA, KB, B0, hsz⟩ := boxes3 w 29 63 63 [.int .u64 p] [.int .i64 r, .int .i64 c, .slice aA xs.length cA] [.int .i64 r, .int .i64 c, .slice aB ys.length cB]
 clear hsz
 replace hA := hA.next B0; replace hB := hB.next B0
 have HP := Lib.hid hp; have HB := Lib.hid hβ; have HX := Lib.hid hx; have HY := Lib.hid hy; have HM := Lib.hid em
 clear hp hβ hx hy
 rw [← em] at hrc
 clear em
 go_enter Try.func115, Try.ntmps115
 go_upto_region 1 with (fail)
 rw [← ew]
 clear ew
 have q0 := KA.cell 0; have q1 := KA.cell 1; have q2 := KA.cell 2; have q3 := KB.cell 0; have q4 := KB.cell 1; have q5 := KB.cell 2
 go_wp2_with fail
 refine (fm_alike_yes _ _ r c r c xs ys _ hA hB ⟨Fd.of hr hc HX.out, Fd.of hr hc HY.out, rfl, rfl⟩).mono ?_; rintro e w2 ⟨rfl, b2⟩
 clear q0 q1 q2 q3 q4 q5
 replace KA := KA.next b2; replace KB := KB.next b2; replace KF := KF.next b2; replace hA := hA.next b2; replace hB := hB.next b2
 replace B0 := B0.trans (b2.mono B0.size)
 clear b2
 have q2 := KA.cell 2; have q5 := KB.cell 2
 obtain ⟨u1, e1, n1⟩ := hA
 obtain ⟨u2, e2, n2⟩ := hB
 simp only [Value.agg.injEq, Array.mk.injEq, List.cons.injEq, true_and, and_true] at e1 e2
 subst e1 e2
 go_wp2_with fail
 refine (ef_words p w.heap.size m _ _ xs ys _ HP.out KF n1 n2 (by rw [HX.out, HM.out]) (by rw [HY.out, HM.out]) (by omega) β (by rw [HM.out]; exact HB.out)).mono ?_; rintro e w3 ⟨rfl, b3⟩
 replace B0 := B0.trans (b3.mono B0.size)
 clear q2 q5 n1 n2 KA KB KF b3
 go_wp2
 go_ret
 exact ⟨rfl, B0⟩
end Go.Proofs.Ytkmfhabgempjiaa
/- Layer 25: Similar. -/
namespace Go.Proofs.Ytkmfhabgempjiaa
set_option maxHeartbeats 4000000
open Go.RowKit
section
open CR
variable {p n : Nat}
theorem tbv_same (hp : FP p) {M N : MT (Zp p) n n} (h : ∀ j, j < n * n → (tbv M).getD j 0 % p = (tbv N).getD j 0 % p) : M = N := by
 rw [← mx_tbv M, ← mx_tbv N]
 refine MT.ext fun i k hi hk => ?_
 rw [mx_e _ hi hk, mx_e _ hi hk]
 have := h (i * n + k) (at_lt rfl hi hk)
 have hp2 := hp.1
 rw [← Zp.of_mod, this, Zp.of_mod]
theorem sim_by {A B M Y Q I : MT (Zp p) n n} (h1 : Y * A = M * Y) (h2 : Q * B = M * Q) (hQ : Inv Q I) (hY : ∃ Y' : MT (Zp p) n n, Inv Y Y') : (∃ Z' : MT (Zp p) n n, Inv (I * Y) Z') ∧ I * Y * A = B * (I * Y) := by
 obtain ⟨Y', hY⟩ := hY
 refine ⟨⟨_, hQ.symm.mul hY⟩, ?_⟩
 have e1 : B * I = I * M := by
  have e2 : B * I = I * (Q * B) * I := by rw [← MT.mul_assoc, hQ.2, MT.one_mul]
  rw [e2, h2, MT.mul_assoc, MT.mul_assoc, hQ.1, MT.mul_one]
 rw [MT.mul_assoc, h1, ← MT.mul_assoc, ← MT.mul_assoc, e1]
theorem sim_eqv {A B Z Z' : MT (Zp p) n n} (hZ : Inv Z Z') (h : Z * A = B * Z) : Eqv (XA A) (XA B) := by
 have e := XA_conj h
 have hi : Inv (cst Z) (cst Z') := ⟨by rw [← cst_mul, hZ.1, cst_one], by rw [← cst_mul, hZ.2, cst_one]⟩
 exact ⟨cst Z, cst Z', cst Z', cst Z, hi, hi.symm, by rw [e, MT.mul_assoc, hi.1, MT.mul_one]⟩
end
theorem fm_Inverse_det0 (p : Nat) (a : Value) (n : Nat) (xs : List Nat) (w : World) (hp : FP p) (ht : Trial p) (hA : Fm w a n n xs) (hn : n ≤ 64) (hx : xs.length = n * n) (hd : (mx p n n xs).det = 0) :
  Calls Try.prog 62 #[.agg #[.int .u64 p], a] w (RetFX w 3) :=
 (fm_Inverse p a n xs w hp ht hA hn hx).mono fun _ _ h => h.elim (fun ⟨_, hI, _⟩ => absurd hd (inv_det (Zp.one_ne ht) hI)) And.right
def RetSi (p : Nat) (w : World) (n : Nat) (A B : MT (Zp p) n n) (e : Ending) (w' : World) : Prop :=
 ∃ (W U V W2 U2 V2 : (Nat → Nat → Pol (Zp p))) (X X2 : MT (Pol (Zp p)) n n), SmF A W U V X ∧ SmF B W2 U2 V2 X2 ∧
  ((frM A W X = frM B W2 X2 ∧ ∃ Z : MT (Zp p) n n, (∃ Z' : MT (Zp p) n n, Inv Z Z') ∧ Z * A = B * Z ∧ RetFE p w n n Z e w') ∨ (frM A W X ≠ frM B W2 X2 ∧ RetFX w 10 e w'))
set_option maxRecDepth 20000 in
theorem fb_Similar (p : Nat) (a b : Value) (n : Nat) (xs ys : List Nat) (w : World) (hp : FP p) (tr : Trial p) (hA : Fm w a n n xs) (hB : Fm w b n n ys) (hn : n ≤ 4) (hx : xs.length = n * n) (hy : ys.length = n * n) :
  Calls Try.prog 63 #[.agg #[.int .u64 p], a, b] w (RetSi p w n (mx p n n xs) (mx p n n ys)) := by
 obtain ⟨aA, cA, rfl⟩ := hA.agg
 obtain ⟨aB, cB, rfl⟩ := hB.agg
 obtain ⟨wb, ew, KF, KA, KB, KR, B0, hsz⟩ := boxes4 w 29 63 63 63 [.int .u64 p] [.int .i64 n, .int .i64 n, .slice aA xs.length cA] [.int .i64 n, .int .i64 n, .slice aB ys.length cB] [.int .i64 0, .int .i64 0, .slice none 0 0]
 clear hsz
 replace hA := hA.next B0; replace hB := hB.next B0
 have HX := Lib.hid hx; have HY := Lib.hid hy; have HP := Lib.hid hp; have HT := Lib.hid tr; clear hx hy hp tr
 have hnn : ((n : Int) != (n : Int)) = false := by simp
 obtain ⟨A, eA⟩ : ∃ A, A = mx p n n xs := ⟨_, rfl⟩
 obtain ⟨B, eB⟩ : ∃ B, B = mx p n n ys := ⟨_, rfl⟩
 rw [← eA, ← eB]
 have EA := Lib.hid eA; have EB := Lib.hid eB; clear eA eB
 go_enter Try.func63, Try.ntmps63
 go_upto_region 1 with (fail)
 rw [← ew]
 obtain ⟨g, eg⟩ : ∃ g, g = w.heap.size := ⟨_, rfl⟩
 rw [← eg] at KF KA KB KR ⊢
 have hgw : w.heap.size ≤ g := by omega
 clear ew eg
 have qKA0 := KA.cell 0
 have qKA1 := KA.cell 1
 have qKA2 := KA.cell 2
 go_wp2_with fail
 refine (fb_square_yes _ n xs _ hA (by omega) HX.out).mono ?_; rintro e w1 ⟨rfl, b1⟩
 clear qKA0 qKA1 qKA2
 replace KF := KF.next b1
 replace KA := KA.next b1
 replace KB := KB.next b1
 replace KR := KR.next b1
 replace hA := hA.next b1
 replace hB := hB.next b1
 replace B0 := B0.trans (b1.mono B0.size)
 clear b1
 have qKB0 := KB.cell 0
 have qKB1 := KB.cell 1
 have qKB2 := KB.cell 2
 go_wp2_with fail
 refine (fb_square_yes _ n ys _ hB (by omega) HY.out).mono ?_; rintro e w2 ⟨rfl, b2⟩
 clear qKB0 qKB1 qKB2
 replace KF := KF.next b2
 replace KA := KA.next b2
 replace KB := KB.next b2
 replace KR := KR.next b2
 replace hA := hA.next b2
 replace hB := hB.next b2
 replace B0 := B0.trans (b2.mono B0.size)
 clear b2
 have qKA0 := KA.cell 0
 have qKB0 := KB.cell 0
 go_upto_region 3 with (fail)
 clear qKA0 qKB0
 have qKF0 := KF.cell 0
 have qKA0 := KA.cell 0
 have qKA1 := KA.cell 1
 have qKA2 := KA.cell 2
 go_wp2_with fail
 refine (fb_Frobenius p _ n xs _ HP.out HT.out hA hn HX.out).mono ?_; rintro e w3 ⟨W1, U1, V1, X1, M1, Y1, hS, hM, hdY, hYA, aM1, kM1, aY1, kY1, rfl, oM, oY, b3⟩; rw [← EA.out] at hS hM hYA
 clear qKF0 qKA0 qKA1 qKA2
 replace KF := KF.next b3
 replace KA := KA.next b3
 replace KB := KB.next b3
 replace KR := KR.next b3
 replace hA := hA.next b3
 replace hB := hB.next b3
 replace B0 := B0.trans (b3.mono B0.size)
 clear b3
 have mM1 : Fm w3 (.agg #[.int .i64 n, .int .i64 n, .slice aM1 (n * n) kM1]) n n (tbv M1) := ⟨_, rfl, oM.sl⟩
 have mY1 : Fm w3 (.agg #[.int .i64 n, .int .i64 n, .slice aY1 (n * n) kY1]) n n (tbv Y1) := ⟨_, rfl, oY.sl⟩
 have lM1 := Lib.hid (tbv_length M1); have lY1 := Lib.hid (tbv_length Y1)
 have HS1 := Lib.hid hS; have HM1 := Lib.hid hM; have HD1 := Lib.hid hdY; have HQ1 := Lib.hid hYA
 clear oM oY hS hM hdY hYA
 obtain ⟨w4, e4, KM1, KY1, b4, hs4⟩ := boxes2 w3 63 63 [.int .i64 n, .int .i64 n, .slice aM1 (n * n) kM1] [.int .i64 n, .int .i64 n, .slice aY1 (n * n) kY1]
 clear hs4
 replace KF := KF.next b4
 replace KA := KA.next b4
 replace KB := KB.next b4
 replace KR := KR.next b4
 replace hA := hA.next b4
 replace hB := hB.next b4
 replace mM1 := mM1.next b4
 replace mY1 := mY1.next b4
 replace B0 := B0.trans (b4.mono B0.size)
 clear b4
 go_upto_region 6 with (fail)
 rw [← e4]
 clear e4
 have qKF0 := KF.cell 0
 have qKB0 := KB.cell 0
 have qKB1 := KB.cell 1
 have qKB2 := KB.cell 2
 go_wp2_with fail
 refine (fb_Frobenius p _ n ys _ HP.out HT.out hB hn HY.out).mono ?_; rintro e w5 ⟨W2, U2, V2, X2, M2, Y2, hS, hM, hdY, hYA, aM2, kM2, aY2, kY2, rfl, oM, oY, b5⟩; rw [← EB.out] at hS hM hYA
 clear qKF0 qKB0 qKB1 qKB2
 replace KF := KF.next b5
 replace KA := KA.next b5
 replace KB := KB.next b5
 replace KR := KR.next b5
 replace hA := hA.next b5
 replace hB := hB.next b5
 replace mM1 := mM1.next b5
 replace mY1 := mY1.next b5
 replace KM1 := KM1.next b5
 replace KY1 := KY1.next b5
 replace B0 := B0.trans (b5.mono B0.size)
 clear b5
 have mM2 : Fm w5 (.agg #[.int .i64 n, .int .i64 n, .slice aM2 (n * n) kM2]) n n (tbv M2) := ⟨_, rfl, oM.sl⟩
 have mY2 : Fm w5 (.agg #[.int .i64 n, .int .i64 n, .slice aY2 (n * n) kY2]) n n (tbv Y2) := ⟨_, rfl, oY.sl⟩
 have lM2 := Lib.hid (tbv_length M2); have lY2 := Lib.hid (tbv_length Y2)
 have HS2 := Lib.hid hS; have HM2 := Lib.hid hM; have HD2 := Lib.hid hdY; have HQ2 := Lib.hid hYA
 clear oM oY hS hM hdY hYA
 obtain ⟨w6, e6, KM2, KY2, b6, hs6⟩ := boxes2 w5 63 63 [.int .i64 n, .int .i64 n, .slice aM2 (n * n) kM2] [.int .i64 n, .int .i64 n, .slice aY2 (n * n) kY2]
 clear hs6
 replace KF := KF.next b6
 replace KA := KA.next b6
 replace KB := KB.next b6
 replace KR := KR.next b6
 replace hA := hA.next b6
 replace hB := hB.next b6
 replace mM1 := mM1.next b6
 replace mY1 := mY1.next b6
 replace KM1 := KM1.next b6
 replace KY1 := KY1.next b6
 replace mM2 := mM2.next b6
 replace mY2 := mY2.next b6
 replace B0 := B0.trans (b6.mono B0.size)
 clear b6
 go_upto_region 7 with (fail)
 rw [← e6]
 clear e6
 by_cases hMM : M1 = M2
 ·subst hMM
  have qKF0 := KF.cell 0
  have qKM10 := KM1.cell 0
  have qKM11 := KM1.cell 1
  have qKM12 := KM1.cell 2
  have qKM20 := KM2.cell 0
  have qKM21 := KM2.cell 1
  have qKM22 := KM2.cell 2
  go_wp2_with fail
  refine (fm_Same p _ _ n n (tbv M1) (tbv M1) _ HP.out mM1 mM2 (by omega) (by omega) lM1.out lM1.out true ⟨fun _ _ _ => rfl, fun _ => rfl⟩).mono ?_; rintro e w7 ⟨rfl, b7⟩
  clear qKF0 qKM10 qKM11 qKM12 qKM20 qKM21 qKM22
  replace KF := KF.next b7
  replace KA := KA.next b7
  replace KB := KB.next b7
  replace KR := KR.next b7
  replace hA := hA.next b7
  replace hB := hB.next b7
  replace mM1 := mM1.next b7
  replace mY1 := mY1.next b7
  replace KM1 := KM1.next b7
  replace KY1 := KY1.next b7
  replace mM2 := mM2.next b7
  replace mY2 := mY2.next b7
  replace KM2 := KM2.next b7
  replace KY2 := KY2.next b7
  replace B0 := B0.trans (b7.mono B0.size)
  clear b7
  clear mM1 mM2 KM1 KM2 hA hB KA KB
  go_upto_region 11 with (fail)
  have qKF0 := KF.cell 0
  have qKY20 := KY2.cell 0
  have qKY21 := KY2.cell 1
  have qKY22 := KY2.cell 2
  go_wp2_with fail
  refine (fm_Inverse_ok p _ n (tbv Y2) _ HP.out HT.out mY2 (by omega) lY2.out (by rw [mx_tbv]; exact inv_det (Zp.one_ne HT.out) HD2.out.choose_spec)).mono ?_; rintro e w8 ⟨I, hI, aI, kI, rfl, oI, b8⟩; rw [mx_tbv] at hI
  clear qKF0 qKY20 qKY21 qKY22
  replace KF := KF.next b8
  replace KR := KR.next b8
  replace mY1 := mY1.next b8
  replace KY1 := KY1.next b8
  replace mY2 := mY2.next b8
  replace KY2 := KY2.next b8
  replace B0 := B0.trans (b8.mono B0.size)
  clear b8
  have lI := Lib.hid (tbv_length I)
  have mI : Fm w8 (.agg #[.int .i64 n, .int .i64 n, .slice aI (tbv I).length kI]) n n (tbv I) := ⟨_, rfl, oI.sl⟩
  have hZ := Lib.hid (sim_by HQ1.out HQ2.out hI HD1.out)
  clear oI hI
  obtain ⟨w9, e9, KI, b9, hs9⟩ := boxes1 w8 63 [.int .i64 n, .int .i64 n, .slice aI (tbv I).length kI]
  clear hs9
  replace KF := KF.next b9
  replace KR := KR.next b9
  replace mY1 := mY1.next b9
  replace KY1 := KY1.next b9
  replace mY2 := mY2.next b9
  replace KY2 := KY2.next b9
  replace mI := mI.next b9
  replace B0 := B0.trans (b9.mono B0.size)
  clear b9
  go_upto_region 12 with (fail)
  rw [← e9]
  clear e9
  have qKF0 := KF.cell 0
  have qKI0 := KI.cell 0
  have qKI1 := KI.cell 1
  have qKI2 := KI.cell 2
  have qKY10 := KY1.cell 0
  have qKY11 := KY1.cell 1
  have qKY12 := KY1.cell 2
  have hww := B0.size
  have hgb := KR.lt
  go_wp2_with fail
  refine (fm_Mul p _ _ n n n (tbv I) (tbv Y1) _ HP.out mI mY1 (by omega) (by omega) (by omega) lI.out lY1.out).mono ?_; rintro e w10 ⟨aZ, kZ, rfl, oZ, b10⟩; rw [mx_tbv, mx_tbv] at oZ; rw [mx_tbv, mx_tbv]; obtain ⟨Z, eZ⟩ : ∃ Z, Z = I * Y1 := ⟨_, rfl⟩; rw [← eZ] at oZ hZ ⊢; clear eZ
  clear qKF0 qKI0 qKI1 qKI2 qKY10 qKY11 qKY12
  replace KF := KF.next b10
  replace KR := KR.next b10
  replace mY1 := mY1.next b10
  replace KY1 := KY1.next b10
  replace mY2 := mY2.next b10
  replace KY2 := KY2.next b10
  replace mI := mI.next b10
  replace KI := KI.next b10
  replace B0 := B0.trans (b10.mono B0.size)
  clear b10
  clear KF KY1 KY2 KI mY1 mY2 mI
  have f0 := KR.free 0; have f1 := KR.free 1; have f2 := KR.free 2
  have c0 := KR.cell 0; have c1 := KR.cell 1; have c2 := KR.cell 2
  have KF2 := ((KR.set 0 (.int .i64 n)).set 1 (.int .i64 n)).set 2 (.slice aZ (tbv Z).length kZ)
  have d0 := KF2.cell 0; have d1 := KF2.cell 1; have d2 := KF2.cell 2
  have hgy : w.heap.size ≤ g + 1 + 1 + 1 := by omega
  have of := ((oZ.low (a := ⟨g + 1 + 1 + 1, 0, none⟩) hgb (.int .i64 n)).low (a := ⟨g + 1 + 1 + 1, 1, none⟩) hgb (.int .i64 n)).low (a := ⟨g + 1 + 1 + 1, 2, none⟩) hgb (.slice aZ (tbv Z).length kZ)
  have BF := ((B0.setCell (p := ⟨g + 1 + 1 + 1, 0, none⟩) hgy (.int .i64 n)).setCell (p := ⟨g + 1 + 1 + 1, 1, none⟩) hgy (.int .i64 n)).setCell (p := ⟨g + 1 + 1 + 1, 2, none⟩) hgy (.slice aZ (tbv Z).length kZ)
  have FR := Lib.hid (show RetSi p w n A B (.returned (.tuple #[.agg #[.int .i64 n, .int .i64 n, .slice aZ (tbv Z).length kZ], .int .i64 0])) (((w10.setCell ⟨g + 1 + 1 + 1, 0, none⟩ (.int .i64 n)).setCell ⟨g + 1 + 1 + 1, 1, none⟩ (.int .i64 n)).setCell ⟨g + 1 + 1 + 1, 2, none⟩ (.slice aZ (tbv Z).length kZ)) from
   ⟨W1, U1, V1, W2, U2, V2, X1, X2, HS1.out, HS2.out, .inl ⟨by rw [← HM1.out, HM2.out], Z, hZ.out.1, hZ.out.2, aZ, kZ, rfl, of.mono hww, BF⟩⟩)
  clear KF2 KR of BF B0 oZ hgb
  go_wp2
  exact bodyPost_ret (v := .tuple #[.agg #[.int .i64 n, .int .i64 n, .slice aZ (tbv Z).length kZ], .int .i64 0]) (by simp [results, Try.results63, go_sem, d0, d1, d2]) rfl FR.out
 ·have qKF0 := KF.cell 0
  have qKM10 := KM1.cell 0
  have qKM11 := KM1.cell 1
  have qKM12 := KM1.cell 2
  have qKM20 := KM2.cell 0
  have qKM21 := KM2.cell 1
  have qKM22 := KM2.cell 2
  go_wp2_with fail
  refine (fm_Same p _ _ n n (tbv M1) (tbv M2) _ HP.out mM1 mM2 (by omega) (by omega) lM1.out lM2.out false ⟨fun h => (by cases h), fun h => absurd (tbv_same HP.out h) hMM⟩).mono ?_; rintro e w7 ⟨rfl, b7⟩
  clear qKF0 qKM10 qKM11 qKM12 qKM20 qKM21 qKM22
  replace KF := KF.next b7
  replace KA := KA.next b7
  replace KB := KB.next b7
  replace KR := KR.next b7
  replace hA := hA.next b7
  replace hB := hB.next b7
  replace mM1 := mM1.next b7
  replace mY1 := mY1.next b7
  replace KM1 := KM1.next b7
  replace KY1 := KY1.next b7
  replace mM2 := mM2.next b7
  replace mY2 := mY2.next b7
  replace KM2 := KM2.next b7
  replace KY2 := KY2.next b7
  replace B0 := B0.trans (b7.mono B0.size)
  clear b7
  clear mM1 mM2 KM1 KM2 hA hB KA KB KF mY1 mY2 KY1 KY2
  have hgy : w.heap.size ≤ g + 1 + 1 + 1 := by omega
  have f0 := KR.free 0; have f1 := KR.free 1; have f2 := KR.free 2
  have c0 := KR.cell 0; have c1 := KR.cell 1; have c2 := KR.cell 2
  have KF2 := ((KR.set 0 (.int .i64 0)).set 1 (.int .i64 0)).set 2 (.slice none 0 0)
  have d0 := KF2.cell 0; have d1 := KF2.cell 1; have d2 := KF2.cell 2
  have FR := Lib.hid (show RetSi p w n A B (.returned (.tuple #[.agg #[.int .i64 0, .int .i64 0, .slice none 0 0], .int .i64 10])) (((w7.setCell ⟨g + 1 + 1 + 1, 0, none⟩ (.int .i64 0)).setCell ⟨g + 1 + 1 + 1, 1, none⟩ (.int .i64 0)).setCell ⟨g + 1 + 1 + 1, 2, none⟩ (.slice none 0 0)) from
   ⟨W1, U1, V1, W2, U2, V2, X1, X2, HS1.out, HS2.out, .inr ⟨by rw [← HM1.out, ← HM2.out]; exact hMM, rfl, ((B0.setCell (p := ⟨g + 1 + 1 + 1, 0, none⟩) hgy _).setCell (p := ⟨g + 1 + 1 + 1, 1, none⟩) hgy _).setCell (p := ⟨g + 1 + 1 + 1, 2, none⟩) hgy _⟩⟩)
  clear KF2 KR B0
  go_wp2
  exact bodyPost_ret (v := .tuple #[.agg #[.int .i64 0, .int .i64 0, .slice none 0 0], .int .i64 10]) (by simp [results, Try.results63, go_sem, d0, d1, d2]) rfl FR.out
end Go.Proofs.Ytkmfhabgempjiaa
