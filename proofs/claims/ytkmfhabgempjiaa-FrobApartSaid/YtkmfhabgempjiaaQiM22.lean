/- Layer 25: makes. -/
import Derived.Test.YtkmfhabgempjiaaQiM21
namespace Go.Proofs.Ytkmfhabgempjiaa
set_option maxHeartbeats 2000000
open Go.RowKit
set_option maxRecDepth 20000 in
theorem law25_makes (p : Nat) (x a b : Value) (n : Nat) (xs ys : List Nat) (Z : MT (Zp p) n n) (w : World) (hp : FP p) (tr : Trial p) (hZ : Fm w x n n (tbv Z)) (hA : Fm w a n n xs) (hB : Fm w b n n ys) (hn : n ≤ 4) (hx : xs.length = n * n) (hy : ys.length = n * n) (hi : ∃ Z' : MT (Zp p) n n, Inv Z Z') (hZA : Z * mx p n n xs = mx p n n ys * Z) :
  Calls Try.prog 64 #[x, a, b, .int .u64 p] w (RetW w (.bool true)) := by
 have hnn : n * n ≤ 16 := Nat.mul_le_mul hn hn
 have hp1 := hp.1; have hp2 := hp.2
 obtain ⟨aZ, cZ, rfl⟩ := hZ.agg
 obtain ⟨aA, cA, rfl⟩ := hA.agg
 obtain ⟨aB, cB, rfl⟩ := hB.agg
 obtain ⟨wb, ew, KZ, KA, KB, B0, hsz⟩ := boxes3 w 63 63 63 [.int .i64 n, .int .i64 n, .slice aZ (tbv Z).length cZ] [.int .i64 n, .int .i64 n, .slice aA xs.length cA] [.int .i64 n, .int .i64 n, .slice aB ys.length cB]
 clear hsz
 replace hZ := hZ.next B0; replace hA := hA.next B0; replace hB := hB.next B0
 obtain ⟨d, ed⟩ : ∃ d, d = (dn n (mx p n n (tbv Z)).e : Zp p).val := ⟨_, rfl⟩
 have hd0 : d ≠ 0 := by
  rw [ed, mx_tbv]
  intro h
  obtain ⟨Z', hI⟩ := hi
  exact inv_det (Zp.one_ne tr) hI (zp0 h)
 have hd1 : ((d : Int) != 0) = true := by simpa using hd0
 have hq := Lib.hid (show mx p n n (tbv Z) * mx p n n xs = mx p n n ys * mx p n n (tbv Z) by rw [mx_tbv]; exact hZA)
 have HX := Lib.hid hx; have HY := Lib.hid hy; have HP := Lib.hid hp; have HD := Lib.hid ed
 have lZ := Lib.hid (tbv_length Z); have wZ := Lib.hid (tbv_wf hp.pos Z)
 have hen : ((n : Int) == (n : Int)) = true := by simp
 clear hx hy hp ed hd0 hi hZA tr
 go_enter Try.func64, Try.ntmps64
 go_upto_region 1 with (fail)
 rw [← ew]
 clear ew
 have bd := dw wb
 replace KZ := KZ.next bd; replace KA := KA.next bd; replace KB := KB.next bd; replace hZ := hZ.next bd; replace hA := hA.next bd; replace hB := hB.next bd
 replace B0 := B0.trans (bd.mono B0.size)
 clear bd
 have z0 := Lib.hid fun (w : World) (hS : Below (wb.drew).heap.size (wb.drew) w) => And.intro ((KZ.at hS) 0) (And.intro ((KZ.at hS) 1) (And.intro ((KZ.at hS) 2) (And.intro ((KA.at hS) 0) (And.intro ((KA.at hS) 1) (And.intro ((KA.at hS) 2) (And.intro ((KB.at hS) 0) (And.intro ((KB.at hS) 1) ((KB.at hS) 2))))))))
 refine startL (S := (fun w' => Below (wb.drew).heap.size (wb.drew) w')) (by kernel_rfl) (Below.refl _ _) (fun hHeld => ?_)
 refine tf 0 z0.out ?_
 refine tk 1 ?_
 refine on 2 fun K hK => ?_
 go_simp
 go_at_call 58
 (with_reducible refine (rf21_Normal _ n n p (tbv Z) _ (hZ.next hHeld) (Fd.of (by omega) (by omega) lZ.out) wZ.out (by rw [lZ.out]; omega)).mono ?_); rintro e y1 ⟨rfl, c1⟩
 refine hK.out _ _ (hHeld.trans (c1.mono hHeld.size)) (fun hHeld => ?_)
 clear hK K
 try simp only [Act.put, zq1, zq2, zq3]
 refine tk 3 ?_
 refine tk 4 ?_
 refine tf 5 z0.out ?_
 refine tk 6 ?_
 refine tf 7 z0.out ?_
 refine tk 8 ?_
 refine tk 9 ?_
 refine tk 10 ?_
 refine tf 11 z0.out ?_
 refine tk 12 ?_
 refine on 13 fun K hK => ?_
 go_simp
 go_at_call 59
 (with_reducible refine ((show Calls Try.prog 59 _ _ (RetW _ (.int .u64 (d : Nat))) by rw [HD.out]; exact rf21_Det p HP.out n (by omega) _ (tbv Z) _ (hZ.next hHeld) lZ.out)).mono ?_); rintro e y2 ⟨rfl, c2⟩
 refine hK.out _ _ (hHeld.trans (c2.mono hHeld.size)) (fun hHeld => ?_)
 clear hK K
 try simp only [Act.put, zq1, zq2, zq3]
 refine tk 14 ?_
 refine tk 15 ?_
 refine tk 16 ?_
 refine tf 17 z0.out ?_
 refine tf 18 z0.out ?_
 refine tk 19 ?_
 refine tf 21 z0.out ?_
 refine tf 22 z0.out ?_
 refine tk 23 ?_
 refine tk 25 ?_
 refine on 20 fun K hK => ?_
 go_simp
 go_at_call 61
 (with_reducible refine (rf21_Mul p _ _ n n n (tbv Z) xs _ HP.out (hZ.next hHeld) (hA.next hHeld) (by omega) (by omega) (by omega) lZ.out HX.out).mono ?_); rintro e y4 ⟨a5, k5, rfl, o5, c5⟩; obtain ⟨Q1, eQ1⟩ : ∃ Q, Q = mx p n n (tbv Z) * mx p n n xs := ⟨_, rfl⟩; rw [← eQ1] at o5 ⊢
 have EQ1 := Lib.hid eQ1; clear eQ1
 refine hK.out _ _ (hHeld.trans (c5.mono hHeld.size)) (fun hHeld => ?_)
 clear hK K
 try simp only [Act.put, zq1, zq2, zq3]
 refine on 24 fun K hK => ?_
 go_simp
 go_at_call 61
 (with_reducible refine (rf21_Mul p _ _ n n n ys (tbv Z) _ HP.out (hB.next hHeld) (hZ.next hHeld) (by omega) (by omega) (by omega) HY.out lZ.out).mono ?_); rintro e y5 ⟨a6, k6, rfl, o6, c6⟩; rw [← hq.out, ← EQ1.out] at o6 ⊢; replace o5 := o5.next c6; have l5 := Lib.hid (tbv_length Q1); have m5 : Fm y5 (.agg #[.int .i64 n, .int .i64 n, .slice a5 (tbv Q1).length k5]) n n (tbv Q1) := ⟨_, rfl, o5.sl⟩; have m6 : Fm y5 (.agg #[.int .i64 n, .int .i64 n, .slice a6 (tbv Q1).length k6]) n n (tbv Q1) := ⟨_, rfl, o6.sl⟩
 refine hK.out _ _ (hHeld.trans (c6.mono hHeld.size)) (fun hHeld => ?_)
 clear hK K
 try simp only [Act.put, zq1, zq2, zq3]
 refine on 26 fun K hK => ?_
 go_simp
 go_at_call 60
 (with_reducible refine (rf21_Same _ _ n n p (tbv Q1) (tbv Q1) _ (by omega) m5 m6 rfl (fun _ _ => rfl) (by rw [l5.out]; omega)).mono ?_); rintro e y6 ⟨rfl, c7⟩
 refine hK.out _ _ (hHeld.trans (c7.mono hHeld.size)) (fun hHeld => ?_)
 clear hK K
 try simp only [Act.put, zq1, zq2, zq3]
 refine tk 27 ?_
 refine tk 28 ?_
 clear z0; refine doneL (by kernel_rfl) ?_ _
 replace B0 := B0.trans (hHeld.mono B0.size)
 clear KZ KA KB hZ hA hB hHeld
 go_wp2
 go_ret
 exact ⟨rfl, B0⟩
end Go.Proofs.Ytkmfhabgempjiaa
/- Layer 25: Similar of other sides. -/
namespace Go.Proofs.Ytkmfhabgempjiaa
set_option maxHeartbeats 2000000
open Go.RowKit
section
variable {p n : Nat}
theorem ivl_same (hp : FP p) {W W2 : (Nat → Nat → Pol (Zp p))} {zz ww : List (List Nat)} (h : ∀ k, k < n → W k k = W2 k k) (h1 : IvL n W zz) (h2 : IvL n W2 ww) : zz = ww := by
 have e := pks_same (p := p) n h
 refine List.ext_getElem (by rw [h1.1, h2.1, e]) fun j k1 k2 => ?_
 have hj : j < (pks W n).length := by rw [← h1.1]; exact k1
 obtain ⟨a1, a2⟩ := h1.2 j hj
 obtain ⟨b1, b2⟩ := h2.2 j (by rw [← e]; exact hj)
 have g1 : zz.getD j [] = zz[j] := by simp [List.getD, List.getElem?_eq_getElem k1]
 have g2 : ww.getD j [] = ww[j] := by simp [List.getD, List.getElem?_eq_getElem k2]
 rw [← g1, ← g2]
 refine pl_inj hp.pos a1 b1 ?_
 rw [a2, b2, ← e]
 exact h _ (pks_getD W n j hj).1
theorem ivl_frM (hp : FP p) (tr : Trial p) {A B : MT (Zp p) n n} {W U V W2 U2 V2 : (Nat → Nat → Pol (Zp p))} {X X2 : MT (Pol (Zp p)) n n} {zz : List (List Nat)} (h : SmF A W U V X) (h' : SmF B W2 U2 V2 X2) (h1 : IvL n W zz) (h2 : IvL n W2 zz) : frM A W X = frM B W2 X2 := by
 rw [← (ivl_bls hp tr h h1).2.1, (ivl_bls hp tr h' h2).2.1]
end
theorem fb_square_ok (a : Value) (R C : Int) (xs : List Nat) (w : World) (hA : Fm w a R C xs) (h : Fd R C xs.length ∧ R = C) : Calls Try.prog 101 #[a] w (RetW w (.bool true)) := fb_square a R C xs w hA true (decide_eq_true h).symm
set_option maxRecDepth 20000 in
theorem fb_Similar_noA (p : Nat) (a b : Value) (R C R2 C2 : Int) (xs ys : List Nat) (w : World) (hA : Fm w a R C xs) (hB : Fm w b R2 C2 ys) (hs : ¬ (Fd R C xs.length ∧ R = C)) :
  Calls Try.prog 63 #[.agg #[.int .u64 p], a, b] w (RetFX w 2) := by
 obtain ⟨aA, cA, rfl⟩ := hA.agg
 obtain ⟨aB, cB, rfl⟩ := hB.agg
 obtain ⟨wb, ew, KF, KA, KB, KR, B0, hsz⟩ := boxes4 w 29 63 63 63 [.int .u64 p] [.int .i64 R, .int .i64 C, .slice aA xs.length cA] [.int .i64 R2, .int .i64 C2, .slice aB ys.length cB] [.int .i64 0, .int .i64 0, .slice none 0 0]
 clear hsz KF
 replace hA := hA.next B0; replace hB := hB.next B0
 have HS := Lib.hid hs; clear hs
 go_enter Try.func63, Try.ntmps63
 go_upto_region 1 with (fail)
 rw [← ew]
 obtain ⟨g, eg⟩ : ∃ g, g = w.heap.size := ⟨_, rfl⟩
 rw [← eg] at KA KB KR ⊢
 have hgw : w.heap.size ≤ g := by omega
 clear ew eg
 have qKA0 := KA.cell 0
 have qKA1 := KA.cell 1
 have qKA2 := KA.cell 2
 go_wp2_with fail
 refine (fb_square_no _ R C xs _ hA HS.out).mono ?_; rintro e w1 ⟨rfl, b1⟩
 clear qKA0 qKA1 qKA2
 replace KA := KA.next b1
 replace KB := KB.next b1
 replace KR := KR.next b1
 replace hA := hA.next b1
 replace hB := hB.next b1
 replace B0 := B0.trans (b1.mono B0.size)
 clear b1
 clear hA hB
 have hgy : w.heap.size ≤ g + 1 + 1 + 1 := by omega
 have f0 := KR.free 0; have f1 := KR.free 1; have f2 := KR.free 2
 have c0 := KR.cell 0; have c1 := KR.cell 1; have c2 := KR.cell 2
 have KF2 := ((KR.set 0 (.int .i64 0)).set 1 (.int .i64 0)).set 2 (.slice none 0 0)
 have d0 := KF2.cell 0; have d1 := KF2.cell 1; have d2 := KF2.cell 2
 have FR := Lib.hid (show RetFX w 2 (.returned (.tuple #[.agg #[.int .i64 0, .int .i64 0, .slice none 0 0], .int .i64 2])) (((w1.setCell ⟨g + 1 + 1 + 1, 0, none⟩ (.int .i64 0)).setCell ⟨g + 1 + 1 + 1, 1, none⟩ (.int .i64 0)).setCell ⟨g + 1 + 1 + 1, 2, none⟩ (.slice none 0 0)) from
  ⟨rfl, ((B0.setCell (p := ⟨g + 1 + 1 + 1, 0, none⟩) hgy _).setCell (p := ⟨g + 1 + 1 + 1, 1, none⟩) hgy _).setCell (p := ⟨g + 1 + 1 + 1, 2, none⟩) hgy _⟩)
 clear KF2 KR B0 KA KB
 go_wp2
 exact bodyPost_ret (v := .tuple #[.agg #[.int .i64 0, .int .i64 0, .slice none 0 0], .int .i64 2]) (by simp [results, Try.results63, go_sem, d0, d1, d2]) rfl FR.out
set_option maxRecDepth 20000 in
theorem fb_Similar_noB (p : Nat) (a b : Value) (R C R2 C2 : Int) (xs ys : List Nat) (w : World) (hA : Fm w a R C xs) (hB : Fm w b R2 C2 ys) (hs : Fd R C xs.length ∧ R = C) (ht : ¬ (Fd R2 C2 ys.length ∧ R2 = C2)) :
  Calls Try.prog 63 #[.agg #[.int .u64 p], a, b] w (RetFX w 2) := by
 obtain ⟨aA, cA, rfl⟩ := hA.agg
 obtain ⟨aB, cB, rfl⟩ := hB.agg
 obtain ⟨wb, ew, KF, KA, KB, KR, B0, hsz⟩ := boxes4 w 29 63 63 63 [.int .u64 p] [.int .i64 R, .int .i64 C, .slice aA xs.length cA] [.int .i64 R2, .int .i64 C2, .slice aB ys.length cB] [.int .i64 0, .int .i64 0, .slice none 0 0]
 clear hsz KF
 replace hA := hA.next B0; replace hB := hB.next B0
 have HS := Lib.hid hs; have HT := Lib.hid ht; clear hs ht
 go_enter Try.func63, Try.ntmps63
 go_upto_region 1 with (fail)
 rw [← ew]
 obtain ⟨g, eg⟩ : ∃ g, g = w.heap.size := ⟨_, rfl⟩
 rw [← eg] at KA KB KR ⊢
 have hgw : w.heap.size ≤ g := by omega
 clear ew eg
 have qKA0 := KA.cell 0
 have qKA1 := KA.cell 1
 have qKA2 := KA.cell 2
 go_wp2_with fail
 refine (fb_square_ok _ R C xs _ hA HS.out).mono ?_; rintro e w1 ⟨rfl, b1⟩
 clear qKA0 qKA1 qKA2
 replace KA := KA.next b1
 replace KB := KB.next b1
 replace KR := KR.next b1
 replace hA := hA.next b1
 replace hB := hB.next b1
 replace B0 := B0.trans (b1.mono B0.size)
 clear b1
 have qKB0 := KB.cell 0
 have qKB1 := KB.cell 1
 have qKB2 := KB.cell 2
 go_wp2_with fail
 refine (fb_square_no _ R2 C2 ys _ hB HT.out).mono ?_; rintro e w2 ⟨rfl, b2⟩
 clear qKB0 qKB1 qKB2
 replace KA := KA.next b2
 replace KB := KB.next b2
 replace KR := KR.next b2
 replace hA := hA.next b2
 replace hB := hB.next b2
 replace B0 := B0.trans (b2.mono B0.size)
 clear b2
 clear hA hB
 have hgy : w.heap.size ≤ g + 1 + 1 + 1 := by omega
 have f0 := KR.free 0; have f1 := KR.free 1; have f2 := KR.free 2
 have c0 := KR.cell 0; have c1 := KR.cell 1; have c2 := KR.cell 2
 have KF2 := ((KR.set 0 (.int .i64 0)).set 1 (.int .i64 0)).set 2 (.slice none 0 0)
 have d0 := KF2.cell 0; have d1 := KF2.cell 1; have d2 := KF2.cell 2
 have FR := Lib.hid (show RetFX w 2 (.returned (.tuple #[.agg #[.int .i64 0, .int .i64 0, .slice none 0 0], .int .i64 2])) (((w2.setCell ⟨g + 1 + 1 + 1, 0, none⟩ (.int .i64 0)).setCell ⟨g + 1 + 1 + 1, 1, none⟩ (.int .i64 0)).setCell ⟨g + 1 + 1 + 1, 2, none⟩ (.slice none 0 0)) from
  ⟨rfl, ((B0.setCell (p := ⟨g + 1 + 1 + 1, 0, none⟩) hgy _).setCell (p := ⟨g + 1 + 1 + 1, 1, none⟩) hgy _).setCell (p := ⟨g + 1 + 1 + 1, 2, none⟩) hgy _⟩)
 clear KF2 KR B0 KA KB
 go_wp2
 exact bodyPost_ret (v := .tuple #[.agg #[.int .i64 0, .int .i64 0, .slice none 0 0], .int .i64 2]) (by simp [results, Try.results63, go_sem, d0, d1, d2]) rfl FR.out
set_option maxRecDepth 20000 in
theorem fb_Similar_noR (p : Nat) (a b : Value) (R C R2 C2 : Int) (xs ys : List Nat) (w : World) (hA : Fm w a R C xs) (hB : Fm w b R2 C2 ys) (hs : Fd R C xs.length ∧ R = C) (ht : Fd R2 C2 ys.length ∧ R2 = C2) (hne : R ≠ R2) :
  Calls Try.prog 63 #[.agg #[.int .u64 p], a, b] w (RetFX w 2) := by
 obtain ⟨aA, cA, rfl⟩ := hA.agg
 obtain ⟨aB, cB, rfl⟩ := hB.agg
 obtain ⟨wb, ew, KF, KA, KB, KR, B0, hsz⟩ := boxes4 w 29 63 63 63 [.int .u64 p] [.int .i64 R, .int .i64 C, .slice aA xs.length cA] [.int .i64 R2, .int .i64 C2, .slice aB ys.length cB] [.int .i64 0, .int .i64 0, .slice none 0 0]
 clear hsz KF
 replace hA := hA.next B0; replace hB := hB.next B0
 have HS := Lib.hid hs; have HT := Lib.hid ht; have hrr : (R != R2) = true := by simpa using hne
 clear hs ht hne
 go_enter Try.func63, Try.ntmps63
 go_upto_region 1 with (fail)
 rw [← ew]
 obtain ⟨g, eg⟩ : ∃ g, g = w.heap.size := ⟨_, rfl⟩
 rw [← eg] at KA KB KR ⊢
 have hgw : w.heap.size ≤ g := by omega
 clear ew eg
 have qKA0 := KA.cell 0
 have qKA1 := KA.cell 1
 have qKA2 := KA.cell 2
 go_wp2_with fail
 refine (fb_square_ok _ R C xs _ hA HS.out).mono ?_; rintro e w1 ⟨rfl, b1⟩
 clear qKA0 qKA1 qKA2
 replace KA := KA.next b1
 replace KB := KB.next b1
 replace KR := KR.next b1
 replace hA := hA.next b1
 replace hB := hB.next b1
 replace B0 := B0.trans (b1.mono B0.size)
 clear b1
 have qKB0 := KB.cell 0
 have qKB1 := KB.cell 1
 have qKB2 := KB.cell 2
 go_wp2_with fail
 refine (fb_square_ok _ R2 C2 ys _ hB HT.out).mono ?_; rintro e w2 ⟨rfl, b2⟩
 clear qKB0 qKB1 qKB2
 replace KA := KA.next b2
 replace KB := KB.next b2
 replace KR := KR.next b2
 replace hA := hA.next b2
 replace hB := hB.next b2
 replace B0 := B0.trans (b2.mono B0.size)
 clear b2
 have qKA0 := KA.cell 0
 have qKB0 := KB.cell 0
 clear hA hB
 have hgy : w.heap.size ≤ g + 1 + 1 + 1 := by omega
 have f0 := KR.free 0; have f1 := KR.free 1; have f2 := KR.free 2
 have c0 := KR.cell 0; have c1 := KR.cell 1; have c2 := KR.cell 2
 have KF2 := ((KR.set 0 (.int .i64 0)).set 1 (.int .i64 0)).set 2 (.slice none 0 0)
 have d0 := KF2.cell 0; have d1 := KF2.cell 1; have d2 := KF2.cell 2
 have FR := Lib.hid (show RetFX w 2 (.returned (.tuple #[.agg #[.int .i64 0, .int .i64 0, .slice none 0 0], .int .i64 2])) (((w2.setCell ⟨g + 1 + 1 + 1, 0, none⟩ (.int .i64 0)).setCell ⟨g + 1 + 1 + 1, 1, none⟩ (.int .i64 0)).setCell ⟨g + 1 + 1 + 1, 2, none⟩ (.slice none 0 0)) from
  ⟨rfl, ((B0.setCell (p := ⟨g + 1 + 1 + 1, 0, none⟩) hgy _).setCell (p := ⟨g + 1 + 1 + 1, 1, none⟩) hgy _).setCell (p := ⟨g + 1 + 1 + 1, 2, none⟩) hgy _⟩)
 clear KF2 KR B0
 go_wp2
 exact bodyPost_ret (v := .tuple #[.agg #[.int .i64 0, .int .i64 0, .slice none 0 0], .int .i64 2]) (by simp [results, Try.results63, go_sem, d0, d1, d2]) rfl FR.out
end Go.Proofs.Ytkmfhabgempjiaa
