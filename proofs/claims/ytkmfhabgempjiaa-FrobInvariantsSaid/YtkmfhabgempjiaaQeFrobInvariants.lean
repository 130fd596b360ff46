/- FrobInvariants: for every number and matrix the law returns true: each invariant divides the next one; their product is the characteristic polynomial, the last one the minimal polynomial. No condition. -/
import Derived.Test.YtkmfhabgempjiaaRows
import Derived.Test.YtkmfhabgempjiaaQeM10
import Derived.Test.YtkmfhabgempjiaaQeM20
import Derived.Test.YtkmfhabgempjiaaQeM22
namespace Go.Proofs.Ytkmfhabgempjiaa.frobInvariants
set_option maxHeartbeats 4000000
open Go.ChangeShapes Go.WideShapes Go.ChangeAt Go.RowKit
open Go.ChangeMaps (open_string shut_string)
theorem own : ownKnob Try.prog.godebug = none := by kernel_rfl
theorem laidOut : laidOutB Try.prog = true := by kernel_rfl
set_option maxRecDepth 20000 in
theorem not_few (x0 : Nat) (v : Value) (R C : Int) (xs : List Nat) (w : World) (mA : Fm w v R C xs) (hf : ¬ (R ≤ 4 ∧ C ≤ 4 ∧ xs.length ≤ 100)) :
  Calls Try.prog 14 #[.int .u8 x0, v] w (LawOk w) := by
 obtain ⟨aA, cA, rfl⟩ := mA.agg
 obtain ⟨wb, ew, KA, B0, hsz⟩ := boxes1 w 63 [.int .i64 R, .int .i64 C, .slice aA xs.length cA]
 clear hsz
 replace mA := mA.next B0
 have HF := Lib.hid hf; clear hf
 go_enter Try.func14, Try.ntmps14
 go_upto_region 1 with (fail)
 rw [← ew]
 clear ew
 go_wp2_with fail
 refine (law25_awake _).mono ?_; rintro e w1 ⟨rfl, b1⟩
 replace mA := mA.next b1
 replace KA := KA.next b1
 replace B0 := B0.trans (b1.mono B0.size)
 clear b1
 have qKA0 := KA.cell 0
 have qKA1 := KA.cell 1
 have qKA2 := KA.cell 2
 go_wp2_with fail
 refine (rf21_Few _ R C 4 xs _ mA false (decide_eq_false HF.out).symm).mono ?_; rintro e w2 ⟨rfl, b2⟩
 clear qKA0 qKA1 qKA2
 replace mA := mA.next b2
 replace KA := KA.next b2
 replace B0 := B0.trans (b2.mono B0.size)
 clear b2
 clear mA
 go_wp2_with fail
 refine (law25_awake _).mono ?_; rintro e w3 ⟨rfl, b3⟩
 replace KA := KA.next b3
 replace B0 := B0.trans (b3.mono B0.size)
 clear b3
 go_wp2
 go_ret
 exact ⟨rfl, B0⟩
set_option maxRecDepth 20000 in
theorem bad (x0 : Nat) (v : Value) (R C : Int) (xs : List Nat) (w : World) (mA : Fm w v R C xs) (hf : (R ≤ 4 ∧ C ≤ 4 ∧ xs.length ≤ 100)) (hs : ¬ (Fd R C xs.length ∧ R = C)) :
  Calls Try.prog 14 #[.int .u8 x0, v] w (LawOk w) := by
 obtain ⟨aA, cA, rfl⟩ := mA.agg
 obtain ⟨wb, ew, KA, B0, hsz⟩ := boxes1 w 63 [.int .i64 R, .int .i64 C, .slice aA xs.length cA]
 clear hsz
 replace mA := mA.next B0
 have HF := Lib.hid hf; have HS := Lib.hid hs; clear hf hs
 go_enter Try.func14, Try.ntmps14
 go_upto_region 1 with (fail)
 rw [← ew]
 clear ew
 go_wp2_with fail
 refine (law25_awake _).mono ?_; rintro e w1 ⟨rfl, b1⟩
 replace mA := mA.next b1
 replace KA := KA.next b1
 replace B0 := B0.trans (b1.mono B0.size)
 clear b1
 have qKA0 := KA.cell 0
 have qKA1 := KA.cell 1
 have qKA2 := KA.cell 2
 go_wp2_with fail
 refine (rf21_Few _ R C 4 xs _ mA true (decide_eq_true HF.out).symm).mono ?_; rintro e w2 ⟨rfl, b2⟩
 clear qKA0 qKA1 qKA2
 replace mA := mA.next b2
 replace KA := KA.next b2
 replace B0 := B0.trans (b2.mono B0.size)
 clear b2
 have qKA0 := KA.cell 0
 have qKA1 := KA.cell 1
 have qKA2 := KA.cell 2
 go_wp2_with fail
 refine (law25_square _ R C xs _ mA false (decide_eq_false HS.out).symm).mono ?_; rintro e w3 ⟨rfl, b3⟩
 clear qKA0 qKA1 qKA2
 replace mA := mA.next b3
 replace KA := KA.next b3
 replace B0 := B0.trans (b3.mono B0.size)
 clear b3
 clear mA
 go_wp2_with fail
 refine (law25_awake _).mono ?_; rintro e w4 ⟨rfl, b4⟩
 replace KA := KA.next b4
 replace B0 := B0.trans (b4.mono B0.size)
 clear b4
 go_wp2
 go_ret
 exact ⟨rfl, B0⟩
set_option maxRecDepth 20000 in
theorem good (x0 : Nat) (n : Nat) (v : Value) (xs : List Nat) (w : World) (mA : Fm w v n n xs) (hn : n ≤ 4) (hx : xs.length = n * n) (hf : ((n : Int) ≤ 4 ∧ (n : Int) ≤ 4 ∧ xs.length ≤ 100)) :
  Calls Try.prog 14 #[.int .u8 x0, v] w (LawOk w) := by
 obtain ⟨p, ep⟩ : ∃ p, p = Ps (x0 % 12) := ⟨_, rfl⟩
 have hp : FP p := by rw [ep]; exact Ps_FP (by omega)
 have ht : Trial p := by rw [ep]; exact Ps_trial (by omega)
 have cOf : ∀ w : World, Calls Try.prog 17 #[.int .u8 x0] w fun e w' => e = .returned (.agg #[.int .u64 (p : Nat)]) ∧ Below w.heap.size w w' := fun w => by rw [ep]; exact law9_Of x0 w
 have cP : ∀ w : World, Calls Try.prog 18 #[.int .u8 x0] w fun e w' => e = .returned (.int .u64 (p : Nat)) ∧ w = w' := fun w => by rw [ep]; exact ref8_P x0 w
 have hp2 := hp.1
 have hp3 := hp.2
 have HP := Lib.hid hp; have HT := Lib.hid ht; have COF := Lib.hid cOf; have CP := Lib.hid cP
 clear hp ht cOf cP ep
 obtain ⟨aA, cA, rfl⟩ := mA.agg
 obtain ⟨wb, ew, KA, B0, hsz⟩ := boxes1 w 63 [.int .i64 n, .int .i64 n, .slice aA xs.length cA]
 clear hsz
 replace mA := mA.next B0
 have HF := Lib.hid hf; have HX := Lib.hid hx; clear hf hx
 have HFd := Lib.hid (Fd.of (show n ≤ 64 by omega) (show n ≤ 64 by omega) HX.out)
 obtain ⟨A, eA⟩ : ∃ A, A = mx p n n xs := ⟨_, rfl⟩
 have EA := Lib.hid eA; clear eA
 go_enter Try.func14, Try.ntmps14
 go_upto_region 1 with (fail)
 rw [← ew]
 clear ew
 go_wp2_with fail
 refine (law25_awake _).mono ?_; rintro e w1 ⟨rfl, b1⟩
 replace mA := mA.next b1
 replace KA := KA.next b1
 replace B0 := B0.trans (b1.mono B0.size)
 clear b1
 have qKA0 := KA.cell 0
 have qKA1 := KA.cell 1
 have qKA2 := KA.cell 2
 go_wp2_with fail
 refine (rf21_Few _ n n 4 xs _ mA true (decide_eq_true HF.out).symm).mono ?_; rintro e w2 ⟨rfl, b2⟩
 clear qKA0 qKA1 qKA2
 replace mA := mA.next b2
 replace KA := KA.next b2
 replace B0 := B0.trans (b2.mono B0.size)
 clear b2
 have qKA0 := KA.cell 0
 have qKA1 := KA.cell 1
 have qKA2 := KA.cell 2
 go_wp2_with fail
 refine (law25_square _ n n xs _ mA true (decide_eq_true ⟨HFd.out, rfl⟩).symm).mono ?_; rintro e w3 ⟨rfl, b3⟩
 clear qKA0 qKA1 qKA2
 replace mA := mA.next b3
 replace KA := KA.next b3
 replace B0 := B0.trans (b3.mono B0.size)
 clear b3
 go_wp2_with fail
 refine (COF.out _).mono ?_; rintro e w4 ⟨rfl, b4⟩
 replace mA := mA.next b4
 replace KA := KA.next b4
 replace B0 := B0.trans (b4.mono B0.size)
 clear b4
 obtain ⟨w5, e5, KF, b5, hs5⟩ := boxes1 w4 29 [.int .u64 p]
 clear hs5
 replace mA := mA.next b5
 replace KA := KA.next b5
 replace B0 := B0.trans (b5.mono B0.size)
 clear b5
 go_upto_region 4 with (fail)
 rw [← e5]
 clear e5
 have qKF0 := KF.cell 0
 have qKA0 := KA.cell 0
 have qKA1 := KA.cell 1
 have qKA2 := KA.cell 2
 go_wp2_with fail
 refine (fb_Invariants p _ n xs _ HP.out HT.out mA hn HX.out).mono ?_; rintro e w6 ⟨W, U, V, X, h1, h2, h3, h4, h5, iv, us, rfl, QI, b6⟩
 clear qKF0 qKA0 qKA1 qKA2
 replace mA := mA.next b6
 replace KA := KA.next b6
 replace KF := KF.next b6
 replace B0 := B0.trans (b6.mono B0.size)
 clear b6
 rw [← EA.out] at h1
 have HCH := Lib.hid (ivd_chi HT.out h1 h3 h4)
 have HMN := Lib.hid (fun L hL => ivl_min (L := L) HT.out h1 h2 h3 h4 h5 hL)
 have HDV := Lib.hid (fun k hk => ivl_dv (W := W) (k := k) h5 hk)
 have hmn := pks_len W n
 obtain ⟨ai, ci, rfl⟩ := QI.slc
 obtain ⟨zz, zl, nz, hz⟩ := QI.ns HP.out
 have HZ := Lib.hid (show ∀ j, j < (pks W n).length → Nrm p (zz.getD j []) ∧ pl p (zz.getD j []) = ivd W n j ∧ (zz.getD j []).length ≤ 255 from hz)
 clear h1 h2 h3 h4 h5 QI hz us
 obtain ⟨M, eM⟩ : ∃ M, M = (pks W n).length := ⟨_, rfl⟩
 rw [← eM] at HCH HMN HDV HZ hmn zl nz ⊢
 have ZL := Lib.hid zl; clear zl eM
 obtain ⟨w7, e7, L1, L2, b7, hs7⟩ := boxes2 w6 27 27 [.int .u64 1] [.int .u64 1]
 clear hs7
 replace mA := mA.next b7
 replace KA := KA.next b7
 replace KF := KF.next b7
 replace nz := nz.next b7
 replace B0 := B0.trans (b7.mono B0.size)
 clear b7
 go_upto_region 6 with (fail)
 rw [← e7]
 clear e7
 have HKF := Lib.hid KF; have HKA := Lib.hid KA; have HMA := Lib.hid mA; have HNZ := Lib.hid nz; have HB0 := Lib.hid B0
 have s1 : Sl .u64 w7 (.slice (some ⟨w6.heap.size, 0, none⟩) 1 1) [1] := Blk.sl (xs := [1]) L1
 have s2 : Sl .u64 w7 (.slice (some ⟨w6.heap.size + 1, 0, none⟩) 1 1) [1] := Blk.sl (xs := [1]) L2
 have hn1 : Nrm p [1] := nrm_1 HP.out
 have hv1 : pl p [1] = 1 := pl_one p
 clear KF KA mA nz B0 L1 L2
 go_wp2
 go_loopw [8, 9, 10] (fun pv lv jv wr => ∃ (k : Nat) (ps ls : List Nat), k ≤ M ∧ jv = .int .i64 k ∧ Sl .u64 wr pv ps ∧ (Nrm p ps ∧ pl p ps = pr (ivd W n) k ∧ ps.length ≤ 1 + 255 * k) ∧ Sl .u64 wr lv ls ∧ (Nrm p ls ∧ pl p ls = ivl W n k ∧ ls.length ≤ 255) ∧ Below w7.heap.size w7 wr) (fun _ _ jv _ => M - (intOf jv).toNat)
 case atStart => exact ⟨0, [1], [1], by omega, rfl, s1, ⟨hn1, hv1, by simp⟩, s2, ⟨hn1, hv1, by simp⟩, Below.refl _ _⟩
 case round =>
  clear s1 s2 hn1 hv1
  obtain ⟨k, ps, ls, hk, rfl, sp, hP, sl, hL, B1⟩ := hrel
  have HPP := Lib.hid hP; have HLL := Lib.hid hL; clear hP hL
  obtain ⟨ap, bp, op, cp, rfl, kp⟩ := sp
  have sp : Sl .u64 wr (.slice ap ps.length cp) ps := ⟨ap, bp, op, cp, rfl, kp⟩
  obtain ⟨al, bl, ol, cl', rfl, kl⟩ := sl
  have sl : Sl .u64 wr (.slice al ls.length cl') ls := ⟨al, bl, ol, cl', rfl, kl⟩
  clear kp kl
  by_cases hkM : k < M
  ·have KF := HKF.out.next B1
   have nz := HNZ.out.next B1
   obtain ⟨az, bz, oz, cz, UZ, ez, -, hz1, hz2⟩ := nz
   simp only [Value.slice.injEq] at ez
   obtain ⟨rfl, -, rfl⟩ := ez
   obtain ⟨rfl, lz⟩ := hz1 (by rw [ZL.out]; omega)
   obtain ⟨qz, sz, -⟩ := hz2 k (by rw [ZL.out]; exact hkM)
   clear hz2 hz1
   have hzk := HZ.out k hkM
   obtain ⟨zk, ezk⟩ : ∃ zk, zk = zz.getD k [] := ⟨_, rfl⟩
   rw [← ezk] at sz hzk
   have HZK := Lib.hid hzk; clear hzk ezk
   obtain ⟨ak, ck, euk⟩ : ∃ ao c, UZ k = .slice ao zk.length c := by
    obtain ⟨a', b', o', c', e', -⟩ := sz; exact ⟨a', c', e'⟩
   rw [euk] at qz sz
   clear euk
   go_upto_region 9 with (fail)
   have bd := dw wr
   replace KF := KF.next bd; replace sp := sp.next bd; replace sl := sl.next bd; replace sz := sz.next bd
   replace qz := (bd.cell (p := ⟨bz, oz + k, none⟩) lz).trans qz
   replace lz : bz < wr.drew.heap.size := lz
   replace B1 := B1.trans (bd.mono B1.size)
   clear bd
   have zF0 := Lib.hid fun (w : World) (hS : Below (wr.drew).heap.size (wr.drew) w) => And.intro ((KF.at hS) 0) ((hS.cell (p := ⟨bz, oz + k, none⟩) lz).trans qz)
   refine startL (S := (fun w' => Below (wr.drew).heap.size (wr.drew) w')) (by kernel_rfl) (Below.refl _ _) (fun hHeld => ?_)
   refine tf 0 zF0.out ?_
   refine tk 1 ?_
   refine tk 2 ?_
   refine tk 3 ?_
   refine tk 4 ?_
   refine tf 5 zF0.out ?_
   refine on 6 fun K hK => ?_
   go_simp
   go_at_call 37
   (with_reducible refine (rf24_Divides p _ _ ls zk _ HP.out HT.out (sl.next hHeld) (sz.next hHeld) HLL.out.1 HZK.out.1 (by have := HLL.out.2.2; omega) (by have := HZK.out.2.2; omega) true ⟨fun _ => by rw [HLL.out.2.1, HZK.out.2.1]; exact HDV.out k hkM, fun _ => rfl⟩).mono ?_); rintro e y1 ⟨rfl, c1⟩
   refine hK.out _ _ (hHeld.trans (c1.mono hHeld.size)) (fun hHeld => ?_)
   clear hK K
   try simp only [Act.put, zq1, zq2, zq3]
   refine tk 7 ?_
   clear zF0; refine doneL (by kernel_rfl) ?_ _
   replace KF := KF.next hHeld; replace sp := sp.next hHeld; replace sl := sl.next hHeld; replace sz := sz.next hHeld
   replace qz := (hHeld.cell (p := ⟨bz, oz + k, none⟩) lz).trans qz
   replace lz : bz < y1.heap.size := Nat.lt_of_lt_of_le lz hHeld.size
   replace B1 := B1.trans (hHeld.mono B1.size)
   clear hHeld c1
   go_upto_region 11 with (fail)
   have bd := dw y1
   replace KF := KF.next bd; replace sp := sp.next bd; replace sl := sl.next bd; replace sz := sz.next bd
   replace qz := (bd.cell (p := ⟨bz, oz + k, none⟩) lz).trans qz
   replace lz : bz < y1.drew.heap.size := lz
   replace B1 := B1.trans (bd.mono B1.size)
   clear bd
   have zF0 := Lib.hid fun (w : World) (hS : Below (y1.drew).heap.size (y1.drew) w) => And.intro ((KF.at hS) 0) ((hS.cell (p := ⟨bz, oz + k, none⟩) lz).trans qz)
   refine startL (S := (fun w' => Below (y1.drew).heap.size (y1.drew) w')) (by kernel_rfl) (Below.refl _ _) (fun hHeld => ?_)
   refine tf 0 zF0.out ?_
   refine tk 1 ?_
   refine tk 2 ?_
   refine tk 3 ?_
   refine tk 4 ?_
   refine tf 5 zF0.out ?_
   refine on 6 fun K hK => ?_
   go_simp
   go_at_call 65
   (with_reducible refine (fp_Mul p _ _ ps zk _ HP.out (sp.next hHeld) (sz.next hHeld) (by have := HPP.out.2.2; omega) (by have := HZK.out.2.2; omega)).mono ?_); rintro e y2 ⟨r2, z2, rfl, o2, n2, v2, l2, c2⟩
   obtain ⟨a2, k2, rfl⟩ := o2.sliced
   refine hK.out _ _ (hHeld.trans (c2.mono hHeld.size)) (fun hHeld => ?_)
   clear hK K
   try simp only [Act.put, zq1, zq2, zq3]
   refine tk 7 ?_
   clear zF0; refine doneL (by kernel_rfl) ?_ _
   replace qz := (hHeld.cell (p := ⟨bz, oz + k, none⟩) lz).trans qz
   replace sz := sz.next hHeld
   replace B1 := B1.trans (hHeld.mono B1.size)
   have st1 := Lib.hid (show Nrm p z2 ∧ pl p z2 = pr (ivd W n) (k + 1) ∧ z2.length ≤ 1 + 255 * (k + 1) from ⟨n2, by rw [v2, HPP.out.2.1, HZK.out.2.1]; rfl, by have := HPP.out.2.2; have := HZK.out.2.2; omega⟩)
   have st2 := Lib.hid (show Nrm p zk ∧ pl p zk = ivl W n (k + 1) ∧ zk.length ≤ 255 from ⟨HZK.out.1, by rw [HZK.out.2.1]; unfold ivl; rw [if_neg (by omega), Nat.add_sub_cancel], HZK.out.2.2⟩)
   have so := o2.sl
   clear hHeld KF sp sl n2 v2 l2 o2 c2
   go_wp2
   go_roundw
   case rel => exact ⟨k + 1, z2, zk, by omega, by go_num, so, st1.out, sz, st2.out, B1⟩
   case measure => simp [intOf] <;> omega
  ·obtain rfl : k = M := by omega
   have KF := HKF.out.next B1; have KA := HKA.out.next B1; have mA := HMA.out.next B1
   have B0 := HB0.out.trans (B1.mono HB0.out.size)
   clear B1
   have qKF0 := KF.cell 0
   have qKA0 := KA.cell 0
   have qKA1 := KA.cell 1
   have qKA2 := KA.cell 2
   go_wp2_with fail
   refine (hs_Char p _ n xs _ HP.out HT.out mA (by omega) HX.out).mono ?_; rintro e w8 ⟨ac, cc, cs, rfl, oQ, nQ, vQ, lQ, b8⟩; rw [← EA.out] at vQ
   clear qKF0 qKA0 qKA1 qKA2
   replace KF := KF.next b8
   replace KA := KA.next b8
   replace mA := mA.next b8
   replace sp := sp.next b8
   replace sl := sl.next b8
   replace B0 := B0.trans (b8.mono B0.size)
   clear b8
   have HC := Lib.hid (show Nrm p cs ∧ pl p cs = chi A ∧ cs.length ≤ 10 from ⟨nQ, vQ, by omega⟩)
   have sQ := oQ.sl
   clear nQ vQ lQ oQ
   go_upto_region 14 with (fail)
   have qKF0 := KF.cell 0
   have qKA0 := KA.cell 0
   have qKA1 := KA.cell 1
   have qKA2 := KA.cell 2
   go_wp2_with fail
   refine (hs_Min p _ n xs _ HP.out HT.out mA (by omega) HX.out).mono ?_; rintro e w9 ⟨am, cm, ms, d, rfl, oM, nM, vM, lM, ld, b9⟩; rw [← EA.out] at vM
   clear qKF0 qKA0 qKA1 qKA2
   replace KF := KF.next b9
   replace KA := KA.next b9
   replace mA := mA.next b9
   replace sp := sp.next b9
   replace sl := sl.next b9
   replace sQ := sQ.next b9
   replace B0 := B0.trans (b9.mono B0.size)
   clear b9
   have HM := Lib.hid (show Nrm p ms ∧ MinTo A n (pl p ms) ∧ ms.length ≤ 10 from ⟨nM, vM, by omega⟩)
   have sM := oM.sl
   clear nM vM lM oM
   clear KF KA mA
   go_wp2_with fail
   refine (ref9_Same _ _ ps cs true _ sp sQ (by have := HPP.out.2.2; omega) (by have := HC.out.2.2; omega) (decide_eq_true (pl_inj HP.out.pos HPP.out.1 HC.out.1 (by rw [HPP.out.2.1, HC.out.2.1]; exact HCH.out))).symm).mono ?_; rintro e w10 ⟨rfl, q10⟩
   have b10 := q10.below w9.heap.size; clear q10
   replace sp := sp.next b10
   replace sl := sl.next b10
   replace sQ := sQ.next b10
   replace sM := sM.next b10
   replace B0 := B0.trans (b10.mono B0.size)
   clear b10
   clear sp sQ
   go_wp2_with fail
   refine (ref9_Same _ _ ls ms true _ sl sM (by have := HLL.out.2.2; omega) (by have := HM.out.2.2; omega) (decide_eq_true (pl_inj HP.out.pos HLL.out.1 HM.out.1 (by rw [HLL.out.2.1]; exact HMN.out _ HM.out.2.1))).symm).mono ?_; rintro e w11 ⟨rfl, q11⟩
   have b11 := q11.below w10.heap.size; clear q11
   replace sl := sl.next b11
   replace sM := sM.next b11
   replace B0 := B0.trans (b11.mono B0.size)
   clear b11
   clear sl sM
   go_wp2
   go_ret
   exact ⟨rfl, B0⟩
theorem walk (x0 : Nat) (v : Value) (R C : Int) (xs : List Nat) (w : World) (mA : Fm w v R C xs) : Calls Try.prog 14 #[.int .u8 x0, v] w (LawOk w) := by
 by_cases hf : R ≤ 4 ∧ C ≤ 4 ∧ xs.length ≤ 100
 ·by_cases hs : Fd R C xs.length ∧ R = C
  ·obtain ⟨h1, rfl⟩ := hs
   obtain ⟨r, c, e1, e2, h3, h4, h5⟩ := h1.nat
   subst e1
   have e3 : c = r := by omega
   subst e3
   exact good x0 c v xs w mA (by omega) h5 hf
  ·exact bad x0 v R C xs w mA hf hs
 ·exact not_few x0 v R C xs w mA hf
set_option maxRecDepth 100000 in
theorem lifted (os : Os) (started : os.Started) (H : Type) (enc : TypeId × Value → H) :
  ReturnsInHanded {} Try.checked os 14 .any (Rows.frobInvariantsSpec.pre6 enc Try.prog Try.f14 Rows.frobInvariantsRow.domain false) (Rows.frobInvariantsSpec.post enc Try.prog Try.f14 false true false false) := by
 refine returnsInHanded_of_change (C := Try.checked) own started (by kernel_rfl) Try.func14
  (ChangeSpec.witness6 (enc := enc) (C := Try.checked) false ⟨#[], #[.int .u8 0, .agg #[.int .i64 0, .int .i64 0, .slice none 0 0]], []⟩ 8 (by kernel_rfl) (by kernel_rfl) (by kernel_rfl) (by kernel_rfl)) ?_
 intro W base args ds gs before hval0 hW hcnd _
 have hval : ∀ (j : Nat) t v, Try.f14.params[j]? = some t → args[j]? = some v → Value.okWide Try.prog W .any base t v := hval0
 have hW' := hW
 obtain ⟨p, q, hA0, hV, rfl, hfz, hnd⟩ := hW
 have hA : DataW.TrodAll enc Try.prog W 0 (fun _ => true) true Try.f14.params.toList args.toList ds p := hA0
 rw [Try.params14] at hA hval
 obtain ⟨v0, vs0, d0, ds0, p0, q0, hargs, rfl, rfl, h0, r0⟩ := trodAll_cons hA
 obtain ⟨v1, vs1, d1, ds1, p1, q1, rfl, rfl, rfl, h1, r1⟩ := trodAll_cons r0
 obtain ⟨rfl, rfl, rfl⟩ := trodAll_nil r1
 obtain rfl : args = #[v0, v1] := by cases args; simp_all
 obtain ⟨rfl, rfl⟩ := trodVars_none hV
 have k0 := h0
 have lt0 : ∀ x ∈ p0, x.block < W.heap.size := by obtain ⟨m, hm⟩ := k0; exact DataW.trod_lt m _ _ _ hm
 obtain ⟨i0, rfl, rfl, rfl, wi0⟩ := open_int Try.underlying5 (hval 0 5 v0 rfl rfl) h0
 obtain ⟨x0, rfl⟩ := Int.eq_ofNat_of_zero_le (wf_u8_bounds wi0).1
 have k1 := h1
 have lt1 : ∀ x ∈ p1, x.block < W.heap.size := by obtain ⟨m, hm⟩ := k1; exact DataW.trod_lt m _ _ _ hm
 obtain ⟨R1, C1, xs1, m1, rb1, cb1⟩ := open_fm (hval 1 63 v1 rfl rfl) h1
 clear hA0 hval0
 refine (walk x0 v1 R1 C1 xs1 W  m1).mono fun e W' ⟨he, bel⟩ => ?_
 subst he
 exact ⟨_, rfl, _, _, _, [], _, [], hW', trodAll_mk1 (shut_bool Try.underlying4 _), (trodAll_cons_mk (Below.trod laidOut (by kernel_rfl) (of_decide_eq_true (by kernel_rfl)) k0 bel lt0) (trodAll_cons_mk (Below.trod laidOut (by kernel_rfl) (of_decide_eq_true (by kernel_rfl)) k1 bel lt1) trodAll_mk0)), rfl, bel.frame _, fun h => by cases h⟩
theorem over : Rows.frobInvariantsRow.holds Try.pinned (OpenSpec.ofChange Rows.frobInvariantsSpec) :=
 OpenClaim.holds_of_wide 14 Try.f14 rfl rfl rfl rfl rfl rfl rfl ⟨rfl, rfl, rfl, rfl, rfl⟩ rfl rfl rfl rfl rfl (by kernel_rfl) Try.func14 (by kernel_rfl)
  (of_decide_eq_true (by kernel_rfl)) (by unfold Func.isWrapper; first | (rw [if_pos (by decide +kernel)]; kernel_rfl) | (rw [if_neg (by decide +kernel)]; exact ⟨rfl, rfl⟩))
  (fun os started H enc _ => lifted os started H enc)
theorem proved : Rows.FrobInvariantsSaid := over
#print axioms proved
end Go.Proofs.Ytkmfhabgempjiaa.frobInvariants
