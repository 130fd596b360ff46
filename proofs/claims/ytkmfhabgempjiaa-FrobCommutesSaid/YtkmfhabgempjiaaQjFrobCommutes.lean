/- FrobCommutes: for every number and matrix the law returns true: the number that Commutes tells is the number of columns that span what commutes. No condition. -/
import Derived.Test.YtkmfhabgempjiaaRows
import Derived.Test.YtkmfhabgempjiaaQjM7
import Derived.Test.YtkmfhabgempjiaaQjM18
import Derived.Test.YtkmfhabgempjiaaQjM19
namespace Go.Proofs.Ytkmfhabgempjiaa.frobCommutes
set_option maxHeartbeats 4000000
open Go.ChangeShapes Go.WideShapes Go.ChangeAt Go.RowKit
open Go.ChangeMaps (open_string shut_string)
theorem own : ownKnob Try.prog.godebug = none := by kernel_rfl
theorem laidOut : laidOutB Try.prog = true := by kernel_rfl
theorem comm (p : Nat) (a : Value) (n : Nat) (xs : List Nat) (w : World) (hp : FP p) (tr : Trial p) (hA : Fm w a n n xs) (hn : n ≤ 3) (hx : xs.length = n * n) :
  Calls Try.prog 53 #[.agg #[.int .u64 p], a] w (fun e w' => ∃ K : Nat, (∀ Wk P d, RedF (n * n) (n * n) (n * n) (goM (mx p n n xs)).e Wk P d → (free (n * n) P).length = K) ∧ e = .returned (.tuple #[.int .i64 K, .int .i64 0]) ∧ Below w.heap.size w w') :=
 (fb_Commutes p a n xs w hp tr hA (by omega) hx).mono fun e w' h => by
  obtain ⟨W, U, V, X, zz, h1, h2, h3, h4⟩ := h
  exact ⟨_, fun Wk P d hR => (com_dim tr h1 hR).trans (cm_count hp h2).symm, h3, h4⟩
theorem sq9 {n : Nat} (hn : n ≤ 3) : n * n ≤ 9 := Nat.mul_le_mul hn hn
theorem going (p : Nat) (a : Value) (n : Nat) (xs : List Nat) (w : World) (hp : FP p) (hA : Fm w a n n xs) (hn : n ≤ 3) (hx : xs.length = n * n) (K : Nat) (hK : ∀ Wk P d, RedF (n * n) (n * n) (n * n) (goM (mx p n n xs)).e Wk P d → (free (n * n) P).length = K) :
  Calls Try.prog 56 #[a, .int .u64 p] w (fun e w' => ∃ (N : Nat) (G : MT (Zp p) N N), N ≤ 9 ∧ (∀ Wk P d, RedF N N N G.e Wk P d → (free N P).length = K) ∧ RetFm p w N N G e w') :=
 (rf25_Going p a n xs w hp hA hn hx).mono fun _ _ h => ⟨n * n, _, sq9 hn, hK, h⟩
theorem kern (p : Nat) (a : Value) (N : Nat) (ys : List Nat) (w : World) (hp : FP p) (tr : Trial p) (hA : Fm w a N N ys) (hn : N ≤ 9) (hx : ys.length = N * N) (K : Nat) (hK : ∀ Wk P d, RedF N N N (mx p N N ys).e Wk P d → (free N P).length = K) :
  Calls Try.prog 55 #[.agg #[.int .u64 p], a] w (fun e w' => ∃ ao L k, e = .returned (.tuple #[.agg #[.int .i64 N, .int .i64 K, .slice ao L k], .int .i64 0]) ∧ Below w.heap.size w w') :=
 (fm_Kernel p a N N ys w hp tr hA (by omega) (by omega) (Nat.le_refl _) hx).mono fun e w' h => by
  obtain ⟨W, P, d, M, hR, ao, k, he, -, hb⟩ := h
  obtain ⟨l, el⟩ : ∃ l, l = (tbv M).length := ⟨_, rfl⟩
  rw [← el, hK _ _ _ hR] at he
  exact ⟨_, _, _, he, hb⟩
set_option maxRecDepth 20000 in
theorem not_few (x0 : Nat) (v : Value) (R C : Int) (xs : List Nat) (w : World) (mA : Fm w v R C xs) (hf : ¬ (R ≤ 3 ∧ C ≤ 3 ∧ xs.length ≤ 100)) :
  Calls Try.prog 10 #[.int .u8 x0, v] w (LawOk w) := by
 obtain ⟨aA, cA, rfl⟩ := mA.agg
 obtain ⟨wb, ew, KA, B0, hsz⟩ := boxes1 w 63 [.int .i64 R, .int .i64 C, .slice aA xs.length cA]
 clear hsz
 replace mA := mA.next B0
 have HF := Lib.hid hf; clear hf
 go_enter Try.func10, Try.ntmps10
 go_upto_region 1 with (fail)
 rw [← ew]
 clear ew
 go_wp2_with fail
 refine (law25_awake _).mono ?_; rintro e w1 ⟨rfl, b1⟩
 replace mA := mA.next b1
 replace KA := KA.next b1
 replace B0 := B0.trans (b1.mono B0.size)
 clear b1
 have qKA0 := KA.cell 0
 have qKA1 := KA.cell 1
 have qKA2 := KA.cell 2
 go_wp2_with fail
 refine (rf21_Few _ R C 3 xs _ mA false (decide_eq_false HF.out).symm).mono ?_; rintro e w2 ⟨rfl, b2⟩
 clear qKA0 qKA1 qKA2
 replace mA := mA.next b2
 replace KA := KA.next b2
 replace B0 := B0.trans (b2.mono B0.size)
 clear b2
 clear mA
 go_wp2_with fail
 refine (law25_awake _).mono ?_; rintro e w3 ⟨rfl, b3⟩
 replace KA := KA.next b3
 replace B0 := B0.trans (b3.mono B0.size)
 clear b3
 go_wp2
 go_ret
 exact ⟨rfl, B0⟩
set_option maxRecDepth 20000 in
theorem bad (x0 : Nat) (v : Value) (R C : Int) (xs : List Nat) (w : World) (mA : Fm w v R C xs) (hf : (R ≤ 3 ∧ C ≤ 3 ∧ xs.length ≤ 100)) (hs : ¬ (Fd R C xs.length ∧ R = C)) :
  Calls Try.prog 10 #[.int .u8 x0, v] w (LawOk w) := by
 obtain ⟨p, ep⟩ : ∃ p, p = Ps (x0 % 12) := ⟨_, rfl⟩
 have hp : FP p := by rw [ep]; exact Ps_FP (by omega)
 have ht : Trial p := by rw [ep]; exact Ps_trial (by omega)
 have cOf : ∀ w : World, Calls Try.prog 17 #[.int .u8 x0] w fun e w' => e = .returned (.agg #[.int .u64 (p : Nat)]) ∧ Below w.heap.size w w' := fun w => by rw [ep]; exact law9_Of x0 w
 have cP : ∀ w : World, Calls Try.prog 18 #[.int .u8 x0] w fun e w' => e = .returned (.int .u64 (p : Nat)) ∧ w = w' := fun w => by rw [ep]; exact ref8_P x0 w
 have hp2 := hp.1
 have hp3 := hp.2
 have HP := Lib.hid hp; have HT := Lib.hid ht; have COF := Lib.hid cOf; have CP := Lib.hid cP
 clear hp ht cOf cP ep
 obtain ⟨aA, cA, rfl⟩ := mA.agg
 obtain ⟨wb, ew, KA, B0, hsz⟩ := boxes1 w 63 [.int .i64 R, .int .i64 C, .slice aA xs.length cA]
 clear hsz
 replace mA := mA.next B0
 have HF := Lib.hid hf; have HS := Lib.hid hs; clear hf hs
 go_enter Try.func10, Try.ntmps10
 go_upto_region 1 with (fail)
 rw [← ew]
 clear ew
 go_wp2_with fail
 refine (law25_awake _).mono ?_; rintro e w1 ⟨rfl, b1⟩
 replace mA := mA.next b1
 replace KA := KA.next b1
 replace B0 := B0.trans (b1.mono B0.size)
 clear b1
 have qKA0 := KA.cell 0
 have qKA1 := KA.cell 1
 have qKA2 := KA.cell 2
 go_wp2_with fail
 refine (rf21_Few _ R C 3 xs _ mA true (decide_eq_true HF.out).symm).mono ?_; rintro e w2 ⟨rfl, b2⟩
 clear qKA0 qKA1 qKA2
 replace mA := mA.next b2
 replace KA := KA.next b2
 replace B0 := B0.trans (b2.mono B0.size)
 clear b2
 go_wp2_with fail
 refine (COF.out _).mono ?_; rintro e w3 ⟨rfl, b3⟩
 replace mA := mA.next b3
 replace KA := KA.next b3
 replace B0 := B0.trans (b3.mono B0.size)
 clear b3
 go_wp2_with fail
 refine (CP.out _).mono ?_; rintro e wx ⟨rfl, rfl⟩
 obtain ⟨w4, e4, KF, b4, hs4⟩ := boxes1 w3 29 [.int .u64 p]
 clear hs4
 replace mA := mA.next b4
 replace KA := KA.next b4
 replace B0 := B0.trans (b4.mono B0.size)
 clear b4
 go_upto_region 4 with (fail)
 rw [← e4]
 clear e4
 have qKF0 := KF.cell 0
 have qKA0 := KA.cell 0
 have qKA1 := KA.cell 1
 have qKA2 := KA.cell 2
 go_wp2_with fail
 refine (fb_Commutes_no p _ R C xs _ mA HS.out).mono ?_; rintro e w5 ⟨rfl, b5⟩
 clear qKF0 qKA0 qKA1 qKA2
 replace mA := mA.next b5
 replace KA := KA.next b5
 replace KF := KF.next b5
 replace B0 := B0.trans (b5.mono B0.size)
 clear b5
 go_upto_region 5 with (fail)
 have qKA0 := KA.cell 0
 have qKA1 := KA.cell 1
 have qKA2 := KA.cell 2
 go_wp2_with fail
 refine (law25_square _ R C xs _ mA false (decide_eq_false HS.out).symm).mono ?_; rintro e w6 ⟨rfl, b6⟩
 clear qKA0 qKA1 qKA2
 replace mA := mA.next b6
 replace KA := KA.next b6
 replace KF := KF.next b6
 replace B0 := B0.trans (b6.mono B0.size)
 clear b6
 go_wp2
 go_ret
 exact ⟨rfl, B0⟩
set_option maxRecDepth 20000 in
theorem good (x0 : Nat) (n : Nat) (v : Value) (xs : List Nat) (w : World) (mA : Fm w v n n xs) (hn : n ≤ 3) (hx : xs.length = n * n) (hf : ((n : Int) ≤ 3 ∧ (n : Int) ≤ 3 ∧ xs.length ≤ 100)) :
  Calls Try.prog 10 #[.int .u8 x0, v] w (LawOk w) := by
 obtain ⟨p, ep⟩ : ∃ p, p = Ps (x0 % 12) := ⟨_, rfl⟩
 have hp : FP p := by rw [ep]; exact Ps_FP (by omega)
 have ht : Trial p := by rw [ep]; exact Ps_trial (by omega)
 have cOf : ∀ w : World, Calls Try.prog 17 #[.int .u8 x0] w fun e w' => e = .returned (.agg #[.int .u64 (p : Nat)]) ∧ Below w.heap.size w w' := fun w => by rw [ep]; exact law9_Of x0 w
 have cP : ∀ w : World, Calls Try.prog 18 #[.int .u8 x0] w fun e w' => e = .returned (.int .u64 (p : Nat)) ∧ w = w' := fun w => by rw [ep]; exact ref8_P x0 w
 have hp2 := hp.1
 have hp3 := hp.2
 have HP := Lib.hid hp; have HT := Lib.hid ht; have COF := Lib.hid cOf; have CP := Lib.hid cP
 clear hp ht cOf cP ep
 obtain ⟨aA, cA, rfl⟩ := mA.agg
 obtain ⟨wb, ew, KA, B0, hsz⟩ := boxes1 w 63 [.int .i64 n, .int .i64 n, .slice aA xs.length cA]
 clear hsz
 replace mA := mA.next B0
 have HF := Lib.hid hf; have HX := Lib.hid hx; clear hf hx
 have HFd := Lib.hid (Fd.of (show n ≤ 64 by omega) (show n ≤ 64 by omega) HX.out)
 go_enter Try.func10, Try.ntmps10
 go_upto_region 1 with (fail)
 rw [← ew]
 clear ew
 go_wp2_with fail
 refine (law25_awake _).mono ?_; rintro e w1 ⟨rfl, b1⟩
 replace mA := mA.next b1
 replace KA := KA.next b1
 replace B0 := B0.trans (b1.mono B0.size)
 clear b1
 have qKA0 := KA.cell 0
 have qKA1 := KA.cell 1
 have qKA2 := KA.cell 2
 go_wp2_with fail
 refine (rf21_Few _ n n 3 xs _ mA true (decide_eq_true HF.out).symm).mono ?_; rintro e w2 ⟨rfl, b2⟩
 clear qKA0 qKA1 qKA2
 replace mA := mA.next b2
 replace KA := KA.next b2
 replace B0 := B0.trans (b2.mono B0.size)
 clear b2
 go_wp2_with fail
 refine (COF.out _).mono ?_; rintro e w3 ⟨rfl, b3⟩
 replace mA := mA.next b3
 replace KA := KA.next b3
 replace B0 := B0.trans (b3.mono B0.size)
 clear b3
 go_wp2_with fail
 refine (CP.out _).mono ?_; rintro e wx ⟨rfl, rfl⟩
 obtain ⟨w4, e4, KF, b4, hs4⟩ := boxes1 w3 29 [.int .u64 p]
 clear hs4
 replace mA := mA.next b4
 replace KA := KA.next b4
 replace B0 := B0.trans (b4.mono B0.size)
 clear b4
 go_upto_region 4 with (fail)
 rw [← e4]
 clear e4
 have qKF0 := KF.cell 0
 have qKA0 := KA.cell 0
 have qKA1 := KA.cell 1
 have qKA2 := KA.cell 2
 go_wp2_with fail
 refine (comm p _ n xs _ HP.out HT.out mA hn HX.out).mono ?_; rintro e w5 ⟨K0, hK0, rfl, b5⟩; have HK := Lib.hid hK0; clear hK0
 clear qKF0 qKA0 qKA1 qKA2
 replace mA := mA.next b5
 replace KA := KA.next b5
 replace KF := KF.next b5
 replace B0 := B0.trans (b5.mono B0.size)
 clear b5
 go_upto_region 5 with (fail)
 have qKA0 := KA.cell 0
 have qKA1 := KA.cell 1
 have qKA2 := KA.cell 2
 go_wp2_with fail
 refine (law25_square _ n n xs _ mA true (decide_eq_true ⟨HFd.out, rfl⟩).symm).mono ?_; rintro e w6 ⟨rfl, b6⟩
 clear qKA0 qKA1 qKA2
 replace mA := mA.next b6
 replace KA := KA.next b6
 replace KF := KF.next b6
 replace B0 := B0.trans (b6.mono B0.size)
 clear b6
 go_upto_region 7 with (fail)
 go_cut [9, 10] (fun v9 v10 wx => ∃ (gQ N : Nat) (aQ : Option Addr) (L kQ : Nat), v9 = .pointer (some ⟨gQ, 0, none⟩) ∧ v10 = .int .i64 0 ∧ Blk 63 wx gQ [.int .i64 N, .int .i64 K0, .slice aQ L kQ] ∧ Below w6.heap.size w6 wx)
 case first =>
  have bd := dw w6
  replace mA := mA.next bd
  replace KA := KA.next bd
  replace KF := KF.next bd
  clear B0
  have zF0 := Lib.hid fun (w : World) (hS : Below (w6.drew).heap.size (w6.drew) w) => And.intro ((KF.at hS) 0) (And.intro ((KA.at hS) 0) (And.intro ((KA.at hS) 1) ((KA.at hS) 2)))
  refine startL (S := (fun w' => Below (w6.drew).heap.size (w6.drew) w')) (by kernel_rfl) (Below.refl _ _) (fun hHeld => ?_)
  generalize w6.drew = wd at *
  refine tf 0 zF0.out ?_
  refine tf 1 zF0.out ?_
  refine tk 2 ?_
  refine twoL 3 8 rfl rfl (by kernel_rfl) (by rfl) (by rfl) (fun K hK => ?_) (fun K hK => ?_)
  ·go_simp
   go_at_call 56
   (with_reducible refine (going p _ n xs _ HP.out (mA.next hHeld) (by omega) HX.out K0 HK.out).mono ?_); rintro e w7 ⟨N, G, hN, hG, a7, k7, rfl, o7, b7⟩
   have lG := Lib.hid (tbv_length G); have HG := Lib.hid hG; clear hG
   refine hK.out _ _ (hHeld.trans (b7.mono hHeld.size)) (fun hHeld => ?_)
   clear hK K
   try simp only [Act.put, zq1, zq2, zq3]
   refine twoL 4 8 rfl rfl (by kernel_rfl) (by rfl) (by rfl) (fun K hK => ?_) (fun K hK => ?_)
   ·have m7 : Fm w7 (.agg #[.int .i64 N, .int .i64 N, .slice a7 (tbv G).length k7]) N N (tbv G) := ⟨_, rfl, o7.sl⟩
    go_simp
    go_at_call 55
    (with_reducible refine (kern p _ N (tbv G) _ HP.out HT.out m7 hN lG.out K0 (by rw [mx_tbv]; exact HG.out)).mono ?_); rintro e w8 ⟨aQ, L, kQ, rfl, b8⟩
    refine hK.out _ _ (hHeld.trans (b8.mono hHeld.size)) (fun hHeld => ?_)
    clear hK K
    try simp only [Act.put, zq1, zq2, zq3]
    refine tk 5 ?_
    refine tk 6 ?_
    refine tk 7 ?_
    refine on 8 fun K hK => ?_
    go_simp
    have hd9 := hHeld
    obtain ⟨w9, e9, KZ, b9, -⟩ := boxes1 w8 63 [.int .i64 0, .int .i64 0, .slice none 0 0]
    rw [← e9]
    clear e9
    refine hK.out _ _ (hHeld.trans (b9.mono hHeld.size)) (fun hHeld => ?_)
    clear hK K
    try simp only [Act.put, zq1, zq2, zq3]
    have y0 := KZ.cell 0; have y1 := KZ.cell 1; have y2 := KZ.cell 2; have z0 := KZ.free 0; have z1 := KZ.free 1; have z2 := KZ.free 2
    refine on 9 fun K hK => ?_
    go_simp
    have he9 := hHeld
    refine hK.out _ _ (((hHeld.setCell (p := ⟨w8.heap.size, 0, none⟩) hd9.size (.int .i64 N)).setCell (p := ⟨w8.heap.size, 1, none⟩) hd9.size (.int .i64 K0)).setCell (p := ⟨w8.heap.size, 2, none⟩) hd9.size (.slice aQ L kQ)) (fun hHeld => ?_)
    clear hK K
    try simp only [Act.put, zq1, zq2, zq3]
    refine tk 10 ?_
    clear zF0; refine doneL (by kernel_rfl) ?_ _
    have K9 := ((KZ.set 0 (.int .i64 N)).set 1 (.int .i64 K0)).set 2 (.slice aQ L kQ)
    have BF := bd.trans (hHeld.mono bd.size)
    clear hHeld KZ b7 b8 b9 bd KA KF mA m7 o7 y0 y1 y2 z0 z1 z2
    go_wp2_with fail
    go_meet
    exact ⟨_, N, aQ, L, kQ, rfl, rfl, K9, BF⟩
   ·go_simp
    have hd9 := hHeld
    obtain ⟨w9, e9, KZ, b9, -⟩ := boxes1 w7 63 [.int .i64 0, .int .i64 0, .slice none 0 0]
    rw [← e9]
    clear e9
    refine hK.out _ _ (hHeld.trans (b9.mono hHeld.size)) (fun hHeld => ?_)
    clear hK K
    try simp only [Act.put, zq1, zq2, zq3]
    refine on 4 fun K hK => ?_
    have m7 : Fm w9 (.agg #[.int .i64 N, .int .i64 N, .slice a7 (tbv G).length k7]) N N (tbv G) := ⟨_, rfl, (o7.next b9).sl⟩
    go_simp
    go_at_call 55
    (with_reducible refine (kern p _ N (tbv G) _ HP.out HT.out m7 hN lG.out K0 (by rw [mx_tbv]; exact HG.out)).mono ?_); rintro e w8 ⟨aQ, L, kQ, rfl, b8⟩
    have KZ8 := KZ.next b8; have y0 := KZ8.cell 0; have y1 := KZ8.cell 1; have y2 := KZ8.cell 2; have z0 := KZ8.free 0; have z1 := KZ8.free 1; have z2 := KZ8.free 2
    refine hK.out _ _ (hHeld.trans (b8.mono hHeld.size)) (fun hHeld => ?_)
    clear hK K
    try simp only [Act.put, zq1, zq2, zq3]
    refine tk 5 ?_
    refine tk 6 ?_
    refine tk 7 ?_
    refine on 9 fun K hK => ?_
    go_simp
    have he9 := hHeld
    refine hK.out _ _ (((hHeld.setCell (p := ⟨w7.heap.size, 0, none⟩) b7.size (.int .i64 N)).setCell (p := ⟨w7.heap.size, 1, none⟩) b7.size (.int .i64 K0)).setCell (p := ⟨w7.heap.size, 2, none⟩) b7.size (.slice aQ L kQ)) (fun hHeld => ?_)
    clear hK K
    try simp only [Act.put, zq1, zq2, zq3]
    refine tk 10 ?_
    clear zF0; refine doneL (by kernel_rfl) ?_ _
    have K9 := ((KZ8.set 0 (.int .i64 N)).set 1 (.int .i64 K0)).set 2 (.slice aQ L kQ)
    have BF := bd.trans (hHeld.mono bd.size)
    clear hHeld KZ b7 b8 b9 bd KA KF mA m7 o7 y0 y1 y2 z0 z1 z2
    go_wp2_with fail
    go_meet
    exact ⟨_, N, aQ, L, kQ, rfl, rfl, K9, BF⟩
  ·go_simp
   have hd9 := hHeld
   obtain ⟨w9, e9, KZ, b9, -⟩ := boxes1 wd 63 [.int .i64 0, .int .i64 0, .slice none 0 0]
   rw [← e9]
   clear e9
   refine hK.out _ _ (hHeld.trans (b9.mono hHeld.size)) (fun hHeld => ?_)
   clear hK K
   try simp only [Act.put, zq1, zq2, zq3]
   refine on 3 fun K hK => ?_
   go_simp
   go_at_call 56
   (with_reducible refine (going p _ n xs _ HP.out (mA.next hHeld) (by omega) HX.out K0 HK.out).mono ?_); rintro e w7 ⟨N, G, hN, hG, a7, k7, rfl, o7, b7⟩
   have lG := Lib.hid (tbv_length G); have HG := Lib.hid hG; clear hG
   have KZ7 := KZ.next b7
   refine hK.out _ _ (hHeld.trans (b7.mono hHeld.size)) (fun hHeld => ?_)
   clear hK K
   try simp only [Act.put, zq1, zq2, zq3]
   refine on 4 fun K hK => ?_
   have m7 : Fm w7 (.agg #[.int .i64 N, .int .i64 N, .slice a7 (tbv G).length k7]) N N (tbv G) := ⟨_, rfl, o7.sl⟩
   go_simp
   go_at_call 55
   (with_reducible refine (kern p _ N (tbv G) _ HP.out HT.out m7 hN lG.out K0 (by rw [mx_tbv]; exact HG.out)).mono ?_); rintro e w8 ⟨aQ, L, kQ, rfl, b8⟩
   have KZ8 := KZ7.next b8; have y0 := KZ8.cell 0; have y1 := KZ8.cell 1; have y2 := KZ8.cell 2; have z0 := KZ8.free 0; have z1 := KZ8.free 1; have z2 := KZ8.free 2
   refine hK.out _ _ (hHeld.trans (b8.mono hHeld.size)) (fun hHeld => ?_)
   clear hK K
   try simp only [Act.put, zq1, zq2, zq3]
   refine tk 5 ?_
   refine tk 6 ?_
   refine tk 7 ?_
   refine on 9 fun K hK => ?_
   go_simp
   have he9 := hHeld
   refine hK.out _ _ (((hHeld.setCell (p := ⟨wd.heap.size, 0, none⟩) (Nat.le_refl _) (.int .i64 N)).setCell (p := ⟨wd.heap.size, 1, none⟩) (Nat.le_refl _) (.int .i64 K0)).setCell (p := ⟨wd.heap.size, 2, none⟩) (Nat.le_refl _) (.slice aQ L kQ)) (fun hHeld => ?_)
   clear hK K
   try simp only [Act.put, zq1, zq2, zq3]
   refine tk 10 ?_
   clear zF0; refine doneL (by kernel_rfl) ?_ _
   have K9 := ((KZ8.set 0 (.int .i64 N)).set 1 (.int .i64 K0)).set 2 (.slice aQ L kQ)
   have BF := bd.trans (hHeld.mono bd.size)
   clear hHeld KZ b7 b8 b9 bd KA KF mA m7 o7 y0 y1 y2 z0 z1 z2
   go_wp2_with fail
   go_meet
   exact ⟨_, N, aQ, L, kQ, rfl, rfl, K9, BF⟩
 case rest =>
  obtain ⟨gQ, N, aQ, L, kQ, rfl, rfl, KQ, bq⟩ := hcut
  replace B0 := B0.trans (bq.mono B0.size)
  clear bq KA KF mA
  have qQ1 := KQ.cell 1
  go_wp2
  go_ret
  exact ⟨rfl, B0⟩
theorem walk (x0 : Nat) (v : Value) (R C : Int) (xs : List Nat) (w : World) (mA : Fm w v R C xs) : Calls Try.prog 10 #[.int .u8 x0, v] w (LawOk w) := by
 by_cases hf : R ≤ 3 ∧ C ≤ 3 ∧ xs.length ≤ 100
 ·by_cases hs : Fd R C xs.length ∧ R = C
  ·obtain ⟨h1, rfl⟩ := hs
   obtain ⟨r, c, e1, e2, h3, h4, h5⟩ := h1.nat
   subst e1
   have e3 : c = r := by omega
   subst e3
   exact good x0 c v xs w mA (by omega) h5 hf
  ·exact bad x0 v R C xs w mA hf hs
 ·exact not_few x0 v R C xs w mA hf
set_option maxRecDepth 100000 in
theorem lifted (os : Os) (started : os.Started) (H : Type) (enc : TypeId × Value → H) :
  ReturnsInHanded {} Try.checked os 10 .any (Rows.frobCommutesSpec.pre6 enc Try.prog Try.f10 Rows.frobCommutesRow.domain false) (Rows.frobCommutesSpec.post enc Try.prog Try.f10 false true false false) := by
 refine returnsInHanded_of_change (C := Try.checked) own started (by kernel_rfl) Try.func10
  (ChangeSpec.witness6 (enc := enc) (C := Try.checked) false ⟨#[], #[.int .u8 0, .agg #[.int .i64 0, .int .i64 0, .slice none 0 0]], []⟩ 8 (by kernel_rfl) (by kernel_rfl) (by kernel_rfl) (by kernel_rfl)) ?_
 intro W base args ds gs before hval0 hW hcnd _
 have hval : ∀ (j : Nat) t v, Try.f10.params[j]? = some t → args[j]? = some v → Value.okWide Try.prog W .any base t v := hval0
 have hW' := hW
 obtain ⟨p, q, hA0, hV, rfl, hfz, hnd⟩ := hW
 have hA : DataW.TrodAll enc Try.prog W 0 (fun _ => true) true Try.f10.params.toList args.toList ds p := hA0
 rw [Try.params10] at hA hval
 obtain ⟨v0, vs0, d0, ds0, p0, q0, hargs, rfl, rfl, h0, r0⟩ := trodAll_cons hA
 obtain ⟨v1, vs1, d1, ds1, p1, q1, rfl, rfl, rfl, h1, r1⟩ := trodAll_cons r0
 obtain ⟨rfl, rfl, rfl⟩ := trodAll_nil r1
 obtain rfl : args = #[v0, v1] := by cases args; simp_all
 obtain ⟨rfl, rfl⟩ := trodVars_none hV
 have k0 := h0
 have lt0 : ∀ x ∈ p0, x.block < W.heap.size := by obtain ⟨m, hm⟩ := k0; exact DataW.trod_lt m _ _ _ hm
 obtain ⟨i0, rfl, rfl, rfl, wi0⟩ := open_int Try.underlying5 (hval 0 5 v0 rfl rfl) h0
 obtain ⟨x0, rfl⟩ := Int.eq_ofNat_of_zero_le (wf_u8_bounds wi0).1
 have k1 := h1
 have lt1 : ∀ x ∈ p1, x.block < W.heap.size := by obtain ⟨m, hm⟩ := k1; exact DataW.trod_lt m _ _ _ hm
 obtain ⟨R1, C1, xs1, m1, rb1, cb1⟩ := open_fm (hval 1 63 v1 rfl rfl) h1
 clear hA0 hval0
 refine (walk x0 v1 R1 C1 xs1 W  m1).mono fun e W' ⟨he, bel⟩ => ?_
 subst he
 exact ⟨_, rfl, _, _, _, [], _, [], hW', trodAll_mk1 (shut_bool Try.underlying4 _), (trodAll_cons_mk (Below.trod laidOut (by kernel_rfl) (of_decide_eq_true (by kernel_rfl)) k0 bel lt0) (trodAll_cons_mk (Below.trod laidOut (by kernel_rfl) (of_decide_eq_true (by kernel_rfl)) k1 bel lt1) trodAll_mk0)), rfl, bel.frame _, fun h => by cases h⟩
theorem over : Rows.frobCommutesRow.holds Try.pinned (OpenSpec.ofChange Rows.frobCommutesSpec) :=
 OpenClaim.holds_of_wide 10 Try.f10 rfl rfl rfl rfl rfl rfl rfl ⟨rfl, rfl, rfl, rfl, rfl⟩ rfl rfl rfl rfl rfl (by kernel_rfl) Try.func10 (by kernel_rfl)
  (of_decide_eq_true (by kernel_rfl)) (by unfold Func.isWrapper; first | (rw [if_pos (by decide +kernel)]; kernel_rfl) | (rw [if_neg (by decide +kernel)]; exact ⟨rfl, rfl⟩))
  (fun os started H enc _ => lifted os started H enc)
theorem proved : Rows.FrobCommutesSaid := over
#print axioms proved
end Go.Proofs.Ytkmfhabgempjiaa.frobCommutes
