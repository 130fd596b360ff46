/- HessOrders: for every number, matrix and column the law returns true: the order of a column makes noughts of it, its images below the degree hang on none of each other, and it divides the minimal polynomial. No condition. -/
import Derived.Test.YthghdjpjbngllaaRows
import Derived.Test.YthghdjpjbngllaaHz
import Derived.Test.YthghdjpjbngllaaRfk
namespace Go.Proofs.Ythghdjpjbngllaa.hessOrders
open Go.ChangeShapes Go.WideShapes Go.ChangeAt Go.RowKit
open Go.ChangeMaps (open_string shut_string)

theorem own : ownKnob Try.prog.godebug = none := by kernel_rfl
theorem laidOut : laidOutB Try.prog = true := by kernel_rfl

theorem fm_col {w : World} {u : Value} {n : Nat} {gs : List Nat} (h : Sl .u64 w u gs) : Fm w (.agg #[.int .i64 n, .int .i64 1, u]) n (1 : Nat) gs := ⟨u, rfl, h⟩
theorem at2 {n : Nat} (hn : n ≤ 4) : n * n ≤ 16 := Nat.mul_le_mul hn hn
theorem zero_words {p n : Nat} {M : MT (Zp p) n 1} (h : M = 0) : ∀ i, i < (tbv M).length → (tbv M).getD i 0 % p = 0 := by
  intro i hi
  rw [tb1_len] at hi
  rw [tb1_get M hi, h]
  show (0 : Zp p).val % p = 0
  rw [Zp.zero_val, Nat.zero_mod]
theorem div_rest {p d : Nat} (hp : FP p) (ht : Trial p) {xs ys zr : List Nat} {q : Pol (Zp p)} (hy : Nrm p ys) (hl : ys.length = d + 1) (hz : Nrm p zr) (h : pl p xs = q * pl p ys + pl p zr) (hlt : zr.length < ys.length) (hd : Dv (pl p ys) (pl p xs)) : zr = [] := by
  obtain ⟨c, hc⟩ := hd
  have hb : Ln (pl p ys) (d + 1) := by rw [← hl]; exact nrm_ln hp.pos hy
  have h0 : c * pl p ys + 0 = q * pl p ys + pl p zr := by rw [CR.add_zero, ← h, hc, CR.mul_comm]
  have h1 := (div_unique ht hb (dlt_zero d) (dlt_mono (pl_dlt p zr) (by omega)) h0).2
  exact pl_zero hp.pos hz h1.symm
section
variable {p n : Nat}
/-- The first images' places, as words. -/
def imT (A : MT (Zp p) n n) (v : MT (Zp p) n 1) : Nat → Nat → Nat := fun i t => ((A.pow i * v).e t 0).val
theorem imT_row (A : MT (Zp p) n n) (v : MT (Zp p) n 1) (i : Nat) : ftab n (imT A v) ((i + 1) * n) = ftab n (imT A v) (i * n) ++ tbv (A.pow i * v) := by
  rw [Nat.succ_mul, ftab_row]
  congr 1
  unfold tbv ftab imT
  rw [Nat.mul_one]
  exact List.map_congr_left fun j _ => by rw [Nat.div_one, Nat.mod_one]
def imM (A : MT (Zp p) n n) (v : MT (Zp p) n 1) (d : Nat) : MT (Zp p) d n := MT.of d n fun i t => (A.pow i * v).e t 0
theorem imM_tbv (A : MT (Zp p) n n) (v : MT (Zp p) n 1) (d : Nat) : ftab n (imT A v) (d * n) = tbv (imM A v d) := tbv_of _ _ fun _ _ _ _ => rfl
theorem im_indep {d : Nat} (ht : Trial p) {A : MT (Zp p) n n} {v : MT (Zp p) n 1} {q : Pol (Zp p)} (hq : IsOrd q A v) (hl : Ln q (d + 1)) (x : Nat → Zp p) (h : ∀ k, k < n → sm d (fun j => x j * (imM A v d).e j k) = 0) : ∀ j, j < d → x j = 0 := by
  have h0 : pev (pof d x) A * v = 0 := by
    rw [pev_col (pof_dlt d x)]
    refine MT.ext fun i k hi hk => ?_
    obtain rfl : k = 0 := by omega
    rw [ms_e, MT.e_zero, ← h i hi]
    refine sm_congr fun j hj => ?_
    unfold imM
    rw [MT.e_sc, pof_c _ hj, MT.of_e _ hj hi]
  have h1 := hq.indep ht hl (pof_dlt d x) h0
  intro j hj
  rw [← pof_c x hj, h1]; rfl
end
/-- Where the images' rows stand. -/
def OcR (w0 wr : World) (gL i n : Nat) (L : List Nat) : Prop := ∃ ao k, Blk 42 wr gL [.int .i64 i, .int .i64 n, .slice ao L.length k] ∧ Own .u64 27 wr (gL + 1) (.slice ao L.length k) L ∧ Below gL w0 wr

set_option maxRecDepth 20000 in
set_option maxHeartbeats 4000000 in
theorem not_few (x0 : Nat) (v u : Value) (R C : Int) (xs gs : List Nat) (w : World) (mA : Fm w v R C xs) (sq : Sl .u64 w u gs) (hf : ¬ (R ≤ 4 ∧ C ≤ 4 ∧ xs.length ≤ 100)) :
    Calls Try.prog 14 #[.int .u8 x0, v, u] w (LawOk w) := by
  obtain ⟨aA, cA, rfl⟩ := mA.agg
  obtain ⟨aq, bq, oq, cq, rfl, hcq, kq⟩ := sq
  have sq : Sl .u64 w (.slice aq gs.length cq) gs := ⟨aq, bq, oq, cq, rfl, hcq, kq⟩
  clear kq hcq
  obtain ⟨wb, ew, KA, B0, hsz⟩ := boxes1 w 42 [.int .i64 R, .int .i64 C, .slice aA xs.length cA]
  clear hsz
  replace mA := mA.next B0
  replace sq := sq.next B0
  have HF := Lib.hid hf; clear hf
  go_enter Try.func14, Try.ntmps14
  go_upto_region 1 with (fail)
  rw [← ew]
  clear ew
  go_wp2_with fail
  refine (law22_awake _).mono ?_; rintro e w1 ⟨rfl, b1⟩
  replace mA := mA.next b1
  replace KA := KA.next b1
  replace sq := sq.next b1
  replace B0 := B0.trans (b1.mono B0.size)
  clear b1
  have qKA0 := KA.cell 0
  have qKA1 := KA.cell 1
  have qKA2 := KA.cell 2
  go_wp2_with fail
  refine (rf21_Few _ R C 4 xs _ mA false (decide_eq_false HF.out).symm).mono ?_; rintro e w2 ⟨rfl, b2⟩
  clear qKA0 qKA1 qKA2
  replace mA := mA.next b2
  replace KA := KA.next b2
  replace sq := sq.next b2
  replace B0 := B0.trans (b2.mono B0.size)
  clear b2
  clear mA sq
  go_wp2_with fail
  refine (law22_awake _).mono ?_; rintro e w3 ⟨rfl, b3⟩
  replace KA := KA.next b3
  replace B0 := B0.trans (b3.mono B0.size)
  clear b3
  go_wp2
  go_ret
  exact ⟨rfl, B0⟩

set_option maxRecDepth 20000 in
set_option maxHeartbeats 4000000 in
theorem long (x0 : Nat) (v u : Value) (R C : Int) (xs gs : List Nat) (w : World) (mA : Fm w v R C xs) (sq : Sl .u64 w u gs) (hf : R ≤ 4 ∧ C ≤ 4 ∧ xs.length ≤ 100) (hg : ¬ gs.length ≤ 5) :
    Calls Try.prog 14 #[.int .u8 x0, v, u] w (LawOk w) := by
  obtain ⟨aA, cA, rfl⟩ := mA.agg
  obtain ⟨aq, bq, oq, cq, rfl, hcq, kq⟩ := sq
  have sq : Sl .u64 w (.slice aq gs.length cq) gs := ⟨aq, bq, oq, cq, rfl, hcq, kq⟩
  clear kq hcq
  obtain ⟨wb, ew, KA, B0, hsz⟩ := boxes1 w 42 [.int .i64 R, .int .i64 C, .slice aA xs.length cA]
  clear hsz
  replace mA := mA.next B0
  replace sq := sq.next B0
  have HF := Lib.hid hf; clear hf
  have hg5 : (5 : Int) < (gs.length : Int) := by omega
  clear hg
  go_enter Try.func14, Try.ntmps14
  go_upto_region 1 with (fail)
  rw [← ew]
  clear ew
  go_wp2_with fail
  refine (law22_awake _).mono ?_; rintro e w1 ⟨rfl, b1⟩
  replace mA := mA.next b1
  replace KA := KA.next b1
  replace sq := sq.next b1
  replace B0 := B0.trans (b1.mono B0.size)
  clear b1
  have qKA0 := KA.cell 0
  have qKA1 := KA.cell 1
  have qKA2 := KA.cell 2
  go_wp2_with fail
  refine (rf21_Few _ R C 4 xs _ mA true (decide_eq_true HF.out).symm).mono ?_; rintro e w2 ⟨rfl, b2⟩
  clear qKA0 qKA1 qKA2
  replace mA := mA.next b2
  replace KA := KA.next b2
  replace sq := sq.next b2
  replace B0 := B0.trans (b2.mono B0.size)
  clear b2
  clear mA sq
  go_wp2_with fail
  refine (law22_awake _).mono ?_; rintro e w3 ⟨rfl, b3⟩
  replace KA := KA.next b3
  replace B0 := B0.trans (b3.mono B0.size)
  clear b3
  go_wp2
  go_ret
  exact ⟨rfl, B0⟩

set_option maxRecDepth 20000 in
set_option maxHeartbeats 4000000 in
theorem bad (x0 : Nat) (v u : Value) (R C : Int) (xs gs : List Nat) (w : World) (mA : Fm w v R C xs) (sq : Sl .u64 w u gs) (hg : gs.length ≤ 5) (hf : R ≤ 4 ∧ C ≤ 4 ∧ xs.length ≤ 100) (hs : ¬ (Fd R C xs.length ∧ R = C)) :
    Calls Try.prog 14 #[.int .u8 x0, v, u] w (LawOk w) := by
  obtain ⟨p, ep⟩ : ∃ p, p = Ps (x0 % 12) := ⟨_, rfl⟩
  have hp : FP p := by rw [ep]; exact Ps_FP (by omega)
  have ht : Trial p := by rw [ep]; exact Ps_trial (by omega)
  have cOf : ∀ w : World, Calls Try.prog 17 #[.int .u8 x0] w fun e w' => e = .returned (.agg #[.int .u64 (p : Nat)]) ∧ Below w.heap.size w w' := fun w => by rw [ep]; exact law9_Of x0 w
  have cP : ∀ w : World, Calls Try.prog 18 #[.int .u8 x0] w fun e w' => e = .returned (.int .u64 (p : Nat)) ∧ w = w' := fun w => by rw [ep]; exact ref8_P x0 w
  have hp2 := hp.1
  have hp3 := hp.2
  have HP := Lib.hid hp; have HT := Lib.hid ht; have COF := Lib.hid cOf; have CP := Lib.hid cP
  clear hp ht cOf cP ep
  obtain ⟨aA, cA, rfl⟩ := mA.agg
  obtain ⟨aq, bq, oq, cq, rfl, hcq, kq⟩ := sq
  have sq : Sl .u64 w (.slice aq gs.length cq) gs := ⟨aq, bq, oq, cq, rfl, hcq, kq⟩
  clear kq hcq
  obtain ⟨wb, ew, KA, B0, hsz⟩ := boxes1 w 42 [.int .i64 R, .int .i64 C, .slice aA xs.length cA]
  clear hsz
  replace mA := mA.next B0
  replace sq := sq.next B0
  have HF := Lib.hid hf; have HS := Lib.hid hs; clear hf hs
  have hg5 : ¬ (5 : Int) < (gs.length : Int) := by omega
  clear hg
  go_enter Try.func14, Try.ntmps14
  go_upto_region 1 with (fail)
  rw [← ew]
  clear ew
  go_wp2_with fail
  refine (law22_awake _).mono ?_; rintro e w1 ⟨rfl, b1⟩
  replace mA := mA.next b1
  replace KA := KA.next b1
  replace sq := sq.next b1
  replace B0 := B0.trans (b1.mono B0.size)
  clear b1
  have qKA0 := KA.cell 0
  have qKA1 := KA.cell 1
  have qKA2 := KA.cell 2
  go_wp2_with fail
  refine (rf21_Few _ R C 4 xs _ mA true (decide_eq_true HF.out).symm).mono ?_; rintro e w2 ⟨rfl, b2⟩
  clear qKA0 qKA1 qKA2
  replace mA := mA.next b2
  replace KA := KA.next b2
  replace sq := sq.next b2
  replace B0 := B0.trans (b2.mono B0.size)
  clear b2
  go_wp2_with fail
  refine (COF.out _).mono ?_; rintro e w3 ⟨rfl, b3⟩
  replace mA := mA.next b3
  replace KA := KA.next b3
  replace sq := sq.next b3
  replace B0 := B0.trans (b3.mono B0.size)
  clear b3
  go_wp2_with fail
  refine (CP.out _).mono ?_; rintro e wx ⟨rfl, rfl⟩
  obtain ⟨w4, e4, KF, b4, hs4⟩ := boxes1 w3 29 [.int .u64 p]
  clear hs4
  replace mA := mA.next b4
  replace KA := KA.next b4
  replace sq := sq.next b4
  replace B0 := B0.trans (b4.mono B0.size)
  clear b4
  go_upto_region 4 with (fail)
  rw [← e4]
  clear e4
  have qKF0 := KF.cell 0
  have qKA0 := KA.cell 0
  have qKA1 := KA.cell 1
  have qKA2 := KA.cell 2
  go_wp2_with fail
  refine (hs_Order_no p _ _ R C xs gs _ mA sq HS.out).mono ?_; rintro e w5 ⟨rfl, b5⟩
  clear qKF0 qKA0 qKA1 qKA2
  replace mA := mA.next b5
  replace KA := KA.next b5
  replace sq := sq.next b5
  replace KF := KF.next b5
  replace B0 := B0.trans (b5.mono B0.size)
  clear b5
  go_upto_region 5 with (fail)
  have qKA0 := KA.cell 0
  have qKA1 := KA.cell 1
  have qKA2 := KA.cell 2
  go_wp2_with fail
  refine (law22_square _ R C xs _ mA false (decide_eq_false HS.out).symm).mono ?_; rintro e w6 ⟨rfl, b6⟩
  clear qKA0 qKA1 qKA2
  replace mA := mA.next b6
  replace KA := KA.next b6
  replace sq := sq.next b6
  replace KF := KF.next b6
  replace B0 := B0.trans (b6.mono B0.size)
  clear b6
  go_wp2
  go_ret
  exact ⟨rfl, B0⟩

set_option maxRecDepth 20000 in
set_option maxHeartbeats 4000000 in
theorem badlen (x0 : Nat) (v u : Value) (n : Nat) (xs gs : List Nat) (w : World) (mA : Fm w v n n xs) (sq : Sl .u64 w u gs) (hg : gs.length ≤ 5) (hl : ¬ gs.length = n) (hn : n ≤ 4) (hx : xs.length = n * n) (hf : (n : Int) ≤ 4 ∧ (n : Int) ≤ 4 ∧ xs.length ≤ 100) :
    Calls Try.prog 14 #[.int .u8 x0, v, u] w (LawOk w) := by
  obtain ⟨p, ep⟩ : ∃ p, p = Ps (x0 % 12) := ⟨_, rfl⟩
  have hp : FP p := by rw [ep]; exact Ps_FP (by omega)
  have ht : Trial p := by rw [ep]; exact Ps_trial (by omega)
  have cOf : ∀ w : World, Calls Try.prog 17 #[.int .u8 x0] w fun e w' => e = .returned (.agg #[.int .u64 (p : Nat)]) ∧ Below w.heap.size w w' := fun w => by rw [ep]; exact law9_Of x0 w
  have cP : ∀ w : World, Calls Try.prog 18 #[.int .u8 x0] w fun e w' => e = .returned (.int .u64 (p : Nat)) ∧ w = w' := fun w => by rw [ep]; exact ref8_P x0 w
  have hp2 := hp.1
  have hp3 := hp.2
  have HP := Lib.hid hp; have HT := Lib.hid ht; have COF := Lib.hid cOf; have CP := Lib.hid cP
  clear hp ht cOf cP ep
  obtain ⟨aA, cA, rfl⟩ := mA.agg
  obtain ⟨aq, bq, oq, cq, rfl, hcq, kq⟩ := sq
  have sq : Sl .u64 w (.slice aq gs.length cq) gs := ⟨aq, bq, oq, cq, rfl, hcq, kq⟩
  clear kq hcq
  obtain ⟨wb, ew, KA, B0, hsz⟩ := boxes1 w 42 [.int .i64 n, .int .i64 n, .slice aA xs.length cA]
  clear hsz
  replace mA := mA.next B0
  replace sq := sq.next B0
  have HF := Lib.hid hf; have HX := Lib.hid hx; clear hf hx
  have HFd := Lib.hid (Fd.of (show n ≤ 64 by omega) (show n ≤ 64 by omega) HX.out)
  have hnn : ((n : Int) != (n : Int)) = false := by simp
  have hg5 : ¬ (5 : Int) < (gs.length : Int) := by omega
  clear hg
  have hne : ((gs.length : Int) != (n : Int)) = true := by simp; omega
  go_enter Try.func14, Try.ntmps14
  go_upto_region 1 with (fail)
  rw [← ew]
  clear ew
  go_wp2_with fail
  refine (law22_awake _).mono ?_; rintro e w1 ⟨rfl, b1⟩
  replace mA := mA.next b1
  replace KA := KA.next b1
  replace sq := sq.next b1
  replace B0 := B0.trans (b1.mono B0.size)
  clear b1
  have qKA0 := KA.cell 0
  have qKA1 := KA.cell 1
  have qKA2 := KA.cell 2
  go_wp2_with fail
  refine (rf21_Few _ n n 4 xs _ mA true (decide_eq_true HF.out).symm).mono ?_; rintro e w2 ⟨rfl, b2⟩
  clear qKA0 qKA1 qKA2
  replace mA := mA.next b2
  replace KA := KA.next b2
  replace sq := sq.next b2
  replace B0 := B0.trans (b2.mono B0.size)
  clear b2
  go_wp2_with fail
  refine (COF.out _).mono ?_; rintro e w3 ⟨rfl, b3⟩
  replace mA := mA.next b3
  replace KA := KA.next b3
  replace sq := sq.next b3
  replace B0 := B0.trans (b3.mono B0.size)
  clear b3
  go_wp2_with fail
  refine (CP.out _).mono ?_; rintro e wx ⟨rfl, rfl⟩
  obtain ⟨w4, e4, KF, b4, hs4⟩ := boxes1 w3 29 [.int .u64 p]
  clear hs4
  replace mA := mA.next b4
  replace KA := KA.next b4
  replace sq := sq.next b4
  replace B0 := B0.trans (b4.mono B0.size)
  clear b4
  go_upto_region 4 with (fail)
  rw [← e4]
  clear e4
  have qKF0 := KF.cell 0
  have qKA0 := KA.cell 0
  have qKA1 := KA.cell 1
  have qKA2 := KA.cell 2
  go_wp2_with fail
  refine (hs_Order_len p _ _ n xs gs _ mA sq (by omega) HX.out hl).mono ?_; rintro e w5 ⟨rfl, b5⟩; clear hl
  clear qKF0 qKA0 qKA1 qKA2
  replace mA := mA.next b5
  replace KA := KA.next b5
  replace sq := sq.next b5
  replace KF := KF.next b5
  replace B0 := B0.trans (b5.mono B0.size)
  clear b5
  go_upto_region 5 with (fail)
  have qKA0 := KA.cell 0
  have qKA1 := KA.cell 1
  have qKA2 := KA.cell 2
  go_wp2_with fail
  refine (law22_square _ n n xs _ mA true (decide_eq_true ⟨HFd.out, rfl⟩).symm).mono ?_; rintro e w6 ⟨rfl, b6⟩
  clear qKA0 qKA1 qKA2
  replace mA := mA.next b6
  replace KA := KA.next b6
  replace sq := sq.next b6
  replace KF := KF.next b6
  replace B0 := B0.trans (b6.mono B0.size)
  clear b6
  have qKA0 := KA.cell 0
  go_wp2
  go_ret
  exact ⟨rfl, B0⟩

set_option maxRecDepth 20000 in
set_option maxHeartbeats 4000000 in
theorem good (x0 : Nat) (v u : Value) (n : Nat) (xs gs : List Nat) (w : World) (mA : Fm w v n n xs) (sq : Sl .u64 w u gs) (hl : gs.length = n) (hn : n ≤ 4) (hx : xs.length = n * n) (hf : (n : Int) ≤ 4 ∧ (n : Int) ≤ 4 ∧ xs.length ≤ 100) :
    Calls Try.prog 14 #[.int .u8 x0, v, u] w (LawOk w) := by
  obtain ⟨p, ep⟩ : ∃ p, p = Ps (x0 % 12) := ⟨_, rfl⟩
  have hp : FP p := by rw [ep]; exact Ps_FP (by omega)
  have ht : Trial p := by rw [ep]; exact Ps_trial (by omega)
  have cOf : ∀ w : World, Calls Try.prog 17 #[.int .u8 x0] w fun e w' => e = .returned (.agg #[.int .u64 (p : Nat)]) ∧ Below w.heap.size w w' := fun w => by rw [ep]; exact law9_Of x0 w
  have cP : ∀ w : World, Calls Try.prog 18 #[.int .u8 x0] w fun e w' => e = .returned (.int .u64 (p : Nat)) ∧ w = w' := fun w => by rw [ep]; exact ref8_P x0 w
  have hp2 := hp.1
  have hp3 := hp.2
  have HP := Lib.hid hp; have HT := Lib.hid ht; have COF := Lib.hid cOf; have CP := Lib.hid cP
  clear hp ht cOf cP ep
  obtain ⟨aA, cA, rfl⟩ := mA.agg
  obtain ⟨aq, bq, oq, cq, rfl, hcq, kq⟩ := sq
  have sq : Sl .u64 w (.slice aq gs.length cq) gs := ⟨aq, bq, oq, cq, rfl, hcq, kq⟩
  clear kq hcq
  obtain ⟨wb, ew, KA, B0, hsz⟩ := boxes1 w 42 [.int .i64 n, .int .i64 n, .slice aA xs.length cA]
  clear hsz
  replace mA := mA.next B0
  replace sq := sq.next B0
  have HF := Lib.hid hf; have HX := Lib.hid hx; clear hf hx
  have HFd := Lib.hid (Fd.of (show n ≤ 64 by omega) (show n ≤ 64 by omega) HX.out)
  have hnn : ((n : Int) != (n : Int)) = false := by simp
  have hg5 : ¬ (5 : Int) < (gs.length : Int) := by omega
  have hgl : ((gs.length : Int) != (n : Int)) = false := by simp; omega
  have HL := Lib.hid hl; clear hl
  obtain ⟨A, eA⟩ : ∃ A, A = mx p n n xs := ⟨_, rfl⟩
  obtain ⟨V, eV⟩ : ∃ V, V = mx p n 1 gs := ⟨_, rfl⟩
  have EA := Lib.hid eA; have EV := Lib.hid eV; clear eA eV
  go_enter Try.func14, Try.ntmps14
  go_upto_region 1 with (fail)
  rw [← ew]
  clear ew
  go_wp2_with fail
  refine (law22_awake _).mono ?_; rintro e w1 ⟨rfl, b1⟩
  replace mA := mA.next b1
  replace KA := KA.next b1
  replace sq := sq.next b1
  replace B0 := B0.trans (b1.mono B0.size)
  clear b1
  have qKA0 := KA.cell 0
  have qKA1 := KA.cell 1
  have qKA2 := KA.cell 2
  go_wp2_with fail
  refine (rf21_Few _ n n 4 xs _ mA true (decide_eq_true HF.out).symm).mono ?_; rintro e w2 ⟨rfl, b2⟩
  clear qKA0 qKA1 qKA2
  replace mA := mA.next b2
  replace KA := KA.next b2
  replace sq := sq.next b2
  replace B0 := B0.trans (b2.mono B0.size)
  clear b2
  go_wp2_with fail
  refine (COF.out _).mono ?_; rintro e w3 ⟨rfl, b3⟩
  replace mA := mA.next b3
  replace KA := KA.next b3
  replace sq := sq.next b3
  replace B0 := B0.trans (b3.mono B0.size)
  clear b3
  go_wp2_with fail
  refine (CP.out _).mono ?_; rintro e wx ⟨rfl, rfl⟩
  obtain ⟨w4, e4, KF, b4, hs4⟩ := boxes1 w3 29 [.int .u64 p]
  clear hs4
  replace mA := mA.next b4
  replace KA := KA.next b4
  replace sq := sq.next b4
  replace B0 := B0.trans (b4.mono B0.size)
  clear b4
  go_upto_region 4 with (fail)
  rw [← e4]
  clear e4
  have qKF0 := KF.cell 0
  have qKA0 := KA.cell 0
  have qKA1 := KA.cell 1
  have qKA2 := KA.cell 2
  go_wp2_with fail
  refine (hs_Order p _ _ n xs gs _ HP.out HT.out mA sq (by omega) HX.out HL.out).mono ?_; rintro e w5 ⟨aQ, kQ, zs, d, rfl, oQ, nQ, vQ, lQ, ld, hd1, b5⟩; rw [← EA.out, ← EV.out] at vQ
  clear qKF0 qKA0 qKA1 qKA2
  replace mA := mA.next b5
  replace KA := KA.next b5
  replace sq := sq.next b5
  replace KF := KF.next b5
  replace B0 := B0.trans (b5.mono B0.size)
  clear b5
  obtain ⟨gQ, rfl⟩ := own_some oQ (by omega)
  have NQ := Lib.hid (show Nrm p zs ∧ IsOrd (pl p zs) A V ∧ zs.length = d + 1 from ⟨nQ, vQ, lQ⟩)
  have ha1 : IntKind.i64.wrap ((zs.length : Int) - 1) = (d : Int) := by rw [lQ, IntWalk.i64_in _ ⟨by omega, by omega⟩]; omega
  have hdn : ¬ (n : Int) < (d : Int) := by omega
  have hdb : decide (n < d) = false := decide_eq_false (by omega)
  have hdl : d < zs.length := by omega
  clear nQ vQ lQ
  go_upto_region 5 with (fail)
  have qKA0 := KA.cell 0
  have qKA1 := KA.cell 1
  have qKA2 := KA.cell 2
  go_wp2_with fail
  refine (law22_square _ n n xs _ mA true (decide_eq_true ⟨HFd.out, rfl⟩).symm).mono ?_; rintro e w6 ⟨rfl, b6⟩
  clear qKA0 qKA1 qKA2
  replace mA := mA.next b6
  replace KA := KA.next b6
  replace sq := sq.next b6
  replace KF := KF.next b6
  replace oQ := oQ.next b6
  replace B0 := B0.trans (b6.mono B0.size)
  clear b6
  have qKA0 := KA.cell 0
  have qd := oQ.cellAt d hdl
  rw [hd1] at qd
  have HmA := Lib.hid mA; have HKA := Lib.hid KA; have Hsq := Lib.hid sq; have HKF := Lib.hid KF; have HoQ := Lib.hid oQ; have HB0 := Lib.hid B0
  obtain ⟨w7, e7, KC, b9, hs9⟩ := boxes1 w6 42 [.int .i64 n, .int .i64 1, .slice aq gs.length cq]
  clear hs9
  go_upto_region 11 with (fail)
  rw [← e7]
  clear e7
  clear qKA0
  clear qd mA sq KF oQ B0
  have KA1 := KA.next b9
  have qa0 := KA1.cell 0
  obtain ⟨w8, e8, KL, b10, hs9⟩ := boxes1 w7 42 [.int .i64 0, .int .i64 n, .slice none 0 0]
  clear hs9
  go_upto_region 12 with (fail)
  rw [← e8]
  clear e8
  clear qa0 KA1 KA
  have hgL0 : w6.heap.size < w7.heap.size := KC.lt
  replace KC := KC.next b10
  replace b9 := b9.trans (b10.mono b9.size)
  clear b10
  obtain ⟨gC, egC⟩ : ∃ g, g = w6.heap.size := ⟨_, rfl⟩
  obtain ⟨gL, egL⟩ : ∃ g, g = w7.heap.size := ⟨_, rfl⟩
  rw [← egC] at KC ⊢
  rw [← egL] at KL ⊢
  have hgC : w6.heap.size ≤ gL := by omega
  have hCL : gC < gL := by omega
  clear egC egL hgL0
  have HKC := Lib.hid KC; clear KC
  have hgw : gL < w8.heap.size := KL.lt
  obtain ⟨T, eT⟩ : ∃ T, T = imT A V := ⟨_, rfl⟩
  have hrow := Lib.hid (show ∀ i, ftab n T ((i + 1) * n) = ftab n T (i * n) ++ tbv (A.pow i * V) from fun i => by rw [eT]; exact imT_row A V i)
  have hfin := Lib.hid (show ftab n T (d * n) = tbv (imM A V d) by rw [eT]; exact imM_tbv A V d)
  clear eT
  have st : OcR w8 w8 (gL) 0 n (ftab n T (0 * n)) := ⟨none, 0, by rw [Nat.zero_mul]; exact KL, by rw [Nat.zero_mul]; exact Own.nil _ _ _ _, Below.refl _ _⟩
  have HB9 := Lib.hid b9; clear b9 KL
  go_wp2
  go_loopw [14] (fun iv wr => ∃ i : Nat, i ≤ d ∧ iv = .int .i64 i ∧ OcR w8 wr (gL) i n (ftab n T (i * n))) (fun iv _ => d - (intOf iv).toNat)
  case atStart => exact ⟨0, by omega, rfl, st⟩
  case round =>
    clear st
    obtain ⟨i, hi, rfl, ao, k, KL, ho, hB⟩ := hrel
    have B9 := HB9.out.trans (hB.mono (show w6.heap.size ≤ gL by omega))
    have BW := HB0.out.trans (B9.mono HB0.out.size)
    by_cases hid : i < d
    · obtain ⟨L, eL⟩ : ∃ L, L = ftab n T (i * n) := ⟨_, rfl⟩
      have hLl := Lib.hid (show L.length ≤ 16 by rw [eL, ftab_length]; exact Nat.mul_le_mul (show i ≤ 4 by omega) hn)
      have hL1 := Lib.hid (show ftab n T ((i + 1) * n) = L ++ tbv (A.pow i * V) by rw [hrow.out, eL])
      rw [← eL] at KL ho
      clear eL
      have hn0 : 0 < n := by omega
      have l0 := KL.cell 0; have l1 := KL.free 0
      go_upto_region 16 with (fail)
      have K1 := KL.set 0 (.int .i64 ((i : Int) + 1))
      have o1 := ho.low (a := ⟨gL, 0, none⟩) (Nat.lt_succ_self _) (.int .i64 ((i : Int) + 1))
      have B1 := hB.setCell (p := ⟨gL, 0, none⟩) (Nat.le_refl _) (.int .i64 ((i : Int) + 1))
      obtain ⟨w15, e15⟩ : ∃ w', w' = wr.setCell ⟨gL, 0, none⟩ (.int .i64 ((i : Int) + 1)) := ⟨_, rfl⟩
      rw [← e15] at K1 o1 B1 ⊢
      have KLc : Blk 42 w15 (gL) [.int .i64 ((i : Int) + 1), .int .i64 n, .slice ao L.length k] := K1
      clear e15 KL ho hB l0 l1 B9 BW K1
      have bd := Drawn.below (w' := w15.drew) ⟨1, rfl⟩ w15.heap.size
      have hgr : gL + 1 ≤ w15.heap.size := KLc.lt
      replace KLc := KLc.next bd; replace o1 := o1.next bd
      replace B1 := B1.trans (bd.mono (by omega))
      have B9 := HB9.out.trans (B1.mono (show w6.heap.size ≤ gL by omega))
      have mA := HmA.out.next B9; have KA := HKA.out.next B9; have sq := Hsq.out.next B9; have KC := HKC.out.below B1 hCL
      have hgd : gL + 1 ≤ w15.drew.heap.size := hgr
      clear bd hgr
      have hKAl : w.heap.size < gL + 1 := by have := HKA.out.lt; omega
      refine startP (S := (fun w' => Below (gL + 1) w15.drew w')) (by kernel_rfl) _ rfl rfl rfl (by kernel_rfl) (Below.refl _ _) (fun hHeld => ?_)
      refine takeL 0 (v := ?_) rfl (by kernel_rfl) (by kernel_rfl) (by kernel_rfl) (fun _ _ _ h => h) ⟨by rfl, ?_⟩ (by assumption) ?_
      rotate_left
      · intro w hS; go_simp <;> with_reducible rfl
      simp only [Act.put, List.setIfInBounds_toArray, List.set_cons_zero, List.set_cons_succ]
      refine takeL 1 (v := ?_) rfl (by kernel_rfl) (by kernel_rfl) (by kernel_rfl) (fun _ _ _ h => h) ⟨by rfl, ?_⟩ (by assumption) ?_
      rotate_left
      · intro w hS; have fa := (KA.below hS hKAl).cell; have fb := (KLc.below hS (Nat.lt_succ_self _)).cell; have fc := (KC.below hS (by omega)).cell; have f1 := fa 0; have f2 := fa 1; have f3 := fa 2; have f4 := fb 2; have f5 := fc 0; have f6 := fc 1; have f7 := fc 2; clear fa fb fc; go_simp <;> with_reducible rfl
      simp only [Act.put, List.setIfInBounds_toArray, List.set_cons_zero, List.set_cons_succ]
      refine takeL 2 (v := ?_) rfl (by kernel_rfl) (by kernel_rfl) (by kernel_rfl) (fun _ _ _ h => h) ⟨by rfl, ?_⟩ (by assumption) ?_
      rotate_left
      · intro w hS; have fa := (KA.below hS hKAl).cell; have fb := (KLc.below hS (Nat.lt_succ_self _)).cell; have fc := (KC.below hS (by omega)).cell; have f1 := fa 0; have f2 := fa 1; have f3 := fa 2; have f4 := fb 2; have f5 := fc 0; have f6 := fc 1; have f7 := fc 2; clear fa fb fc; go_simp <;> with_reducible rfl
      simp only [Act.put, List.setIfInBounds_toArray, List.set_cons_zero, List.set_cons_succ]
      refine takeL 3 (v := ?_) rfl (by kernel_rfl) (by kernel_rfl) (by kernel_rfl) (fun _ _ _ h => h) ⟨by rfl, ?_⟩ (by assumption) ?_
      rotate_left
      · intro w hS; go_simp <;> with_reducible rfl
      simp only [Act.put, List.setIfInBounds_toArray, List.set_cons_zero, List.set_cons_succ]
      refine takeL 4 (v := ?_) rfl (by kernel_rfl) (by kernel_rfl) (by kernel_rfl) (fun _ _ _ h => h) ⟨by rfl, ?_⟩ (by assumption) ?_
      rotate_left
      · intro w hS; go_simp <;> with_reducible rfl
      simp only [Act.put, List.setIfInBounds_toArray, List.set_cons_zero, List.set_cons_succ]
      refine takeL 6 (v := ?_) rfl (by kernel_rfl) (by kernel_rfl) (by kernel_rfl) (fun _ _ _ h => h) ⟨by rfl, ?_⟩ (by assumption) ?_
      rotate_left
      · intro w hS; have fa := (KA.below hS hKAl).cell; have fb := (KLc.below hS (Nat.lt_succ_self _)).cell; have fc := (KC.below hS (by omega)).cell; have f1 := fa 0; have f2 := fa 1; have f3 := fa 2; have f4 := fb 2; have f5 := fc 0; have f6 := fc 1; have f7 := fc 2; clear fa fb fc; go_simp <;> with_reducible rfl
      simp only [Act.put, List.setIfInBounds_toArray, List.set_cons_zero, List.set_cons_succ]
      refine takeL 7 (v := ?_) rfl (by kernel_rfl) (by kernel_rfl) (by kernel_rfl) (fun _ _ _ h => h) ⟨by rfl, ?_⟩ (by assumption) ?_
      rotate_left
      · intro w hS; go_simp <;> with_reducible rfl
      simp only [Act.put, List.setIfInBounds_toArray, List.set_cons_zero, List.set_cons_succ]
      refine oneL 5 rfl (by kernel_rfl) (by rfl) (fun K hK => ?_)
      go_simp
      go_at_call 71
      (with_reducible refine (rf22_Power p _ n i xs _ HP.out mA (by omega) HX.out (by omega)).mono ?_); rintro e y1 ⟨a5, k5, rfl, o5, c5⟩; rw [← EA.out] at o5 ⊢; obtain ⟨M, eM⟩ : ∃ M, M = A.pow i := ⟨_, rfl⟩; rw [← eM] at o5 ⊢; have EM := Lib.hid eM; clear eM
      refine hK.out _ _ (hHeld.trans (c5.mono (Nat.le_trans hgd hHeld.size))) (fun hHeld => ?_)
      clear hK K
      try simp only [Act.put, List.setIfInBounds_toArray, List.set_cons_zero, List.set_cons_succ]
      refine oneL 8 rfl (by kernel_rfl) (by rfl) (fun K hK => ?_)
      go_simp
      go_at_call 34
      (with_reducible refine (rf21_Mul p _ _ n n 1 (tbv M) gs _ HP.out (fm_own o5) (fm_col (sq.next c5)) (by omega) (by omega) (by omega) (tbv_length M) (by rw [HL.out]; omega)).mono ?_); rintro e y2 ⟨a6, k6, rfl, o6, c6⟩; rw [mx_tbv, ← EV.out, EM.out] at o6 ⊢; obtain ⟨M8, eM8⟩ : ∃ M, M = A.pow i * V := ⟨_, rfl⟩; rw [← eM8] at o6 ⊢; have EM8 := Lib.hid eM8; clear eM8; obtain ⟨g6, rfl⟩ := own_some o6 (by rw [tb1_len]; exact hn0)
      refine hK.out _ _ (hHeld.trans (c6.mono (Nat.le_trans hgd hHeld.size))) (fun hHeld => ?_)
      clear hK K
      try simp only [Act.put, List.setIfInBounds_toArray, List.set_cons_zero, List.set_cons_succ]
      refine takeL 9 (v := ?_) rfl (by kernel_rfl) (by kernel_rfl) (by kernel_rfl) (fun _ _ _ h => h) ⟨by rfl, ?_⟩ (by assumption) ?_
      rotate_left
      · intro w hS; have f9 := fm_field2 n 1 (some ⟨g6, 0, none⟩) (tbv M8).length k6 w; go_simp <;> with_reducible rfl
      simp only [Act.put, List.setIfInBounds_toArray, List.set_cons_zero, List.set_cons_succ]
      refine oneL 10 rfl (by kernel_rfl) (by rfl) (fun K hK => ?_)
      refine apW 32 27 8 (.int .u64 0) Try.underlying32 (by kernel_rfl) (by decide) rfl _ _ rfl y2 (gL + 1) (.slice ao L.length k) L.length (vs .u64 L) ((o1.next c5).next c6) (Nat.le_trans hgd hHeld.size) ⟨g6, 0, none⟩ (tbv M8).length k6 (vs .u64 (tbv M8)) ?_ ?_ ?_ (own_news o6) ?_ ?_ ?_
      · exact rfl
      · exact rfl
      · simp [vs]
      · intro u hu; simp only [vs, List.mem_map] at hu; obtain ⟨q, _, rfl⟩ := hu; rfl
      · have h1 := hLl.out; have h2 := tb1_len M8; omega
      intro v8 wz ho8 hb8 hg8
      obtain ⟨a8, c8, rfl⟩ : ∃ a c, v8 = .slice a (L.length + (tbv M8).length) c := by
        rcases rowOwn_shape ho8 with ⟨rfl, e⟩ | ⟨g, c, rfl, _⟩
        · exact ⟨_, _, by rw [e]⟩
        · exact ⟨_, _, rfl⟩
      refine hK.out _ _ (hHeld.trans hb8) (fun hHeld => ?_)
      clear hK K
      try simp only [Act.put, List.setIfInBounds_toArray, List.set_cons_zero, List.set_cons_succ]
      refine takeL 11 (v := ?_) rfl (by kernel_rfl) (by kernel_rfl) (by kernel_rfl) (fun _ _ _ h => h) ⟨by rfl, ?_⟩ (by assumption) ?_
      rotate_left
      · intro w hS; go_simp <;> with_reducible rfl
      simp only [Act.put, List.setIfInBounds_toArray, List.set_cons_zero, List.set_cons_succ]
      refine doneL (by kernel_rfl) ?_ _
      refine lastL rfl (by rfl) ?_
      have K5 := (KLc.below hHeld (Nat.lt_succ_self _)).set 2 (.slice a8 (L.length + (tbv M8).length) c8)
      have o8' : Own .u64 27 wz (gL + 1) (.slice a8 (L.length + (tbv M8).length) c8) (L ++ tbv M8) := by
        unfold Own; rw [List.length_append]
        have e : vs .u64 (L ++ tbv M8) = vs .u64 L ++ vs .u64 (tbv M8) := by simp [vs]
        rw [e]; exact ho8
      have o9 := o8'.low (a := ⟨gL, 2, none⟩) (Nat.lt_succ_self _) (.slice a8 (L.length + (tbv M8).length) c8)
      have B8 := (B1.trans (hHeld.mono (by omega))).setCell (p := ⟨gL, 2, none⟩) (Nat.le_refl _) (.slice a8 (L.length + (tbv M8).length) c8)
      have st := Lib.hid (show OcR w8 (wz.setCell ⟨gL, 2, none⟩ (.slice a8 (L.length + (tbv M8).length) c8)) (gL) (i + 1) n (ftab n T ((i + 1) * n)) by
        rw [hL1.out, ← EM8.out]; unfold OcR; rw [List.length_append]; exact ⟨_, _, K5, o9, B8⟩)
      have y0 := (KLc.below hHeld (Nat.lt_succ_self _)).cell 2; have y1_ := (KLc.below hHeld (Nat.lt_succ_self _)).free 2
      clear KLc o1 KA KC mA sq B1 B9 ho8 hb8 hg8 K5 o8' o9 B8 hHeld c5 o5 c6 o6
      go_wp2
      go_roundw
      case rel => exact ⟨i + 1, by omega, by go_num, st.out⟩
      case measure => simp [intOf] <;> omega
    · obtain rfl : i = d := by omega
      rw [hfin.out] at KL ho
      obtain ⟨M, eM⟩ : ∃ M, M = imM A V i := ⟨_, rfl⟩
      rw [← eM] at KL ho
      have EM := Lib.hid eM; clear eM
      have lM := Lib.hid (tbv_length M)
      have mL := fm_own (R := i) (C := n) ho
      have mA := HmA.out.next B9; have KA := HKA.out.next B9; have sq := Hsq.out.next B9; have KF := HKF.out.next B9; have oQ := HoQ.out.next B9
      have KC := HKC.out.below hB hCL
      have B0 := BW
      clear B9 BW hB ho
      have qKF0 := KF.cell 0
      have qKL0 := KL.cell 0
      have qKL1 := KL.cell 1
      have qKL2 := KL.cell 2
      go_wp2_with fail
      refine (fm_Reduce p _ i n (tbv M) _ HP.out HT.out mL (by omega) (by omega) lM.out).mono ?_; rintro e w41 ⟨a6, pa, k6, pc, W6, P, d6, M6, rfl, hR, -, o6, -, b41⟩; rw [mx_tbv] at hR
      clear qKF0 qKL0 qKL1 qKL2
      replace mA := mA.next b41
      replace KA := KA.next b41
      replace sq := sq.next b41
      replace KF := KF.next b41
      replace oQ := oQ.next b41
      replace KC := KC.next b41
      replace mL := mL.next b41
      replace KL := KL.next b41
      replace B0 := B0.trans (b41.mono B0.size)
      clear b41
      have HPD := Lib.hid (show P.length = i by
        refine hR.full (by omega) (Zp.one_ne HT.out) fun x hx => ?_
        refine im_indep HT.out NQ.out.2.1 (by rw [← NQ.out.2.2]; exact nrm_ln HP.out.pos NQ.out.1) x fun k hk => ?_
        rw [← hx k hk]
        refine sm_congr fun j _ => ?_
        rw [beside_l hk, EM.out])
      rw [HPD.out]
      clear hR o6 mL KL
      obtain ⟨w42, e42, K15, b42, hs42⟩ := boxes1 w41 42 [.int .i64 i, .int .i64 n, .slice a6 (tbv M6).length k6]
      clear hs42
      replace mA := mA.next b42
      replace KA := KA.next b42
      replace sq := sq.next b42
      replace KF := KF.next b42
      replace oQ := oQ.next b42
      replace KC := KC.next b42
      replace B0 := B0.trans (b42.mono B0.size)
      clear b42
      go_upto_region 18 with (fail)
      rw [← e42]
      clear e42
      clear K15
      have qKF0 := KF.cell 0
      have qKA0 := KA.cell 0
      have qKA1 := KA.cell 1
      have qKA2 := KA.cell 2
      go_wp2_with fail
      refine (hs_Min p _ n xs _ HP.out HT.out mA (by omega) HX.out).mono ?_; rintro e w43 ⟨am, cm, ms, dm, rfl, oM, nM, vM, lM2, ldm, b43⟩; rw [← EA.out] at vM
      clear qKF0 qKA0 qKA1 qKA2
      replace mA := mA.next b43
      replace KA := KA.next b43
      replace sq := sq.next b43
      replace KF := KF.next b43
      replace oQ := oQ.next b43
      replace KC := KC.next b43
      replace B0 := B0.trans (b43.mono B0.size)
      clear b43
      have NM := Lib.hid (show Nrm p ms ∧ MinTo A n (pl p ms) ∧ ms.length = dm + 1 ∧ dm ≤ n from ⟨nM, vM, lM2, ldm⟩)
      have sM := oM.sl
      clear nM vM lM2 oM ldm
      go_upto_region 19 with (fail)
      have qKF0 := KF.cell 0
      go_wp2_with fail
      refine (fp_DivMod p _ _ ms zs _ HP.out HT.out sM oQ.sl (by have := NM.out.2.2; omega) (by have := NQ.out.2.2; omega) (by rw [nl_of HP.out.pos NQ.out.1]; intro h; have := NQ.out.2.2; rw [h] at this; simp at this)).mono ?_; rintro e w44 ⟨rq, rr, zq, zr, rfl, oq, or, mq, mr, vd, ldv, lq, lr, b44⟩
      clear qKF0
      replace mA := mA.next b44
      replace KA := KA.next b44
      replace sq := sq.next b44
      replace KF := KF.next b44
      replace oQ := oQ.next b44
      replace KC := KC.next b44
      replace sM := sM.next b44
      replace B0 := B0.trans (b44.mono B0.size)
      clear b44
      obtain ⟨ar, cr, rfl⟩ := or.sliced
      rw [nl_of HP.out.pos NQ.out.1] at ldv
      obtain rfl : zr = [] := div_rest HP.out HT.out NQ.out.1 NQ.out.2.2 mr vd ldv ((NQ.out.2.1.iff _).2 (by rw [(NM.out.2.1.full _).1 (Dv.refl _), MT.zero_mul]))
      clear oq or mq mr vd ldv lq lr
      go_upto_region 20 with (fail)
      have bd := Drawn.below (w' := w44.drew) ⟨1, rfl⟩ w44.heap.size
      replace mA := mA.next bd
      replace KA := KA.next bd
      replace sq := sq.next bd
      replace oQ := oQ.next bd
      replace KC := KC.next bd
      replace B0 := B0.trans (bd.mono B0.size)
      clear bd sM KF
      refine startL (S := (fun w' => Below (w44.drew).heap.size (w44.drew) w')) (by kernel_rfl) (Below.refl _ _) (fun hHeld => ?_)
      refine takeL 0 (v := ?_) rfl (by kernel_rfl) (by kernel_rfl) (by kernel_rfl) (fun _ _ _ h => h) ⟨by rfl, ?_⟩ (by assumption) ?_
      rotate_left
      · intro w hS; go_simp <;> with_reducible rfl
      simp only [Act.put, List.setIfInBounds_toArray, List.set_cons_zero, List.set_cons_succ]
      refine takeL 1 (v := ?_) rfl (by kernel_rfl) (by kernel_rfl) (by kernel_rfl) (fun _ _ _ h => h) ⟨by rfl, ?_⟩ (by assumption) ?_
      rotate_left
      · intro w hS; go_simp <;> with_reducible rfl
      simp only [Act.put, List.setIfInBounds_toArray, List.set_cons_zero, List.set_cons_succ]
      refine takeL 2 (v := ?_) rfl (by kernel_rfl) (by kernel_rfl) (by kernel_rfl) (fun _ _ _ h => h) ⟨by rfl, ?_⟩ (by assumption) ?_
      rotate_left
      · intro w hS; go_simp <;> with_reducible rfl
      simp only [Act.put, List.setIfInBounds_toArray, List.set_cons_zero, List.set_cons_succ]
      refine takeL 3 (v := ?_) rfl (by kernel_rfl) (by kernel_rfl) (by kernel_rfl) (fun _ _ _ h => h) ⟨by rfl, ?_⟩ (by assumption) ?_
      rotate_left
      · intro w hS; go_simp <;> with_reducible rfl
      simp only [Act.put, List.setIfInBounds_toArray, List.set_cons_zero, List.set_cons_succ]
      refine takeL 4 (v := ?_) rfl (by kernel_rfl) (by kernel_rfl) (by kernel_rfl) (fun _ _ _ h => h) ⟨by rfl, ?_⟩ (by assumption) ?_
      rotate_left
      · intro w hS; go_simp <;> with_reducible rfl
      simp only [Act.put, List.setIfInBounds_toArray, List.set_cons_zero, List.set_cons_succ]
      refine takeL 5 (v := ?_) rfl (by kernel_rfl) (by kernel_rfl) (by kernel_rfl) (fun _ _ _ h => h) ⟨by rfl, ?_⟩ (by assumption) ?_
      rotate_left
      · intro w hS; go_simp <;> with_reducible rfl
      simp only [Act.put, List.setIfInBounds_toArray, List.set_cons_zero, List.set_cons_succ]
      refine takeL 6 (v := ?_) rfl (by kernel_rfl) (by kernel_rfl) (by kernel_rfl) (fun _ _ _ h => h) ⟨by rfl, ?_⟩ (by assumption) ?_
      rotate_left
      · intro w hS; go_simp <;> with_reducible rfl
      simp only [Act.put, List.setIfInBounds_toArray, List.set_cons_zero, List.set_cons_succ]
      refine takeL 7 (v := ?_) rfl (by kernel_rfl) (by kernel_rfl) (by kernel_rfl) (fun _ _ _ h => h) ⟨by rfl, ?_⟩ (by assumption) ?_
      rotate_left
      · intro w hS; go_simp <;> with_reducible rfl
      simp only [Act.put, List.setIfInBounds_toArray, List.set_cons_zero, List.set_cons_succ]
      refine takeL 8 (v := ?_) rfl (by kernel_rfl) (by kernel_rfl) (by kernel_rfl) (fun _ _ _ h => h) ⟨by rfl, ?_⟩ (by assumption) ?_
      rotate_left
      · intro w hS; go_simp <;> with_reducible rfl
      simp only [Act.put, List.setIfInBounds_toArray, List.set_cons_zero, List.set_cons_succ]
      refine takeL 9 (v := ?_) rfl (by kernel_rfl) (by kernel_rfl) (by kernel_rfl) (fun _ _ _ h => h) ⟨by rfl, ?_⟩ (by assumption) ?_
      rotate_left
      · intro w hS; go_simp <;> with_reducible rfl
      simp only [Act.put, List.setIfInBounds_toArray, List.set_cons_zero, List.set_cons_succ]
      refine takeL 10 (v := ?_) rfl (by kernel_rfl) (by kernel_rfl) (by kernel_rfl) (fun _ _ _ h => h) ⟨by rfl, ?_⟩ (by assumption) ?_
      rotate_left
      · intro w hS; go_simp <;> with_reducible rfl
      simp only [Act.put, List.setIfInBounds_toArray, List.set_cons_zero, List.set_cons_succ]
      refine takeL 11 (v := ?_) rfl (by kernel_rfl) (by kernel_rfl) (by kernel_rfl) (fun _ _ _ h => h) ⟨by rfl, ?_⟩ (by assumption) ?_
      rotate_left
      · intro w hS; go_simp <;> with_reducible rfl
      simp only [Act.put, List.setIfInBounds_toArray, List.set_cons_zero, List.set_cons_succ]
      refine takeL 12 (v := ?_) rfl (by kernel_rfl) (by kernel_rfl) (by kernel_rfl) (fun _ _ _ h => h) ⟨by rfl, ?_⟩ (by assumption) ?_
      rotate_left
      · intro w hS; go_simp <;> with_reducible rfl
      simp only [Act.put, List.setIfInBounds_toArray, List.set_cons_zero, List.set_cons_succ]
      refine takeL 13 (v := ?_) rfl (by kernel_rfl) (by kernel_rfl) (by kernel_rfl) (fun _ _ _ h => h) ⟨by rfl, ?_⟩ (by assumption) ?_
      rotate_left
      · intro w hS; go_simp <;> with_reducible rfl
      simp only [Act.put, List.setIfInBounds_toArray, List.set_cons_zero, List.set_cons_succ]
      refine takeL 14 (v := ?_) rfl (by kernel_rfl) (by kernel_rfl) (by kernel_rfl) (fun _ _ _ h => h) ⟨by rfl, ?_⟩ (by assumption) ?_
      rotate_left
      · intro w hS; go_simp <;> with_reducible rfl
      simp only [Act.put, List.setIfInBounds_toArray, List.set_cons_zero, List.set_cons_succ]
      refine takeL 15 (v := ?_) rfl (by kernel_rfl) (by kernel_rfl) (by kernel_rfl) (fun _ _ _ h => h) ⟨by rfl, ?_⟩ (by assumption) ?_
      rotate_left
      · intro w hS; go_simp <;> with_reducible rfl
      simp only [Act.put, List.setIfInBounds_toArray, List.set_cons_zero, List.set_cons_succ]
      refine takeL 16 (v := ?_) rfl (by kernel_rfl) (by kernel_rfl) (by kernel_rfl) (fun _ _ _ h => h) ⟨by rfl, ?_⟩ (by assumption) ?_
      rotate_left
      · intro w hS; go_simp <;> with_reducible rfl
      simp only [Act.put, List.setIfInBounds_toArray, List.set_cons_zero, List.set_cons_succ]
      refine takeL 17 (v := ?_) rfl (by kernel_rfl) (by kernel_rfl) (by kernel_rfl) (fun _ _ _ h => h) ⟨by rfl, ?_⟩ (by assumption) ?_
      rotate_left
      · intro w hS; go_simp <;> with_reducible rfl
      simp only [Act.put, List.setIfInBounds_toArray, List.set_cons_zero, List.set_cons_succ]
      refine takeL 18 (v := ?_) rfl (by kernel_rfl) (by kernel_rfl) (by kernel_rfl) (fun _ _ _ h => h) ⟨by rfl, ?_⟩ (by assumption) ?_
      rotate_left
      · intro w hS; have fa := KA.at hS; have f1 := fa 0; have f2 := fa 1; have f3 := fa 2; clear fa; have fb := KC.at hS; have f4 := fb 0; have f5 := fb 1; have f6 := fb 2; clear fb; go_simp <;> with_reducible rfl
      simp only [Act.put, List.setIfInBounds_toArray, List.set_cons_zero, List.set_cons_succ]
      refine takeL 19 (v := ?_) rfl (by kernel_rfl) (by kernel_rfl) (by kernel_rfl) (fun _ _ _ h => h) ⟨by rfl, ?_⟩ (by assumption) ?_
      rotate_left
      · intro w hS; go_simp <;> with_reducible rfl
      simp only [Act.put, List.setIfInBounds_toArray, List.set_cons_zero, List.set_cons_succ]
      refine takeL 21 (v := ?_) rfl (by kernel_rfl) (by kernel_rfl) (by kernel_rfl) (fun _ _ _ h => h) ⟨by rfl, ?_⟩ (by assumption) ?_
      rotate_left
      · intro w hS; have fa := KA.at hS; have f1 := fa 0; have f2 := fa 1; have f3 := fa 2; clear fa; have fb := KC.at hS; have f4 := fb 0; have f5 := fb 1; have f6 := fb 2; clear fb; go_simp <;> with_reducible rfl
      simp only [Act.put, List.setIfInBounds_toArray, List.set_cons_zero, List.set_cons_succ]
      refine takeL 22 (v := ?_) rfl (by kernel_rfl) (by kernel_rfl) (by kernel_rfl) (fun _ _ _ h => h) ⟨by rfl, ?_⟩ (by assumption) ?_
      rotate_left
      · intro w hS; go_simp <;> with_reducible rfl
      simp only [Act.put, List.setIfInBounds_toArray, List.set_cons_zero, List.set_cons_succ]
      refine takeL 24 (v := ?_) rfl (by kernel_rfl) (by kernel_rfl) (by kernel_rfl) (fun _ _ _ h => h) ⟨by rfl, ?_⟩ (by assumption) ?_
      rotate_left
      · intro w hS; go_simp <;> with_reducible rfl
      simp only [Act.put, List.setIfInBounds_toArray, List.set_cons_zero, List.set_cons_succ]
      refine oneL 20 rfl (by kernel_rfl) (by rfl) (fun K hK => ?_)
      go_simp
      go_at_call 54
      (with_reducible refine (rf22_Value p _ _ n zs xs _ HP.out (oQ.next hHeld).sl (mA.next hHeld) (by omega) HX.out (by have := NQ.out.2.2; omega)).mono ?_); rintro e y1 ⟨a5, k5, rfl, o5, c5⟩; rw [← EA.out] at o5 ⊢; obtain ⟨MQ, eMQ⟩ : ∃ M, M = pev (pl p zs) A := ⟨_, rfl⟩; rw [← eMQ] at o5 ⊢; have EMQ := Lib.hid eMQ; clear eMQ
      refine hK.out _ _ (hHeld.trans (c5.mono hHeld.size)) (fun hHeld => ?_)
      clear hK K
      try simp only [Act.put, List.setIfInBounds_toArray, List.set_cons_zero, List.set_cons_succ]
      refine oneL 23 rfl (by kernel_rfl) (by rfl) (fun K hK => ?_)
      go_simp
      go_at_call 34
      (with_reducible refine (rf21_Mul p _ _ n n 1 (tbv MQ) gs _ HP.out (fm_own o5) (fm_col (sq.next hHeld)) (by omega) (by omega) (by omega) (tbv_length MQ) (by rw [HL.out]; omega)).mono ?_); rintro e y2 ⟨a6, k6, rfl, o6, c6⟩; rw [mx_tbv, ← EV.out, EMQ.out] at o6 ⊢; obtain ⟨M8, eM8⟩ : ∃ M, M = pev (pl p zs) A * V := ⟨_, rfl⟩; rw [← eM8] at o6 ⊢; have E8 := Lib.hid (show M8 = 0 by rw [eM8]; exact (NQ.out.2.1.iff _).1 (Dv.refl _)); clear eM8
      refine hK.out _ _ (hHeld.trans (c6.mono hHeld.size)) (fun hHeld => ?_)
      clear hK K
      try simp only [Act.put, List.setIfInBounds_toArray, List.set_cons_zero, List.set_cons_succ]
      refine oneL 25 rfl (by kernel_rfl) (by rfl) (fun K hK => ?_)
      go_simp
      go_at_call 65
      (with_reducible refine (rf21_Zero _ n (1 : Nat) p (tbv M8) _ HP.out.pos (fm_col o6.sl) (zero_words E8.out) (by rw [tb1_len]; omega)).mono ?_); rintro e y3 ⟨rfl, c7⟩
      refine hK.out _ _ (hHeld.trans (c7.mono hHeld.size)) (fun hHeld => ?_)
      clear hK K
      try simp only [Act.put, List.setIfInBounds_toArray, List.set_cons_zero, List.set_cons_succ]
      refine takeL 26 (v := ?_) rfl (by kernel_rfl) (by kernel_rfl) (by kernel_rfl) (fun _ _ _ h => h) ⟨by rfl, ?_⟩ (by assumption) ?_
      rotate_left
      · intro w hS; go_simp <;> with_reducible rfl
      simp only [Act.put, List.setIfInBounds_toArray, List.set_cons_zero, List.set_cons_succ]
      refine takeL 27 (v := ?_) rfl (by kernel_rfl) (by kernel_rfl) (by kernel_rfl) (fun _ _ _ h => h) ⟨by rfl, ?_⟩ (by assumption) ?_
      rotate_left
      · intro w hS; go_simp <;> with_reducible rfl
      simp only [Act.put, List.setIfInBounds_toArray, List.set_cons_zero, List.set_cons_succ]
      refine doneL (by kernel_rfl) ?_ _
      replace B0 := B0.trans (hHeld.mono B0.size)
      clear mA KA sq oQ KC o5 o6 hHeld
      go_wp2
      go_ret
      exact ⟨rfl, B0⟩

set_option maxHeartbeats 1000000 in
theorem walk (x0 : Nat) (v : Value) (R C : Int) (xs : List Nat) (u : Value) (gs : List Nat) (w : World) (mA : Fm w v R C xs) (sq : Sl .u64 w u gs) : Calls Try.prog 14 #[.int .u8 x0, v, u] w (LawOk w) := by
  by_cases hf : R ≤ 4 ∧ C ≤ 4 ∧ xs.length ≤ 100
  · by_cases hg : gs.length ≤ 5
    · by_cases hs : Fd R C xs.length ∧ R = C
      · obtain ⟨h1, rfl⟩ := hs
        obtain ⟨r, c, e1, e2, h3, h4, h5⟩ := h1.nat
        subst e1
        have e3 : c = r := by omega
        subst e3
        by_cases hl : gs.length = c
        · exact good x0 v u c xs gs w mA sq hl (by omega) h5 hf
        · exact badlen x0 v u c xs gs w mA sq hg hl (by omega) h5 hf
      · exact bad x0 v u R C xs gs w mA sq hg hf hs
    · exact long x0 v u R C xs gs w mA sq hf hg
  · exact not_few x0 v u R C xs gs w mA sq hf

set_option maxRecDepth 100000 in
theorem lifted (os : Os) (started : os.Started) (H : Type) (enc : TypeId × Value → H) :
    ReturnsInHanded {} Try.checked os 14 .any (Rows.hessOrdersSpec.pre6 enc Try.prog Try.f14 Rows.hessOrdersRow.domain false) (Rows.hessOrdersSpec.post enc Try.prog Try.f14 false true false false) := by
  refine returnsInHanded_of_change (C := Try.checked) own started (by kernel_rfl) Try.func14
    (ChangeSpec.witness6 (enc := enc) (C := Try.checked) false ⟨#[], #[.int .u8 0, .agg #[.int .i64 0, .int .i64 0, .slice none 0 0], .slice none 0 0], []⟩ 8 (by kernel_rfl) (by kernel_rfl) (by kernel_rfl) (by kernel_rfl)) ?_
  intro W base args ds gs before hval0 hW hcnd _
  have hval : ∀ (j : Nat) t v, Try.f14.params[j]? = some t → args[j]? = some v → Value.okWide Try.prog W .any base t v := hval0
  have hW' := hW
  obtain ⟨p, q, hA0, hV, rfl, hfz, hnd⟩ := hW
  have hA : DataW.TrodAll enc Try.prog W 0 (fun _ => true) true Try.f14.params.toList args.toList ds p := hA0
  rw [Try.params14] at hA hval
  obtain ⟨v0, vs0, d0, ds0, p0, q0, hargs, rfl, rfl, h0, r0⟩ := trodAll_cons hA
  obtain ⟨v1, vs1, d1, ds1, p1, q1, rfl, rfl, rfl, h1, r1⟩ := trodAll_cons r0
  obtain ⟨v2, vs2, d2, ds2, p2, q2, rfl, rfl, rfl, h2, r2⟩ := trodAll_cons r1
  obtain ⟨rfl, rfl, rfl⟩ := trodAll_nil r2
  obtain rfl : args = #[v0, v1, v2] := by cases args; simp_all
  obtain ⟨rfl, rfl⟩ := trodVars_none hV
  have k0 := h0
  have lt0 : ∀ x ∈ p0, x.block < W.heap.size := by obtain ⟨m, hm⟩ := k0; exact DataW.trod_lt m _ _ _ hm
  obtain ⟨i0, rfl, rfl, rfl, wi0⟩ := open_int Try.underlying5 (hval 0 5 v0 rfl rfl) h0
  obtain ⟨x0, rfl⟩ := Int.eq_ofNat_of_zero_le (wf_u8_bounds wi0).1
  have k1 := h1
  have lt1 : ∀ x ∈ p1, x.block < W.heap.size := by obtain ⟨m, hm⟩ := k1; exact DataW.trod_lt m _ _ _ hm
  obtain ⟨R1, C1, xs1, m1, rb1, cb1⟩ := open_fm (hval 1 42 v1 rfl rfl) h1
  have k2 := h2
  have lt2 : ∀ x ∈ p2, x.block < W.heap.size := by obtain ⟨m, hm⟩ := k2; exact DataW.trod_lt m _ _ _ hm
  obtain ⟨x2, s2, f2⟩ := open_words Try.underlying32 Try.underlying27 (by kernel_rfl) (hval 2 32 v2 rfl rfl) h2
  clear hA0 hval0
  refine (walk x0 v1 R1 C1 xs1 v2 x2 W  m1 s2).mono fun e W' ⟨he, bel⟩ => ?_
  subst he
  exact ⟨_, rfl, _, _, _, [], _, [], hW', trodAll_mk1 (shut_bool Try.underlying4 _), (trodAll_cons_mk (Below.trod laidOut (by kernel_rfl) (of_decide_eq_true (by kernel_rfl)) k0 bel lt0) (trodAll_cons_mk (Below.trod laidOut (by kernel_rfl) (of_decide_eq_true (by kernel_rfl)) k1 bel lt1) (trodAll_cons_mk (Below.trod laidOut (by kernel_rfl) (of_decide_eq_true (by kernel_rfl)) k2 bel lt2) trodAll_mk0))), rfl, bel.frame _, fun h => by cases h⟩

theorem over : Rows.hessOrdersRow.holds Try.pinned (OpenSpec.ofChange Rows.hessOrdersSpec) :=
  OpenClaim.holds_of_wide 14 Try.f14 rfl rfl rfl rfl rfl rfl rfl ⟨rfl, rfl, rfl, rfl, rfl⟩ rfl rfl rfl rfl rfl (by kernel_rfl) Try.func14 (by kernel_rfl)
    (of_decide_eq_true (by kernel_rfl)) (by unfold Func.isWrapper; first | (rw [if_pos (by decide +kernel)]; kernel_rfl) | (rw [if_neg (by decide +kernel)]; exact ⟨rfl, rfl⟩))
    (fun os started H enc _ => lifted os started H enc)

theorem proved : Rows.HessOrdersSaid := over
#print axioms proved
end Go.Proofs.Ythghdjpjbngllaa.hessOrders
