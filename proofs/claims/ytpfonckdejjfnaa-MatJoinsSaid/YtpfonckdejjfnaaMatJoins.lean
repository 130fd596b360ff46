/- MatJoins: whatever the two matrices and the cut, the law returns true: rows that are parted are stacked again; matrices side by side are transposes stacked. No condition. -/
import Derived.Test.YtpfonckdejjfnaaRows
import Derived.Test.YtpfonckdejjfnaaZmk
import Derived.Test.YtpfonckdejjfnaaZdo
import Derived.Test.YtpfonckdejjfnaaZany
namespace Go.Proofs.Ytpfonckdejjfnaa.matJoins
open Go.ChangeShapes Go.WideShapes Go.ChangeAt Go.RowKit
open Go.ChangeMaps (open_string shut_string)

theorem own : ownKnob Try.prog.godebug = none := by kernel_rfl
theorem laidOut : laidOutB Try.prog = true := by kernel_rfl


/-- Some of a matrix's rows. -/
def rowsL (fr n c : Nat) (xs : List Int) : List Int := tab c (fun i k => xs.getD ((fr + i) * c + k) 0) (n * c)
theorem rowsL_length (fr n c : Nat) (xs : List Int) : (rowsL fr n c xs).length = n * c := tab_length _ _ _
theorem rows_ok (a : Value) (r c fr n : Nat) (P E : Int) (xs : List Int) (L : Nat) (w : World) (hA : Mt w a r c xs L) (hr : r ≤ 64) (hc : c ≤ 64) (hx : xs.length = r * c) (hP : P = fr) (hE : E = fr + n) (h : fr + n ≤ r) (hL : L ≤ 100000) :
    Calls Try.prog 31 #[a, .int .i64 P, .int .i64 E] w (RetE w L n c (rowsL fr n c xs) 0) := by
  subst hP
  obtain rfl : E = ((fr + n : Nat) : Int) := by omega
  have := zmat_Rows a r c fr (fr + n) xs L w hA hr hc hx (by omega) (by omega) hL
  rw [show fr + n - fr = n by omega] at this
  exact this
theorem rows_bad (a : Value) (r c fr en : Nat) (P E : Int) (xs : List Int) (L : Nat) (w : World) (hA : Mt w a r c xs L) (hr : r ≤ 64) (hc : c ≤ 64) (hx : xs.length = r * c) (hP : P = fr) (hE : E = en) (h : en < fr ∨ r < en) :
    Calls Try.prog 31 #[a, .int .i64 P, .int .i64 E] w (RetE w 0 0 0 [] 1) := by
  subst hP hE
  exact zmat_Rows_arg a r c fr en xs L w hA hr hc hx h
/-- A matrix under another one. -/
def stackL (r1 r2 c : Nat) (xs ys : List Int) : List Int := tab c (fun i k => if i < r1 then xs.getD (i * c + k) 0 else ys.getD ((i - r1) * c + k) 0) ((r1 + r2) * c)
theorem stackL_length (r1 r2 c : Nat) (xs ys : List Int) : (stackL r1 r2 c xs ys).length = (r1 + r2) * c := tab_length _ _ _
/-- A matrix beside another one. -/
def besL (r c1 c2 : Nat) (xs ys : List Int) : List Int := tab (c1 + c2) (fun i k => if k < c1 then xs.getD (i * c1 + k) 0 else ys.getD (i * c2 + (k - c1)) 0) (r * (c1 + c2))
theorem besL_length (r c1 c2 : Nat) (xs ys : List Int) : (besL r c1 c2 xs ys).length = r * (c1 + c2) := tab_length _ _ _
theorem rowsL_get {fr n c i k : Nat} {xs : List Int} (hk : k < c) (hi : i < n) : (rowsL fr n c xs).getD (i * c + k) 0 = xs.getD ((fr + i) * c + k) 0 := tab_get (fun i k => xs.getD ((fr + i) * c + k) 0) hk hi
theorem stack_rows {k d c : Nat} {xs : List Int} (hx : xs.length = (k + d) * c) : stackL k d c (rowsL 0 k c xs) (rowsL k d c xs) = xs := by
  refine (list_tab hx fun i j hi hj => ?_).symm
  by_cases h : i < k
  · rw [if_pos h, rowsL_get hj h, Nat.zero_add]
  · rw [if_neg h, rowsL_get hj (by omega), show k + (i - k) = i by omega]
theorem beside_trans {r c1 c2 : Nat} {xs ys : List Int} : besL r c1 c2 xs ys = trL (c1 + c2) r (stackL c1 c2 r (trL r c1 xs) (trL r c2 ys)) := by
  refine tab_congr fun i j hi hj => ?_
  have e : (stackL c1 c2 r (trL r c1 xs) (trL r c2 ys)).getD (j * r + i) 0 = if j < c1 then (trL r c1 xs).getD (j * r + i) 0 else (trL r c2 ys).getD ((j - c1) * r + i) 0 :=
    tab_get (fun i k => if i < c1 then (trL r c1 xs).getD (i * r + k) 0 else (trL r c2 ys).getD ((i - c1) * r + k) 0) hi hj
  rw [e]
  by_cases h : j < c1
  · rw [if_pos h, if_pos h, trL_get hi h]
  · rw [if_neg h, if_neg h, trL_get hi (by omega)]
theorem mt_zs {w : World} {v : Value} {R C : Int} {zs : List Int} {L : Nat} (h : Mt w v R C zs L) {ao : Option Addr} {n k : Nat} (e : v = .agg #[.int .i64 R, .int .i64 C, .slice ao n k]) : Zs w (.slice ao n k) zs L := by
  obtain ⟨u, e2, z⟩ := h
  rw [e] at e2
  simp only [Value.agg.injEq, Array.mk.injEq, List.cons.injEq, and_true, true_and] at e2
  subst e2
  exact z

set_option maxRecDepth 20000 in
set_option maxHeartbeats 4000000 in
theorem not_few (a b : Value) (R1 C1 R2 C2 : Int) (ps qs : List (Bool × List Nat)) (cut : Nat) (w : World) (mA : Mw w a R1 C1 ps) (mB : Mw w b R2 C2 qs) (hfew : ¬ (Fx R1 C1 ps 6 3 ∧ Fx R2 C2 qs 6 3)) :
    Calls Try.prog 7 #[a, b, .int .u8 cut] w (LawOk w) := by
  obtain ⟨ao, ca, rfl⟩ := mA.agg
  obtain ⟨bo, cb, rfl⟩ := mB.agg
  obtain ⟨wb, ew, KA, KB, B0, hsz⟩ := boxes1' w 24 24 [.int .i64 R1, .int .i64 C1, .slice ao ps.length ca] [.int .i64 R2, .int .i64 C2, .slice bo qs.length cb]
  clear hsz
  replace mA := mA.next B0
  replace mB := mB.next B0
  have FEW := Lib.hid hfew; clear hfew
  go_enter Try.func7, Try.ntmps7
  go_upto_region 1 with (fail)
  rw [← ew]
  clear ew
  go_wp2_with fail
  refine (law11_awake _).mono ?_; rintro e w1 ⟨rfl, b1⟩
  replace mA := mA.next b1
  replace mB := mB.next b1
  replace KA := KA.next b1
  replace KB := KB.next b1
  replace B0 := B0.trans (b1.mono B0.size)
  clear b1
  have qKA0 := KA.cell 0
  have qKA1 := KA.cell 1
  have qKA2 := KA.cell 2
  have qKB0 := KB.cell 0
  have qKB1 := KB.cell 1
  have qKB2 := KB.cell 2
  go_wp2_with fail
  refine (law11_few _ _ R1 C1 R2 C2 _ _ false ⟨fun h => (by cases h), fun h => absurd h FEW.out⟩ _ mA mB).mono ?_; rintro e w2 ⟨rfl, b2⟩
  clear qKA0 qKA1 qKA2 qKB0 qKB1 qKB2
  replace mA := mA.next b2
  replace mB := mB.next b2
  replace KA := KA.next b2
  replace KB := KB.next b2
  replace B0 := B0.trans (b2.mono B0.size)
  clear b2
  clear mA mB
  clear FEW
  go_wp2_with fail
  refine (law11_awake _).mono ?_; rintro e w3 ⟨rfl, b3⟩
  replace KA := KA.next b3
  replace KB := KB.next b3
  replace B0 := B0.trans (b3.mono B0.size)
  clear b3
  go_wp2
  go_ret
  exact ⟨rfl, B0⟩

set_option maxRecDepth 20000 in
set_option maxHeartbeats 4000000 in
theorem not_a (a b : Value) (R1 C1 R2 C2 : Int) (ps qs : List (Bool × List Nat)) (cut : Nat) (w : World) (mA : Mw w a R1 C1 ps) (mB : Mw w b R2 C2 qs) (hfew : Fx R1 C1 ps 6 3 ∧ Fx R2 C2 qs 6 3) (xs : List Int) (hA : Mt w a R1 C1 xs 3) (hf : ¬ Fm R1 C1 xs.length) :
    Calls Try.prog 7 #[a, b, .int .u8 cut] w (LawOk w) := by
  obtain ⟨ao, ca, rfl⟩ := mA.agg
  obtain ⟨bo, cb, rfl⟩ := mB.agg
  obtain ⟨wb, ew, KA, KB, B0, hsz⟩ := boxes1' w 24 24 [.int .i64 R1, .int .i64 C1, .slice ao ps.length ca] [.int .i64 R2, .int .i64 C2, .slice bo qs.length cb]
  clear hsz
  replace mA := mA.next B0
  replace mB := mB.next B0
  replace hA := hA.next B0
  have FEW := Lib.hid hfew; clear hfew
  go_enter Try.func7, Try.ntmps7
  go_upto_region 1 with (fail)
  rw [← ew]
  clear ew
  go_wp2_with fail
  refine (law11_awake _).mono ?_; rintro e w1 ⟨rfl, b1⟩
  replace mA := mA.next b1
  replace mB := mB.next b1
  replace hA := hA.next b1
  replace KA := KA.next b1
  replace KB := KB.next b1
  replace B0 := B0.trans (b1.mono B0.size)
  clear b1
  have qKA0 := KA.cell 0
  have qKA1 := KA.cell 1
  have qKA2 := KA.cell 2
  have qKB0 := KB.cell 0
  have qKB1 := KB.cell 1
  have qKB2 := KB.cell 2
  go_wp2_with fail
  refine (law11_few _ _ R1 C1 R2 C2 _ _ true ⟨fun _ => FEW.out, fun _ => rfl⟩ _ mA mB).mono ?_; rintro e w2 ⟨rfl, b2⟩
  clear qKA0 qKA1 qKA2 qKB0 qKB1 qKB2
  replace mA := mA.next b2
  replace mB := mB.next b2
  replace hA := hA.next b2
  replace KA := KA.next b2
  replace KB := KB.next b2
  replace B0 := B0.trans (b2.mono B0.size)
  clear b2
  clear mA mB
  clear FEW
  have qKA0 := KA.cell 0
  have qKA1 := KA.cell 1
  have qKA2 := KA.cell 2
  go_wp2_with fail
  refine (ref11_Formed_no _ R1 C1 xs 3 _ hA hf).mono ?_; rintro e w3 ⟨rfl, b3⟩
  clear qKA0 qKA1 qKA2
  replace hA := hA.next b3
  replace KA := KA.next b3
  replace KB := KB.next b3
  replace B0 := B0.trans (b3.mono B0.size)
  clear b3
  go_wp2_with fail
  refine (law11_awake _).mono ?_; rintro e w4 ⟨rfl, b4⟩
  replace hA := hA.next b4
  replace KA := KA.next b4
  replace KB := KB.next b4
  replace B0 := B0.trans (b4.mono B0.size)
  clear b4
  go_wp2
  go_ret
  exact ⟨rfl, B0⟩

set_option maxRecDepth 20000 in
set_option maxHeartbeats 4000000 in
theorem not_b (a b : Value) (R1 C1 R2 C2 : Int) (ps qs : List (Bool × List Nat)) (cut : Nat) (w : World) (mA : Mw w a R1 C1 ps) (mB : Mw w b R2 C2 qs) (hfew : Fx R1 C1 ps 6 3 ∧ Fx R2 C2 qs 6 3) (xs ys : List Int) (hA : Mt w a R1 C1 xs 3) (hB : Mt w b R2 C2 ys 3) (hf1 : Fm R1 C1 xs.length) (hf : ¬ Fm R2 C2 ys.length) :
    Calls Try.prog 7 #[a, b, .int .u8 cut] w (LawOk w) := by
  obtain ⟨ao, ca, rfl⟩ := mA.agg
  obtain ⟨bo, cb, rfl⟩ := mB.agg
  obtain ⟨wb, ew, KA, KB, B0, hsz⟩ := boxes1' w 24 24 [.int .i64 R1, .int .i64 C1, .slice ao ps.length ca] [.int .i64 R2, .int .i64 C2, .slice bo qs.length cb]
  clear hsz
  replace mA := mA.next B0
  replace mB := mB.next B0
  replace hA := hA.next B0
  replace hB := hB.next B0
  have FEW := Lib.hid hfew; clear hfew
  go_enter Try.func7, Try.ntmps7
  go_upto_region 1 with (fail)
  rw [← ew]
  clear ew
  go_wp2_with fail
  refine (law11_awake _).mono ?_; rintro e w1 ⟨rfl, b1⟩
  replace mA := mA.next b1
  replace mB := mB.next b1
  replace hA := hA.next b1
  replace hB := hB.next b1
  replace KA := KA.next b1
  replace KB := KB.next b1
  replace B0 := B0.trans (b1.mono B0.size)
  clear b1
  have qKA0 := KA.cell 0
  have qKA1 := KA.cell 1
  have qKA2 := KA.cell 2
  have qKB0 := KB.cell 0
  have qKB1 := KB.cell 1
  have qKB2 := KB.cell 2
  go_wp2_with fail
  refine (law11_few _ _ R1 C1 R2 C2 _ _ true ⟨fun _ => FEW.out, fun _ => rfl⟩ _ mA mB).mono ?_; rintro e w2 ⟨rfl, b2⟩
  clear qKA0 qKA1 qKA2 qKB0 qKB1 qKB2
  replace mA := mA.next b2
  replace mB := mB.next b2
  replace hA := hA.next b2
  replace hB := hB.next b2
  replace KA := KA.next b2
  replace KB := KB.next b2
  replace B0 := B0.trans (b2.mono B0.size)
  clear b2
  clear mA mB
  clear FEW
  have qKA0 := KA.cell 0
  have qKA1 := KA.cell 1
  have qKA2 := KA.cell 2
  go_wp2_with fail
  refine (ref11_Formed_yes _ R1 C1 xs 3 _ hA hf1).mono ?_; rintro e w3 ⟨rfl, b3⟩
  clear qKA0 qKA1 qKA2
  replace hA := hA.next b3
  replace hB := hB.next b3
  replace KA := KA.next b3
  replace KB := KB.next b3
  replace B0 := B0.trans (b3.mono B0.size)
  clear b3
  have qKB0 := KB.cell 0
  have qKB1 := KB.cell 1
  have qKB2 := KB.cell 2
  go_wp2_with fail
  refine (ref11_Formed_no _ R2 C2 ys 3 _ hB hf).mono ?_; rintro e w4 ⟨rfl, b4⟩
  clear qKB0 qKB1 qKB2
  replace hA := hA.next b4
  replace hB := hB.next b4
  replace KA := KA.next b4
  replace KB := KB.next b4
  replace B0 := B0.trans (b4.mono B0.size)
  clear b4
  go_wp2_with fail
  refine (law11_awake _).mono ?_; rintro e w5 ⟨rfl, b5⟩
  replace hA := hA.next b5
  replace hB := hB.next b5
  replace KA := KA.next b5
  replace KB := KB.next b5
  replace B0 := B0.trans (b5.mono B0.size)
  clear b5
  go_wp2
  go_ret
  exact ⟨rfl, B0⟩

set_option maxRecDepth 20000 in
set_option maxHeartbeats 4000000 in
theorem other (a b : Value) (r c r2 c2 k d : Nat) (ps qs : List (Bool × List Nat)) (cut : Nat) (w : World) (mA : Mw w a r c ps) (mB : Mw w b r2 c2 qs) (hcut : cut < 256) (hfew : Fx r c ps 6 3 ∧ Fx r2 c2 qs 6 3) (xs ys : List Int) (hA : Mt w a r c xs 3) (hB : Mt w b r2 c2 ys 3) (hr : r ≤ 64) (hc : c ≤ 64) (hr2 : r2 ≤ 64) (hc2 : c2 ≤ 64) (hx : xs.length = r * c) (hy : ys.length = r2 * c2) (hkd : k + d = r) (hcutk : cut % (r + 1) = k) (hne : r ≠ r2) :
    Calls Try.prog 7 #[a, b, .int .u8 cut] w (LawOk w) := by
  obtain ⟨ao, ca, rfl⟩ := mA.agg
  obtain ⟨bo, cb, rfl⟩ := mB.agg
  obtain ⟨wb, ew, KA, KB, B0, hsz⟩ := boxes1' w 24 24 [.int .i64 r, .int .i64 c, .slice ao ps.length ca] [.int .i64 r2, .int .i64 c2, .slice bo qs.length cb]
  clear hsz
  have HX := Lib.hid hx; have HY := Lib.hid hy; clear hx hy
  have HKD := Lib.hid hkd; clear hkd
  have h6 : r ≤ 6 ∧ c ≤ 6 ∧ c2 ≤ 6 := ⟨by have := hfew.1.1; omega, by have := hfew.1.2.1; omega, by have := hfew.2.2.1; omega⟩
  obtain ⟨hr6, hc6, hc26⟩ := h6
  replace mA := mA.next B0
  replace mB := mB.next B0
  replace hA := hA.next B0
  replace hB := hB.next B0
  have FEW := Lib.hid hfew; clear hfew
  go_enter Try.func7, Try.ntmps7
  go_upto_region 1 with (fail)
  rw [← ew]
  clear ew
  go_wp2_with fail
  refine (law11_awake _).mono ?_; rintro e w1 ⟨rfl, b1⟩
  replace mA := mA.next b1
  replace mB := mB.next b1
  replace hA := hA.next b1
  replace hB := hB.next b1
  replace KA := KA.next b1
  replace KB := KB.next b1
  replace B0 := B0.trans (b1.mono B0.size)
  clear b1
  have qKA0 := KA.cell 0
  have qKA1 := KA.cell 1
  have qKA2 := KA.cell 2
  have qKB0 := KB.cell 0
  have qKB1 := KB.cell 1
  have qKB2 := KB.cell 2
  go_wp2_with fail
  refine (law11_few _ _ r c r2 c2 _ _ true ⟨fun _ => FEW.out, fun _ => rfl⟩ _ mA mB).mono ?_; rintro e w2 ⟨rfl, b2⟩
  clear qKA0 qKA1 qKA2 qKB0 qKB1 qKB2
  replace mA := mA.next b2
  replace mB := mB.next b2
  replace hA := hA.next b2
  replace hB := hB.next b2
  replace KA := KA.next b2
  replace KB := KB.next b2
  replace B0 := B0.trans (b2.mono B0.size)
  clear b2
  clear mA mB
  clear FEW
  have qKA0 := KA.cell 0
  have qKA1 := KA.cell 1
  have qKA2 := KA.cell 2
  go_wp2_with fail
  refine (ref11_Formed_yes _ r c xs 3 _ hA (Fm.of hr hc HX.out)).mono ?_; rintro e w3 ⟨rfl, b3⟩
  clear qKA0 qKA1 qKA2
  replace hA := hA.next b3
  replace hB := hB.next b3
  replace KA := KA.next b3
  replace KB := KB.next b3
  replace B0 := B0.trans (b3.mono B0.size)
  clear b3
  have qKB0 := KB.cell 0
  have qKB1 := KB.cell 1
  have qKB2 := KB.cell 2
  go_wp2_with fail
  refine (ref11_Formed_yes _ r2 c2 ys 3 _ hB (Fm.of hr2 hc2 HY.out)).mono ?_; rintro e w4 ⟨rfl, b4⟩
  clear qKB0 qKB1 qKB2
  replace hA := hA.next b4
  replace hB := hB.next b4
  replace KA := KA.next b4
  replace KB := KB.next b4
  replace B0 := B0.trans (b4.mono B0.size)
  clear b4
  obtain ⟨rp, erp⟩ : ∃ rp, rp = r + 1 := ⟨_, rfl⟩
  obtain ⟨kp, ekp⟩ : ∃ kp, kp = k + 1 := ⟨_, rfl⟩
  have x1 : IntKind.i64.wrap ((r : Int) + 1) = (rp : Int) := by rw [show (r : Int) + 1 = (rp : Int) by omega]; exact IntWalk.i64_in _ ⟨by omega, by omega⟩
  have x2 : IntKind.i64.wrap (cut : Int) = (cut : Int) := IntWalk.i64_in _ ⟨by omega, by omega⟩
  have hkr : k ≤ r := by have := HKD.out; omega
  have x3 : (cut : Int).tmod (rp : Int) = (k : Int) := by rw [IntWalk.rem_in _ _ (by omega), ← hcutk, erp]; exact (Int.natCast_emod _ _).symm
  have x4 : IntKind.i64.wrap (k : Int) = (k : Int) := IntWalk.i64_in _ ⟨by omega, by omega⟩
  have x5 : IntKind.i64.wrap ((k : Int) + 1) = (kp : Int) := by rw [show (k : Int) + 1 = (kp : Int) by omega]; exact IntWalk.i64_in _ ⟨by omega, by omega⟩
  have x6 : ((rp : Int) == 0) = false := by simp; omega
  have x7 : ¬ rp = 0 := by omega
  have ERP := Lib.hid erp; have EKP := Lib.hid ekp; clear erp ekp hcutk
  have qKA0 := KA.cell 0
  have qKA1 := KA.cell 1
  have qKA2 := KA.cell 2
  go_wp2_with fail
  refine (rows_ok _ r c 0 k _ _ xs 3 _ hA hr hc HX.out rfl (by omega) (by omega) (by omega)).mono ?_; rintro e w5 ⟨v5, rfl, h5, b5⟩
  clear qKA0 qKA1 qKA2
  replace hA := hA.next b5
  replace hB := hB.next b5
  replace KA := KA.next b5
  replace KB := KB.next b5
  replace B0 := B0.trans (b5.mono B0.size)
  clear b5
  obtain ⟨xa, exa⟩ : ∃ zz, zz = rowsL 0 k c xs := ⟨_, rfl⟩
  replace h5 : MtN w5 v5 k c (rowsL 0 k c xs) 3 := h5
  rw [← exa] at h5
  have lxa : xa.length = k * c := by rw [exa]; exact rowsL_length _ _ _ _
  have EXA := Lib.hid exa; have LXA := Lib.hid lxa; clear exa lxa
  obtain ⟨a5, k5, rfl⟩ := h5.agg
  obtain ⟨w6, e6, K5, b6, hs6⟩ := boxes1 w5 24 [.int .i64 k, .int .i64 c, .slice a5 xa.length k5]
  clear hs6
  replace hA := hA.next b6
  replace hB := hB.next b6
  replace KA := KA.next b6
  replace KB := KB.next b6
  replace h5 := h5.next b6
  replace B0 := B0.trans (b6.mono B0.size)
  clear b6
  go_upto_region 5 with (fail)
  rw [← e6]
  clear e6
  have qKA0 := KA.cell 0
  have qKA1 := KA.cell 1
  have qKA2 := KA.cell 2
  go_wp2_with fail
  refine (rows_ok _ r c k d _ _ xs 3 _ hA hr hc HX.out rfl (by have := HKD.out; omega) (by have := HKD.out; omega) (by omega)).mono ?_; rintro e w7 ⟨v7, rfl, h7, b7⟩
  clear qKA0 qKA1 qKA2
  replace hA := hA.next b7
  replace hB := hB.next b7
  replace KA := KA.next b7
  replace KB := KB.next b7
  replace h5 := h5.next b7
  replace K5 := K5.next b7
  replace B0 := B0.trans (b7.mono B0.size)
  clear b7
  obtain ⟨xb, exb⟩ : ∃ zz, zz = rowsL k d c xs := ⟨_, rfl⟩
  replace h7 : MtN w7 v7 d c (rowsL k d c xs) 3 := h7
  rw [← exb] at h7
  have lxb : xb.length = d * c := by rw [exb]; exact rowsL_length _ _ _ _
  have EXB := Lib.hid exb; have LXB := Lib.hid lxb; clear exb lxb
  obtain ⟨a7, k7, rfl⟩ := h7.agg
  obtain ⟨w8, e8, K7, b8, hs8⟩ := boxes1 w7 24 [.int .i64 d, .int .i64 c, .slice a7 xb.length k7]
  clear hs8
  replace hA := hA.next b8
  replace hB := hB.next b8
  replace KA := KA.next b8
  replace KB := KB.next b8
  replace h5 := h5.next b8
  replace K5 := K5.next b8
  replace h7 := h7.next b8
  replace B0 := B0.trans (b8.mono B0.size)
  clear b8
  go_upto_region 6 with (fail)
  rw [← e8]
  clear e8
  have qK50 := K5.cell 0
  have qK51 := K5.cell 1
  have qK52 := K5.cell 2
  have qK70 := K7.cell 0
  have qK71 := K7.cell 1
  have qK72 := K7.cell 2
  go_wp2_with fail
  refine (zmat_Stack _ _ k d c xa xb 3 _ h5.mt h7.mt (by omega) hc LXA.out LXB.out (by have := HKD.out; omega) (by omega)).mono ?_; rintro e w9 ⟨v9, rfl, h9, b9⟩
  clear qK50 qK51 qK52 qK70 qK71 qK72
  replace hA := hA.next b9
  replace hB := hB.next b9
  replace KA := KA.next b9
  replace KB := KB.next b9
  replace h5 := h5.next b9
  replace K5 := K5.next b9
  replace h7 := h7.next b9
  replace K7 := K7.next b9
  replace B0 := B0.trans (b9.mono B0.size)
  clear b9
  have hst : stackL k d c xa xb = xs := by rw [EXA.out, EXB.out]; exact stack_rows (by rw [HKD.out]; exact HX.out)
  replace h9 : MtN w9 v9 (k + d) c (stackL k d c xa xb) 3 := h9
  rw [hst, HKD.out] at h9
  clear hst
  obtain ⟨a9, k9, rfl⟩ := h9.agg
  obtain ⟨w10, e10, K9, b10, hs10⟩ := boxes1 w9 24 [.int .i64 r, .int .i64 c, .slice a9 xs.length k9]
  clear hs10
  replace hA := hA.next b10
  replace hB := hB.next b10
  replace KA := KA.next b10
  replace KB := KB.next b10
  replace h5 := h5.next b10
  replace K5 := K5.next b10
  replace h7 := h7.next b10
  replace K7 := K7.next b10
  replace h9 := h9.next b10
  replace B0 := B0.trans (b10.mono B0.size)
  clear b10
  go_upto_region 7 with (fail)
  rw [← e10]
  clear e10
  have qKA0 := KA.cell 0
  have qKA1 := KA.cell 1
  have qKA2 := KA.cell 2
  go_wp2_with fail
  refine (rows_bad _ r c (k + 1) k _ _ xs 3 _ hA hr hc HX.out (by have := EKP.out; omega) rfl (by omega)).mono ?_; rintro e w11 ⟨v11, rfl, h11, b11⟩
  clear qKA0 qKA1 qKA2
  replace hA := hA.next b11
  replace hB := hB.next b11
  replace KA := KA.next b11
  replace KB := KB.next b11
  replace h5 := h5.next b11
  replace K5 := K5.next b11
  replace h7 := h7.next b11
  replace K7 := K7.next b11
  replace h9 := h9.next b11
  replace K9 := K9.next b11
  replace B0 := B0.trans (b11.mono B0.size)
  clear b11
  obtain ⟨a11, k11, rfl⟩ := h11.agg
  obtain ⟨w12, e12, K11, b12, hs12⟩ := boxes1 w11 24 [.int .i64 0, .int .i64 0, .slice a11 0 k11]
  clear hs12
  replace hA := hA.next b12
  replace hB := hB.next b12
  replace KA := KA.next b12
  replace KB := KB.next b12
  replace h5 := h5.next b12
  replace K5 := K5.next b12
  replace h7 := h7.next b12
  replace K7 := K7.next b12
  replace h9 := h9.next b12
  replace K9 := K9.next b12
  replace h11 := h11.next b12
  replace B0 := B0.trans (b12.mono B0.size)
  clear b12
  go_upto_region 8 with (fail)
  rw [← e12]
  clear e12
  have qKA0 := KA.cell 0
  have qKA1 := KA.cell 1
  have qKA2 := KA.cell 2
  go_wp2_with fail
  refine (rows_bad _ r c 0 (r + 1) _ _ xs 3 _ hA hr hc HX.out rfl (by have := ERP.out; omega) (by omega)).mono ?_; rintro e w13 ⟨v13, rfl, h13, b13⟩
  clear qKA0 qKA1 qKA2
  replace hA := hA.next b13
  replace hB := hB.next b13
  replace KA := KA.next b13
  replace KB := KB.next b13
  replace h5 := h5.next b13
  replace K5 := K5.next b13
  replace h7 := h7.next b13
  replace K7 := K7.next b13
  replace h9 := h9.next b13
  replace K9 := K9.next b13
  replace h11 := h11.next b13
  replace K11 := K11.next b13
  replace B0 := B0.trans (b13.mono B0.size)
  clear b13
  obtain ⟨a13, k13, rfl⟩ := h13.agg
  obtain ⟨w14, e14, K13, b14, hs14⟩ := boxes1 w13 24 [.int .i64 0, .int .i64 0, .slice a13 0 k13]
  clear hs14
  replace hA := hA.next b14
  replace hB := hB.next b14
  replace KA := KA.next b14
  replace KB := KB.next b14
  replace h5 := h5.next b14
  replace K5 := K5.next b14
  replace h7 := h7.next b14
  replace K7 := K7.next b14
  replace h9 := h9.next b14
  replace K9 := K9.next b14
  replace h11 := h11.next b14
  replace K11 := K11.next b14
  replace h13 := h13.next b14
  replace B0 := B0.trans (b14.mono B0.size)
  clear b14
  go_upto_region 9 with (fail)
  rw [← e14]
  clear e14
  clear x1 x2 x3 x4 x5 x6 x7
  have qK90 := K9.cell 0
  have qK91 := K9.cell 1
  have qK92 := K9.cell 2
  have qKA0 := KA.cell 0
  have qKA1 := KA.cell 1
  have qKA2 := KA.cell 2
  have hz := mt_zs hA rfl
  go_wp2_with fail
  refine (ref11_Is _ _ r c xs 3 3 _ h9 hr hc HX.out (by omega) (by omega) hz).mono ?_; rintro e w15 ⟨rfl, b15⟩
  clear qK90 qK91 qK92 qKA0 qKA1 qKA2
  replace hA := hA.next b15
  replace hB := hB.next b15
  replace KA := KA.next b15
  replace KB := KB.next b15
  replace h5 := h5.next b15
  replace K5 := K5.next b15
  replace h7 := h7.next b15
  replace K7 := K7.next b15
  replace h9 := h9.next b15
  replace K9 := K9.next b15
  replace h11 := h11.next b15
  replace K11 := K11.next b15
  replace h13 := h13.next b15
  replace K13 := K13.next b15
  replace B0 := B0.trans (b15.mono B0.size)
  clear b15
  clear hz
  have qKA0 := KA.cell 0
  have qKA1 := KA.cell 1
  have qKA2 := KA.cell 2
  have qKB0 := KB.cell 0
  have qKB1 := KB.cell 1
  have qKB2 := KB.cell 2
  have hq : ((r : Int) == (r2 : Int)) = false := by simp; omega
  have HNE := Lib.hid hne; clear hne
  go_wp2_with fail
  refine (zmat_Beside_shape _ _ r c r2 c2 xs ys 3 _ hA hB hr hc hr2 hc2 HX.out HY.out HNE.out).mono ?_; rintro e w16 ⟨v16, rfl, h16, b16⟩
  clear qKA0 qKA1 qKA2 qKB0 qKB1 qKB2
  replace hA := hA.next b16
  replace hB := hB.next b16
  replace KA := KA.next b16
  replace KB := KB.next b16
  replace h5 := h5.next b16
  replace K5 := K5.next b16
  replace h7 := h7.next b16
  replace K7 := K7.next b16
  replace h9 := h9.next b16
  replace K9 := K9.next b16
  replace h11 := h11.next b16
  replace K11 := K11.next b16
  replace h13 := h13.next b16
  replace K13 := K13.next b16
  replace B0 := B0.trans (b16.mono B0.size)
  clear b16
  obtain ⟨a16, k16, rfl⟩ := h16.agg
  obtain ⟨w17, e17, K16, b17, hs17⟩ := boxes1 w16 24 [.int .i64 0, .int .i64 0, .slice a16 0 k16]
  clear hs17
  replace hA := hA.next b17
  replace hB := hB.next b17
  replace KA := KA.next b17
  replace KB := KB.next b17
  replace h5 := h5.next b17
  replace K5 := K5.next b17
  replace h7 := h7.next b17
  replace K7 := K7.next b17
  replace h9 := h9.next b17
  replace K9 := K9.next b17
  replace h11 := h11.next b17
  replace K11 := K11.next b17
  replace h13 := h13.next b17
  replace K13 := K13.next b17
  replace h16 := h16.next b17
  replace B0 := B0.trans (b17.mono B0.size)
  clear b17
  go_upto_region 12 with (fail)
  rw [← e17]
  clear e17
  have qKA0 := KA.cell 0
  have qKB0 := KB.cell 0
  have qK160 := K16.cell 0
  have qK161 := K16.cell 1
  have qK162 := K16.cell 2
  go_wp2_with fail
  refine (ref11_None a16 k16 _).mono ?_; rintro e w18 ⟨rfl, b18⟩
  clear qKA0 qKB0 qK160 qK161 qK162
  replace hA := hA.next b18
  replace hB := hB.next b18
  replace KA := KA.next b18
  replace KB := KB.next b18
  replace h5 := h5.next b18
  replace K5 := K5.next b18
  replace h7 := h7.next b18
  replace K7 := K7.next b18
  replace h9 := h9.next b18
  replace K9 := K9.next b18
  replace h11 := h11.next b18
  replace K11 := K11.next b18
  replace h13 := h13.next b18
  replace K13 := K13.next b18
  replace h16 := h16.next b18
  replace K16 := K16.next b18
  replace B0 := B0.trans (b18.mono B0.size)
  clear b18
  go_wp2
  go_ret
  exact ⟨rfl, B0⟩

set_option maxRecDepth 20000 in
set_option maxHeartbeats 4000000 in
theorem same (a b : Value) (r c c2 k d : Nat) (ps qs : List (Bool × List Nat)) (cut : Nat) (w : World) (mA : Mw w a r c ps) (mB : Mw w b r c2 qs) (hcut : cut < 256) (hfew : Fx r c ps 6 3 ∧ Fx r c2 qs 6 3) (xs ys : List Int) (hA : Mt w a r c xs 3) (hB : Mt w b r c2 ys 3) (hr : r ≤ 64) (hc : c ≤ 64) (hc2 : c2 ≤ 64) (hx : xs.length = r * c) (hy : ys.length = r * c2) (hkd : k + d = r) (hcutk : cut % (r + 1) = k) :
    Calls Try.prog 7 #[a, b, .int .u8 cut] w (LawOk w) := by
  obtain ⟨ao, ca, rfl⟩ := mA.agg
  obtain ⟨bo, cb, rfl⟩ := mB.agg
  obtain ⟨wb, ew, KA, KB, B0, hsz⟩ := boxes1' w 24 24 [.int .i64 r, .int .i64 c, .slice ao ps.length ca] [.int .i64 r, .int .i64 c2, .slice bo qs.length cb]
  clear hsz
  have HX := Lib.hid hx; have HY := Lib.hid hy; clear hx hy
  have HKD := Lib.hid hkd; clear hkd
  have h6 : r ≤ 6 ∧ c ≤ 6 ∧ c2 ≤ 6 := ⟨by have := hfew.1.1; omega, by have := hfew.1.2.1; omega, by have := hfew.2.2.1; omega⟩
  obtain ⟨hr6, hc6, hc26⟩ := h6
  replace mA := mA.next B0
  replace mB := mB.next B0
  replace hA := hA.next B0
  replace hB := hB.next B0
  have FEW := Lib.hid hfew; clear hfew
  go_enter Try.func7, Try.ntmps7
  go_upto_region 1 with (fail)
  rw [← ew]
  clear ew
  go_wp2_with fail
  refine (law11_awake _).mono ?_; rintro e w1 ⟨rfl, b1⟩
  replace mA := mA.next b1
  replace mB := mB.next b1
  replace hA := hA.next b1
  replace hB := hB.next b1
  replace KA := KA.next b1
  replace KB := KB.next b1
  replace B0 := B0.trans (b1.mono B0.size)
  clear b1
  have qKA0 := KA.cell 0
  have qKA1 := KA.cell 1
  have qKA2 := KA.cell 2
  have qKB0 := KB.cell 0
  have qKB1 := KB.cell 1
  have qKB2 := KB.cell 2
  go_wp2_with fail
  refine (law11_few _ _ r c r c2 _ _ true ⟨fun _ => FEW.out, fun _ => rfl⟩ _ mA mB).mono ?_; rintro e w2 ⟨rfl, b2⟩
  clear qKA0 qKA1 qKA2 qKB0 qKB1 qKB2
  replace mA := mA.next b2
  replace mB := mB.next b2
  replace hA := hA.next b2
  replace hB := hB.next b2
  replace KA := KA.next b2
  replace KB := KB.next b2
  replace B0 := B0.trans (b2.mono B0.size)
  clear b2
  clear mA mB
  clear FEW
  have qKA0 := KA.cell 0
  have qKA1 := KA.cell 1
  have qKA2 := KA.cell 2
  go_wp2_with fail
  refine (ref11_Formed_yes _ r c xs 3 _ hA (Fm.of hr hc HX.out)).mono ?_; rintro e w3 ⟨rfl, b3⟩
  clear qKA0 qKA1 qKA2
  replace hA := hA.next b3
  replace hB := hB.next b3
  replace KA := KA.next b3
  replace KB := KB.next b3
  replace B0 := B0.trans (b3.mono B0.size)
  clear b3
  have qKB0 := KB.cell 0
  have qKB1 := KB.cell 1
  have qKB2 := KB.cell 2
  go_wp2_with fail
  refine (ref11_Formed_yes _ r c2 ys 3 _ hB (Fm.of hr hc2 HY.out)).mono ?_; rintro e w4 ⟨rfl, b4⟩
  clear qKB0 qKB1 qKB2
  replace hA := hA.next b4
  replace hB := hB.next b4
  replace KA := KA.next b4
  replace KB := KB.next b4
  replace B0 := B0.trans (b4.mono B0.size)
  clear b4
  obtain ⟨rp, erp⟩ : ∃ rp, rp = r + 1 := ⟨_, rfl⟩
  obtain ⟨kp, ekp⟩ : ∃ kp, kp = k + 1 := ⟨_, rfl⟩
  have x1 : IntKind.i64.wrap ((r : Int) + 1) = (rp : Int) := by rw [show (r : Int) + 1 = (rp : Int) by omega]; exact IntWalk.i64_in _ ⟨by omega, by omega⟩
  have x2 : IntKind.i64.wrap (cut : Int) = (cut : Int) := IntWalk.i64_in _ ⟨by omega, by omega⟩
  have hkr : k ≤ r := by have := HKD.out; omega
  have x3 : (cut : Int).tmod (rp : Int) = (k : Int) := by rw [IntWalk.rem_in _ _ (by omega), ← hcutk, erp]; exact (Int.natCast_emod _ _).symm
  have x4 : IntKind.i64.wrap (k : Int) = (k : Int) := IntWalk.i64_in _ ⟨by omega, by omega⟩
  have x5 : IntKind.i64.wrap ((k : Int) + 1) = (kp : Int) := by rw [show (k : Int) + 1 = (kp : Int) by omega]; exact IntWalk.i64_in _ ⟨by omega, by omega⟩
  have x6 : ((rp : Int) == 0) = false := by simp; omega
  have x7 : ¬ rp = 0 := by omega
  have ERP := Lib.hid erp; have EKP := Lib.hid ekp; clear erp ekp hcutk
  have qKA0 := KA.cell 0
  have qKA1 := KA.cell 1
  have qKA2 := KA.cell 2
  go_wp2_with fail
  refine (rows_ok _ r c 0 k _ _ xs 3 _ hA hr hc HX.out rfl (by omega) (by omega) (by omega)).mono ?_; rintro e w5 ⟨v5, rfl, h5, b5⟩
  clear qKA0 qKA1 qKA2
  replace hA := hA.next b5
  replace hB := hB.next b5
  replace KA := KA.next b5
  replace KB := KB.next b5
  replace B0 := B0.trans (b5.mono B0.size)
  clear b5
  obtain ⟨xa, exa⟩ : ∃ zz, zz = rowsL 0 k c xs := ⟨_, rfl⟩
  replace h5 : MtN w5 v5 k c (rowsL 0 k c xs) 3 := h5
  rw [← exa] at h5
  have lxa : xa.length = k * c := by rw [exa]; exact rowsL_length _ _ _ _
  have EXA := Lib.hid exa; have LXA := Lib.hid lxa; clear exa lxa
  obtain ⟨a5, k5, rfl⟩ := h5.agg
  obtain ⟨w6, e6, K5, b6, hs6⟩ := boxes1 w5 24 [.int .i64 k, .int .i64 c, .slice a5 xa.length k5]
  clear hs6
  replace hA := hA.next b6
  replace hB := hB.next b6
  replace KA := KA.next b6
  replace KB := KB.next b6
  replace h5 := h5.next b6
  replace B0 := B0.trans (b6.mono B0.size)
  clear b6
  go_upto_region 5 with (fail)
  rw [← e6]
  clear e6
  have qKA0 := KA.cell 0
  have qKA1 := KA.cell 1
  have qKA2 := KA.cell 2
  go_wp2_with fail
  refine (rows_ok _ r c k d _ _ xs 3 _ hA hr hc HX.out rfl (by have := HKD.out; omega) (by have := HKD.out; omega) (by omega)).mono ?_; rintro e w7 ⟨v7, rfl, h7, b7⟩
  clear qKA0 qKA1 qKA2
  replace hA := hA.next b7
  replace hB := hB.next b7
  replace KA := KA.next b7
  replace KB := KB.next b7
  replace h5 := h5.next b7
  replace K5 := K5.next b7
  replace B0 := B0.trans (b7.mono B0.size)
  clear b7
  obtain ⟨xb, exb⟩ : ∃ zz, zz = rowsL k d c xs := ⟨_, rfl⟩
  replace h7 : MtN w7 v7 d c (rowsL k d c xs) 3 := h7
  rw [← exb] at h7
  have lxb : xb.length = d * c := by rw [exb]; exact rowsL_length _ _ _ _
  have EXB := Lib.hid exb; have LXB := Lib.hid lxb; clear exb lxb
  obtain ⟨a7, k7, rfl⟩ := h7.agg
  obtain ⟨w8, e8, K7, b8, hs8⟩ := boxes1 w7 24 [.int .i64 d, .int .i64 c, .slice a7 xb.length k7]
  clear hs8
  replace hA := hA.next b8
  replace hB := hB.next b8
  replace KA := KA.next b8
  replace KB := KB.next b8
  replace h5 := h5.next b8
  replace K5 := K5.next b8
  replace h7 := h7.next b8
  replace B0 := B0.trans (b8.mono B0.size)
  clear b8
  go_upto_region 6 with (fail)
  rw [← e8]
  clear e8
  have qK50 := K5.cell 0
  have qK51 := K5.cell 1
  have qK52 := K5.cell 2
  have qK70 := K7.cell 0
  have qK71 := K7.cell 1
  have qK72 := K7.cell 2
  go_wp2_with fail
  refine (zmat_Stack _ _ k d c xa xb 3 _ h5.mt h7.mt (by omega) hc LXA.out LXB.out (by have := HKD.out; omega) (by omega)).mono ?_; rintro e w9 ⟨v9, rfl, h9, b9⟩
  clear qK50 qK51 qK52 qK70 qK71 qK72
  replace hA := hA.next b9
  replace hB := hB.next b9
  replace KA := KA.next b9
  replace KB := KB.next b9
  replace h5 := h5.next b9
  replace K5 := K5.next b9
  replace h7 := h7.next b9
  replace K7 := K7.next b9
  replace B0 := B0.trans (b9.mono B0.size)
  clear b9
  have hst : stackL k d c xa xb = xs := by rw [EXA.out, EXB.out]; exact stack_rows (by rw [HKD.out]; exact HX.out)
  replace h9 : MtN w9 v9 (k + d) c (stackL k d c xa xb) 3 := h9
  rw [hst, HKD.out] at h9
  clear hst
  obtain ⟨a9, k9, rfl⟩ := h9.agg
  obtain ⟨w10, e10, K9, b10, hs10⟩ := boxes1 w9 24 [.int .i64 r, .int .i64 c, .slice a9 xs.length k9]
  clear hs10
  replace hA := hA.next b10
  replace hB := hB.next b10
  replace KA := KA.next b10
  replace KB := KB.next b10
  replace h5 := h5.next b10
  replace K5 := K5.next b10
  replace h7 := h7.next b10
  replace K7 := K7.next b10
  replace h9 := h9.next b10
  replace B0 := B0.trans (b10.mono B0.size)
  clear b10
  go_upto_region 7 with (fail)
  rw [← e10]
  clear e10
  have qKA0 := KA.cell 0
  have qKA1 := KA.cell 1
  have qKA2 := KA.cell 2
  go_wp2_with fail
  refine (rows_bad _ r c (k + 1) k _ _ xs 3 _ hA hr hc HX.out (by have := EKP.out; omega) rfl (by omega)).mono ?_; rintro e w11 ⟨v11, rfl, h11, b11⟩
  clear qKA0 qKA1 qKA2
  replace hA := hA.next b11
  replace hB := hB.next b11
  replace KA := KA.next b11
  replace KB := KB.next b11
  replace h5 := h5.next b11
  replace K5 := K5.next b11
  replace h7 := h7.next b11
  replace K7 := K7.next b11
  replace h9 := h9.next b11
  replace K9 := K9.next b11
  replace B0 := B0.trans (b11.mono B0.size)
  clear b11
  obtain ⟨a11, k11, rfl⟩ := h11.agg
  obtain ⟨w12, e12, K11, b12, hs12⟩ := boxes1 w11 24 [.int .i64 0, .int .i64 0, .slice a11 0 k11]
  clear hs12
  replace hA := hA.next b12
  replace hB := hB.next b12
  replace KA := KA.next b12
  replace KB := KB.next b12
  replace h5 := h5.next b12
  replace K5 := K5.next b12
  replace h7 := h7.next b12
  replace K7 := K7.next b12
  replace h9 := h9.next b12
  replace K9 := K9.next b12
  replace h11 := h11.next b12
  replace B0 := B0.trans (b12.mono B0.size)
  clear b12
  go_upto_region 8 with (fail)
  rw [← e12]
  clear e12
  have qKA0 := KA.cell 0
  have qKA1 := KA.cell 1
  have qKA2 := KA.cell 2
  go_wp2_with fail
  refine (rows_bad _ r c 0 (r + 1) _ _ xs 3 _ hA hr hc HX.out rfl (by have := ERP.out; omega) (by omega)).mono ?_; rintro e w13 ⟨v13, rfl, h13, b13⟩
  clear qKA0 qKA1 qKA2
  replace hA := hA.next b13
  replace hB := hB.next b13
  replace KA := KA.next b13
  replace KB := KB.next b13
  replace h5 := h5.next b13
  replace K5 := K5.next b13
  replace h7 := h7.next b13
  replace K7 := K7.next b13
  replace h9 := h9.next b13
  replace K9 := K9.next b13
  replace h11 := h11.next b13
  replace K11 := K11.next b13
  replace B0 := B0.trans (b13.mono B0.size)
  clear b13
  obtain ⟨a13, k13, rfl⟩ := h13.agg
  obtain ⟨w14, e14, K13, b14, hs14⟩ := boxes1 w13 24 [.int .i64 0, .int .i64 0, .slice a13 0 k13]
  clear hs14
  replace hA := hA.next b14
  replace hB := hB.next b14
  replace KA := KA.next b14
  replace KB := KB.next b14
  replace h5 := h5.next b14
  replace K5 := K5.next b14
  replace h7 := h7.next b14
  replace K7 := K7.next b14
  replace h9 := h9.next b14
  replace K9 := K9.next b14
  replace h11 := h11.next b14
  replace K11 := K11.next b14
  replace h13 := h13.next b14
  replace B0 := B0.trans (b14.mono B0.size)
  clear b14
  go_upto_region 9 with (fail)
  rw [← e14]
  clear e14
  clear x1 x2 x3 x4 x5 x6 x7
  have qK90 := K9.cell 0
  have qK91 := K9.cell 1
  have qK92 := K9.cell 2
  have qKA0 := KA.cell 0
  have qKA1 := KA.cell 1
  have qKA2 := KA.cell 2
  have hz := mt_zs hA rfl
  go_wp2_with fail
  refine (ref11_Is _ _ r c xs 3 3 _ h9 hr hc HX.out (by omega) (by omega) hz).mono ?_; rintro e w15 ⟨rfl, b15⟩
  clear qK90 qK91 qK92 qKA0 qKA1 qKA2
  replace hA := hA.next b15
  replace hB := hB.next b15
  replace KA := KA.next b15
  replace KB := KB.next b15
  replace h5 := h5.next b15
  replace K5 := K5.next b15
  replace h7 := h7.next b15
  replace K7 := K7.next b15
  replace h9 := h9.next b15
  replace K9 := K9.next b15
  replace h11 := h11.next b15
  replace K11 := K11.next b15
  replace h13 := h13.next b15
  replace K13 := K13.next b15
  replace B0 := B0.trans (b15.mono B0.size)
  clear b15
  clear hz
  have qKA0 := KA.cell 0
  have qKA1 := KA.cell 1
  have qKA2 := KA.cell 2
  have qKB0 := KB.cell 0
  have qKB1 := KB.cell 1
  have qKB2 := KB.cell 2
  obtain ⟨cs, ecs⟩ : ∃ cs, cs = c + c2 := ⟨_, rfl⟩
  have x8 : IntKind.i64.wrap ((c : Int) + (c2 : Int)) = (cs : Int) := by rw [show (c : Int) + (c2 : Int) = (cs : Int) by omega]; exact IntWalk.i64_in _ ⟨by omega, by omega⟩
  have hcs : cs ≤ 64 := by omega
  have ECS := Lib.hid ecs; clear ecs
  go_wp2_with fail
  refine (zmat_Beside _ _ r c c2 xs ys 3 _ hA hB hr hc HX.out HY.out (by omega) (by omega)).mono ?_; rintro e w16 ⟨v16, rfl, h16, b16⟩
  clear qKA0 qKA1 qKA2 qKB0 qKB1 qKB2
  replace hA := hA.next b16
  replace hB := hB.next b16
  replace KA := KA.next b16
  replace KB := KB.next b16
  replace h5 := h5.next b16
  replace K5 := K5.next b16
  replace h7 := h7.next b16
  replace K7 := K7.next b16
  replace h9 := h9.next b16
  replace K9 := K9.next b16
  replace h11 := h11.next b16
  replace K11 := K11.next b16
  replace h13 := h13.next b16
  replace K13 := K13.next b16
  replace B0 := B0.trans (b16.mono B0.size)
  clear b16
  obtain ⟨us, eus⟩ : ∃ zz, zz = besL r c c2 xs ys := ⟨_, rfl⟩
  replace h16 : MtN w16 v16 r (c + c2) (besL r c c2 xs ys) 3 := h16
  rw [← eus, ← ECS.out] at h16
  have lus : us.length = r * cs := by rw [eus, ECS.out]; exact besL_length _ _ _ _ _
  have EUS := Lib.hid eus; have LUS := Lib.hid lus; clear eus lus
  obtain ⟨a16, k16, rfl⟩ := h16.agg
  obtain ⟨w17, e17, K16, b17, hs17⟩ := boxes1 w16 24 [.int .i64 r, .int .i64 cs, .slice a16 us.length k16]
  clear hs17
  replace hA := hA.next b17
  replace hB := hB.next b17
  replace KA := KA.next b17
  replace KB := KB.next b17
  replace h5 := h5.next b17
  replace K5 := K5.next b17
  replace h7 := h7.next b17
  replace K7 := K7.next b17
  replace h9 := h9.next b17
  replace K9 := K9.next b17
  replace h11 := h11.next b17
  replace K11 := K11.next b17
  replace h13 := h13.next b17
  replace K13 := K13.next b17
  replace h16 := h16.next b17
  replace B0 := B0.trans (b17.mono B0.size)
  clear b17
  go_upto_region 12 with (fail)
  rw [← e17]
  clear e17
  have hq : ((r : Int) == (r : Int)) = true := by simp
  have qKA0 := KA.cell 0
  have qKA1 := KA.cell 1
  have qKA2 := KA.cell 2
  have qKB0 := KB.cell 0
  have qKB1 := KB.cell 1
  have qKB2 := KB.cell 2
  go_wp2_with fail
  refine (zmat_Transpose _ r c xs 3 _ hA hr hc HX.out (by omega)).mono ?_; rintro e w18 ⟨v18, rfl, h18, b18⟩
  clear qKA0 qKA1 qKA2 qKB0 qKB1 qKB2
  replace hA := hA.next b18
  replace hB := hB.next b18
  replace KA := KA.next b18
  replace KB := KB.next b18
  replace h5 := h5.next b18
  replace K5 := K5.next b18
  replace h7 := h7.next b18
  replace K7 := K7.next b18
  replace h9 := h9.next b18
  replace K9 := K9.next b18
  replace h11 := h11.next b18
  replace K11 := K11.next b18
  replace h13 := h13.next b18
  replace K13 := K13.next b18
  replace h16 := h16.next b18
  replace K16 := K16.next b18
  replace B0 := B0.trans (b18.mono B0.size)
  clear b18
  obtain ⟨ta, eta⟩ : ∃ zz, zz = trL r c xs := ⟨_, rfl⟩
  replace h18 : MtN w18 v18 c r (trL r c xs) 3 := h18
  rw [← eta] at h18
  have lta : ta.length = c * r := by rw [eta]; exact trL_length _ _ _
  have ETA := Lib.hid eta; have LTA := Lib.hid lta; clear eta lta
  obtain ⟨a18, k18, rfl⟩ := h18.agg
  obtain ⟨w19, e19, K18, b19, hs19⟩ := boxes1 w18 24 [.int .i64 c, .int .i64 r, .slice a18 ta.length k18]
  clear hs19
  replace hA := hA.next b19
  replace hB := hB.next b19
  replace KA := KA.next b19
  replace KB := KB.next b19
  replace h5 := h5.next b19
  replace K5 := K5.next b19
  replace h7 := h7.next b19
  replace K7 := K7.next b19
  replace h9 := h9.next b19
  replace K9 := K9.next b19
  replace h11 := h11.next b19
  replace K11 := K11.next b19
  replace h13 := h13.next b19
  replace K13 := K13.next b19
  replace h16 := h16.next b19
  replace K16 := K16.next b19
  replace h18 := h18.next b19
  replace B0 := B0.trans (b19.mono B0.size)
  clear b19
  go_upto_region 15 with (fail)
  rw [← e19]
  clear e19
  have qKB0 := KB.cell 0
  have qKB1 := KB.cell 1
  have qKB2 := KB.cell 2
  go_wp2_with fail
  refine (zmat_Transpose _ r c2 ys 3 _ hB hr hc2 HY.out (by omega)).mono ?_; rintro e w20 ⟨v20, rfl, h20, b20⟩
  clear qKB0 qKB1 qKB2
  replace hA := hA.next b20
  replace hB := hB.next b20
  replace KA := KA.next b20
  replace KB := KB.next b20
  replace h5 := h5.next b20
  replace K5 := K5.next b20
  replace h7 := h7.next b20
  replace K7 := K7.next b20
  replace h9 := h9.next b20
  replace K9 := K9.next b20
  replace h11 := h11.next b20
  replace K11 := K11.next b20
  replace h13 := h13.next b20
  replace K13 := K13.next b20
  replace h16 := h16.next b20
  replace K16 := K16.next b20
  replace h18 := h18.next b20
  replace K18 := K18.next b20
  replace B0 := B0.trans (b20.mono B0.size)
  clear b20
  obtain ⟨tb, etb⟩ : ∃ zz, zz = trL r c2 ys := ⟨_, rfl⟩
  replace h20 : MtN w20 v20 c2 r (trL r c2 ys) 3 := h20
  rw [← etb] at h20
  have ltb : tb.length = c2 * r := by rw [etb]; exact trL_length _ _ _
  have ETB := Lib.hid etb; have LTB := Lib.hid ltb; clear etb ltb
  obtain ⟨a20, k20, rfl⟩ := h20.agg
  obtain ⟨w21, e21, K20, b21, hs21⟩ := boxes1 w20 24 [.int .i64 c2, .int .i64 r, .slice a20 tb.length k20]
  clear hs21
  replace hA := hA.next b21
  replace hB := hB.next b21
  replace KA := KA.next b21
  replace KB := KB.next b21
  replace h5 := h5.next b21
  replace K5 := K5.next b21
  replace h7 := h7.next b21
  replace K7 := K7.next b21
  replace h9 := h9.next b21
  replace K9 := K9.next b21
  replace h11 := h11.next b21
  replace K11 := K11.next b21
  replace h13 := h13.next b21
  replace K13 := K13.next b21
  replace h16 := h16.next b21
  replace K16 := K16.next b21
  replace h18 := h18.next b21
  replace K18 := K18.next b21
  replace h20 := h20.next b21
  replace B0 := B0.trans (b21.mono B0.size)
  clear b21
  go_upto_region 16 with (fail)
  rw [← e21]
  clear e21
  have qK180 := K18.cell 0
  have qK181 := K18.cell 1
  have qK182 := K18.cell 2
  have qK200 := K20.cell 0
  have qK201 := K20.cell 1
  have qK202 := K20.cell 2
  go_wp2_with fail
  refine (zmat_Stack _ _ c c2 r ta tb 3 _ h18.mt h20.mt hc hr LTA.out LTB.out (by omega) (by omega)).mono ?_; rintro e w22 ⟨v22, rfl, h22, b22⟩
  clear qK180 qK181 qK182 qK200 qK201 qK202
  replace hA := hA.next b22
  replace hB := hB.next b22
  replace KA := KA.next b22
  replace KB := KB.next b22
  replace h5 := h5.next b22
  replace K5 := K5.next b22
  replace h7 := h7.next b22
  replace K7 := K7.next b22
  replace h9 := h9.next b22
  replace K9 := K9.next b22
  replace h11 := h11.next b22
  replace K11 := K11.next b22
  replace h13 := h13.next b22
  replace K13 := K13.next b22
  replace h16 := h16.next b22
  replace K16 := K16.next b22
  replace h18 := h18.next b22
  replace K18 := K18.next b22
  replace h20 := h20.next b22
  replace K20 := K20.next b22
  replace B0 := B0.trans (b22.mono B0.size)
  clear b22
  obtain ⟨vs, evs⟩ : ∃ zz, zz = stackL c c2 r ta tb := ⟨_, rfl⟩
  replace h22 : MtN w22 v22 (c + c2) r (stackL c c2 r ta tb) 3 := h22
  rw [← evs, ← ECS.out] at h22
  have lvs : vs.length = cs * r := by rw [evs, ECS.out]; exact stackL_length _ _ _ _ _
  have EVS := Lib.hid evs; have LVS := Lib.hid lvs; clear evs lvs
  obtain ⟨a22, k22, rfl⟩ := h22.agg
  obtain ⟨w23, e23, K22, b23, hs23⟩ := boxes1 w22 24 [.int .i64 cs, .int .i64 r, .slice a22 vs.length k22]
  clear hs23
  replace hA := hA.next b23
  replace hB := hB.next b23
  replace KA := KA.next b23
  replace KB := KB.next b23
  replace h5 := h5.next b23
  replace K5 := K5.next b23
  replace h7 := h7.next b23
  replace K7 := K7.next b23
  replace h9 := h9.next b23
  replace K9 := K9.next b23
  replace h11 := h11.next b23
  replace K11 := K11.next b23
  replace h13 := h13.next b23
  replace K13 := K13.next b23
  replace h16 := h16.next b23
  replace K16 := K16.next b23
  replace h18 := h18.next b23
  replace K18 := K18.next b23
  replace h20 := h20.next b23
  replace K20 := K20.next b23
  replace h22 := h22.next b23
  replace B0 := B0.trans (b23.mono B0.size)
  clear b23
  go_upto_region 17 with (fail)
  rw [← e23]
  clear e23
  have qK220 := K22.cell 0
  have qK221 := K22.cell 1
  have qK222 := K22.cell 2
  go_wp2_with fail
  refine (zmat_Transpose _ cs r vs 3 _ h22.mt hcs hr LVS.out (by omega)).mono ?_; rintro e w24 ⟨v24, rfl, h24, b24⟩
  clear qK220 qK221 qK222
  replace hA := hA.next b24
  replace hB := hB.next b24
  replace KA := KA.next b24
  replace KB := KB.next b24
  replace h5 := h5.next b24
  replace K5 := K5.next b24
  replace h7 := h7.next b24
  replace K7 := K7.next b24
  replace h9 := h9.next b24
  replace K9 := K9.next b24
  replace h11 := h11.next b24
  replace K11 := K11.next b24
  replace h13 := h13.next b24
  replace K13 := K13.next b24
  replace h16 := h16.next b24
  replace K16 := K16.next b24
  replace h18 := h18.next b24
  replace K18 := K18.next b24
  replace h20 := h20.next b24
  replace K20 := K20.next b24
  replace h22 := h22.next b24
  replace K22 := K22.next b24
  replace B0 := B0.trans (b24.mono B0.size)
  clear b24
  have hres : trL cs r vs = us := by rw [EVS.out, EUS.out, ETA.out, ETB.out, ECS.out]; exact beside_trans.symm
  replace h24 : MtN w24 v24 r cs (trL cs r vs) 3 := h24
  rw [hres] at h24
  clear hres
  obtain ⟨a24, k24, rfl⟩ := h24.agg
  obtain ⟨w25, e25, K24, b25, hs25⟩ := boxes1 w24 24 [.int .i64 r, .int .i64 cs, .slice a24 us.length k24]
  clear hs25
  replace hA := hA.next b25
  replace hB := hB.next b25
  replace KA := KA.next b25
  replace KB := KB.next b25
  replace h5 := h5.next b25
  replace K5 := K5.next b25
  replace h7 := h7.next b25
  replace K7 := K7.next b25
  replace h9 := h9.next b25
  replace K9 := K9.next b25
  replace h11 := h11.next b25
  replace K11 := K11.next b25
  replace h13 := h13.next b25
  replace K13 := K13.next b25
  replace h16 := h16.next b25
  replace K16 := K16.next b25
  replace h18 := h18.next b25
  replace K18 := K18.next b25
  replace h20 := h20.next b25
  replace K20 := K20.next b25
  replace h22 := h22.next b25
  replace K22 := K22.next b25
  replace h24 := h24.next b25
  replace B0 := B0.trans (b25.mono B0.size)
  clear b25
  go_upto_region 18 with (fail)
  rw [← e25]
  clear e25
  have qK160 := K16.cell 0
  have qK161 := K16.cell 1
  have qK162 := K16.cell 2
  have qKA1 := KA.cell 1
  have qKB1 := KB.cell 1
  have qK240 := K24.cell 0
  have qK241 := K24.cell 1
  have qK242 := K24.cell 2
  have hz := mt_zs h24.mt rfl
  go_wp2_with fail
  refine (ref11_Is _ _ r cs us 3 3 _ h16 hr hcs LUS.out (by omega) (by omega) hz).mono ?_; rintro e w26 ⟨rfl, b26⟩
  clear qK160 qK161 qK162 qKA1 qKB1 qK240 qK241 qK242
  replace hA := hA.next b26
  replace hB := hB.next b26
  replace KA := KA.next b26
  replace KB := KB.next b26
  replace h5 := h5.next b26
  replace K5 := K5.next b26
  replace h7 := h7.next b26
  replace K7 := K7.next b26
  replace h9 := h9.next b26
  replace K9 := K9.next b26
  replace h11 := h11.next b26
  replace K11 := K11.next b26
  replace h13 := h13.next b26
  replace K13 := K13.next b26
  replace h16 := h16.next b26
  replace K16 := K16.next b26
  replace h18 := h18.next b26
  replace K18 := K18.next b26
  replace h20 := h20.next b26
  replace K20 := K20.next b26
  replace h22 := h22.next b26
  replace K22 := K22.next b26
  replace h24 := h24.next b26
  replace K24 := K24.next b26
  replace B0 := B0.trans (b26.mono B0.size)
  clear b26
  go_wp2
  go_ret
  exact ⟨rfl, B0⟩

theorem walk (a : Value) (R1 C1 : Int) (ps : List (Bool × List Nat)) (b : Value) (R2 C2 : Int) (qs : List (Bool × List Nat)) (cut : Nat) (w : World) (mA : Mw w a R1 C1 ps) (mB : Mw w b R2 C2 qs) (hcut : cut < 256) :
    Calls Try.prog 7 #[a, b, .int .u8 cut] w (LawOk w) := by
  by_cases hfew : Fx R1 C1 ps 6 3 ∧ Fx R2 C2 qs 6 3
  · have hA := mA.mt (L := 3) hfew.1.2.2.all
    have hB := mB.mt (L := 3) hfew.2.2.2.all
    by_cases h1 : Fm R1 C1 (ps.map pv).length
    · by_cases h2 : Fm R2 C2 (qs.map pv).length
      · obtain ⟨r, c, rfl, rfl, hr, hc, hx⟩ := h1.nat
        obtain ⟨r2, c2, rfl, rfl, hr2, hc2, hy⟩ := h2.nat
        have hk : cut % (r + 1) < r + 1 := Nat.mod_lt _ (by omega)
        by_cases h3 : r = r2
        · subst h3
          exact same a b r c c2 (cut % (r + 1)) (r - cut % (r + 1)) ps qs cut w mA mB hcut hfew _ _ hA hB hr hc hc2 hx hy (by omega) rfl
        · exact other a b r c r2 c2 (cut % (r + 1)) (r - cut % (r + 1)) ps qs cut w mA mB hcut hfew _ _ hA hB hr hc hr2 hc2 hx hy (by omega) rfl h3
      · exact not_b a b R1 C1 R2 C2 ps qs cut w mA mB hfew _ _ hA hB h1 h2
    · exact not_a a b R1 C1 R2 C2 ps qs cut w mA mB hfew _ hA h1
  · exact not_few a b R1 C1 R2 C2 ps qs cut w mA mB hfew


set_option maxRecDepth 100000 in
theorem lifted (os : Os) (started : os.Started) (H : Type) (enc : TypeId × Value → H) :
    ReturnsInHanded {} Try.checked os 7 .any (Rows.matJoinsSpec.pre6 enc Try.prog Try.f7 Rows.matJoinsRow.domain false) (Rows.matJoinsSpec.post enc Try.prog Try.f7 false true false false) := by
  refine returnsInHanded_of_change (C := Try.checked) own started (by kernel_rfl) Try.func7
    (ChangeSpec.witness6 (enc := enc) (C := Try.checked) false ⟨#[], #[.agg #[.int .i64 0, .int .i64 0, .slice none 0 0], .agg #[.int .i64 0, .int .i64 0, .slice none 0 0], .int .u8 0], []⟩ 8 (by kernel_rfl) (by kernel_rfl) (by kernel_rfl) (by kernel_rfl)) ?_
  intro W base args ds gs before hval0 hW hcnd _
  have hval : ∀ (j : Nat) t v, Try.f7.params[j]? = some t → args[j]? = some v → Value.okWide Try.prog W .any base t v := hval0
  have hW' := hW
  obtain ⟨p, q, hA0, hV, rfl, hfz, hnd⟩ := hW
  have hA : DataW.TrodAll enc Try.prog W 0 (fun _ => true) true Try.f7.params.toList args.toList ds p := hA0
  rw [Try.params7] at hA hval
  obtain ⟨v0, vs0, d0, ds0, p0, q0, hargs, rfl, rfl, h0, r0⟩ := trodAll_cons hA
  obtain ⟨v1, vs1, d1, ds1, p1, q1, rfl, rfl, rfl, h1, r1⟩ := trodAll_cons r0
  obtain ⟨v2, vs2, d2, ds2, p2, q2, rfl, rfl, rfl, h2, r2⟩ := trodAll_cons r1
  obtain ⟨rfl, rfl, rfl⟩ := trodAll_nil r2
  obtain rfl : args = #[v0, v1, v2] := by cases args; simp_all
  obtain ⟨rfl, rfl⟩ := trodVars_none hV
  have k0 := h0
  have lt0 : ∀ x ∈ p0, x.block < W.heap.size := by obtain ⟨m, hm⟩ := k0; exact DataW.trod_lt m _ _ _ hm
  obtain ⟨R0, C0, ps0, m0, rb0, cb0⟩ := open_mat (hval 0 24 v0 rfl rfl) h0
  have k1 := h1
  have lt1 : ∀ x ∈ p1, x.block < W.heap.size := by obtain ⟨m, hm⟩ := k1; exact DataW.trod_lt m _ _ _ hm
  obtain ⟨R1, C1, ps1, m1, rb1, cb1⟩ := open_mat (hval 1 24 v1 rfl rfl) h1
  have k2 := h2
  have lt2 : ∀ x ∈ p2, x.block < W.heap.size := by obtain ⟨m, hm⟩ := k2; exact DataW.trod_lt m _ _ _ hm
  obtain ⟨i2, rfl, rfl, rfl, wi2⟩ := open_int Try.underlying5 (hval 2 5 v2 rfl rfl) h2
  obtain ⟨x2, rfl⟩ := Int.eq_ofNat_of_zero_le (wf_u8_bounds wi2).1
  clear hA0 hval0
  refine (walk v0 R0 C0 ps0 v1 R1 C1 ps1 x2 W m0 m1 (by have := wf_u8_bounds wi2; omega)).mono fun e W' ⟨he, bel⟩ => ?_
  subst he
  exact ⟨_, rfl, _, _, _, [], _, [], hW', trodAll_mk1 (shut_bool Try.underlying4 _), (trodAll_cons_mk (Below.trod laidOut (by kernel_rfl) (of_decide_eq_true (by kernel_rfl)) k0 bel lt0) (trodAll_cons_mk (Below.trod laidOut (by kernel_rfl) (of_decide_eq_true (by kernel_rfl)) k1 bel lt1) (trodAll_cons_mk (Below.trod laidOut (by kernel_rfl) (of_decide_eq_true (by kernel_rfl)) k2 bel lt2) trodAll_mk0))), rfl, bel.frame _, fun h => by cases h⟩

theorem over : Rows.matJoinsRow.holds Try.pinned (OpenSpec.ofChange Rows.matJoinsSpec) :=
  OpenClaim.holds_of_wide 7 Try.f7 rfl rfl rfl rfl rfl rfl rfl ⟨rfl, rfl, rfl, rfl, rfl⟩ rfl rfl rfl rfl rfl (by kernel_rfl) Try.func7 (by kernel_rfl)
    (of_decide_eq_true (by kernel_rfl)) (by unfold Func.isWrapper; first | (rw [if_pos (by decide +kernel)]; kernel_rfl) | (rw [if_neg (by decide +kernel)]; exact ⟨rfl, rfl⟩))
    (fun os started H enc _ => lifted os started H enc)

theorem proved : Rows.MatJoinsSaid := over
#print axioms proved
end Go.Proofs.Ytpfonckdejjfnaa.matJoins
