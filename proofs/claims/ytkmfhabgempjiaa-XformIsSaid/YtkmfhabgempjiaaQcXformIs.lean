/- XformIs: for every number and matrix of polynomials the law returns true: it is told whether it is in Hermite's, or Smith's form; what is, is its own form. No condition. -/
import Derived.Test.YtkmfhabgempjiaaRows
import Derived.Test.YtkmfhabgempjiaaQcM17
namespace Go.Proofs.Ytkmfhabgempjiaa.xformIs
open Go.ChangeShapes Go.WideShapes Go.ChangeAt Go.RowKit
open Go.ChangeMaps (open_string shut_string)

theorem own : ownKnob Try.prog.godebug = none := by kernel_rfl
theorem laidOut : laidOutB Try.prog = true := by kernel_rfl

section
open CR
variable {p : Nat}
/-- A matrix is its own Hermite's form just if it is in the form. -/
theorem her_own (tr : Trial p) {r c L top : Nat} {A V : (Nat → Nat → Pol (Zp p))} {P : List Nat} (h : FoI r (c + r) L c top (augM c A) V P) : (∀ i k, i < r → k < c → V i k = A i k) ↔ HerB r c A := by
  constructor
  · intro e
    exact h.her.hb.congr fun i k hi hk => (e i k hi hk).symm
  · intro hA
    obtain ⟨P', hP'⟩ := hA.ex
    obtain ⟨⟨T', hT⟩, h2⟩ := her_split h.rq
    refine (her_unique tr h.her hP' (X := fun i s => V i (c + s)) (X' := fun i s => T'.e i s) (fun i k hi hk => h2 i k hi hk) fun i k hi hk => ?_).2
    have e1 : MT.of r c V = (MT.of r r fun i s => V i (c + s)) * MT.of r c A := MT.ext fun i k hi hk => by
      rw [MT.of_e _ hi hk, MT.e_mul, h2 i k hi hk]
      exact sm_congr fun s hs => by rw [MT.of_e _ hi hs, MT.of_e _ hs hk]
    have e2 : MT.of r c A = T' * MT.of r c V := by rw [e1, ← MT.mul_assoc, hT.2, MT.one_mul]
    have e3 : (MT.of r c A).e i k = A i k := MT.of_e _ hi hk
    rw [← e3, e2, MT.e_mul]
    exact sm_congr fun s hs => by rw [MT.of_e _ hs hk]
/-- A matrix is its own Smith's form just if it is in the form. -/
theorem smith_own (tr : Trial p) {r c t : Nat} {A U W V : (Nat → Nat → Pol (Zp p))} (h : SmR (MT.of r c A) U W V) (hI : SmI t r c W) (htr : t ≤ r) (htc : t ≤ c) (hz : ∀ a b, t ≤ a → a < r → t ≤ b → b < c → W a b = 0) : (∀ i k, i < r → k < c → W i k = A i k) ↔ SmB r c A := by
  constructor
  · intro e
    exact smb_of (hI.congr htr htc fun i k hi hk => (e i k hi hk).symm) fun a b h1 h2 h3 h4 => by rw [← e a b h2 h4]; exact hz a b h1 h2 h3 h4
  · intro hA i k hi hk
    have s0 : SmR (MT.of r c A) (fun i k => if i = k then 1 else 0) A (fun i k => if i = k then 1 else 0) := SmR.start _ (fun _ _ _ _ => rfl) (fun _ _ _ _ => rfl) fun _ _ _ _ => rfl
    have hu := smi_unique tr h s0 hI hA.smi htr htc (Nat.min_le_left _ _) (Nat.min_le_right _ _) hz fun a b h1 h2 h3 h4 => by omega
    by_cases e : i = k
    · subst e; exact hu i hi hk
    · rw [(hA i k hi hk).1 e, (smb_of hI hz i k hi hk).1 e]
theorem nl_iff (hp : FP p) {a b : List Nat} : nl p a = nl p b ↔ pl p a = pl p b := ⟨fun h => by rw [← nl_pl p a, h, nl_pl], fun h => nl_same hp h⟩
end

set_option maxRecDepth 20000 in
set_option maxHeartbeats 4000000 in
theorem not_few (x0 : Nat) (v : Value) (R C : Int) (xs : List (List Nat)) (w : World) (mA : Xm w v R C xs) (hf : ¬ Fwx 3 4 R C xs) :
    Calls Try.prog 8 #[.int .u8 x0, v] w (LawOk w) := by
  obtain ⟨aA, cA, rfl⟩ := mA.agg
  obtain ⟨wb, ew, KA, B0, hsz⟩ := boxes1 w 24 [.int .i64 R, .int .i64 C, .slice aA xs.length cA]
  clear hsz
  replace mA := mA.next B0
  have HF := Lib.hid hf; clear hf
  go_enter Try.func8, Try.ntmps8
  go_upto_region 1 with (fail)
  rw [← ew]
  clear ew
  go_wp2_with fail
  refine (law24_awake _).mono ?_; rintro e w1 ⟨rfl, b1⟩
  replace mA := mA.next b1
  replace KA := KA.next b1
  replace B0 := B0.trans (b1.mono B0.size)
  clear b1
  have qKA0 := KA.cell 0
  have qKA1 := KA.cell 1
  have qKA2 := KA.cell 2
  go_wp2_with fail
  refine (rf23_Few _ R C 3 4 xs _ mA false ⟨fun h => absurd h (by decide), fun h => absurd h HF.out⟩).mono ?_; rintro e w2 ⟨rfl, b2⟩
  clear qKA0 qKA1 qKA2
  replace mA := mA.next b2
  replace KA := KA.next b2
  replace B0 := B0.trans (b2.mono B0.size)
  clear b2
  clear mA
  go_wp2_with fail
  refine (law24_awake _).mono ?_; rintro e w3 ⟨rfl, b3⟩
  replace KA := KA.next b3
  replace B0 := B0.trans (b3.mono B0.size)
  clear b3
  go_wp2
  go_ret
  exact ⟨rfl, B0⟩

set_option maxRecDepth 20000 in
set_option maxHeartbeats 4000000 in
theorem bad (x0 : Nat) (v : Value) (R C : Int) (xs : List (List Nat)) (w : World) (mA : Xm w v R C xs) (hf : Fwx 3 4 R C xs) (hs : ¬ Fd R C xs.length) :
    Calls Try.prog 8 #[.int .u8 x0, v] w (LawOk w) := by
  obtain ⟨p, ep⟩ : ∃ p, p = Ps (x0 % 12) := ⟨_, rfl⟩
  have hp : FP p := by rw [ep]; exact Ps_FP (by omega)
  have ht : Trial p := by rw [ep]; exact Ps_trial (by omega)
  have cOf : ∀ w : World, Calls Try.prog 17 #[.int .u8 x0] w fun e w' => e = .returned (.agg #[.int .u64 (p : Nat)]) ∧ Below w.heap.size w w' := fun w => by rw [ep]; exact law9_Of x0 w
  have cP : ∀ w : World, Calls Try.prog 18 #[.int .u8 x0] w fun e w' => e = .returned (.int .u64 (p : Nat)) ∧ w = w' := fun w => by rw [ep]; exact ref8_P x0 w
  have hp2 := hp.1
  have hp3 := hp.2
  have HP := Lib.hid hp; have HT := Lib.hid ht; have COF := Lib.hid cOf; have CP := Lib.hid cP
  clear hp ht cOf cP ep
  obtain ⟨aA, cA, rfl⟩ := mA.agg
  obtain ⟨wb, ew, KA, B0, hsz⟩ := boxes1 w 24 [.int .i64 R, .int .i64 C, .slice aA xs.length cA]
  clear hsz
  replace mA := mA.next B0
  have HF := Lib.hid hf; have HS := Lib.hid hs; clear hf hs
  go_enter Try.func8, Try.ntmps8
  go_upto_region 1 with (fail)
  rw [← ew]
  clear ew
  go_wp2_with fail
  refine (law24_awake _).mono ?_; rintro e w1 ⟨rfl, b1⟩
  replace mA := mA.next b1
  replace KA := KA.next b1
  replace B0 := B0.trans (b1.mono B0.size)
  clear b1
  have qKA0 := KA.cell 0
  have qKA1 := KA.cell 1
  have qKA2 := KA.cell 2
  go_wp2_with fail
  refine (rf23_Few _ R C 3 4 xs _ mA true ⟨fun _ => HF.out, fun _ => rfl⟩).mono ?_; rintro e w2 ⟨rfl, b2⟩
  clear qKA0 qKA1 qKA2
  replace mA := mA.next b2
  replace KA := KA.next b2
  replace B0 := B0.trans (b2.mono B0.size)
  clear b2
  go_wp2_with fail
  refine (COF.out _).mono ?_; rintro e w3 ⟨rfl, b3⟩
  replace mA := mA.next b3
  replace KA := KA.next b3
  replace B0 := B0.trans (b3.mono B0.size)
  clear b3
  go_wp2_with fail
  refine (CP.out _).mono ?_; rintro e wx ⟨rfl, rfl⟩
  obtain ⟨w4, e4, KF, b4, hs4⟩ := boxes1 w3 29 [.int .u64 p]
  clear hs4
  replace mA := mA.next b4
  replace KA := KA.next b4
  replace B0 := B0.trans (b4.mono B0.size)
  clear b4
  go_upto_region 4 with (fail)
  rw [← e4]
  clear e4
  have qKA0 := KA.cell 0
  have qKA1 := KA.cell 1
  have qKA2 := KA.cell 2
  go_wp2_with fail
  refine (rf23_Formed _ R C xs _ mA false (decide_eq_false HS.out).symm).mono ?_; rintro e w5 ⟨rfl, b5⟩
  clear qKA0 qKA1 qKA2
  replace mA := mA.next b5
  replace KA := KA.next b5
  replace KF := KF.next b5
  replace B0 := B0.trans (b5.mono B0.size)
  clear b5
  have qKF0 := KF.cell 0
  have qKA0 := KA.cell 0
  have qKA1 := KA.cell 1
  have qKA2 := KA.cell 2
  go_wp2_with fail
  refine (xf_IsHermite_no p _ R C xs _ mA HS.out).mono ?_; rintro e w6 ⟨rfl, b6⟩
  clear qKF0 qKA0 qKA1 qKA2
  replace mA := mA.next b6
  replace KA := KA.next b6
  replace KF := KF.next b6
  replace B0 := B0.trans (b6.mono B0.size)
  clear b6
  have qKF0 := KF.cell 0
  have qKA0 := KA.cell 0
  have qKA1 := KA.cell 1
  have qKA2 := KA.cell 2
  go_wp2_with fail
  refine (xf_IsSmith_no p _ R C xs _ mA HS.out).mono ?_; rintro e w7 ⟨rfl, b7⟩
  clear qKF0 qKA0 qKA1 qKA2
  replace mA := mA.next b7
  replace KA := KA.next b7
  replace KF := KF.next b7
  replace B0 := B0.trans (b7.mono B0.size)
  clear b7
  go_wp2
  go_ret
  exact ⟨rfl, B0⟩

set_option maxRecDepth 20000 in
set_option maxHeartbeats 4000000 in
theorem good (x0 : Nat) (r c : Nat) (v : Value) (xs : List (List Nat)) (w : World) (mA : Xm w v r c xs) (hr : r ≤ 3) (hc : c ≤ 3) (hx : xs.length = r * c) (hf : Fwx 3 4 r c xs) :
    Calls Try.prog 8 #[.int .u8 x0, v] w (LawOk w) := by
  obtain ⟨p, ep⟩ : ∃ p, p = Ps (x0 % 12) := ⟨_, rfl⟩
  have hp : FP p := by rw [ep]; exact Ps_FP (by omega)
  have ht : Trial p := by rw [ep]; exact Ps_trial (by omega)
  have cOf : ∀ w : World, Calls Try.prog 17 #[.int .u8 x0] w fun e w' => e = .returned (.agg #[.int .u64 (p : Nat)]) ∧ Below w.heap.size w w' := fun w => by rw [ep]; exact law9_Of x0 w
  have cP : ∀ w : World, Calls Try.prog 18 #[.int .u8 x0] w fun e w' => e = .returned (.int .u64 (p : Nat)) ∧ w = w' := fun w => by rw [ep]; exact ref8_P x0 w
  have hp2 := hp.1
  have hp3 := hp.2
  have HP := Lib.hid hp; have HT := Lib.hid ht; have COF := Lib.hid cOf; have CP := Lib.hid cP
  clear hp ht cOf cP ep
  obtain ⟨aA, cA, rfl⟩ := mA.agg
  obtain ⟨wb, ew, KA, B0, hsz⟩ := boxes1 w 24 [.int .i64 r, .int .i64 c, .slice aA xs.length cA]
  clear hsz
  replace mA := mA.next B0
  have HF := Lib.hid hf; have HX := Lib.hid hx
  have hl : ∀ j, j < r * c → (xs.getD j []).length ≤ 4 := fun j hj => by have := hf.2.2.2 j (by omega); omega
  have HL := Lib.hid hl
  clear hf hx hl
  have HFd := Lib.hid (Fd.of (show r ≤ 64 by omega) (show c ≤ 64 by omega) HX.out)
  have hrc9 : r * c ≤ 9 := Nat.mul_le_mul hr hc
  have HBD := Lib.hid (show 2 ^ hbd r r * 4 ≤ 256 from by have := hbd3 hr; omega)
  have HLM := Lib.hid (show ∀ j, j < r * c → (xs.getD j []).length ≤ 1000000 from fun j hj => by have := HL.out j hj; omega)
  obtain ⟨β1, hb1⟩ : ∃ β : Bool, β = true ↔ HerB r c (aT p c xs) := by
    by_cases h : HerB r c (aT p c xs)
    · exact ⟨true, fun _ => h, fun _ => rfl⟩
    · exact ⟨false, fun e => by simp at e, fun e => absurd e h⟩
  obtain ⟨β2, hb2⟩ : ∃ β : Bool, β = true ↔ SmB r c (aT p c xs) := by
    by_cases h : SmB r c (aT p c xs)
    · exact ⟨true, fun _ => h, fun _ => rfl⟩
    · exact ⟨false, fun e => by simp at e, fun e => absurd e h⟩
  have HB1 := Lib.hid hb1; have HB2 := Lib.hid hb2
  clear hb1 hb2
  go_enter Try.func8, Try.ntmps8
  go_upto_region 1 with (fail)
  rw [← ew]
  clear ew
  go_wp2_with fail
  refine (law24_awake _).mono ?_; rintro e w1 ⟨rfl, b1⟩
  replace mA := mA.next b1
  replace KA := KA.next b1
  replace B0 := B0.trans (b1.mono B0.size)
  clear b1
  have qKA0 := KA.cell 0
  have qKA1 := KA.cell 1
  have qKA2 := KA.cell 2
  go_wp2_with fail
  refine (rf23_Few _ r c 3 4 xs _ mA true ⟨fun _ => HF.out, fun _ => rfl⟩).mono ?_; rintro e w2 ⟨rfl, b2⟩
  clear qKA0 qKA1 qKA2
  replace mA := mA.next b2
  replace KA := KA.next b2
  replace B0 := B0.trans (b2.mono B0.size)
  clear b2
  go_wp2_with fail
  refine (COF.out _).mono ?_; rintro e w3 ⟨rfl, b3⟩
  replace mA := mA.next b3
  replace KA := KA.next b3
  replace B0 := B0.trans (b3.mono B0.size)
  clear b3
  go_wp2_with fail
  refine (CP.out _).mono ?_; rintro e wx ⟨rfl, rfl⟩
  obtain ⟨w4, e4, KF, b4, hs4⟩ := boxes1 w3 29 [.int .u64 p]
  clear hs4
  replace mA := mA.next b4
  replace KA := KA.next b4
  replace B0 := B0.trans (b4.mono B0.size)
  clear b4
  go_upto_region 4 with (fail)
  rw [← e4]
  clear e4
  have qKA0 := KA.cell 0
  have qKA1 := KA.cell 1
  have qKA2 := KA.cell 2
  go_wp2_with fail
  refine (rf23_Formed _ r c xs _ mA true (decide_eq_true HFd.out).symm).mono ?_; rintro e w5 ⟨rfl, b5⟩
  clear qKA0 qKA1 qKA2
  replace mA := mA.next b5
  replace KA := KA.next b5
  replace KF := KF.next b5
  replace B0 := B0.trans (b5.mono B0.size)
  clear b5
  go_upto_region 6 with (fail)
  have qKF0 := KF.cell 0
  have qKA0 := KA.cell 0
  have qKA1 := KA.cell 1
  have qKA2 := KA.cell 2
  go_wp2_with fail
  refine (xf_Hermite p _ r c 4 xs _ HP.out HT.out mA (by omega) (by omega) HX.out HL.out (by omega) (by have := HBD.out; omega)).mono ?_; rintro e w6 ⟨V, P, top, hFo, aD, kD, usD, aU, kU, usU, rfl, QD, QU, b6⟩
  clear qKF0 qKA0 qKA1 qKA2
  replace mA := mA.next b6
  replace KA := KA.next b6
  replace KF := KF.next b6
  replace B0 := B0.trans (b6.mono B0.size)
  clear b6
  obtain ⟨zsD, zlD, nsD, hzD⟩ := QD.ns HP.out
  have mD : Xm w6 (.agg #[.int .i64 r, .int .i64 c, .slice aD (r * c) kD]) r c zsD := ⟨_, rfl, nsD⟩
  have ZLD := Lib.hid zlD; have ZD := Lib.hid hzD
  have HSD := Lib.hid (show β1 = true ↔ ∀ j, j < zsD.length → nl p (zsD.getD j []) = nl p (xs.getD j []) from HB1.out.trans ((her_own HT.out hFo).symm.trans ⟨fun h j hj => by
    rw [zlD] at hj
    rw [nl_iff HP.out]
    obtain ⟨h1, h2, h3⟩ := jdm hj
    rw [(hzD j hj).2.1, Nat.zero_add, h _ _ h1 h2, aT_at xs hj], fun h i k hi hk => by
    have h1 := (nl_iff HP.out).1 (h (i * c + k) (by rw [zlD]; exact at_lt rfl hi hk))
    have h2 : aT p c zsD i k = V i k := rd_at hzD hi hk
    rw [← h2]; exact h1⟩))
  have HLD := Lib.hid (show ∀ j, j < zsD.length → (zsD.getD j []).length ≤ 1000000 from fun j hj => by have := (hzD j (by omega)).2.2; have := HBD.out; omega)
  clear hFo QU QD zlD nsD hzD
  obtain ⟨w7, e7, KD, KU, b7, hs7⟩ := boxes2 w6 24 24 [.int .i64 r, .int .i64 c, .slice aD (r * c) kD] [.int .i64 r, .int .i64 r, .slice aU (r * r) kU]
  clear hs7
  replace mA := mA.next b7
  replace KA := KA.next b7
  replace KF := KF.next b7
  replace mD := mD.next b7
  replace B0 := B0.trans (b7.mono B0.size)
  clear b7
  go_upto_region 7 with (fail)
  rw [← e7]
  clear e7
  have qKF0 := KF.cell 0
  have qKA0 := KA.cell 0
  have qKA1 := KA.cell 1
  have qKA2 := KA.cell 2
  go_wp2_with fail
  refine (xf_Smith3 p _ r c xs _ HP.out HT.out mA hr hc HX.out HL.out).mono ?_; rintro e w8 ⟨t, W, U2, V2, htr, htc, hSR, hSI, hz, aS, kS, usS, aT1, kT1, usT1, aT2, kT2, usT2, rfl, QS, QT1, QT2, b8⟩
  clear qKF0 qKA0 qKA1 qKA2
  replace mA := mA.next b8
  replace KA := KA.next b8
  replace KF := KF.next b8
  replace mD := mD.next b8
  replace KD := KD.next b8
  replace KU := KU.next b8
  replace B0 := B0.trans (b8.mono B0.size)
  clear b8
  obtain ⟨zsS, zlS, nsS, hzS⟩ := QS.ns HP.out
  have mS : Xm w8 (.agg #[.int .i64 r, .int .i64 c, .slice aS (r * c) kS]) r c zsS := ⟨_, rfl, nsS⟩
  have ZLS := Lib.hid zlS; have ZS := Lib.hid hzS
  have HSS := Lib.hid (show β2 = true ↔ ∀ j, j < zsS.length → nl p (zsS.getD j []) = nl p (xs.getD j []) from HB2.out.trans ((smith_own HT.out hSR hSI htr htc hz).symm.trans ⟨fun h j hj => by
    rw [zlS] at hj
    rw [nl_iff HP.out]
    obtain ⟨h1, h2, h3⟩ := jdm hj
    rw [(hzS j hj).2.1, Nat.zero_add, h _ _ h1 h2, aT_at xs hj], fun h i k hi hk => by
    have h1 := (nl_iff HP.out).1 (h (i * c + k) (by rw [zlS]; exact at_lt rfl hi hk))
    have h2 : aT p c zsS i k = W i k := rd_at hzS hi hk
    rw [← h2]; exact h1⟩))
  have HLS := Lib.hid (show ∀ j, j < zsS.length → (zsS.getD j []).length ≤ 1000000 from fun j hj => by have := (hzS j (by omega)).2.2; omega)
  clear hSR hSI htr htc hz QS QT1 QT2 zlS nsS hzS
  obtain ⟨w9, e9, KS, KT1, KT2, b9, hs9⟩ := boxes3 w8 24 24 24 [.int .i64 r, .int .i64 c, .slice aS (r * c) kS] [.int .i64 r, .int .i64 r, .slice aT1 (r * r) kT1] [.int .i64 c, .int .i64 c, .slice aT2 (c * c) kT2]
  clear hs9
  replace mA := mA.next b9
  replace KA := KA.next b9
  replace KF := KF.next b9
  replace mD := mD.next b9
  replace KD := KD.next b9
  replace KU := KU.next b9
  replace mS := mS.next b9
  replace B0 := B0.trans (b9.mono B0.size)
  clear b9
  go_upto_region 8 with (fail)
  rw [← e9]
  clear e9
  have bd := Drawn.below (w' := w9.drew) ⟨1, rfl⟩ w9.heap.size
  replace mA := mA.next bd
  replace KA := KA.next bd
  replace KF := KF.next bd
  replace mD := mD.next bd
  replace KD := KD.next bd
  replace KU := KU.next bd
  replace mS := mS.next bd
  replace KS := KS.next bd
  replace KT1 := KT1.next bd
  replace KT2 := KT2.next bd
  replace B0 := B0.trans (bd.mono B0.size)
  clear bd
  refine startL (S := (fun w' => Below (w9.drew).heap.size (w9.drew) w')) (by kernel_rfl) (Below.refl _ _) (fun hHeld => ?_)
  refine takeL 0 (v := ?_) rfl (by kernel_rfl) (by kernel_rfl) (by kernel_rfl) (fun _ _ _ h => h) ⟨by rfl, ?_⟩ (by assumption) ?_
  rotate_left
  · intro w hS; have fa := KA.at hS; have f1 := fa 0; have f2 := fa 1; have f3 := fa 2; clear fa; have fb := KF.at hS; have f4 := fb 0; clear fb; go_simp <;> with_reducible rfl
  simp only [Act.put, List.setIfInBounds_toArray, List.set_cons_zero, List.set_cons_succ]
  refine takeL 1 (v := ?_) rfl (by kernel_rfl) (by kernel_rfl) (by kernel_rfl) (fun _ _ _ h => h) ⟨by rfl, ?_⟩ (by assumption) ?_
  rotate_left
  · intro w hS; go_simp <;> with_reducible rfl
  simp only [Act.put, List.setIfInBounds_toArray, List.set_cons_zero, List.set_cons_succ]
  refine takeL 3 (v := ?_) rfl (by kernel_rfl) (by kernel_rfl) (by kernel_rfl) (fun _ _ _ h => h) ⟨by rfl, ?_⟩ (by assumption) ?_
  rotate_left
  · intro w hS; have fa := KA.at hS; have f1 := fa 0; have f2 := fa 1; have f3 := fa 2; clear fa; have fb := KF.at hS; have f4 := fb 0; clear fb; go_simp <;> with_reducible rfl
  simp only [Act.put, List.setIfInBounds_toArray, List.set_cons_zero, List.set_cons_succ]
  refine takeL 4 (v := ?_) rfl (by kernel_rfl) (by kernel_rfl) (by kernel_rfl) (fun _ _ _ h => h) ⟨by rfl, ?_⟩ (by assumption) ?_
  rotate_left
  · intro w hS; have fa := KA.at hS; have f1 := fa 0; have f2 := fa 1; have f3 := fa 2; clear fa; have fb := KF.at hS; have f4 := fb 0; clear fb; go_simp <;> with_reducible rfl
  simp only [Act.put, List.setIfInBounds_toArray, List.set_cons_zero, List.set_cons_succ]
  refine takeL 5 (v := ?_) rfl (by kernel_rfl) (by kernel_rfl) (by kernel_rfl) (fun _ _ _ h => h) ⟨by rfl, ?_⟩ (by assumption) ?_
  rotate_left
  · intro w hS; go_simp <;> with_reducible rfl
  simp only [Act.put, List.setIfInBounds_toArray, List.set_cons_zero, List.set_cons_succ]
  refine oneL 2 rfl (by kernel_rfl) (by rfl) (fun K hK => ?_)
  go_simp
  go_at_call 32
  (with_reducible refine (rf24_Hermite p _ r c xs _ HP.out HT.out (mA.next hHeld) (by omega) (by omega) HX.out HLM.out β1 HB1.out).mono ?_); rintro e y1 ⟨rfl, c1⟩
  refine hK.out _ _ (hHeld.trans (c1.mono hHeld.size)) (fun hHeld => ?_)
  clear hK K
  try simp only [Act.put, List.setIfInBounds_toArray, List.set_cons_zero, List.set_cons_succ]
  refine oneL 6 rfl (by kernel_rfl) (by rfl) (fun K hK => ?_)
  go_simp
  go_at_call 24
  (with_reducible refine (rf24_Smith p _ r c xs _ HP.out HT.out (mA.next hHeld) (by omega) (by omega) HX.out HLM.out β2 HB2.out).mono ?_); rintro e y2 ⟨rfl, c2⟩
  refine hK.out _ _ (hHeld.trans (c2.mono hHeld.size)) (fun hHeld => ?_)
  clear hK K
  try simp only [Act.put, List.setIfInBounds_toArray, List.set_cons_zero, List.set_cons_succ]
  refine takeL 7 (v := ?_) rfl (by kernel_rfl) (by kernel_rfl) (by kernel_rfl) (fun _ _ _ h => h) ⟨by rfl, ?_⟩ (by assumption) ?_
  rotate_left
  · intro w hS; go_simp <;> with_reducible rfl
  simp only [Act.put, List.setIfInBounds_toArray, List.set_cons_zero, List.set_cons_succ]
  refine takeL 8 (v := ?_) rfl (by kernel_rfl) (by kernel_rfl) (by kernel_rfl) (fun _ _ _ h => h) ⟨by rfl, ?_⟩ (by assumption) ?_
  rotate_left
  · intro w hS; go_simp <;> with_reducible rfl
  simp only [Act.put, List.setIfInBounds_toArray, List.set_cons_zero, List.set_cons_succ]
  refine doneL (by kernel_rfl) ?_ _
  replace mA := mA.next hHeld
  replace KA := KA.next hHeld
  replace KF := KF.next hHeld
  replace mD := mD.next hHeld
  replace KD := KD.next hHeld
  replace KU := KU.next hHeld
  replace mS := mS.next hHeld
  replace KS := KS.next hHeld
  replace KT1 := KT1.next hHeld
  replace KT2 := KT2.next hHeld
  replace B0 := B0.trans (hHeld.mono B0.size)
  clear hHeld c1 c2
  have hbb1 : (β1 == β1) = true := by simp
  have hbb2 : (β2 == β2) = true := by simp
  have hal : Al (r : Int) (c : Int) (r : Int) (c : Int) (r * c) (r * c) := by rw [← HX.out]; exact ⟨HFd.out, HFd.out, rfl, rfl⟩
  have HAL := Lib.hid hal; clear hal
  have qKF0 := KF.cell 0
  have qKA0 := KA.cell 0
  have qKA1 := KA.cell 1
  have qKA2 := KA.cell 2
  go_wp2_with fail
  refine (xf_IsHermite p _ r c xs _ HP.out HT.out mA (by omega) (by omega) HX.out HLM.out).mono ?_; rintro e w10 ⟨bq, rfl, hbq, b10⟩; obtain rfl : bq = β1 := by cases bq <;> cases β1 <;> first | rfl | exact absurd (HB1.out.1 rfl) (fun h => by have := hbq.2 h; simp at this) | exact absurd (hbq.1 rfl) (fun h => by have := HB1.out.2 h; simp at this)
  clear qKF0 qKA0 qKA1 qKA2
  replace mA := mA.next b10
  replace KA := KA.next b10
  replace KF := KF.next b10
  replace mD := mD.next b10
  replace KD := KD.next b10
  replace KU := KU.next b10
  replace mS := mS.next b10
  replace KS := KS.next b10
  replace KT1 := KT1.next b10
  replace KT2 := KT2.next b10
  replace B0 := B0.trans (b10.mono B0.size)
  clear b10
  clear hbq
  have qKF0 := KF.cell 0
  have qKA0 := KA.cell 0
  have qKA1 := KA.cell 1
  have qKA2 := KA.cell 2
  go_wp2_with fail
  refine (xf_IsSmith p _ r c xs _ HP.out HT.out mA (by omega) (by omega) HX.out HLM.out β2 HB2.out).mono ?_; rintro e w11 ⟨rfl, b11⟩
  clear qKF0 qKA0 qKA1 qKA2
  replace mA := mA.next b11
  replace KA := KA.next b11
  replace KF := KF.next b11
  replace mD := mD.next b11
  replace KD := KD.next b11
  replace KU := KU.next b11
  replace mS := mS.next b11
  replace KS := KS.next b11
  replace KT1 := KT1.next b11
  replace KT2 := KT2.next b11
  replace B0 := B0.trans (b11.mono B0.size)
  clear b11
  have qKF0 := KF.cell 0
  have qKA0 := KA.cell 0
  have qKA1 := KA.cell 1
  have qKA2 := KA.cell 2
  have qKD0 := KD.cell 0
  have qKD1 := KD.cell 1
  have qKD2 := KD.cell 2
  go_wp2_with fail
  refine (xm_Same p _ _ r c r c zsD xs _ HP.out mD mA (by rw [ZLD.out, HX.out]; exact HAL.out) (by rw [HX.out, ZLD.out]) (by rw [ZLD.out]; omega) HLD.out (fun j hj => HLM.out j (by rw [ZLD.out] at hj; exact hj)) _ HSD.out).mono ?_; rintro e w12 ⟨rfl, b12⟩
  clear qKF0 qKA0 qKA1 qKA2 qKD0 qKD1 qKD2
  replace mA := mA.next b12
  replace KA := KA.next b12
  replace KF := KF.next b12
  replace mD := mD.next b12
  replace KD := KD.next b12
  replace KU := KU.next b12
  replace mS := mS.next b12
  replace KS := KS.next b12
  replace KT1 := KT1.next b12
  replace KT2 := KT2.next b12
  replace B0 := B0.trans (b12.mono B0.size)
  clear b12
  have qKF0 := KF.cell 0
  have qKA0 := KA.cell 0
  have qKA1 := KA.cell 1
  have qKA2 := KA.cell 2
  have qKS0 := KS.cell 0
  have qKS1 := KS.cell 1
  have qKS2 := KS.cell 2
  go_wp2_with fail
  refine (xm_Same p _ _ r c r c zsS xs _ HP.out mS mA (by rw [ZLS.out, HX.out]; exact HAL.out) (by rw [HX.out, ZLS.out]) (by rw [ZLS.out]; omega) HLS.out (fun j hj => HLM.out j (by rw [ZLS.out] at hj; exact hj)) _ HSS.out).mono ?_; rintro e w13 ⟨rfl, b13⟩
  clear qKF0 qKA0 qKA1 qKA2 qKS0 qKS1 qKS2
  replace mA := mA.next b13
  replace KA := KA.next b13
  replace KF := KF.next b13
  replace mD := mD.next b13
  replace KD := KD.next b13
  replace KU := KU.next b13
  replace mS := mS.next b13
  replace KS := KS.next b13
  replace KT1 := KT1.next b13
  replace KT2 := KT2.next b13
  replace B0 := B0.trans (b13.mono B0.size)
  clear b13
  go_wp2
  go_ret
  exact ⟨rfl, B0⟩

set_option maxHeartbeats 1000000 in
theorem walk (x0 : Nat) (v : Value) (R C : Int) (xs : List (List Nat)) (w : World) (mA : Xm w v R C xs) : Calls Try.prog 8 #[.int .u8 x0, v] w (LawOk w) := by
  by_cases hf : Fwx 3 4 R C xs
  · by_cases hs : Fd R C xs.length
    · obtain ⟨r, c, e1, e2, h3, h4, h5⟩ := hs.nat
      subst e1 e2
      exact good x0 r c v xs w mA (by have := hf.1; omega) (by have := hf.2.1; omega) h5 hf
    · exact bad x0 v R C xs w mA hf hs
  · exact not_few x0 v R C xs w mA hf

set_option maxRecDepth 100000 in
theorem lifted (os : Os) (started : os.Started) (H : Type) (enc : TypeId × Value → H) :
    ReturnsInHanded {} Try.checked os 8 .any (Rows.xformIsSpec.pre6 enc Try.prog Try.f8 Rows.xformIsRow.domain false) (Rows.xformIsSpec.post enc Try.prog Try.f8 false true false false) := by
  refine returnsInHanded_of_change (C := Try.checked) own started (by kernel_rfl) Try.func8
    (ChangeSpec.witness6 (enc := enc) (C := Try.checked) false ⟨#[], #[.int .u8 0, .agg #[.int .i64 0, .int .i64 0, .slice none 0 0]], []⟩ 8 (by kernel_rfl) (by kernel_rfl) (by kernel_rfl) (by kernel_rfl)) ?_
  intro W base args ds gs before hval0 hW hcnd _
  have hval : ∀ (j : Nat) t v, Try.f8.params[j]? = some t → args[j]? = some v → Value.okWide Try.prog W .any base t v := hval0
  have hW' := hW
  obtain ⟨p, q, hA0, hV, rfl, hfz, hnd⟩ := hW
  have hA : DataW.TrodAll enc Try.prog W 0 (fun _ => true) true Try.f8.params.toList args.toList ds p := hA0
  rw [Try.params8] at hA hval
  obtain ⟨v0, vs0, d0, ds0, p0, q0, hargs, rfl, rfl, h0, r0⟩ := trodAll_cons hA
  obtain ⟨v1, vs1, d1, ds1, p1, q1, rfl, rfl, rfl, h1, r1⟩ := trodAll_cons r0
  obtain ⟨rfl, rfl, rfl⟩ := trodAll_nil r1
  obtain rfl : args = #[v0, v1] := by cases args; simp_all
  obtain ⟨rfl, rfl⟩ := trodVars_none hV
  have k0 := h0
  have lt0 : ∀ x ∈ p0, x.block < W.heap.size := by obtain ⟨m, hm⟩ := k0; exact DataW.trod_lt m _ _ _ hm
  obtain ⟨i0, rfl, rfl, rfl, wi0⟩ := open_int Try.underlying5 (hval 0 5 v0 rfl rfl) h0
  obtain ⟨x0, rfl⟩ := Int.eq_ofNat_of_zero_le (wf_u8_bounds wi0).1
  have k1 := h1
  have lt1 : ∀ x ∈ p1, x.block < W.heap.size := by obtain ⟨m, hm⟩ := k1; exact DataW.trod_lt m _ _ _ hm
  obtain ⟨R1, C1, xs1, m1, rb1, cb1⟩ := open_xm (hval 1 24 v1 rfl rfl) h1
  clear hA0 hval0
  refine (walk x0 v1 R1 C1 xs1 W  m1).mono fun e W' ⟨he, bel⟩ => ?_
  subst he
  exact ⟨_, rfl, _, _, _, [], _, [], hW', trodAll_mk1 (shut_bool Try.underlying4 _), (trodAll_cons_mk (Below.trod laidOut (by kernel_rfl) (of_decide_eq_true (by kernel_rfl)) k0 bel lt0) (trodAll_cons_mk (Below.trod laidOut (by kernel_rfl) (of_decide_eq_true (by kernel_rfl)) k1 bel lt1) trodAll_mk0)), rfl, bel.frame _, fun h => by cases h⟩

theorem over : Rows.xformIsRow.holds Try.pinned (OpenSpec.ofChange Rows.xformIsSpec) :=
  OpenClaim.holds_of_wide 8 Try.f8 rfl rfl rfl rfl rfl rfl rfl ⟨rfl, rfl, rfl, rfl, rfl⟩ rfl rfl rfl rfl rfl (by kernel_rfl) Try.func8 (by kernel_rfl)
    (of_decide_eq_true (by kernel_rfl)) (by unfold Func.isWrapper; first | (rw [if_pos (by decide +kernel)]; kernel_rfl) | (rw [if_neg (by decide +kernel)]; exact ⟨rfl, rfl⟩))
    (fun os started H enc _ => lifted os started H enc)

theorem proved : Rows.XformIsSaid := over
#print axioms proved
end Go.Proofs.Ytkmfhabgempjiaa.xformIs
