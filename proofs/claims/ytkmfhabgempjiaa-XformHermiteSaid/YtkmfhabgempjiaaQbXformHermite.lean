/- XformHermite: for every number and matrix of polynomials the law returns true: Hermite's form is told, and a unimodular matrix that makes it. No condition. -/
import Derived.Test.YtkmfhabgempjiaaRows
import Derived.Test.YtkmfhabgempjiaaQbM16
namespace Go.Proofs.Ytkmfhabgempjiaa.xformHermite
open Go.ChangeShapes Go.WideShapes Go.ChangeAt Go.RowKit
open Go.ChangeMaps (open_string shut_string)

theorem own : ownKnob Try.prog.godebug = none := by kernel_rfl
theorem laidOut : laidOutB Try.prog = true := by kernel_rfl

set_option maxRecDepth 20000 in
set_option maxHeartbeats 4000000 in
theorem not_few (x0 : Nat) (v : Value) (R C : Int) (xs : List (List Nat)) (w : World) (mA : Xm w v R C xs) (hf : ¬ Fwx 3 4 R C xs) :
    Calls Try.prog 5 #[.int .u8 x0, v] w (LawOk w) := by
  obtain ⟨aA, cA, rfl⟩ := mA.agg
  obtain ⟨wb, ew, KA, B0, hsz⟩ := boxes1 w 24 [.int .i64 R, .int .i64 C, .slice aA xs.length cA]
  clear hsz
  replace mA := mA.next B0
  have HF := Lib.hid hf; clear hf
  go_enter Try.func5, Try.ntmps5
  go_upto_region 1 with (fail)
  rw [← ew]
  clear ew
  go_wp2_with fail
  refine (law24_awake _).mono ?_; rintro e w1 ⟨rfl, b1⟩
  replace mA := mA.next b1
  replace KA := KA.next b1
  replace B0 := B0.trans (b1.mono B0.size)
  clear b1
  have qKA0 := KA.cell 0
  have qKA1 := KA.cell 1
  have qKA2 := KA.cell 2
  go_wp2_with fail
  refine (rf23_Few _ R C 3 4 xs _ mA false ⟨fun h => absurd h (by decide), fun h => absurd h HF.out⟩).mono ?_; rintro e w2 ⟨rfl, b2⟩
  clear qKA0 qKA1 qKA2
  replace mA := mA.next b2
  replace KA := KA.next b2
  replace B0 := B0.trans (b2.mono B0.size)
  clear b2
  clear mA
  go_wp2_with fail
  refine (law24_awake _).mono ?_; rintro e w3 ⟨rfl, b3⟩
  replace KA := KA.next b3
  replace B0 := B0.trans (b3.mono B0.size)
  clear b3
  go_wp2
  go_ret
  exact ⟨rfl, B0⟩

set_option maxRecDepth 20000 in
set_option maxHeartbeats 4000000 in
theorem bad (x0 : Nat) (v : Value) (R C : Int) (xs : List (List Nat)) (w : World) (mA : Xm w v R C xs) (hf : Fwx 3 4 R C xs) (hs : ¬ Fd R C xs.length) :
    Calls Try.prog 5 #[.int .u8 x0, v] w (LawOk w) := by
  obtain ⟨p, ep⟩ : ∃ p, p = Ps (x0 % 12) := ⟨_, rfl⟩
  have hp : FP p := by rw [ep]; exact Ps_FP (by omega)
  have ht : Trial p := by rw [ep]; exact Ps_trial (by omega)
  have cOf : ∀ w : World, Calls Try.prog 17 #[.int .u8 x0] w fun e w' => e = .returned (.agg #[.int .u64 (p : Nat)]) ∧ Below w.heap.size w w' := fun w => by rw [ep]; exact law9_Of x0 w
  have cP : ∀ w : World, Calls Try.prog 18 #[.int .u8 x0] w fun e w' => e = .returned (.int .u64 (p : Nat)) ∧ w = w' := fun w => by rw [ep]; exact ref8_P x0 w
  have hp2 := hp.1
  have hp3 := hp.2
  have HP := Lib.hid hp; have HT := Lib.hid ht; have COF := Lib.hid cOf; have CP := Lib.hid cP
  clear hp ht cOf cP ep
  obtain ⟨aA, cA, rfl⟩ := mA.agg
  obtain ⟨wb, ew, KA, B0, hsz⟩ := boxes1 w 24 [.int .i64 R, .int .i64 C, .slice aA xs.length cA]
  clear hsz
  replace mA := mA.next B0
  have HF := Lib.hid hf; have HS := Lib.hid hs; clear hf hs
  go_enter Try.func5, Try.ntmps5
  go_upto_region 1 with (fail)
  rw [← ew]
  clear ew
  go_wp2_with fail
  refine (law24_awake _).mono ?_; rintro e w1 ⟨rfl, b1⟩
  replace mA := mA.next b1
  replace KA := KA.next b1
  replace B0 := B0.trans (b1.mono B0.size)
  clear b1
  have qKA0 := KA.cell 0
  have qKA1 := KA.cell 1
  have qKA2 := KA.cell 2
  go_wp2_with fail
  refine (rf23_Few _ R C 3 4 xs _ mA true ⟨fun _ => HF.out, fun _ => rfl⟩).mono ?_; rintro e w2 ⟨rfl, b2⟩
  clear qKA0 qKA1 qKA2
  replace mA := mA.next b2
  replace KA := KA.next b2
  replace B0 := B0.trans (b2.mono B0.size)
  clear b2
  go_wp2_with fail
  refine (COF.out _).mono ?_; rintro e w3 ⟨rfl, b3⟩
  replace mA := mA.next b3
  replace KA := KA.next b3
  replace B0 := B0.trans (b3.mono B0.size)
  clear b3
  go_wp2_with fail
  refine (CP.out _).mono ?_; rintro e wx ⟨rfl, rfl⟩
  obtain ⟨w4, e4, KF, b4, hs4⟩ := boxes1 w3 29 [.int .u64 p]
  clear hs4
  replace mA := mA.next b4
  replace KA := KA.next b4
  replace B0 := B0.trans (b4.mono B0.size)
  clear b4
  go_upto_region 4 with (fail)
  rw [← e4]
  clear e4
  have qKF0 := KF.cell 0
  have qKA0 := KA.cell 0
  have qKA1 := KA.cell 1
  have qKA2 := KA.cell 2
  go_wp2_with fail
  refine (xf_Hermite_no p _ R C xs _ mA HS.out).mono ?_; rintro e w5 ⟨rfl, b5⟩
  clear qKF0 qKA0 qKA1 qKA2
  replace mA := mA.next b5
  replace KA := KA.next b5
  replace KF := KF.next b5
  replace B0 := B0.trans (b5.mono B0.size)
  clear b5
  obtain ⟨w6, e6, KD, KU, b6, hs6⟩ := boxes2 w5 24 24 [.int .i64 0, .int .i64 0, .slice none 0 0] [.int .i64 0, .int .i64 0, .slice none 0 0]
  clear hs6
  replace mA := mA.next b6
  replace KA := KA.next b6
  replace KF := KF.next b6
  replace B0 := B0.trans (b6.mono B0.size)
  clear b6
  go_upto_region 5 with (fail)
  rw [← e6]
  clear e6
  have qKA0 := KA.cell 0
  have qKA1 := KA.cell 1
  have qKA2 := KA.cell 2
  go_wp2_with fail
  refine (rf23_Formed _ R C xs _ mA false (decide_eq_false HS.out).symm).mono ?_; rintro e w7 ⟨rfl, b7⟩
  clear qKA0 qKA1 qKA2
  replace mA := mA.next b7
  replace KA := KA.next b7
  replace KF := KF.next b7
  replace KD := KD.next b7
  replace KU := KU.next b7
  replace B0 := B0.trans (b7.mono B0.size)
  clear b7
  have qKD0 := KD.cell 0
  have qKD1 := KD.cell 1
  have qKD2 := KD.cell 2
  go_wp2_with fail
  refine (rf23_None _ _ _).mono ?_; rintro e w8 ⟨rfl, b8⟩
  clear qKD0 qKD1 qKD2
  replace mA := mA.next b8
  replace KA := KA.next b8
  replace KF := KF.next b8
  replace KD := KD.next b8
  replace KU := KU.next b8
  replace B0 := B0.trans (b8.mono B0.size)
  clear b8
  have qKU0 := KU.cell 0
  have qKU1 := KU.cell 1
  have qKU2 := KU.cell 2
  go_wp2_with fail
  refine (rf23_None _ _ _).mono ?_; rintro e w9 ⟨rfl, b9⟩
  clear qKU0 qKU1 qKU2
  replace mA := mA.next b9
  replace KA := KA.next b9
  replace KF := KF.next b9
  replace KD := KD.next b9
  replace KU := KU.next b9
  replace B0 := B0.trans (b9.mono B0.size)
  clear b9
  go_wp2
  go_ret
  exact ⟨rfl, B0⟩

set_option maxRecDepth 20000 in
set_option maxHeartbeats 4000000 in
theorem good (x0 : Nat) (r c : Nat) (v : Value) (xs : List (List Nat)) (w : World) (mA : Xm w v r c xs) (hr : r ≤ 3) (hc : c ≤ 3) (hx : xs.length = r * c) (hf : Fwx 3 4 r c xs) :
    Calls Try.prog 5 #[.int .u8 x0, v] w (LawOk w) := by
  obtain ⟨p, ep⟩ : ∃ p, p = Ps (x0 % 12) := ⟨_, rfl⟩
  have hp : FP p := by rw [ep]; exact Ps_FP (by omega)
  have ht : Trial p := by rw [ep]; exact Ps_trial (by omega)
  have cOf : ∀ w : World, Calls Try.prog 17 #[.int .u8 x0] w fun e w' => e = .returned (.agg #[.int .u64 (p : Nat)]) ∧ Below w.heap.size w w' := fun w => by rw [ep]; exact law9_Of x0 w
  have cP : ∀ w : World, Calls Try.prog 18 #[.int .u8 x0] w fun e w' => e = .returned (.int .u64 (p : Nat)) ∧ w = w' := fun w => by rw [ep]; exact ref8_P x0 w
  have hp2 := hp.1
  have hp3 := hp.2
  have HP := Lib.hid hp; have HT := Lib.hid ht; have COF := Lib.hid cOf; have CP := Lib.hid cP
  clear hp ht cOf cP ep
  obtain ⟨aA, cA, rfl⟩ := mA.agg
  obtain ⟨wb, ew, KA, B0, hsz⟩ := boxes1 w 24 [.int .i64 r, .int .i64 c, .slice aA xs.length cA]
  clear hsz
  replace mA := mA.next B0
  have HF := Lib.hid hf; have HX := Lib.hid hx
  have hl : ∀ j, j < r * c → (xs.getD j []).length ≤ 4 := fun j hj => by have := hf.2.2.2 j (by omega); omega
  have HL := Lib.hid hl
  clear hf hx hl
  have HFd := Lib.hid (Fd.of (show r ≤ 64 by omega) (show c ≤ 64 by omega) HX.out)
  have HFr := Lib.hid (show ∀ n : Nat, n = r * r → Fd (r : Int) (r : Int) n from fun n h => Fd.of (by omega) (by omega) h)
  have hrr : ((r : Int) != (r : Int)) = false := by simp
  have hcc : ((c : Int) != (c : Int)) = false := by simp
  have hrc9 : r * c ≤ 9 := Nat.mul_le_mul hr hc
  have hrr9 : r * r ≤ 9 := Nat.mul_le_mul hr hr
  have HBD := Lib.hid (show 2 ^ hbd r r * 4 ≤ 256 from by have := hbd3 hr; omega)
  go_enter Try.func5, Try.ntmps5
  go_upto_region 1 with (fail)
  rw [← ew]
  clear ew
  go_wp2_with fail
  refine (law24_awake _).mono ?_; rintro e w1 ⟨rfl, b1⟩
  replace mA := mA.next b1
  replace KA := KA.next b1
  replace B0 := B0.trans (b1.mono B0.size)
  clear b1
  have qKA0 := KA.cell 0
  have qKA1 := KA.cell 1
  have qKA2 := KA.cell 2
  go_wp2_with fail
  refine (rf23_Few _ r c 3 4 xs _ mA true ⟨fun _ => HF.out, fun _ => rfl⟩).mono ?_; rintro e w2 ⟨rfl, b2⟩
  clear qKA0 qKA1 qKA2
  replace mA := mA.next b2
  replace KA := KA.next b2
  replace B0 := B0.trans (b2.mono B0.size)
  clear b2
  go_wp2_with fail
  refine (COF.out _).mono ?_; rintro e w3 ⟨rfl, b3⟩
  replace mA := mA.next b3
  replace KA := KA.next b3
  replace B0 := B0.trans (b3.mono B0.size)
  clear b3
  go_wp2_with fail
  refine (CP.out _).mono ?_; rintro e wx ⟨rfl, rfl⟩
  obtain ⟨w4, e4, KF, b4, hs4⟩ := boxes1 w3 29 [.int .u64 p]
  clear hs4
  replace mA := mA.next b4
  replace KA := KA.next b4
  replace B0 := B0.trans (b4.mono B0.size)
  clear b4
  go_upto_region 4 with (fail)
  rw [← e4]
  clear e4
  have qKF0 := KF.cell 0
  have qKA0 := KA.cell 0
  have qKA1 := KA.cell 1
  have qKA2 := KA.cell 2
  go_wp2_with fail
  refine (xf_Hermite p _ r c 4 xs _ HP.out HT.out mA (by omega) (by omega) HX.out HL.out (by omega) (by have := HBD.out; omega)).mono ?_; rintro e w5 ⟨V, P, top, hFo, aD, kD, usD, aU, kU, usU, rfl, QD, QU, b5⟩
  clear qKF0 qKA0 qKA1 qKA2
  replace mA := mA.next b5
  replace KA := KA.next b5
  replace KF := KF.next b5
  replace B0 := B0.trans (b5.mono B0.size)
  clear b5
  obtain ⟨zsD, zlD, nsD, hzD⟩ := QD.ns HP.out
  have mD : Xm w5 (.agg #[.int .i64 r, .int .i64 c, .slice aD (r * c) kD]) r c zsD := ⟨_, rfl, nsD⟩
  have ZLD := Lib.hid zlD; have ZD := Lib.hid hzD
  obtain ⟨zsU, zlU, nsU, hzU⟩ := QU.ns HP.out
  have mU : Xm w5 (.agg #[.int .i64 r, .int .i64 r, .slice aU (r * r) kU]) r r zsU := ⟨_, rfl, nsU⟩
  have ZLU := Lib.hid zlU; have ZU := Lib.hid hzU
  have hsp := her_split hFo.rq
  have HSP := Lib.hid hsp.2
  have HD1 := Lib.hid (show Ln (dn r (aT p r zsU)) 1 from by
    obtain ⟨X, hX⟩ := hsp.1
    exact inv_dn HT.out hX fun i k hi hk => rd_off hzU hi hk)
  have HHB := Lib.hid (show HerB r c (aT p c zsD) from hFo.her.hb.congr fun i k hi hk => rd_at hzD hi hk)
  have HLU := Lib.hid (show ∀ j, j < zsU.length → (zsU.getD j []).length ≤ 256 from fun j hj => Nat.le_trans (hzU j (by omega)).2.2 HBD.out)
  have HLD := Lib.hid (show ∀ j, j < r * c → (zsD.getD j []).length ≤ 256 from fun j hj => Nat.le_trans (hzD j hj).2.2 HBD.out)
  have HLV := Lib.hid (show ∀ j, j < r * r → (zsU.getD j []).length ≤ 256 from fun j hj => Nat.le_trans (hzU j hj).2.2 HBD.out)
  clear hsp hFo zlD zlU nsD nsU hzD hzU QD QU
  obtain ⟨w6, e6, KD, KU, b6, hs6⟩ := boxes2 w5 24 24 [.int .i64 r, .int .i64 c, .slice aD (r * c) kD] [.int .i64 r, .int .i64 r, .slice aU (r * r) kU]
  clear hs6
  replace mA := mA.next b6
  replace KA := KA.next b6
  replace KF := KF.next b6
  replace mD := mD.next b6
  replace mU := mU.next b6
  replace B0 := B0.trans (b6.mono B0.size)
  clear b6
  go_upto_region 5 with (fail)
  rw [← e6]
  clear e6
  have qKA0 := KA.cell 0
  have qKA1 := KA.cell 1
  have qKA2 := KA.cell 2
  go_wp2_with fail
  refine (rf23_Formed _ r c xs _ mA true (decide_eq_true HFd.out).symm).mono ?_; rintro e w7 ⟨rfl, b7⟩
  clear qKA0 qKA1 qKA2
  replace mA := mA.next b7
  replace KA := KA.next b7
  replace KF := KF.next b7
  replace mD := mD.next b7
  replace mU := mU.next b7
  replace KD := KD.next b7
  replace KU := KU.next b7
  replace B0 := B0.trans (b7.mono B0.size)
  clear b7
  have qKA0 := KA.cell 0
  have qKA1 := KA.cell 1
  have qKD0 := KD.cell 0
  have qKD1 := KD.cell 1
  have qKU0 := KU.cell 0
  have qKU1 := KU.cell 1
  have qKU2 := KU.cell 2
  go_wp2_with fail
  refine (rf23_Normal _ r r p zsU _ HP.out mU (HFr.out _ ZLU.out) (fun j hj => by have h1 := ZU.out j (by rw [ZLU.out] at hj; exact hj); have h2 := HLV.out j (by rw [ZLU.out] at hj; exact hj); exact ⟨h1.1, by omega⟩) (by rw [ZLU.out]; omega)).mono ?_; rintro e w8 ⟨rfl, b8⟩
  clear qKA0 qKA1 qKD0 qKD1 qKU0 qKU1 qKU2
  replace mA := mA.next b8
  replace KA := KA.next b8
  replace KF := KF.next b8
  replace mD := mD.next b8
  replace mU := mU.next b8
  replace KD := KD.next b8
  replace KU := KU.next b8
  replace B0 := B0.trans (b8.mono B0.size)
  clear b8
  have qKU0 := KU.cell 0
  have qKU1 := KU.cell 1
  have qKU2 := KU.cell 2
  go_wp2_with fail
  refine (rf24_Unimodular p 256 _ r zsU _ HP.out mU (by omega) ZLU.out (by omega) HLV.out (by omega) HD1.out).mono ?_; rintro e w9 ⟨rfl, b9⟩
  clear qKU0 qKU1 qKU2
  replace mA := mA.next b9
  replace KA := KA.next b9
  replace KF := KF.next b9
  replace mD := mD.next b9
  replace mU := mU.next b9
  replace KD := KD.next b9
  replace KU := KU.next b9
  replace B0 := B0.trans (b9.mono B0.size)
  clear b9
  have qKD0 := KD.cell 0
  have qKD1 := KD.cell 1
  have qKD2 := KD.cell 2
  go_wp2_with fail
  refine (rf24_Hermite p _ r c zsD _ HP.out HT.out mD (by omega) (by omega) ZLD.out (fun j hj => by have := HLD.out j hj; omega) true ⟨fun _ => HHB.out, fun _ => rfl⟩).mono ?_; rintro e w10 ⟨rfl, b10⟩
  clear qKD0 qKD1 qKD2
  replace mA := mA.next b10
  replace KA := KA.next b10
  replace KF := KF.next b10
  replace mD := mD.next b10
  replace mU := mU.next b10
  replace KD := KD.next b10
  replace KU := KU.next b10
  replace B0 := B0.trans (b10.mono B0.size)
  clear b10
  go_upto_region 9 with (fail)
  have bd := Drawn.below (w' := w10.drew) ⟨1, rfl⟩ w10.heap.size
  replace mA := mA.next bd
  replace KA := KA.next bd
  replace KF := KF.next bd
  replace mD := mD.next bd
  replace mU := mU.next bd
  replace KD := KD.next bd
  replace KU := KU.next bd
  replace B0 := B0.trans (bd.mono B0.size)
  clear bd
  refine startL (S := (fun w' => Below (w10.drew).heap.size (w10.drew) w')) (by kernel_rfl) (Below.refl _ _) (fun hHeld => ?_)
  refine takeL 0 (v := ?_) rfl (by kernel_rfl) (by kernel_rfl) (by kernel_rfl) (fun _ _ _ h => h) ⟨by rfl, ?_⟩ (by assumption) ?_
  rotate_left
  · intro w hS; have fa := KA.at hS; have f1 := fa 0; have f2 := fa 1; have f3 := fa 2; clear fa; have fb := KD.at hS; have f4 := fb 0; have f5 := fb 1; have f6 := fb 2; clear fb; have fc := KU.at hS; have f7 := fc 0; have f8 := fc 1; have f9 := fc 2; clear fc; go_simp <;> with_reducible rfl
  simp only [Act.put, List.setIfInBounds_toArray, List.set_cons_zero, List.set_cons_succ]
  refine takeL 1 (v := ?_) rfl (by kernel_rfl) (by kernel_rfl) (by kernel_rfl) (fun _ _ _ h => h) ⟨by rfl, ?_⟩ (by assumption) ?_
  rotate_left
  · intro w hS; have fa := KA.at hS; have f1 := fa 0; have f2 := fa 1; have f3 := fa 2; clear fa; have fb := KD.at hS; have f4 := fb 0; have f5 := fb 1; have f6 := fb 2; clear fb; have fc := KU.at hS; have f7 := fc 0; have f8 := fc 1; have f9 := fc 2; clear fc; go_simp <;> with_reducible rfl
  simp only [Act.put, List.setIfInBounds_toArray, List.set_cons_zero, List.set_cons_succ]
  refine takeL 2 (v := ?_) rfl (by kernel_rfl) (by kernel_rfl) (by kernel_rfl) (fun _ _ _ h => h) ⟨by rfl, ?_⟩ (by assumption) ?_
  rotate_left
  · intro w hS; have fa := KA.at hS; have f1 := fa 0; have f2 := fa 1; have f3 := fa 2; clear fa; have fb := KD.at hS; have f4 := fb 0; have f5 := fb 1; have f6 := fb 2; clear fb; have fc := KU.at hS; have f7 := fc 0; have f8 := fc 1; have f9 := fc 2; clear fc; go_simp <;> with_reducible rfl
  simp only [Act.put, List.setIfInBounds_toArray, List.set_cons_zero, List.set_cons_succ]
  refine takeL 3 (v := ?_) rfl (by kernel_rfl) (by kernel_rfl) (by kernel_rfl) (fun _ _ _ h => h) ⟨by rfl, ?_⟩ (by assumption) ?_
  rotate_left
  · intro w hS; go_simp <;> with_reducible rfl
  simp only [Act.put, List.setIfInBounds_toArray, List.set_cons_zero, List.set_cons_succ]
  refine takeL 5 (v := ?_) rfl (by kernel_rfl) (by kernel_rfl) (by kernel_rfl) (fun _ _ _ h => h) ⟨by rfl, ?_⟩ (by assumption) ?_
  rotate_left
  · intro w hS; go_simp <;> with_reducible rfl
  simp only [Act.put, List.setIfInBounds_toArray, List.set_cons_zero, List.set_cons_succ]
  refine oneL 4 rfl (by kernel_rfl) (by rfl) (fun K hK => ?_)
  go_simp
  go_at_call 26
  (with_reducible refine (rf23_Mul p 512 256 _ _ r r c zsU xs _ HP.out (mU.next hHeld) (mA.next hHeld) (by omega) (by omega) (by omega) ZLU.out HX.out (by omega) (by omega) HLU.out (fun j hj => by have := HL.out j (by rw [HX.out] at hj; exact hj); omega) (dotT p zsU xs r c) (fun i k _ hk => dotT_at hk)).mono ?_); rintro e y1 ⟨aM, kM, uM, rfl, oM, c1⟩; obtain ⟨zsM, zlM, nsM, hzM⟩ := oM.ns HP.out; have mM : Xm y1 (.agg #[.int .i64 r, .int .i64 c, .slice aM (r * c) kM]) r c zsM := ⟨_, rfl, nsM⟩; have ZLM := Lib.hid zlM; have ZM := Lib.hid hzM; clear zlM nsM hzM oM
  refine hK.out _ _ (hHeld.trans (c1.mono hHeld.size)) (fun hHeld => ?_)
  clear hK K
  try simp only [Act.put, List.setIfInBounds_toArray, List.set_cons_zero, List.set_cons_succ]
  refine oneL 6 rfl (by kernel_rfl) (by rfl) (fun K hK => ?_)
  go_simp
  go_at_call 25
  have HEQ := Lib.hid (show ∀ j, j < zsD.length → nl p (zsD.getD j []) = nl p (zsM.getD j []) from fun j hj => by
    rw [ZLD.out] at hj
    obtain ⟨h1, h2, h3⟩ := jdm hj
    refine nl_same HP.out ?_
    rw [(ZD.out j hj).2.1, (ZM.out j hj).2.1]
    show V (j / c) (0 + j % c) = dotq p zsU xs r c (j / c) (j % c) r
    rw [Nat.zero_add, HSP.out _ _ h1 h2]
    refine sm_congr fun s hs => ?_
    have e3 : pl p (zsU.getD (j / c * r + s) []) = V (j / c) (c + s) := rd_off ZU.out h1 hs
    show _ = pl p (zsU.getD (j / c * r + s) []) * pl p (xs.getD (s * c + j % c) [])
    rw [e3]; rfl)
  (with_reducible refine (rf23_Is _ _ r c p zsD zsM _ HP.out (mD.next hHeld) mM (by rw [ZLD.out, ← HX.out]; exact HFd.out) (by rw [ZLM.out, ZLD.out]) (by rw [ZLD.out]; omega) (fun j hj => by have h1 := ZD.out j (by rw [ZLD.out] at hj; exact hj); have h2 := HLD.out j (by rw [ZLD.out] at hj; exact hj); exact ⟨h1.1, by omega⟩) (fun j hj => by have := (ZM.out j (by rw [ZLD.out] at hj; exact hj)).2.2; omega) HEQ.out).mono ?_); rintro e y3 ⟨rfl, c3⟩
  refine hK.out _ _ (hHeld.trans (c3.mono hHeld.size)) (fun hHeld => ?_)
  clear hK K
  try simp only [Act.put, List.setIfInBounds_toArray, List.set_cons_zero, List.set_cons_succ]
  refine takeL 7 (v := ?_) rfl (by kernel_rfl) (by kernel_rfl) (by kernel_rfl) (fun _ _ _ h => h) ⟨by rfl, ?_⟩ (by assumption) ?_
  rotate_left
  · intro w hS; go_simp <;> with_reducible rfl
  simp only [Act.put, List.setIfInBounds_toArray, List.set_cons_zero, List.set_cons_succ]
  refine doneL (by kernel_rfl) ?_ _
  replace B0 := B0.trans (hHeld.mono B0.size)
  clear hHeld mM c1 c3 HEQ
  clear mA
  clear KA
  clear KF
  clear mD
  clear mU
  clear KD
  clear KU
  go_wp2
  go_ret
  exact ⟨rfl, B0⟩

set_option maxHeartbeats 1000000 in
theorem walk (x0 : Nat) (v : Value) (R C : Int) (xs : List (List Nat)) (w : World) (mA : Xm w v R C xs) : Calls Try.prog 5 #[.int .u8 x0, v] w (LawOk w) := by
  by_cases hf : Fwx 3 4 R C xs
  · by_cases hs : Fd R C xs.length
    · obtain ⟨r, c, e1, e2, h3, h4, h5⟩ := hs.nat
      subst e1 e2
      exact good x0 r c v xs w mA (by have := hf.1; omega) (by have := hf.2.1; omega) h5 hf
    · exact bad x0 v R C xs w mA hf hs
  · exact not_few x0 v R C xs w mA hf

set_option maxRecDepth 100000 in
theorem lifted (os : Os) (started : os.Started) (H : Type) (enc : TypeId × Value → H) :
    ReturnsInHanded {} Try.checked os 5 .any (Rows.xformHermiteSpec.pre6 enc Try.prog Try.f5 Rows.xformHermiteRow.domain false) (Rows.xformHermiteSpec.post enc Try.prog Try.f5 false true false false) := by
  refine returnsInHanded_of_change (C := Try.checked) own started (by kernel_rfl) Try.func5
    (ChangeSpec.witness6 (enc := enc) (C := Try.checked) false ⟨#[], #[.int .u8 0, .agg #[.int .i64 0, .int .i64 0, .slice none 0 0]], []⟩ 8 (by kernel_rfl) (by kernel_rfl) (by kernel_rfl) (by kernel_rfl)) ?_
  intro W base args ds gs before hval0 hW hcnd _
  have hval : ∀ (j : Nat) t v, Try.f5.params[j]? = some t → args[j]? = some v → Value.okWide Try.prog W .any base t v := hval0
  have hW' := hW
  obtain ⟨p, q, hA0, hV, rfl, hfz, hnd⟩ := hW
  have hA : DataW.TrodAll enc Try.prog W 0 (fun _ => true) true Try.f5.params.toList args.toList ds p := hA0
  rw [Try.params5] at hA hval
  obtain ⟨v0, vs0, d0, ds0, p0, q0, hargs, rfl, rfl, h0, r0⟩ := trodAll_cons hA
  obtain ⟨v1, vs1, d1, ds1, p1, q1, rfl, rfl, rfl, h1, r1⟩ := trodAll_cons r0
  obtain ⟨rfl, rfl, rfl⟩ := trodAll_nil r1
  obtain rfl : args = #[v0, v1] := by cases args; simp_all
  obtain ⟨rfl, rfl⟩ := trodVars_none hV
  have k0 := h0
  have lt0 : ∀ x ∈ p0, x.block < W.heap.size := by obtain ⟨m, hm⟩ := k0; exact DataW.trod_lt m _ _ _ hm
  obtain ⟨i0, rfl, rfl, rfl, wi0⟩ := open_int Try.underlying5 (hval 0 5 v0 rfl rfl) h0
  obtain ⟨x0, rfl⟩ := Int.eq_ofNat_of_zero_le (wf_u8_bounds wi0).1
  have k1 := h1
  have lt1 : ∀ x ∈ p1, x.block < W.heap.size := by obtain ⟨m, hm⟩ := k1; exact DataW.trod_lt m _ _ _ hm
  obtain ⟨R1, C1, xs1, m1, rb1, cb1⟩ := open_xm (hval 1 24 v1 rfl rfl) h1
  clear hA0 hval0
  refine (walk x0 v1 R1 C1 xs1 W  m1).mono fun e W' ⟨he, bel⟩ => ?_
  subst he
  exact ⟨_, rfl, _, _, _, [], _, [], hW', trodAll_mk1 (shut_bool Try.underlying4 _), (trodAll_cons_mk (Below.trod laidOut (by kernel_rfl) (of_decide_eq_true (by kernel_rfl)) k0 bel lt0) (trodAll_cons_mk (Below.trod laidOut (by kernel_rfl) (of_decide_eq_true (by kernel_rfl)) k1 bel lt1) trodAll_mk0)), rfl, bel.frame _, fun h => by cases h⟩

theorem over : Rows.xformHermiteRow.holds Try.pinned (OpenSpec.ofChange Rows.xformHermiteSpec) :=
  OpenClaim.holds_of_wide 5 Try.f5 rfl rfl rfl rfl rfl rfl rfl ⟨rfl, rfl, rfl, rfl, rfl⟩ rfl rfl rfl rfl rfl (by kernel_rfl) Try.func5 (by kernel_rfl)
    (of_decide_eq_true (by kernel_rfl)) (by unfold Func.isWrapper; first | (rw [if_pos (by decide +kernel)]; kernel_rfl) | (rw [if_neg (by decide +kernel)]; exact ⟨rfl, rfl⟩))
    (fun os started H enc _ => lifted os started H enc)

theorem proved : Rows.XformHermiteSaid := over
#print axioms proved
end Go.Proofs.Ytkmfhabgempjiaa.xformHermite
