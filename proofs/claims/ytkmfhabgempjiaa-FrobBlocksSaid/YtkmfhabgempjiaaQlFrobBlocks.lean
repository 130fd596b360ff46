/- FrobBlocks: for every number and list of polynomials the law returns true: Frobenius' form of them is told, or refused; if each divides the next one, they are its invariants. No condition. -/
import Derived.Test.YtkmfhabgempjiaaRows
import Derived.Test.YtkmfhabgempjiaaQlM5
import Derived.Test.YtkmfhabgempjiaaQlM15
import Derived.Test.YtkmfhabgempjiaaQlM17
import Derived.Test.YtkmfhabgempjiaaQlM18
namespace Go.Proofs.Ytkmfhabgempjiaa.frobBlocks
set_option maxHeartbeats 4000000
open Go.ChangeShapes Go.WideShapes Go.ChangeAt Go.RowKit
open Go.ChangeMaps (open_string shut_string)
theorem own : ownKnob Try.prog.godebug = none := by kernel_rfl
theorem laidOut : laidOutB Try.prog = true := by kernel_rfl
set_option maxRecDepth 20000 in
theorem not_few (x0 : Nat) (v : Value) (qs : List (List Nat)) (w : World) (nL : Ns w v qs) (hM : ¬ qs.length ≤ 3) :
  Calls Try.prog 9 #[.int .u8 x0, v] w (LawOk w) := by
 obtain ⟨M, eM⟩ : ∃ M, M = qs.length := ⟨_, rfl⟩
 obtain ⟨az, cz, rfl⟩ := nL.slice
 rw [← eM] at nL hM ⊢
 clear eM
 have B0 := Below.refl w.heap.size w
 go_enter Try.func9, Try.ntmps9
 clear nL
 go_wp2_with fail
 refine (law25_awake _).mono ?_; rintro e w1 ⟨rfl, b1⟩
 replace B0 := B0.trans (b1.mono B0.size)
 clear b1
 go_wp2_with fail
 refine (law25_awake _).mono ?_; rintro e w2 ⟨rfl, b2⟩
 replace B0 := B0.trans (b2.mono B0.size)
 clear b2
 go_wp2
 go_ret
 exact ⟨rfl, B0⟩
set_option maxRecDepth 20000 in
theorem good (x0 : Nat) (v : Value) (qs : List (List Nat)) (w : World) (nL : Ns w v qs) (hM : qs.length ≤ 3) :
  Calls Try.prog 9 #[.int .u8 x0, v] w (LawOk w) := by
 obtain ⟨p, ep⟩ : ∃ p, p = Ps (x0 % 12) := ⟨_, rfl⟩
 have hp : FP p := by rw [ep]; exact Ps_FP (by omega)
 have ht : Trial p := by rw [ep]; exact Ps_trial (by omega)
 have cOf : ∀ w : World, Calls Try.prog 17 #[.int .u8 x0] w fun e w' => e = .returned (.agg #[.int .u64 (p : Nat)]) ∧ Below w.heap.size w w' := fun w => by rw [ep]; exact law9_Of x0 w
 have cP : ∀ w : World, Calls Try.prog 18 #[.int .u8 x0] w fun e w' => e = .returned (.int .u64 (p : Nat)) ∧ w = w' := fun w => by rw [ep]; exact ref8_P x0 w
 have hp2 := hp.1
 have hp3 := hp.2
 have HP := Lib.hid hp; have HT := Lib.hid ht; have COF := Lib.hid cOf; have CP := Lib.hid cP
 clear hp ht cOf cP ep
 obtain ⟨M, eM⟩ : ∃ M, M = qs.length := ⟨_, rfl⟩
 obtain ⟨az, cz, rfl⟩ := nL.slice
 rw [← eM] at nL hM ⊢
 have HM := Lib.hid eM; clear eM
 have B0 := Below.refl w.heap.size w
 go_enter Try.func9, Try.ntmps9
 go_wp2_with fail
 refine (law25_awake _).mono ?_; rintro e w1 ⟨rfl, b1⟩
 replace nL := nL.next b1
 replace B0 := B0.trans (b1.mono B0.size)
 clear b1
 go_wp2_with fail
 refine (COF.out _).mono ?_; rintro e w2 ⟨rfl, b2⟩
 replace nL := nL.next b2
 replace B0 := B0.trans (b2.mono B0.size)
 clear b2
 go_wp2_with fail
 refine (CP.out _).mono ?_; rintro e wx ⟨rfl, rfl⟩
 obtain ⟨w3, e3, KF, b3, hs3⟩ := boxes1 w2 29 [.int .u64 p]
 clear hs3
 replace nL := nL.next b3
 replace B0 := B0.trans (b3.mono B0.size)
 clear b3
 go_wp2
 rw [← e3]
 clear e3
 have HNL := Lib.hid nL; have HKF := Lib.hid KF; have HB0 := Lib.hid B0
 clear nL KF B0
 go_loopw [7, 8] (fun gv iv wr => ∃ (i : Nat) (γ : Bool), i ≤ M ∧ iv = .int .i64 i ∧ gv = .bool γ ∧ Hid (γ = true ↔ ∀ j, j + 1 < i → Dv (pl p (qs.getD j [])) (pl p (qs.getD (j + 1) []))) ∧ Hid (∀ j, j < i → (qs.getD j []).length ≤ 4) ∧ Below w3.heap.size w3 wr) (fun _ iv _ => M - (intOf iv).toNat)
 case atStart => exact ⟨0, true, by omega, rfl, rfl, Lib.hid ⟨fun _ j hj => by omega, fun _ => rfl⟩, Lib.hid (fun j hj => by omega), Below.refl _ _⟩
 case round =>
  obtain ⟨i, γ, hi, rfl, rfl, HG, HQ, B1⟩ := hrel
  by_cases hiM : i < M
  ·obtain ⟨b2, o2, ak2, ck2, rfl, lb2, qz2, sz2⟩ := (HNL.out.next B1).get HM.out hiM
   obtain ⟨z, ez⟩ : ∃ z, z = qs.getD i [] := ⟨_, rfl⟩
   rw [← ez] at qz2 sz2
   have HZ := Lib.hid ez; clear ez
   by_cases h4 : z.length ≤ 4
   ·have HQ2 := Lib.hid (show ∀ j, j < i + 1 → (qs.getD j []).length ≤ 4 from fun j hj => by
     by_cases e : j = i
     ·rw [e, ← HZ.out]; exact h4
     ·exact HQ.out j (by omega))
    go_upto_region 10 with (fail)
    have bd := dw wr
    have KF := (HKF.out.next B1).next bd
    replace sz2 := sz2.next bd
    replace qz2 := (bd.cell (p := ⟨b2, o2 + i, none⟩) lb2).trans qz2
    have B2 := B1.trans (bd.mono B1.size)
    cases γ with
    | true =>
     by_cases h0 : i = 0
     ·have hb0 : ((i : Int) == 0) = true := by simpa using h0
      replace lb2 : b2 < wr.drew.heap.size := lb2
      clear bd
      refine startL (S := (fun w' => Below (wr.drew).heap.size (wr.drew) w')) (by kernel_rfl) (Below.refl _ _) (fun hHeld => ?_)
      refine tk 0 ?_
      refine tk 1 ?_
      refine tk 2 ?_
      refine tk 3 ?_
      refine tk 4 ?_
      refine skipL 5 rfl (by kernel_rfl) (by kernel_rfl) (by kernel_rfl) (fun _ _ _ h => h) (by rfl) (by assumption) ?_
      simp only [Act.put, zq1, zq2, zq3]
      refine skipL 6 rfl (by kernel_rfl) (by kernel_rfl) (by kernel_rfl) (fun _ _ _ h => h) (by rfl) (by assumption) ?_
      simp only [Act.put, zq1, zq2, zq3]
      refine skipL 7 rfl (by kernel_rfl) (by kernel_rfl) (by kernel_rfl) (fun _ _ _ h => h) (by rfl) (by assumption) ?_
      simp only [Act.put, zq1, zq2, zq3]
      refine skipL 8 rfl (by kernel_rfl) (by kernel_rfl) (by kernel_rfl) (fun _ _ _ h => h) (by rfl) (by assumption) ?_
      simp only [Act.put, zq1, zq2, zq3]
      refine skipL 9 rfl (by kernel_rfl) (by kernel_rfl) (by kernel_rfl) (fun _ _ _ h => h) (by rfl) (by assumption) ?_
      simp only [Act.put, zq1, zq2, zq3]
      refine skipL 10 rfl (by kernel_rfl) (by kernel_rfl) (by kernel_rfl) (fun _ _ _ h => h) (by rfl) (by assumption) ?_
      simp only [Act.put, zq1, zq2, zq3]
      refine skipL 11 rfl (by kernel_rfl) (by kernel_rfl) (by kernel_rfl) (fun _ _ _ h => h) (by rfl) (by assumption) ?_
      simp only [Act.put, zq1, zq2, zq3]
      refine skipL 12 rfl (by kernel_rfl) (by kernel_rfl) (by kernel_rfl) (fun _ _ _ h => h) (by rfl) (by assumption) ?_
      simp only [Act.put, zq1, zq2, zq3]
      refine skipL 13 rfl (by kernel_rfl) (by kernel_rfl) (by kernel_rfl) (fun _ _ _ h => h) (by rfl) (by assumption) ?_
      simp only [Act.put, zq1, zq2, zq3]
      refine skipL 14 rfl (by kernel_rfl) (by kernel_rfl) (by kernel_rfl) (fun _ _ _ h => h) (by rfl) (by assumption) ?_
      simp only [Act.put, zq1, zq2, zq3]
      refine skipL 15 rfl (by kernel_rfl) (by kernel_rfl) (by kernel_rfl) (fun _ _ _ h => h) (by rfl) (by assumption) ?_
      simp only [Act.put, zq1, zq2, zq3]
      refine skipL 16 rfl (by kernel_rfl) (by kernel_rfl) (by kernel_rfl) (fun _ _ _ h => h) (by rfl) (by assumption) ?_
      simp only [Act.put, zq1, zq2, zq3]
      refine skipL 17 rfl (by kernel_rfl) (by kernel_rfl) (by kernel_rfl) (fun _ _ _ h => h) (by rfl) (by assumption) ?_
      simp only [Act.put, zq1, zq2, zq3]
      refine skipL 18 rfl (by kernel_rfl) (by kernel_rfl) (by kernel_rfl) (fun _ _ _ h => h) (by rfl) (by assumption) ?_
      simp only [Act.put, zq1, zq2, zq3]
      refine skipL 19 rfl (by kernel_rfl) (by kernel_rfl) (by kernel_rfl) (fun _ _ _ h => h) (by rfl) (by assumption) ?_
      simp only [Act.put, zq1, zq2, zq3]
      refine tk 20 ?_
      refine tk 21 ?_
      refine tk 22 ?_
      refine doneL (by kernel_rfl) ?_ _
      have HG2 := Lib.hid (show true = true ↔ ∀ j, j + 1 < i + 1 → Dv (pl p (qs.getD j [])) (pl p (qs.getD (j + 1) [])) from ⟨fun _ j hj => by omega, fun _ => rfl⟩)
      have B3 := B2.trans (hHeld.mono B2.size)
      clear hHeld B1 B2 KF sz2 qz2 lb2 h0 hb0
      go_wp2
      go_roundw
      case rel => exact ⟨i + 1, true, by omega, by go_num, rfl, HG2, HQ2, B3⟩
      case measure => simp [intOf] <;> omega
     ·have hb0 : ((i : Int) == 0) = false := by simpa using h0
      obtain ⟨j, ej⟩ : ∃ j, j = i - 1 := ⟨_, rfl⟩
      have hwr : IntKind.i64.wrap ((i : Int) - 1) = (j : Int) := by rw [IntWalk.i64_in _ ⟨by omega, by omega⟩]; omega
      have hj0 : (0 : Int) ≤ (j : Int) := Int.natCast_nonneg _
      have hj1 : (j : Int) < (M : Int) := by omega
      have HIJ := Lib.hid (show i = j + 1 by omega)
      obtain ⟨b3, o3, ak3, ck3, e3, lb3, qz3, sz3⟩ := (HNL.out.next B1).get (i := j) HM.out (by omega)
      simp only [Option.some.injEq, Addr.mk.injEq, and_true] at e3
      obtain ⟨rfl, rfl⟩ := e3
      obtain ⟨y, ey⟩ : ∃ y, y = qs.getD j [] := ⟨_, rfl⟩
      have hy4 : y.length ≤ 4 := by rw [ey]; exact HQ.out j (by omega)
      rw [← ey] at qz3 sz3
      have HY := Lib.hid ey
      obtain ⟨δ, hδ⟩ : ∃ δ : Bool, (δ = true ↔ Dv (pl p y) (pl p z)) := by
       by_cases h : Dv (pl p y) (pl p z)
       ·exact ⟨true, ⟨fun _ => h, fun _ => rfl⟩⟩
       ·exact ⟨false, ⟨fun e => (by cases e), fun e => absurd e h⟩⟩
      have HDL := Lib.hid hδ
      replace sz3 := sz3.next bd
      replace qz3 := (bd.cell (p := ⟨b2, o2 + j, none⟩) lb2).trans qz3
      replace lb2 : b2 < wr.drew.heap.size := lb2
      clear bd ej ey hδ lb3 h0
      have zF0 := Lib.hid fun (w : World) (hS : Below (wr.drew).heap.size (wr.drew) w) => And.intro ((KF.at hS) 0) (And.intro ((hS.cell (p := ⟨b2, o2 + i, none⟩) lb2).trans qz2) ((hS.cell (p := ⟨b2, o2 + j, none⟩) lb2).trans qz3))
      refine startL (S := (fun w' => Below (wr.drew).heap.size (wr.drew) w')) (by kernel_rfl) (Below.refl _ _) (fun hHeld => ?_)
      refine tk 0 ?_
      refine tk 1 ?_
      refine tk 2 ?_
      refine tk 3 ?_
      refine tk 4 ?_
      refine tf 5 zF0.out ?_
      refine tk 6 ?_
      refine tk 7 ?_
      refine tk 8 ?_
      refine tk 9 ?_
      refine tf 10 zF0.out ?_
      refine tk 11 ?_
      refine tk 13 ?_
      refine tk 14 ?_
      refine tk 15 ?_
      refine tf 16 zF0.out ?_
      refine tk 17 ?_
      refine on 12 fun K hK => ?_
      go_simp
      go_at_call 43
      (with_reducible refine (ref9_Norm p _ y _ HP.out (sz3.next hHeld) (by omega)).mono ?_); rintro e y1 ⟨r1, z1, rfl, o1, n1, v1, l1, c1⟩
      obtain ⟨a1, k1, rfl⟩ := o1.sliced
      have s1 := o1.sl
      clear o1
      refine hK.out _ _ (hHeld.trans (c1.mono hHeld.size)) (fun hHeld => ?_)
      clear hK K
      try simp only [Act.put, zq1, zq2, zq3]
      refine on 18 fun K hK => ?_
      go_simp
      go_at_call 43
      (with_reducible refine (ref9_Norm p _ z _ HP.out (sz2.next hHeld) (by omega)).mono ?_); rintro e y2 ⟨r2, z2, rfl, p2, n2, v2, l2, c2⟩; replace s1 := s1.next c2
      obtain ⟨a2, k2, rfl⟩ := p2.sliced
      have s2 := p2.sl
      clear p2
      refine hK.out _ _ (hHeld.trans (c2.mono hHeld.size)) (fun hHeld => ?_)
      clear hK K
      try simp only [Act.put, zq1, zq2, zq3]
      refine on 19 fun K hK => ?_
      go_simp
      go_at_call 37
      (with_reducible refine (rf24_Divides p _ _ z1 z2 _ HP.out HT.out s1 s2 n1 n2 (by omega) (by omega) δ (by rw [v1, v2]; exact HDL.out)).mono ?_); rintro e y3 ⟨rfl, c3⟩
      clear s1 s2 n1 n2 v1 v2 l1 l2
      refine hK.out _ _ (hHeld.trans (c3.mono hHeld.size)) (fun hHeld => ?_)
      clear hK K
      try simp only [Act.put, zq1, zq2, zq3]
      refine tk 20 ?_
      refine tk 21 ?_
      refine tk 22 ?_
      clear zF0; refine doneL (by kernel_rfl) ?_ _
      have HG2 := Lib.hid (show δ = true ↔ ∀ l, l + 1 < i + 1 → Dv (pl p (qs.getD l [])) (pl p (qs.getD (l + 1) [])) from ⟨fun h l hl => by
       have e := HIJ.out
       by_cases e2 : l = j
       ·rw [e2, ← HY.out, ← e, ← HZ.out]; exact HDL.out.1 h
       ·exact HG.out.1 rfl l (by omega), fun h => HDL.out.2 (by
        have h1 := h j (by have := HIJ.out; omega)
        rwa [← HY.out, ← HIJ.out, ← HZ.out] at h1)⟩)
      have B3 := B2.trans (hHeld.mono B2.size)
      clear hHeld B1 B2 KF sz2 qz2 sz3 qz3 lb2 hb0 hwr hj0 hj1 hy4
      go_wp2
      go_roundw
      case rel => exact ⟨i + 1, δ, by omega, by go_num, rfl, HG2, HQ2, B3⟩
      case measure => simp [intOf] <;> omega
    | false =>
     replace lb2 : b2 < wr.drew.heap.size := lb2
     clear bd
     refine startL (S := (fun w' => Below (wr.drew).heap.size (wr.drew) w')) (by kernel_rfl) (Below.refl _ _) (fun hHeld => ?_)
     refine tk 0 ?_
     refine tk 1 ?_
     refine skipL 2 rfl (by kernel_rfl) (by kernel_rfl) (by kernel_rfl) (fun _ _ _ h => h) (by rfl) (by assumption) ?_
     simp only [Act.put, zq1, zq2, zq3]
     refine skipL 3 rfl (by kernel_rfl) (by kernel_rfl) (by kernel_rfl) (fun _ _ _ h => h) (by rfl) (by assumption) ?_
     simp only [Act.put, zq1, zq2, zq3]
     refine skipL 4 rfl (by kernel_rfl) (by kernel_rfl) (by kernel_rfl) (fun _ _ _ h => h) (by rfl) (by assumption) ?_
     simp only [Act.put, zq1, zq2, zq3]
     refine skipL 5 rfl (by kernel_rfl) (by kernel_rfl) (by kernel_rfl) (fun _ _ _ h => h) (by rfl) (by assumption) ?_
     simp only [Act.put, zq1, zq2, zq3]
     refine skipL 6 rfl (by kernel_rfl) (by kernel_rfl) (by kernel_rfl) (fun _ _ _ h => h) (by rfl) (by assumption) ?_
     simp only [Act.put, zq1, zq2, zq3]
     refine skipL 7 rfl (by kernel_rfl) (by kernel_rfl) (by kernel_rfl) (fun _ _ _ h => h) (by rfl) (by assumption) ?_
     simp only [Act.put, zq1, zq2, zq3]
     refine skipL 8 rfl (by kernel_rfl) (by kernel_rfl) (by kernel_rfl) (fun _ _ _ h => h) (by rfl) (by assumption) ?_
     simp only [Act.put, zq1, zq2, zq3]
     refine skipL 9 rfl (by kernel_rfl) (by kernel_rfl) (by kernel_rfl) (fun _ _ _ h => h) (by rfl) (by assumption) ?_
     simp only [Act.put, zq1, zq2, zq3]
     refine skipL 10 rfl (by kernel_rfl) (by kernel_rfl) (by kernel_rfl) (fun _ _ _ h => h) (by rfl) (by assumption) ?_
     simp only [Act.put, zq1, zq2, zq3]
     refine skipL 11 rfl (by kernel_rfl) (by kernel_rfl) (by kernel_rfl) (fun _ _ _ h => h) (by rfl) (by assumption) ?_
     simp only [Act.put, zq1, zq2, zq3]
     refine skipL 12 rfl (by kernel_rfl) (by kernel_rfl) (by kernel_rfl) (fun _ _ _ h => h) (by rfl) (by assumption) ?_
     simp only [Act.put, zq1, zq2, zq3]
     refine skipL 13 rfl (by kernel_rfl) (by kernel_rfl) (by kernel_rfl) (fun _ _ _ h => h) (by rfl) (by assumption) ?_
     simp only [Act.put, zq1, zq2, zq3]
     refine skipL 14 rfl (by kernel_rfl) (by kernel_rfl) (by kernel_rfl) (fun _ _ _ h => h) (by rfl) (by assumption) ?_
     simp only [Act.put, zq1, zq2, zq3]
     refine skipL 15 rfl (by kernel_rfl) (by kernel_rfl) (by kernel_rfl) (fun _ _ _ h => h) (by rfl) (by assumption) ?_
     simp only [Act.put, zq1, zq2, zq3]
     refine skipL 16 rfl (by kernel_rfl) (by kernel_rfl) (by kernel_rfl) (fun _ _ _ h => h) (by rfl) (by assumption) ?_
     simp only [Act.put, zq1, zq2, zq3]
     refine skipL 17 rfl (by kernel_rfl) (by kernel_rfl) (by kernel_rfl) (fun _ _ _ h => h) (by rfl) (by assumption) ?_
     simp only [Act.put, zq1, zq2, zq3]
     refine skipL 18 rfl (by kernel_rfl) (by kernel_rfl) (by kernel_rfl) (fun _ _ _ h => h) (by rfl) (by assumption) ?_
     simp only [Act.put, zq1, zq2, zq3]
     refine skipL 19 rfl (by kernel_rfl) (by kernel_rfl) (by kernel_rfl) (fun _ _ _ h => h) (by rfl) (by assumption) ?_
     simp only [Act.put, zq1, zq2, zq3]
     refine skipL 20 rfl (by kernel_rfl) (by kernel_rfl) (by kernel_rfl) (fun _ _ _ h => h) (by rfl) (by assumption) ?_
     simp only [Act.put, zq1, zq2, zq3]
     refine tk 21 ?_
     refine tk 22 ?_
     refine doneL (by kernel_rfl) ?_ _
     have HG2 := Lib.hid (show false = true ↔ ∀ j, j + 1 < i + 1 → Dv (pl p (qs.getD j [])) (pl p (qs.getD (j + 1) [])) from ⟨fun h => (by cases h), fun h => HG.out.2 fun j hj => h j (by omega)⟩)
     have B3 := B2.trans (hHeld.mono B2.size)
     clear hHeld B1 B2 KF sz2 qz2 lb2
     go_wp2
     go_roundw
     case rel => exact ⟨i + 1, false, by omega, by go_num, rfl, HG2, HQ2, B3⟩
     case measure => simp [intOf] <;> omega
   ·have BF := HB0.out.trans (B1.mono HB0.out.size)
    go_wp2
    go_ret
    exact ⟨rfl, BF⟩
  ·obtain rfl : i = M := by omega
   have KF := HKF.out.next B1; have nL := HNL.out.next B1
   have B0 := HB0.out.trans (B1.mono HB0.out.size)
   clear B1
   have hl3 : qs.length ≤ 3 := by rw [← HM.out]; exact hM
   have HQ4 := Lib.hid (show ∀ j, j < qs.length → (qs.getD j []).length ≤ 4 from fun j hj => HQ.out j (by rw [HM.out]; exact hj))
   have HQ60 := Lib.hid (show ∀ j, j < qs.length → (qs.getD j []).length ≤ 60 from fun j hj => Nat.le_trans (HQ4.out j hj) (by decide))
   by_cases hb : ∃ j, j < qs.length ∧ ¬ Gd p (qs.getD j [])
   ·have HB := Lib.hid hb; clear hb
    have qKF0 := KF.cell 0
    go_wp2_with fail
    refine (fb_Blocks_no p _ qs _ HP.out HT.out nL hl3 HQ60.out HB.out).mono ?_; rintro e w4 ⟨rfl, b4⟩
    clear qKF0
    replace KF := KF.next b4
    replace nL := nL.next b4
    replace B0 := B0.trans (b4.mono B0.size)
    clear b4
    obtain ⟨w5, e5, KM, b5, hs5⟩ := boxes1 w4 63 [.int .i64 0, .int .i64 0, .slice none 0 0]
    clear hs5
    replace KF := KF.next b5
    replace nL := nL.next b5
    replace B0 := B0.trans (b5.mono B0.size)
    clear b5
    go_upto_region 12 with (fail)
    rw [← e5]
    clear e5
    go_wp2_with fail
    refine (law25_plain _ qs _ nL (by omega)).mono ?_; rintro e w6 ⟨rl, rfl, nl, b6⟩
    replace KF := KF.next b6
    replace nL := nL.next b6
    replace KM := KM.next b6
    replace B0 := B0.trans (b6.mono B0.size)
    clear b6
    go_wp2_with fail
    refine (rf25_Degrees_no p _ qs _ HP.out nl hl3 HQ60.out HB.out).mono ?_; rintro e w7 ⟨s, rfl, b7⟩
    replace KF := KF.next b7
    replace nL := nL.next b7
    replace KM := KM.next b7
    replace nl := nl.next b7
    replace B0 := B0.trans (b7.mono B0.size)
    clear b7
    clear nl nL KF
    have qKM0 := KM.cell 0
    have qKM1 := KM.cell 1
    have qKM2 := KM.cell 2
    go_wp2_with fail
    refine (rf21_None none 0 _).mono ?_; rintro e w8 ⟨rfl, b8⟩
    clear qKM0 qKM1 qKM2
    replace KM := KM.next b8
    replace B0 := B0.trans (b8.mono B0.size)
    clear b8
    go_wp2
    go_ret
    exact ⟨rfl, B0⟩
   ·have hG4 : Gd4 p qs := fun j hj => ⟨Classical.byContradiction fun e => hb ⟨j, hj, e⟩, HQ4.out j hj⟩
    obtain ⟨N, eN⟩ : ∃ N, bdm (bls p qs) = N := ⟨_, rfl⟩
    obtain ⟨A, eA⟩ : ∃ A : MT (Zp p) N N, A = MT.of N N (fmE (bls p qs)) := ⟨_, rfl⟩
    obtain ⟨hn9, Φ, hΦ, h0, hF, hE⟩ := blk_pack HP.out HT.out hG4 hl3 N eN A eA
    have MOL := Lib.hid (show MoL p qs from fun j hj => ⟨(hG4 j hj).1.1, (hG4 j hj).1.2, HQ60.out j hj⟩)
    have HPH := Lib.hid hΦ; have HPZ := Lib.hid h0; have HPF := Lib.hid hF; have HPE := Lib.hid hE; have EN := Lib.hid eN; have EA := Lib.hid eA
    have hNN : N * N ≤ 81 := Nat.mul_le_mul hn9 hn9
    have lA := Lib.hid (tbv_length A)
    have wA := Lib.hid (tbv_wf HP.out.pos A)
    clear hb hG4 hΦ h0 hF hE eN eA
    have qKF0 := KF.cell 0
    go_wp2_with fail
    refine (fb_Blocks p N _ qs _ HP.out HT.out nL MOL.out EN.out (by omega)).mono ?_; rintro e w4 ⟨aF, kF, rfl, oF, b4⟩; rw [← EA.out] at oF ⊢
    clear qKF0
    replace KF := KF.next b4
    replace nL := nL.next b4
    replace B0 := B0.trans (b4.mono B0.size)
    clear b4
    have mF : Fm w4 (.agg #[.int .i64 N, .int .i64 N, .slice aF (tbv A).length kF]) N N (tbv A) := ⟨_, rfl, oF.sl⟩
    clear oF
    obtain ⟨w5, e5, KM, b5, hs5⟩ := boxes1 w4 63 [.int .i64 N, .int .i64 N, .slice aF (tbv A).length kF]
    clear hs5
    replace KF := KF.next b5
    replace nL := nL.next b5
    replace mF := mF.next b5
    replace B0 := B0.trans (b5.mono B0.size)
    clear b5
    go_upto_region 12 with (fail)
    rw [← e5]
    clear e5
    go_wp2_with fail
    refine (law25_plain _ qs _ nL (by omega)).mono ?_; rintro e w6 ⟨rl, rfl, nl, b6⟩
    replace KF := KF.next b6
    replace nL := nL.next b6
    replace mF := mF.next b6
    replace KM := KM.next b6
    replace B0 := B0.trans (b6.mono B0.size)
    clear b6
    go_wp2_with fail
    refine (rf25_Degrees p _ qs N _ HP.out nl MOL.out EN.out (by omega)).mono ?_; rintro e w7 ⟨rfl, b7⟩
    replace KF := KF.next b7
    replace nL := nL.next b7
    replace mF := mF.next b7
    replace KM := KM.next b7
    replace nl := nl.next b7
    replace B0 := B0.trans (b7.mono B0.size)
    clear b7
    clear nl
    go_upto_region 15 with (fail)
    have bd := dw w7
    replace KF := KF.next bd
    replace nL := nL.next bd
    replace mF := mF.next bd
    replace KM := KM.next bd
    replace B0 := B0.trans (bd.mono B0.size)
    clear bd
    refine startL (S := (fun w' => Below (w7.drew).heap.size (w7.drew) w')) (by kernel_rfl) (Below.refl _ _) (fun hHeld => ?_)
    refine tk 0 ?_
    refine tk 1 ?_
    refine tk 2 ?_
    refine tg 3 rfl (fun w hS => by have fa := KM.at hS; have f1 := fa 0; have f2 := fa 1; have f3 := fa 2; clear fa; go_simp <;> with_reducible rfl) ?_
    refine tk 4 ?_
    refine tk 6 ?_
    refine tk 7 ?_
    refine tk 9 ?_
    refine on 5 fun K hK => ?_
    go_simp
    go_at_call 46
    (with_reducible refine (law25_plain _ qs _ (nL.next hHeld) (by omega)).mono ?_); rintro e y1 ⟨rl2, rfl, nl2, c1⟩
    refine hK.out _ _ (hHeld.trans (c1.mono hHeld.size)) (fun hHeld => ?_)
    clear hK K
    try simp only [Act.put, zq1, zq2, zq3]
    refine on 8 fun K hK => ?_
    go_simp
    go_at_call 49
    (with_reducible refine (rf25_Form p _ qs N _ HP.out nl2 MOL.out (by omega) (by omega)).mono ?_); rintro e y2 ⟨a2, k2, rfl, o2, c2⟩; rw [← EA.out] at o2 ⊢
    have m2 : Fm y2 (.agg #[.int .i64 N, .int .i64 N, .slice a2 (tbv A).length k2]) N N (tbv A) := ⟨_, rfl, o2.sl⟩
    refine hK.out _ _ (hHeld.trans (c2.mono hHeld.size)) (fun hHeld => ?_)
    clear hK K
    try simp only [Act.put, zq1, zq2, zq3]
    refine on 10 fun K hK => ?_
    go_simp
    go_at_call 48
    (with_reducible refine (rf21_Is _ _ N N p (tbv A) (tbv A) _ (by omega) (mF.next hHeld) m2 (Fd.of (by omega) (by omega) lA.out) wA.out rfl (fun _ _ => rfl) (by rw [lA.out]; omega)).mono ?_); rintro e y3 ⟨rfl, c3⟩
    clear m2 o2 nl2
    refine hK.out _ _ (hHeld.trans (c3.mono hHeld.size)) (fun hHeld => ?_)
    clear hK K
    try simp only [Act.put, zq1, zq2, zq3]
    refine tk 11 ?_
    refine tk 12 ?_
    refine doneL (by kernel_rfl) ?_ _
    replace KF := KF.next hHeld
    replace nL := nL.next hHeld
    replace mF := mF.next hHeld
    replace KM := KM.next hHeld
    replace B0 := B0.trans (hHeld.mono B0.size)
    clear hHeld c1 c2 c3
    go_upto_region 17 with (fail)
    have qKF0 := KF.cell 0
    have qKM0 := KM.cell 0
    have qKM1 := KM.cell 1
    have qKM2 := KM.cell 2
    go_wp2_with fail
    refine (fb_InvariantsP p _ N (tbv A) _ HP.out HT.out mF hn9 lA.out (LF := 66600) (by omega) (by omega) (by rw [mx_tbv]; exact HPH.out) (by rw [mx_tbv]; exact HPZ.out) HPF.out).mono ?_; rintro e w8 ⟨W, U, V, X, h0, h1, h2, h3, h4, h5, iv, us, rfl, QI, b8⟩; rw [mx_tbv] at h1
    clear qKF0 qKM0 qKM1 qKM2
    replace KF := KF.next b8
    replace nL := nL.next b8
    replace mF := mF.next b8
    replace KM := KM.next b8
    replace B0 := B0.trans (b8.mono B0.size)
    clear b8
    obtain ⟨zz, zl, nz, hz⟩ := QI.ns HP.out
    have hIv : IvL N W zz := ⟨zl, fun j hj => ⟨(hz j hj).1, (hz j hj).2.1⟩⟩
    have HB := Lib.hid (show ∀ j, j < zz.length → (zz.getD j []).length ≤ 66600 from fun j hj => (hz j (by omega)).2.2)
    have HND := Lib.hid (fun hc => HPE.out W U V X h0 ⟨h1, h2, h3, h4, h5⟩ hc zz hIv)
    clear h0 h1 h2 h3 h4 h5 hIv hz QI us zl mF KM
    obtain ⟨a1, c1, rfl⟩ := nz.slice
    cases γ with
    | true =>
     obtain ⟨e1, e2⟩ := HND.out fun j hj => HG.out.1 rfl j (by rw [HM.out]; exact hj)
     have ezi : zz.length = i := by rw [e1, HM.out]
     have HZI := Lib.hid ezi
     have HE := Lib.hid (show ∀ j, j < i → nl p (zz.getD j []) = nl p (qs.getD j []) from fun j hj => pl_inj HP.out.pos (nl_nrm HP.out.pos _) (nl_nrm HP.out.pos _) (by rw [nl_pl, nl_pl]; exact e2 j (by rw [← HM.out]; exact hj)))
     rw [ezi] at nz ⊢
     clear e1 e2 ezi
     have HNZ := Lib.hid nz; have HNL := Lib.hid nL; have HKF := Lib.hid KF; have HB0 := Lib.hid B0
     clear nz nL KF B0
     go_wp2
     go_loopw [15] (fun jv wr => ∃ k : Nat, k ≤ i ∧ jv = .int .i64 k ∧ Below w8.heap.size w8 wr) (fun jv _ => i - (intOf jv).toNat)
     case atStart => exact ⟨0, by omega, rfl, Below.refl _ _⟩
     case round =>
      obtain ⟨k, hk, rfl, B2⟩ := hrel
      by_cases hki : k < i
      ·obtain ⟨b1, o1, ak1, ck1, rfl, lb1, qz1, sz1⟩ := (HNZ.out.next B2).get HZI.out.symm hki
       obtain ⟨b2, o2, ak2, ck2, rfl, lb2, qz2, sz2⟩ := (HNL.out.next B2).get HM.out hki
       have hl1 := HB.out k (by rw [HZI.out]; exact hki)
       have hl2 := HQ4.out k (by rw [← HM.out]; exact hki)
       have hnl := HE.out k hki
       obtain ⟨z1, ez1⟩ : ∃ z, z = zz.getD k [] := ⟨_, rfl⟩
       obtain ⟨z2, ez2⟩ : ∃ z, z = qs.getD k [] := ⟨_, rfl⟩
       rw [← ez1] at qz1 sz1 hl1 hnl
       rw [← ez2] at qz2 sz2 hl2 hnl
       have HNLQ := Lib.hid hnl
       clear ez1 ez2 hnl
       have hge : decide (i ≤ k) = false := decide_eq_false (by omega)
       go_upto_region 21 with (fail)
       have bd := dw wr
       have KF := (HKF.out.next B2).next bd
       replace sz1 := sz1.next bd; replace sz2 := sz2.next bd
       replace qz1 := (bd.cell (p := ⟨b1, o1 + k, none⟩) lb1).trans qz1
       replace qz2 := (bd.cell (p := ⟨b2, o2 + k, none⟩) lb2).trans qz2
       replace lb1 : b1 < wr.drew.heap.size := lb1
       replace lb2 : b2 < wr.drew.heap.size := lb2
       replace B2 := B2.trans (bd.mono B2.size)
       clear bd
       have zF0 := Lib.hid fun (w : World) (hS : Below (wr.drew).heap.size (wr.drew) w) => And.intro ((KF.at hS) 0) (And.intro ((hS.cell (p := ⟨b1, o1 + k, none⟩) lb1).trans qz1) ((hS.cell (p := ⟨b2, o2 + k, none⟩) lb2).trans qz2))
       refine startL (S := (fun w' => Below (wr.drew).heap.size (wr.drew) w')) (by kernel_rfl) (Below.refl _ _) (fun hHeld => ?_)
       refine tk 0 ?_
       refine tk 1 ?_
       refine tk 2 ?_
       refine tk 3 ?_
       refine tk 4 ?_
       refine tf 5 zF0.out ?_
       refine tk 6 ?_
       refine tk 7 ?_
       refine tk 8 ?_
       refine tf 9 zF0.out ?_
       refine tk 10 ?_
       refine tk 11 ?_
       refine tk 12 ?_
       refine tf 13 zF0.out ?_
       refine on 14 fun K hK => ?_
       go_simp
       go_at_call 51
       (with_reducible refine (fp_Same p _ _ z1 z2 true _ HP.out (sz1.next hHeld) (sz2.next hHeld) (by omega) (by omega) (decide_eq_true HNLQ.out).symm).mono ?_); rintro e y5 ⟨rfl, c5⟩
       refine hK.out _ _ (hHeld.trans (c5.mono hHeld.size)) (fun hHeld => ?_)
       clear hK K
       try simp only [Act.put, zq1, zq2, zq3]
       refine tk 15 ?_
       refine tk 16 ?_
       clear zF0; refine doneL (by kernel_rfl) ?_ _
       have B3 := B2.trans (hHeld.mono B2.size)
       clear hHeld B2 KF sz1 qz1 sz2 qz2 lb1 lb2 hl1 hl2 hge
       go_wp2
       go_roundw
       case rel => exact ⟨k + 1, by omega, by go_num, B3⟩
       case measure => simp [intOf] <;> omega
      ·obtain rfl : k = i := by omega
       have BF := HB0.out.trans (B2.mono HB0.out.size)
       go_wp2
       go_ret
       exact ⟨rfl, BF⟩
    | false =>
     have HB0 := Lib.hid B0
     clear nz nL KF B0
     go_wp2
     go_loopw [15] (fun jv wr => jv = .int .i64 0 ∧ Below w8.heap.size w8 wr) (fun _ _ => 0)
     case atStart => exact ⟨rfl, Below.refl _ _⟩
     case round =>
      obtain ⟨rfl, B2⟩ := hrel
      have BF := HB0.out.trans (B2.mono HB0.out.size)
      by_cases hki : (0 : Int) < (i : Int)
      ·go_wp2
       go_ret
       exact ⟨rfl, BF⟩
      ·go_wp2
       go_ret
       exact ⟨rfl, BF⟩
theorem walk (x0 : Nat) (v : Value) (qs : List (List Nat)) (w : World) (nL : Ns w v qs) : Calls Try.prog 9 #[.int .u8 x0, v] w (LawOk w) := by
 by_cases hf : qs.length ≤ 3
 ·exact good x0 v qs w nL hf
 ·exact not_few x0 v qs w nL hf
set_option maxRecDepth 100000 in
theorem lifted (os : Os) (started : os.Started) (H : Type) (enc : TypeId × Value → H) :
  ReturnsInHanded {} Try.checked os 9 .any (Rows.frobBlocksSpec.pre6 enc Try.prog Try.f9 Rows.frobBlocksRow.domain false) (Rows.frobBlocksSpec.post enc Try.prog Try.f9 false true false false) := by
 refine returnsInHanded_of_change (C := Try.checked) own started (by kernel_rfl) Try.func9
  (ChangeSpec.witness6 (enc := enc) (C := Try.checked) false ⟨#[], #[.int .u8 0, .slice none 0 0], []⟩ 8 (by kernel_rfl) (by kernel_rfl) (by kernel_rfl) (by kernel_rfl)) ?_
 intro W base args ds gs before hval0 hW hcnd _
 have hval : ∀ (j : Nat) t v, Try.f9.params[j]? = some t → args[j]? = some v → Value.okWide Try.prog W .any base t v := hval0
 have hW' := hW
 obtain ⟨p, q, hA0, hV, rfl, hfz, hnd⟩ := hW
 have hA : DataW.TrodAll enc Try.prog W 0 (fun _ => true) true Try.f9.params.toList args.toList ds p := hA0
 rw [Try.params9] at hA hval
 obtain ⟨v0, vs0, d0, ds0, p0, q0, hargs, rfl, rfl, h0, r0⟩ := trodAll_cons hA
 obtain ⟨v1, vs1, d1, ds1, p1, q1, rfl, rfl, rfl, h1, r1⟩ := trodAll_cons r0
 obtain ⟨rfl, rfl, rfl⟩ := trodAll_nil r1
 obtain rfl : args = #[v0, v1] := by cases args; simp_all
 obtain ⟨rfl, rfl⟩ := trodVars_none hV
 have k0 := h0
 have lt0 : ∀ x ∈ p0, x.block < W.heap.size := by obtain ⟨m, hm⟩ := k0; exact DataW.trod_lt m _ _ _ hm
 obtain ⟨i0, rfl, rfl, rfl, wi0⟩ := open_int Try.underlying5 (hval 0 5 v0 rfl rfl) h0
 obtain ⟨x0, rfl⟩ := Int.eq_ofNat_of_zero_le (wf_u8_bounds wi0).1
 have k1 := h1
 have lt1 : ∀ x ∈ p1, x.block < W.heap.size := by obtain ⟨m, hm⟩ := k1; exact DataW.trod_lt m _ _ _ hm
 obtain ⟨x1, s1⟩ := open_ns Try.underlying22 Try.underlying43 Try.underlying27 (by kernel_rfl) (by kernel_rfl) (hval 1 22 v1 rfl rfl) h1
 clear hA0 hval0
 refine (walk x0 v1 x1 W  s1).mono fun e W' ⟨he, bel⟩ => ?_
 subst he
 exact ⟨_, rfl, _, _, _, [], _, [], hW', trodAll_mk1 (shut_bool Try.underlying4 _), (trodAll_cons_mk (Below.trod laidOut (by kernel_rfl) (of_decide_eq_true (by kernel_rfl)) k0 bel lt0) (trodAll_cons_mk (Below.trod laidOut (by kernel_rfl) (of_decide_eq_true (by kernel_rfl)) k1 bel lt1) trodAll_mk0)), rfl, bel.frame _, fun h => by cases h⟩
theorem over : Rows.frobBlocksRow.holds Try.pinned (OpenSpec.ofChange Rows.frobBlocksSpec) :=
 OpenClaim.holds_of_wide 9 Try.f9 rfl rfl rfl rfl rfl rfl rfl ⟨rfl, rfl, rfl, rfl, rfl⟩ rfl rfl rfl rfl rfl (by kernel_rfl) Try.func9 (by kernel_rfl)
  (of_decide_eq_true (by kernel_rfl)) (by unfold Func.isWrapper; first | (rw [if_pos (by decide +kernel)]; kernel_rfl) | (rw [if_neg (by decide +kernel)]; exact ⟨rfl, rfl⟩))
  (fun os started H enc _ => lifted os started H enc)
theorem proved : Rows.FrobBlocksSaid := over
#print axioms proved
end Go.Proofs.Ytkmfhabgempjiaa.frobBlocks
