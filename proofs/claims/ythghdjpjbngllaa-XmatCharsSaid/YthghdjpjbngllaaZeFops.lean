/- Package fmat: Norm, Identity, Add, Scale, Mul, Transpose. -/
import Derived.Test.YthghdjpjbngllaaZeFclo
namespace Go.Proofs.Ythghdjpjbngllaa
open Go.RowKit

/-- A matrix and OK are returned. -/
def RetFE (p : Nat) (w : World) (r c : Nat) (M : MT (Zp p) r c) (e : Ending) (w' : World) : Prop :=
  ∃ ao k, e = .returned (.tuple #[.agg #[.int .i64 r, .int .i64 c, .slice ao (tbv M).length k], .int .i64 0]) ∧ Own .u64 27 w' w.heap.size (.slice ao (tbv M).length k) (tbv M) ∧ Below w.heap.size w w'
/-- An error and a zero matrix are returned. -/
def RetFX (w : World) (ec : Int) (e : Ending) (w' : World) : Prop := e = .returned (.tuple #[.agg #[.int .i64 0, .int .i64 0, .slice none 0 0], .int .i64 ec]) ∧ Below w.heap.size w w'

theorem fm_Norm (p : Nat) (a : Value) (r c : Nat) (xs : List Nat) (w : World) (hp : FP p) (hA : Fm w a r c xs) (hr : r ≤ 64) (hc : c ≤ 64) (hx : xs.length = r * c) :
    Calls Try.prog 121 #[.agg #[.int .u64 p], a] w (RetFE p w r c (mx p r c xs)) := by
  obtain ⟨aA, cA, rfl⟩ := hA.agg
  obtain ⟨wb, ew, KF, KA, KR, B0, hsz⟩ := boxes3 w 29 42 42 [.int .u64 p] [.int .i64 r, .int .i64 c, .slice aA xs.length cA] [.int .i64 0, .int .i64 0, .slice none 0 0]
  clear hsz
  replace hA := hA.next B0
  have HX := Lib.hid hx; clear hx
  have HP := Lib.hid hp; clear hp
  obtain ⟨M, eM⟩ : ∃ M, M = mx p r c xs := ⟨_, rfl⟩
  rw [← eM]
  have EM := Lib.hid (show M = MT.of r c fun i k => Zp.of p (xs.getD (i * c + k) 0) from eM); clear eM
  go_enter Try.func121, Try.ntmps121
  go_wp2_with fail
  rw [← ew]
  obtain ⟨g, eg⟩ : ∃ g, g = w.heap.size + 1 + 1 := ⟨_, rfl⟩
  rw [← eg] at KR ⊢
  have hgw : w.heap.size ≤ g := by omega
  clear ew eg
  refine (fm_Formed_yes _ r c xs _ hA (Fd.of hr hc HX.out)).mono ?_; rintro e w2 ⟨rfl, b2⟩
  replace hA := hA.next b2; replace KF := KF.next b2; replace KA := KA.next b2; replace KR := KR.next b2
  replace B0 := B0.trans (b2.mono B0.size)
  clear b2
  have fKF0 := KF.cell 0; have fKA0 := KA.cell 0; have fKA1 := KA.cell 1; have fKA2 := KA.cell 2
  go_wp2_with fail
  refine (fm_madeB p r c HP.out (by omega) (by omega) 97 (enters_of Try.func97 rfl rfl) (.agg #[.int .i64 r, .int .i64 c, .slice aA xs.length cA]) (fun i k => xs.getD (i * c + k) 0) _ (fun i k w' hi hk hb =>
    fm_get _ r c i k xs w' (hA.next hb) (by omega) (by omega) (by omega) (at_lt HX.out hi hk) _ rfl)).mono ?_; rintro e w3 ⟨a3, k3, rfl, o3, b3⟩
  clear fKF0 fKA0 fKA1 fKA2
  clear KF KA hA
  rw [← EM.out] at o3 ⊢
  have hgb := KR.lt
  replace KR := KR.next b3
  replace B0 := B0.trans (b3.mono B0.size)
  clear b3
  have f0 := KR.free 0; have f1 := KR.free 1; have f2 := KR.free 2
  have c0 := KR.cell 0; have c1 := KR.cell 1; have c2 := KR.cell 2
  have KF := ((KR.set 0 (.int .i64 (r : Nat))).set 1 (.int .i64 (c : Nat))).set 2 (.slice a3 (tbv M).length k3)
  have d0 := KF.cell 0; have d1 := KF.cell 1; have d2 := KF.cell 2
  have of := ((o3.low (a := ⟨g, 0, none⟩) hgb (.int .i64 (r : Nat))).low (a := ⟨g, 1, none⟩) hgb (.int .i64 (c : Nat))).low (a := ⟨g, 2, none⟩) hgb (.slice a3 (tbv M).length k3)
  have BF := ((B0.setCell (p := ⟨g, 0, none⟩) hgw (.int .i64 (r : Nat))).setCell (p := ⟨g, 1, none⟩) hgw (.int .i64 (c : Nat))).setCell (p := ⟨g, 2, none⟩) hgw (.slice a3 (tbv M).length k3)
  have FR := Lib.hid (show RetFE p w r c M (.returned (.tuple #[.agg #[.int .i64 (r : Nat), .int .i64 (c : Nat), .slice a3 (tbv M).length k3], .int .i64 0])) (((w3.setCell ⟨g, 0, none⟩ (.int .i64 (r : Nat))).setCell ⟨g, 1, none⟩ (.int .i64 (c : Nat))).setCell ⟨g, 2, none⟩ (.slice a3 (tbv M).length k3)) from ⟨_, _, rfl, of.mono (by omega), BF⟩)
  clear KF KR of BF B0 o3
  go_wp2
  exact bodyPost_ret (v := .tuple #[.agg #[.int .i64 (r : Nat), .int .i64 (c : Nat), .slice a3 (tbv M).length k3], .int .i64 0]) (by simp [results, Try.results121, go_sem, d0, d1, d2]) rfl FR.out
theorem fm_Identity (p n : Nat) (w : World) (hp : FP p) (hn : n ≤ 64) :
    Calls Try.prog 109 #[.agg #[.int .u64 p], .int .i64 n] w (RetFE p w n n (MT.one n)) := by
  obtain ⟨wb, ew, KF, KR, B0, hsz⟩ := boxes2 w 29 42 [.int .u64 p] [.int .i64 0, .int .i64 0, .slice none 0 0]
  clear hsz
  have HP := Lib.hid hp; clear hp
  obtain ⟨M, eM⟩ : ∃ M, M = (MT.one n : MT (Zp p) n n) := ⟨_, rfl⟩
  rw [← eM]
  have EM := Lib.hid (show M = MT.of n n fun i k => Zp.of p (if i = k then 1 else 0) from by
    rw [eM]; unfold MT.one one1; exact MT.of_congr fun i k _ _ => by split <;> rfl)
  clear eM
  go_enter Try.func109, Try.ntmps109
  go_wp2_with fail
  rw [← ew]
  obtain ⟨g, eg⟩ : ∃ g, g = w.heap.size + 1 := ⟨_, rfl⟩
  rw [← eg] at KR ⊢
  have hgw : w.heap.size ≤ g := by omega
  clear ew eg
  refine (fm_side_yes _ _ ⟨by omega, by omega⟩).mono ?_; rintro e w2 ⟨rfl, rfl⟩
  have fKF0 := KF.cell 0
  go_wp2_with fail
  refine (fm_made p n n HP.out (by omega) (by omega) 133 (enters_of Try.func133 rfl rfl) [] (fun i k => if i = k then 1 else 0) _ (fun i k w' hi hk hb =>
    fm_one i k w')).mono ?_; rintro e w3 ⟨a3, k3, rfl, o3, b3⟩
  clear fKF0
  clear KF
  rw [← EM.out] at o3 ⊢
  have hgb := KR.lt
  replace KR := KR.next b3
  replace B0 := B0.trans (b3.mono B0.size)
  clear b3
  have f0 := KR.free 0; have f1 := KR.free 1; have f2 := KR.free 2
  have c0 := KR.cell 0; have c1 := KR.cell 1; have c2 := KR.cell 2
  have KF := ((KR.set 0 (.int .i64 (n : Nat))).set 1 (.int .i64 (n : Nat))).set 2 (.slice a3 (tbv M).length k3)
  have d0 := KF.cell 0; have d1 := KF.cell 1; have d2 := KF.cell 2
  have of := ((o3.low (a := ⟨g, 0, none⟩) hgb (.int .i64 (n : Nat))).low (a := ⟨g, 1, none⟩) hgb (.int .i64 (n : Nat))).low (a := ⟨g, 2, none⟩) hgb (.slice a3 (tbv M).length k3)
  have BF := ((B0.setCell (p := ⟨g, 0, none⟩) hgw (.int .i64 (n : Nat))).setCell (p := ⟨g, 1, none⟩) hgw (.int .i64 (n : Nat))).setCell (p := ⟨g, 2, none⟩) hgw (.slice a3 (tbv M).length k3)
  have FR := Lib.hid (show RetFE p w n n M (.returned (.tuple #[.agg #[.int .i64 (n : Nat), .int .i64 (n : Nat), .slice a3 (tbv M).length k3], .int .i64 0])) (((w3.setCell ⟨g, 0, none⟩ (.int .i64 (n : Nat))).setCell ⟨g, 1, none⟩ (.int .i64 (n : Nat))).setCell ⟨g, 2, none⟩ (.slice a3 (tbv M).length k3)) from ⟨_, _, rfl, of.mono (by omega), BF⟩)
  clear KF KR of BF B0 o3
  go_wp2
  exact bodyPost_ret (v := .tuple #[.agg #[.int .i64 (n : Nat), .int .i64 (n : Nat), .slice a3 (tbv M).length k3], .int .i64 0]) (by simp [results, Try.results109, go_sem, d0, d1, d2]) rfl FR.out
theorem fm_Mul (p : Nat) (a b : Value) (r m c : Nat) (xs ys : List Nat) (w : World) (hp : FP p) (hA : Fm w a r m xs) (hB : Fm w b m c ys) (hr : r ≤ 64) (hm : m ≤ 64) (hc : c ≤ 64) (hx : xs.length = r * m) (hy : ys.length = m * c) :
    Calls Try.prog 37 #[.agg #[.int .u64 p], a, b] w (RetFE p w r c (mx p r m xs * mx p m c ys)) := by
  obtain ⟨aA, cA, rfl⟩ := hA.agg
  obtain ⟨aB, cB, rfl⟩ := hB.agg
  obtain ⟨wb, ew, KF, KA, KB, KR, B0, hsz⟩ := boxes4 w 29 42 42 42 [.int .u64 p] [.int .i64 r, .int .i64 m, .slice aA xs.length cA] [.int .i64 m, .int .i64 c, .slice aB ys.length cB] [.int .i64 0, .int .i64 0, .slice none 0 0]
  clear hsz
  replace hA := hA.next B0; replace hB := hB.next B0
  have HX := Lib.hid hx; have HY := Lib.hid hy; clear hx hy
  have HP := Lib.hid hp; clear hp
  obtain ⟨M, eM⟩ : ∃ M, M = mx p r m xs * mx p m c ys := ⟨_, rfl⟩
  rw [← eM]
  have HZ := Lib.hid (show ∀ i k, i < r → k < c → (M.e i k).val = (dotp p xs ys m c i k m).val from fun i k hi hk => by
    rw [eM, MT.e_mul]; unfold dotp; rw [sm_congr fun j hj => by rw [mx_e _ hi hj, mx_e _ hj hk]])
  have EM := Lib.hid (mt_val M).symm
  clear eM
  have hmm : ((m : Int) != (m : Int)) = false := by simp
  go_enter Try.func37, Try.ntmps37
  go_wp2_with fail
  rw [← ew]
  obtain ⟨g, eg⟩ : ∃ g, g = w.heap.size + 1 + 1 + 1 := ⟨_, rfl⟩
  rw [← eg] at KR ⊢
  have hgw : w.heap.size ≤ g := by omega
  clear ew eg
  refine (fm_Formed_yes _ r m xs _ hA (Fd.of hr hm HX.out)).mono ?_; rintro e w2 ⟨rfl, b2⟩
  replace hA := hA.next b2; replace hB := hB.next b2; replace KF := KF.next b2; replace KA := KA.next b2; replace KB := KB.next b2; replace KR := KR.next b2
  replace B0 := B0.trans (b2.mono B0.size)
  clear b2
  have fKB0 := KB.cell 0; have fKB1 := KB.cell 1; have fKB2 := KB.cell 2
  go_wp2_with fail
  refine (fm_Formed_yes _ m c ys _ hB (Fd.of hm hc HY.out)).mono ?_; rintro e w4 ⟨rfl, b4⟩
  replace hA := hA.next b4; replace hB := hB.next b4; replace KF := KF.next b4; replace KA := KA.next b4; replace KB := KB.next b4; replace KR := KR.next b4
  replace B0 := B0.trans (b4.mono B0.size)
  clear b4
  clear fKB0 fKB1 fKB2
  have fKF0 := KF.cell 0; have fKA0 := KA.cell 0; have fKA1 := KA.cell 1; have fKB0 := KB.cell 0; have fKB1 := KB.cell 1
  go_wp2_with fail
  refine (fm_made p r c HP.out (by omega) (by omega) 94 (enters_of Try.func94 rfl rfl) [.pointer (some ⟨w.heap.size + 1, 0, none⟩), .pointer (some ⟨w.heap.size, 0, none⟩), .pointer (some ⟨w.heap.size + 1 + 1, 0, none⟩)] (fun i k => (M.e i k).val) _ (fun i k w' hi hk hb =>
    fm_Mul1 p i k w' HP.out (by omega) (by omega) r m m c xs ys _ (KF.next hb) _ _ _ (KA.next hb) (hA.next hb) _ _ _ (KB.next hb) (hB.next hb) hm (by omega) (fun j hj => at_lt HX.out hi hj) (fun j hj => at_lt HY.out hj hk) _ (HZ.out i k hi hk))).mono ?_; rintro e w3 ⟨a3, k3, rfl, o3, b3⟩
  clear fKF0 fKA0 fKA1 fKB0 fKB1
  clear KF KA KB hA hB
  rw [← EM.out] at o3 ⊢
  have hgb := KR.lt
  replace KR := KR.next b3
  replace B0 := B0.trans (b3.mono B0.size)
  clear b3
  have f0 := KR.free 0; have f1 := KR.free 1; have f2 := KR.free 2
  have c0 := KR.cell 0; have c1 := KR.cell 1; have c2 := KR.cell 2
  have KF := ((KR.set 0 (.int .i64 (r : Nat))).set 1 (.int .i64 (c : Nat))).set 2 (.slice a3 (tbv M).length k3)
  have d0 := KF.cell 0; have d1 := KF.cell 1; have d2 := KF.cell 2
  have of := ((o3.low (a := ⟨g, 0, none⟩) hgb (.int .i64 (r : Nat))).low (a := ⟨g, 1, none⟩) hgb (.int .i64 (c : Nat))).low (a := ⟨g, 2, none⟩) hgb (.slice a3 (tbv M).length k3)
  have BF := ((B0.setCell (p := ⟨g, 0, none⟩) hgw (.int .i64 (r : Nat))).setCell (p := ⟨g, 1, none⟩) hgw (.int .i64 (c : Nat))).setCell (p := ⟨g, 2, none⟩) hgw (.slice a3 (tbv M).length k3)
  have FR := Lib.hid (show RetFE p w r c M (.returned (.tuple #[.agg #[.int .i64 (r : Nat), .int .i64 (c : Nat), .slice a3 (tbv M).length k3], .int .i64 0])) (((w3.setCell ⟨g, 0, none⟩ (.int .i64 (r : Nat))).setCell ⟨g, 1, none⟩ (.int .i64 (c : Nat))).setCell ⟨g, 2, none⟩ (.slice a3 (tbv M).length k3)) from ⟨_, _, rfl, of.mono (by omega), BF⟩)
  clear KF KR of BF B0 o3
  go_wp2
  exact bodyPost_ret (v := .tuple #[.agg #[.int .i64 (r : Nat), .int .i64 (c : Nat), .slice a3 (tbv M).length k3], .int .i64 0]) (by simp [results, Try.results37, go_sem, d0, d1, d2]) rfl FR.out

end Go.Proofs.Ythghdjpjbngllaa
