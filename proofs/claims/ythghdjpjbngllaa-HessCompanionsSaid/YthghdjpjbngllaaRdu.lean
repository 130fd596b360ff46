/- fmat.Reduce. -/
import Derived.Test.YthghdjpjbngllaaSol2
namespace Go.Proofs.Ythghdjpjbngllaa
open Go.RowKit


set_option maxRecDepth 20000 in
theorem reduce1 (p n N i k base gP gW : Nat) (rv pv : Value) (vs : List Value) (W : Nat → Nat → Zp p) (P : List Nat) (d : Zp p) (w : World) (hi : i < n) (hk : k < N)
    (KP : Blk 123 w gP [.pointer (some ⟨gW, 0, none⟩)]) (hW : Wk p w base gW n N W P d rv pv vs) :
    Calls Try.prog 120 #[.int .i64 i, .int .i64 k, .pointer (some ⟨gP, 0, none⟩)] w (RetW w (.int .u64 ((W i k).val : Nat))) := by
  have q0 : w.cell? ⟨gP, 0, none⟩ = some (.pointer (some ⟨gW, 0, none⟩)) := KP.cell 0
  obtain ⟨g, cg, b, o, cap, rfl, hcg, hlg, qh, hcap, hlb, qr⟩ := hW.rows.atR hi (by omega)
  have q1 : w.cell? ⟨gW, 1, none⟩ = some (.slice (some ⟨g, 0, none⟩) n cg) := hW.blk.cell 1
  have q4 := qr k hk
  obtain ⟨x, ex⟩ : ∃ x, x = (W i k).val := ⟨_, rfl⟩
  rw [← ex] at q4 ⊢
  clear ex qr hW KP
  go_enter Try.func120, Try.ntmps120
  go_wp2
  go_ret
  exact ⟨rfl, Below.refl _ _⟩

/-- What Reduce returns: the reduced rows and the pivots. -/
def RetRdu (p : Nat) (w : World) (n C : Nat) (A : MT (Zp p) n C) (e : Ending) (w' : World) : Prop :=
  ∃ (ao pa : Option Addr) (k pc : Nat) (W : Nat → Nat → Zp p) (P : List Nat) (d : Zp p) (M : MT (Zp p) n C), e = .returned (.tuple #[.agg #[.int .i64 n, .int .i64 C, .slice ao (tbv M).length k], .slice pa P.length pc, .int .i64 0]) ∧
    RedF n (C + 0) C (beside C A.e (mx p n 0 []).e) W P d ∧ M = MT.of n C W ∧ Own .u64 27 w' w.heap.size (.slice ao (tbv M).length k) (tbv M) ∧ Sl .i64 w' (.slice pa P.length pc) P ∧ Below w.heap.size w w'

set_option maxRecDepth 20000 in
set_option maxHeartbeats 4000000 in
theorem fm_Reduce (p : Nat) (a : Value) (n C : Nat) (xs : List Nat) (w : World) (hp : FP p) (ht : Trial p) (hA : Fm w a n C xs) (hn : n ≤ 64) (hC : C ≤ 64) (hx : xs.length = n * C) :
    Calls Try.prog 68 #[.agg #[.int .u64 p], a] w (RetRdu p w n C (mx p n C xs)) := by
  obtain ⟨aA, cA, rfl⟩ := hA.agg
  obtain ⟨wb, ew, KF, KA, KR, B0, hsz⟩ := boxes3 w 29 42 42 [.int .u64 p] [.int .i64 n, .int .i64 C, .slice aA xs.length cA] [.int .i64 0, .int .i64 0, .slice none 0 0]
  clear hsz
  have HP := Lib.hid hp; have HT := Lib.hid ht; clear hp ht
  replace hA := hA.next B0
  have HX := Lib.hid hx; clear hx
  obtain ⟨A, eA⟩ : ∃ A, A = mx p n C xs := ⟨_, rfl⟩
  rw [← eA]
  have EA := Lib.hid eA; clear eA
  go_enter Try.func68, Try.ntmps68
  go_upto_region 1 with (fail)
  rw [← ew]
  obtain ⟨g, eg⟩ : ∃ g, g = w.heap.size := ⟨_, rfl⟩
  rw [← eg] at KF KA KR ⊢
  have hgw : w.heap.size ≤ g := by omega
  clear ew eg
  have f0 := KF.cell 0; have f1 := KA.cell 0; have f2 := KA.cell 1; have f3 := KA.cell 2
  go_wp2_with fail
  refine (fm_Formed_yes _ n C xs _ hA (Fd.of hn hC HX.out)).mono ?_; rintro e w2 ⟨rfl, b2⟩
  clear f0 f1 f2 f3
  replace hA := hA.next b2; replace KF := KF.next b2; replace KA := KA.next b2; replace KR := KR.next b2
  replace B0 := B0.trans (b2.mono B0.size)
  have f0 := KF.cell 0; have f1 := KA.cell 0; have f2 := KA.cell 1; have f3 := KA.cell 2
  have hB : Fm w2 (.agg #[.int .i64 n, .int .i64 (0 : Nat), .slice none 0 0]) n (0 : Nat) [] := ⟨_, rfl, Sl.nil _ _⟩
  go_wp2_with fail
  refine (fw_reduced p _ (.agg #[.int .i64 n, .int .i64 (0 : Nat), .slice none 0 0]) n C 0 xs [] _ HP.out HT.out hA hB hn hC (by omega) HX.out (by simp)).mono ?_; rintro e w4 ⟨gW, W, P, d, rv, pv, vs, rfl, hW, hr, b4⟩
  clear f0 f1 f2 f3 b2 hB
  rw [← EA.out] at hr
  have HR := Lib.hid hr; clear hr
  have hRb := KR.lt
  have hWb := hW.gw
  replace KF := KF.next b4; replace KA := KA.next b4; replace KR := KR.next b4
  replace B0 := B0.trans (b4.mono B0.size)
  have hgs := b4.size
  clear hA b4
  obtain ⟨w5, ew5, KP, b5, -⟩ := boxes1 w4 123 [.pointer (some ⟨gW, 0, none⟩)]
  go_upto_region 4 with (fail)
  rw [← ew5]
  obtain ⟨gP, egP⟩ : ∃ g, g = w4.heap.size := ⟨_, rfl⟩
  rw [← egP] at KP ⊢
  have hPb : g + 1 + 1 < gP := by omega
  clear ew5
  replace hW := hW.next b5; replace KF := KF.next b5; replace KA := KA.next b5; replace KR := KR.next b5
  replace B0 := B0.trans (b5.mono B0.size)
  clear b5 egP
  obtain ⟨pa, pc, rfl⟩ := hW.piv.sliced
  have bd := Drawn.below (w' := w5.drew) ⟨1, rfl⟩ w5.heap.size
  replace hW := hW.next bd; replace KF := KF.next bd; replace KA := KA.next bd; replace KR := KR.next bd; replace KP := KP.next bd
  replace B0 := B0.trans (bd.mono B0.size)
  clear bd
  refine startL (S := (fun w' => w'.cell? ⟨g, 0, none⟩ = some (.int .u64 (p : Nat)) ∧ w'.cell? ⟨g + 1, 0, none⟩ = some (.int .i64 (n : Nat)) ∧ w'.cell? ⟨g + 1, 1, none⟩ = some (.int .i64 (C : Nat)) ∧ w'.cell? ⟨gP, 0, none⟩ = some (.pointer (some ⟨gW, 0, none⟩)) ∧ w'.cell? ⟨gW, 2, none⟩ = some (.slice pa P.length pc))) (by kernel_rfl) ⟨KF.cell 0, KA.cell 0, KA.cell 1, KP.cell 0, hW.blk.cell 2⟩ (fun hHeld => ?_)
  refine takeL 0 (v := ?_) rfl (by kernel_rfl) (by kernel_rfl) (by kernel_rfl) (fun _ _ _ h => h) ⟨by rfl, ?_⟩ (by assumption) ?_
  rotate_left
  · intro w hS; have f1 := hS.1; have f2 := hS.2.1; have f3 := hS.2.2.1; have f4 := hS.2.2.2.1; have f5 := hS.2.2.2.2; go_simp <;> with_reducible rfl
  simp only [Act.put, List.setIfInBounds_toArray, List.set_cons_zero, List.set_cons_succ]
  refine takeL 1 (v := ?_) rfl (by kernel_rfl) (by kernel_rfl) (by kernel_rfl) (fun _ _ _ h => h) ⟨by rfl, ?_⟩ (by assumption) ?_
  rotate_left
  · intro w hS; go_simp <;> with_reducible rfl
  simp only [Act.put, List.setIfInBounds_toArray, List.set_cons_zero, List.set_cons_succ]
  refine takeL 2 (v := ?_) rfl (by kernel_rfl) (by kernel_rfl) (by kernel_rfl) (fun _ _ _ h => h) ⟨by rfl, ?_⟩ (by assumption) ?_
  rotate_left
  · intro w hS; have f1 := hS.1; have f2 := hS.2.1; have f3 := hS.2.2.1; have f4 := hS.2.2.2.1; have f5 := hS.2.2.2.2; go_simp <;> with_reducible rfl
  simp only [Act.put, List.setIfInBounds_toArray, List.set_cons_zero, List.set_cons_succ]
  refine takeL 3 (v := ?_) rfl (by kernel_rfl) (by kernel_rfl) (by kernel_rfl) (fun _ _ _ h => h) ⟨by rfl, ?_⟩ (by assumption) ?_
  rotate_left
  · intro w hS; go_simp <;> with_reducible rfl
  simp only [Act.put, List.setIfInBounds_toArray, List.set_cons_zero, List.set_cons_succ]
  refine takeL 4 (v := ?_) rfl (by kernel_rfl) (by kernel_rfl) (by kernel_rfl) (fun _ _ _ h => h) ⟨by rfl, ?_⟩ (by assumption) ?_
  rotate_left
  · intro w hS; have f1 := hS.1; have f2 := hS.2.1; have f3 := hS.2.2.1; have f4 := hS.2.2.2.1; have f5 := hS.2.2.2.2; go_simp <;> with_reducible rfl
  simp only [Act.put, List.setIfInBounds_toArray, List.set_cons_zero, List.set_cons_succ]
  refine takeL 7 (v := ?_) rfl (by kernel_rfl) (by kernel_rfl) (by kernel_rfl) (fun _ _ _ h => h) ⟨by rfl, ?_⟩ (by assumption) ?_
  rotate_left
  · intro w hS; have f1 := hS.1; have f2 := hS.2.1; have f3 := hS.2.2.1; have f4 := hS.2.2.2.1; have f5 := hS.2.2.2.2; go_simp <;> with_reducible rfl
  simp only [Act.put, List.setIfInBounds_toArray, List.set_cons_zero, List.set_cons_succ]
  refine takeL 8 (v := ?_) rfl (by kernel_rfl) (by kernel_rfl) (by kernel_rfl) (fun _ _ _ h => h) ⟨by rfl, ?_⟩ (by assumption) ?_
  rotate_left
  · intro w hS; go_simp <;> with_reducible rfl
  simp only [Act.put, List.setIfInBounds_toArray, List.set_cons_zero, List.set_cons_succ]
  refine takeL 9 (v := ?_) rfl (by kernel_rfl) (by kernel_rfl) (by kernel_rfl) (fun _ _ _ h => h) ⟨by rfl, ?_⟩ (by assumption) ?_
  rotate_left
  · intro w hS; go_simp <;> with_reducible rfl
  simp only [Act.put, List.setIfInBounds_toArray, List.set_cons_zero, List.set_cons_succ]
  refine takeL 10 (v := ?_) rfl (by kernel_rfl) (by kernel_rfl) (by kernel_rfl) (fun _ _ _ h => h) ⟨by rfl, ?_⟩ (by assumption) ?_
  rotate_left
  · intro w hS; have f1 := hS.1; have f2 := hS.2.1; have f3 := hS.2.2.1; have f4 := hS.2.2.2.1; have f5 := hS.2.2.2.2; go_simp <;> with_reducible rfl
  simp only [Act.put, List.setIfInBounds_toArray, List.set_cons_zero, List.set_cons_succ]
  refine oneL 5 rfl (by kernel_rfl) (by rfl) (fun K hK => ?_)
  go_simp
  refine hK.out _ _ hHeld (fun hHeld => ?_)
  clear hK K
  try simp only [Act.put, List.setIfInBounds_toArray, List.set_cons_zero, List.set_cons_succ]
  refine oneL 6 rfl (by kernel_rfl) (by rfl) (fun K hK => ?_)
  go_simp
  go_at_call 93
  refine (fm_made p n C HP.out (by omega) (by omega) 120 (enters_of Try.func120 rfl rfl) [.pointer (some ⟨gP, 0, none⟩)] (fun i k => (W i k).val) _ (fun i k w' hi hk hb => reduce1 p n (C + 0) i k _ gP gW rv _ vs W P d w' hi (by omega) (KP.next hb) (hW.next hb))).mono ?_; rintro e w6 ⟨a6, k6, rfl, o6, b6⟩
  obtain ⟨M, eM⟩ : ∃ M, M = MT.of n C fun i k => Zp.of p (W i k).val := ⟨_, rfl⟩
  rw [← eM] at o6 ⊢
  have EM := Lib.hid (show M = MT.of n C W by rw [eM]; exact MT.ext fun i k hi hk => by rw [MT.of_e _ hi hk, MT.of_e _ hi hk, Zp.of_val])
  clear eM
  have KF6 := KF.next b6; have KA6 := KA.next b6; have KP6 := KP.next b6; have hW6 := hW.next b6
  refine hK.out _ _ ⟨KF6.cell 0, KA6.cell 0, KA6.cell 1, KP6.cell 0, hW6.blk.cell 2⟩ (fun hHeld => ?_)
  clear hK K
  try simp only [Act.put, List.setIfInBounds_toArray, List.set_cons_zero, List.set_cons_succ]
  refine oneL 11 rfl (by kernel_rfl) (by rfl) (fun K hK => ?_)
  have q0 := (KR.next b6).cell 0; have q1 := (KR.next b6).cell 1; have q2 := (KR.next b6).cell 2
  have z0 := (KR.next b6).free 0; have z1 := (KR.next b6).free 1; have z2 := (KR.next b6).free 2
  go_simp
  have n1 : g ≠ g + 1 + 1 := by omega
  have n2 : g + 1 ≠ g + 1 + 1 := by omega
  have n3 : gP ≠ g + 1 + 1 := by omega
  have n4 : gW ≠ g + 1 + 1 := by omega
  refine hK.out _ _ ⟨(((KF6.far (a := ⟨g + 1 + 1, 0, none⟩) n1 (.int .i64 n)).far (a := ⟨g + 1 + 1, 1, none⟩) n1 (.int .i64 C)).far (a := ⟨g + 1 + 1, 2, none⟩) n1 (.slice a6 (tbv M).length k6)).cell 0, (((KA6.far (a := ⟨g + 1 + 1, 0, none⟩) n2 (.int .i64 n)).far (a := ⟨g + 1 + 1, 1, none⟩) n2 (.int .i64 C)).far (a := ⟨g + 1 + 1, 2, none⟩) n2 (.slice a6 (tbv M).length k6)).cell 0, (((KA6.far (a := ⟨g + 1 + 1, 0, none⟩) n2 (.int .i64 n)).far (a := ⟨g + 1 + 1, 1, none⟩) n2 (.int .i64 C)).far (a := ⟨g + 1 + 1, 2, none⟩) n2 (.slice a6 (tbv M).length k6)).cell 1, (((KP6.far (a := ⟨g + 1 + 1, 0, none⟩) n3 (.int .i64 n)).far (a := ⟨g + 1 + 1, 1, none⟩) n3 (.int .i64 C)).far (a := ⟨g + 1 + 1, 2, none⟩) n3 (.slice a6 (tbv M).length k6)).cell 0, (((hW6.blk.far (a := ⟨g + 1 + 1, 0, none⟩) n4 (.int .i64 n)).far (a := ⟨g + 1 + 1, 1, none⟩) n4 (.int .i64 C)).far (a := ⟨g + 1 + 1, 2, none⟩) n4 (.slice a6 (tbv M).length k6)).cell 2⟩ (fun hHeld => ?_)
  clear hK K
  try simp only [Act.put, List.setIfInBounds_toArray, List.set_cons_zero, List.set_cons_succ]
  refine takeL 12 (v := ?_) rfl (by kernel_rfl) (by kernel_rfl) (by kernel_rfl) (fun _ _ _ h => h) ⟨by rfl, ?_⟩ (by assumption) ?_
  rotate_left
  · intro w hS; go_simp <;> with_reducible rfl
  simp only [Act.put, List.setIfInBounds_toArray, List.set_cons_zero, List.set_cons_succ]
  refine takeL 13 (v := ?_) rfl (by kernel_rfl) (by kernel_rfl) (by kernel_rfl) (fun _ _ _ h => h) ⟨by rfl, ?_⟩ (by assumption) ?_
  rotate_left
  · intro w hS; go_simp <;> with_reducible rfl
  simp only [Act.put, List.setIfInBounds_toArray, List.set_cons_zero, List.set_cons_succ]
  refine doneL (by kernel_rfl) ?_ _
  have hgb := KR.lt
  have KY := (((KR.next b6).set 0 (.int .i64 n)).set 1 (.int .i64 C)).set 2 (.slice a6 (tbv M).length k6)
  have of := ((o6.low (a := ⟨g + 1 + 1, 0, none⟩) hgb (.int .i64 n)).low (a := ⟨g + 1 + 1, 1, none⟩) hgb (.int .i64 C)).low (a := ⟨g + 1 + 1, 2, none⟩) hgb (.slice a6 (tbv M).length k6)
  have hgy : w.heap.size ≤ g + 1 + 1 := by omega
  have hw7 : w.heap.size ≤ w5.drew.heap.size := B0.size
  have hwb : g + 1 + 1 < w2.heap.size := hRb
  have op := ((hW6.piv.low (a := ⟨g + 1 + 1, 0, none⟩) (by show g + 1 + 1 < _; omega) (.int .i64 n)).low (a := ⟨g + 1 + 1, 1, none⟩) (by show g + 1 + 1 < _; omega) (.int .i64 C)).low (a := ⟨g + 1 + 1, 2, none⟩) (by show g + 1 + 1 < _; omega) (.slice a6 (tbv M).length k6)
  have B6 := B0.trans (b6.mono B0.size)
  have BF := ((B6.setCell (p := ⟨g + 1 + 1, 0, none⟩) hgy (.int .i64 n)).setCell (p := ⟨g + 1 + 1, 1, none⟩) hgy (.int .i64 C)).setCell (p := ⟨g + 1 + 1, 2, none⟩) hgy (.slice a6 (tbv M).length k6)
  have FR := Lib.hid (show RetRdu p w n C A (.returned (.tuple #[.agg #[.int .i64 n, .int .i64 C, .slice a6 (tbv M).length k6], .slice pa P.length pc, .int .i64 0])) (((w6.setCell ⟨g + 1 + 1, 0, none⟩ (.int .i64 n)).setCell ⟨g + 1 + 1, 1, none⟩ (.int .i64 C)).setCell ⟨g + 1 + 1, 2, none⟩ (.slice a6 (tbv M).length k6)) from ⟨_, _, _, _, W, P, d, M, rfl, HR.out, EM.out, of.mono hw7, op.sl, BF⟩)
  clear of op B6 BF o6 KR B0 hgb z0 z1 z2
  clear hHeld q0 q1 q2 KF6 KA6 KP6 hW6 KF KA KP hW b6
  have d0 := KY.cell 0; have d1 := KY.cell 1; have d2 := KY.cell 2
  clear KY
  go_wp2
  exact bodyPost_ret (v := .tuple #[.agg #[.int .i64 n, .int .i64 C, .slice a6 (tbv M).length k6], .slice pa P.length pc, .int .i64 0]) (by simp [results, Try.results68, go_sem, d0, d1, d2]) rfl FR.out

end Go.Proofs.Ythghdjpjbngllaa
