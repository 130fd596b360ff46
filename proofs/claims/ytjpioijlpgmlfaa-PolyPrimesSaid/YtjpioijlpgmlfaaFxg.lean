/- Package fpoly: a step of Xgcd. -/
import Derived.Test.YtjpioijlpgmlfaaFdiv
import Derived.Test.YtjpioijlpgmlfaaFblk
namespace Go.Proofs.Ytjpioijlpgmlfaa
open Go.RowKit

theorem Own.far {k : IntKind} {e : TypeId} {w : World} {base : Nat} {v : Value} {xs : List Nat} (h : Own k e w base v xs) {a : Addr} (ha : a.block < base) (u : Value) : Own k e (w.setCell a u) base v xs := by
  rcases h.shape with ⟨rfl, rfl⟩ | ⟨g, cap, rfl, hg, _⟩
  · exact Own.nil _ _ _ _
  · exact h.set_far (by omega) u

def RetStep (p : Nat) (w : World) (vb vt : Value) (A B S T : List Nat) (e : Ending) (w' : World) : Prop :=
  ∃ rr rs zr zs q, e = .returned (.agg #[vb, rr, vt, rs]) ∧ Own .u64 26 w' w.heap.size rr zr ∧ Own .u64 26 w' w.heap.size rs zs ∧ Nrm p zr ∧ Nrm p zs ∧
    pl p A = q * pl p B + pl p zr ∧ pl p zs = pl p S - q * pl p T ∧ zr.length < B.length ∧ zr.length ≤ A.length ∧ Below w.heap.size w w'

set_option maxHeartbeats 1000000 in
theorem fp_step (p : Nat) (va vb vs vt : Value) (A B S T : List Nat) (w : World) (hp : FP p) (ht : Trial p) (sa : Sl .u64 w va A) (sb : Sl .u64 w vb B) (ss : Sl .u64 w vs S) (st : Sl .u64 w vt T)
    (la : A.length ≤ 1000) (lb : B.length ≤ 1000) (ls : S.length ≤ 100000) (lt : T.length ≤ 100000) (mb : Nrm p B) (h0 : B ≠ []) :
    Calls Try.prog 52 #[.agg #[va, vb, vs, vt], .agg #[.int .u64 p]] w (RetStep p w vb vt A B S T) := by
  obtain ⟨ao, ba, oa, ca, rfl, ha, ka⟩ := sa
  have sa : Sl .u64 w (.slice ao A.length ca) A := ⟨ao, ba, oa, ca, rfl, ha, ka⟩
  obtain ⟨bo, bb, ob, cb, rfl, hb, kb⟩ := sb
  have sb : Sl .u64 w (.slice bo B.length cb) B := ⟨bo, bb, ob, cb, rfl, hb, kb⟩
  obtain ⟨so, bs, os, cs, rfl, hs, ks⟩ := ss
  have ss : Sl .u64 w (.slice so S.length cs) S := ⟨so, bs, os, cs, rfl, hs, ks⟩
  obtain ⟨tt, bt, ot, ct, rfl, hh, kt⟩ := st
  have st : Sl .u64 w (.slice tt T.length ct) T := ⟨tt, bt, ot, ct, rfl, hh, kt⟩
  clear ka kb ks kt ha hb hs hh
  have HP := Lib.hid hp; have HT := Lib.hid ht; have H0 := Lib.hid h0
  clear hp ht h0
  have K0 : Blk 68 (((w.alloc (.cells #[.slice ao A.length ca, .slice bo B.length cb, .slice so S.length cs, .slice tt T.length ct] 68)).alloc (.cells #[.int .u64 p] 28)).alloc (.cells #[.slice none 0 0, .slice none 0 0, .slice none 0 0, .slice none 0 0] 68)) w.heap.size [.slice ao A.length ca, .slice bo B.length cb, .slice so S.length cs, .slice tt T.length ct] := ((Blk.lit w 68 [.slice ao A.length ca, .slice bo B.length cb, .slice so S.length cs, .slice tt T.length ct]).alloc _).alloc _
  have K1 : Blk 28 (((w.alloc (.cells #[.slice ao A.length ca, .slice bo B.length cb, .slice so S.length cs, .slice tt T.length ct] 68)).alloc (.cells #[.int .u64 p] 28)).alloc (.cells #[.slice none 0 0, .slice none 0 0, .slice none 0 0, .slice none 0 0] 68)) (w.heap.size + 1) [.int .u64 p] := by have := (Blk.lit (w.alloc (.cells #[.slice ao A.length ca, .slice bo B.length cb, .slice so S.length cs, .slice tt T.length ct] 68)) 28 [.int .u64 p]).alloc (.cells #[.slice none 0 0, .slice none 0 0, .slice none 0 0, .slice none 0 0] 68); simpa using this
  have K2 : Blk 68 (((w.alloc (.cells #[.slice ao A.length ca, .slice bo B.length cb, .slice so S.length cs, .slice tt T.length ct] 68)).alloc (.cells #[.int .u64 p] 28)).alloc (.cells #[.slice none 0 0, .slice none 0 0, .slice none 0 0, .slice none 0 0] 68)) (w.heap.size + 1 + 1) [.slice none 0 0, .slice none 0 0, .slice none 0 0, .slice none 0 0] := by have := Blk.lit ((w.alloc (.cells #[.slice ao A.length ca, .slice bo B.length cb, .slice so S.length cs, .slice tt T.length ct] 68)).alloc (.cells #[.int .u64 p] 28)) 68 [.slice none 0 0, .slice none 0 0, .slice none 0 0, .slice none 0 0]; simpa using this
  have B0 : Below w.heap.size w (((w.alloc (.cells #[.slice ao A.length ca, .slice bo B.length cb, .slice so S.length cs, .slice tt T.length ct] 68)).alloc (.cells #[.int .u64 p] 28)).alloc (.cells #[.slice none 0 0, .slice none 0 0, .slice none 0 0, .slice none 0 0] 68)) := (((Below.refl _ _).alloc (Nat.le_refl _) _).alloc (by simp) _).alloc (by simp; omega) _
  go_enter Try.func52, Try.ntmps52
  go_wp2_with fail
  generalize (((w.alloc (.cells #[.slice ao A.length ca, .slice bo B.length cb, .slice so S.length cs, .slice tt T.length ct] 68)).alloc (.cells #[.int .u64 p] 28)).alloc (.cells #[.slice none 0 0, .slice none 0 0, .slice none 0 0, .slice none 0 0] 68)) = wb at *
  obtain ⟨g, eg⟩ : ∃ g, g = w.heap.size := ⟨_, rfl⟩
  rw [← eg] at K0 K1 K2 ⊢
  have hgw : w.heap.size ≤ g := by omega
  clear eg
  refine (fp_DivMod p _ _ A B _ HP.out HT.out (sa.next B0) (sb.next B0) (by omega) (by omega) (by rw [nl_of HP.out.pos mb]; exact H0.out)).mono ?_; rintro e w2 ⟨rq2, rr2, zq2, zr2, rfl, oq2, or2, mq2, mr2, vd2, ld2, lq2, lr2, b2⟩
  have hwb := B0.size
  have hk2 := K2.lt
  replace K0 := (K0.next b2).drew
  replace K1 := (K1.next b2).drew
  replace K2 := (K2.next b2).drew
  replace B0 := (B0.trans (b2.mono B0.size)).trans (Drawn.below (w' := w2.drew) ⟨1, rfl⟩ _)
  have hlt : zr2.length < B.length := by rw [nl_of HP.out.pos mb] at ld2; exact ld2
  have VD := Lib.hid vd2
  replace oq2 := oq2.drew
  replace or2 := or2.drew
  have tq := oq2.sl
  obtain ⟨ro, rb, rof, rc, rfl, -, -⟩ := or2.sl
  clear vd2 ld2
  have hwd : wb.heap.size ≤ w2.drew.heap.size := b2.size
  clear b2
  go_upto_region 2 with (fail)
  refine startP (S := (fun w' => Below (w2.drew).heap.size (w2.drew) w')) (by kernel_rfl) _ rfl rfl rfl (by kernel_rfl) (Below.refl _ _) (fun hHeld => ?_)
  refine takeL 0 (v := ?_) rfl (by kernel_rfl) (by kernel_rfl) (by kernel_rfl) (fun _ _ _ h => h) ⟨by rfl, ?_⟩ (by assumption) ?_
  rotate_left
  · intro w hS; go_simp <;> with_reducible rfl
  simp only [Act.put, List.setIfInBounds_toArray, List.set_cons_zero, List.set_cons_succ]
  refine takeL 1 (v := ?_) rfl (by kernel_rfl) (by kernel_rfl) (by kernel_rfl) (fun _ _ _ h => h) ⟨by rfl, ?_⟩ (by assumption) ?_
  rotate_left
  · intro w hS; have f0 := K0.at hS; have f1 := (f0 0); have f2 := (f0 1); have f3 := f0 2; have f4 := f0 3; have f5 := K1.at hS 0; clear f0; go_simp <;> with_reducible rfl
  simp only [Act.put, List.setIfInBounds_toArray, List.set_cons_zero, List.set_cons_succ]
  refine takeL 2 (v := ?_) rfl (by kernel_rfl) (by kernel_rfl) (by kernel_rfl) (fun _ _ _ h => h) ⟨by rfl, ?_⟩ (by assumption) ?_
  rotate_left
  · intro w hS; go_simp <;> with_reducible rfl
  simp only [Act.put, List.setIfInBounds_toArray, List.set_cons_zero, List.set_cons_succ]
  refine takeL 3 (v := ?_) rfl (by kernel_rfl) (by kernel_rfl) (by kernel_rfl) (fun _ _ _ h => h) ⟨by rfl, ?_⟩ (by assumption) ?_
  rotate_left
  · intro w hS; go_simp <;> with_reducible rfl
  simp only [Act.put, List.setIfInBounds_toArray, List.set_cons_zero, List.set_cons_succ]
  refine takeL 4 (v := ?_) rfl (by kernel_rfl) (by kernel_rfl) (by kernel_rfl) (fun _ _ _ h => h) ⟨by rfl, ?_⟩ (by assumption) ?_
  rotate_left
  · intro w hS; have f0 := K0.at hS; have f1 := (f0 0); have f2 := (f0 1); have f3 := f0 2; have f4 := f0 3; have f5 := K1.at hS 0; clear f0; go_simp <;> with_reducible rfl
  simp only [Act.put, List.setIfInBounds_toArray, List.set_cons_zero, List.set_cons_succ]
  refine takeL 5 (v := ?_) rfl (by kernel_rfl) (by kernel_rfl) (by kernel_rfl) (fun _ _ _ h => h) ⟨by rfl, ?_⟩ (by assumption) ?_
  rotate_left
  · intro w hS; have f0 := K0.at hS; have f1 := (f0 0); have f2 := (f0 1); have f3 := f0 2; have f4 := f0 3; have f5 := K1.at hS 0; clear f0; go_simp <;> with_reducible rfl
  simp only [Act.put, List.setIfInBounds_toArray, List.set_cons_zero, List.set_cons_succ]
  refine takeL 6 (v := ?_) rfl (by kernel_rfl) (by kernel_rfl) (by kernel_rfl) (fun _ _ _ h => h) ⟨by rfl, ?_⟩ (by assumption) ?_
  rotate_left
  · intro w hS; go_simp <;> with_reducible rfl
  simp only [Act.put, List.setIfInBounds_toArray, List.set_cons_zero, List.set_cons_succ]
  refine takeL 7 (v := ?_) rfl (by kernel_rfl) (by kernel_rfl) (by kernel_rfl) (fun _ _ _ h => h) ⟨by rfl, ?_⟩ (by assumption) ?_
  rotate_left
  · intro w hS; have f0 := K0.at hS; have f1 := (f0 0); have f2 := (f0 1); have f3 := f0 2; have f4 := f0 3; have f5 := K1.at hS 0; clear f0; go_simp <;> with_reducible rfl
  simp only [Act.put, List.setIfInBounds_toArray, List.set_cons_zero, List.set_cons_succ]
  refine takeL 8 (v := ?_) rfl (by kernel_rfl) (by kernel_rfl) (by kernel_rfl) (fun _ _ _ h => h) ⟨by rfl, ?_⟩ (by assumption) ?_
  rotate_left
  · intro w hS; have f0 := K0.at hS; have f1 := (f0 0); have f2 := (f0 1); have f3 := f0 2; have f4 := f0 3; have f5 := K1.at hS 0; clear f0; go_simp <;> with_reducible rfl
  simp only [Act.put, List.setIfInBounds_toArray, List.set_cons_zero, List.set_cons_succ]
  refine takeL 9 (v := ?_) rfl (by kernel_rfl) (by kernel_rfl) (by kernel_rfl) (fun _ _ _ h => h) ⟨by rfl, ?_⟩ (by assumption) ?_
  rotate_left
  · intro w hS; go_simp <;> with_reducible rfl
  simp only [Act.put, List.setIfInBounds_toArray, List.set_cons_zero, List.set_cons_succ]
  refine takeL 10 (v := ?_) rfl (by kernel_rfl) (by kernel_rfl) (by kernel_rfl) (fun _ _ _ h => h) ⟨by rfl, ?_⟩ (by assumption) ?_
  rotate_left
  · intro w hS; go_simp <;> with_reducible rfl
  simp only [Act.put, List.setIfInBounds_toArray, List.set_cons_zero, List.set_cons_succ]
  refine takeL 11 (v := ?_) rfl (by kernel_rfl) (by kernel_rfl) (by kernel_rfl) (fun _ _ _ h => h) ⟨by rfl, ?_⟩ (by assumption) ?_
  rotate_left
  · intro w hS; have f0 := K0.at hS; have f1 := (f0 0); have f2 := (f0 1); have f3 := f0 2; have f4 := f0 3; have f5 := K1.at hS 0; clear f0; go_simp <;> with_reducible rfl
  simp only [Act.put, List.setIfInBounds_toArray, List.set_cons_zero, List.set_cons_succ]
  refine oneL 12 rfl (by kernel_rfl) (by rfl) (fun K hK => ?_)
  go_simp
  go_at_call 14
  (with_reducible refine (fp_Mul p _ _ zq2 T _ HP.out (tq.next hHeld) ((st.next B0).next hHeld) (by omega) (by omega)).mono ?_); rintro e w4 ⟨r4, z4, rfl, o4, m4, v4, l4, b4⟩
  have V4 := Lib.hid v4; clear v4
  refine hK.out _ _ (hHeld.trans (b4.mono hHeld.size)) (fun hHeld => ?_)
  clear hK K
  try simp only [Act.put, List.setIfInBounds_toArray, List.set_cons_zero, List.set_cons_succ]
  refine oneL 13 rfl (by kernel_rfl) (by rfl) (fun K hK => ?_)
  go_simp
  go_at_call 26
  (with_reducible refine (fp_Sub p _ _ S z4 _ HP.out ((ss.next B0).next hHeld) o4.sl (by omega) (by omega)).mono ?_); rintro e w5 ⟨r5, z5, rfl, o5, m5, v5, l5, b5⟩
  have V5 := Lib.hid v5; clear v5; have hk5 := Nat.le_trans hwd hHeld.size; obtain ⟨po, pb, pof, pc, rfl, -, -⟩ := o5.sl
  refine hK.out _ _ (hHeld.trans (b5.mono hHeld.size)) (fun hHeld => ?_)
  clear hK K
  try simp only [Act.put, List.setIfInBounds_toArray, List.set_cons_zero, List.set_cons_succ]
  refine takeL 14 (v := ?_) rfl (by kernel_rfl) (by kernel_rfl) (by kernel_rfl) (fun _ _ _ h => h) ⟨by rfl, ?_⟩ (by assumption) ?_
  rotate_left
  · intro w hS; go_simp <;> with_reducible rfl
  simp only [Act.put, List.setIfInBounds_toArray, List.set_cons_zero, List.set_cons_succ]
  refine doneL (by kernel_rfl) ?_ _
  refine lastL rfl (by rfl) ?_
  replace K2 := K2.next hHeld
  have c0 := K2.cell 0
  have c1 := K2.cell 1
  have c2 := K2.cell 2
  have c3 := K2.cell 3
  have f0 := K2.free 0
  have f1 := K2.free 1
  have f2 := K2.free 2
  have f3 := K2.free 3
  have KF := (((K2.set 0 (.slice bo B.length cb)).set 1 (.slice ro zr2.length rc)).set 2 (.slice tt T.length ct)).set 3 (.slice po z5.length pc)
  have d0 := KF.cell 0
  have d1 := KF.cell 1
  have d2 := KF.cell 2
  have d3 := KF.cell 3
  go_wp2
  have oR := ((((or2.next hHeld).far (a := ⟨g + 1 + 1, 0, none⟩) hk2 (.slice bo B.length cb)).far (a := ⟨g + 1 + 1, 1, none⟩) hk2 (.slice ro zr2.length rc)).far (a := ⟨g + 1 + 1, 2, none⟩) hk2 (.slice tt T.length ct)).far (a := ⟨g + 1 + 1, 3, none⟩) hk2 (.slice po z5.length pc)
  have hk6 : g + 1 + 1 < w4.heap.size := Nat.lt_of_lt_of_le hk2 hk5
  have oS := (((o5.far (a := ⟨g + 1 + 1, 0, none⟩) hk6 (.slice bo B.length cb)).far (a := ⟨g + 1 + 1, 1, none⟩) hk6 (.slice ro zr2.length rc)).far (a := ⟨g + 1 + 1, 2, none⟩) hk6 (.slice tt T.length ct)).far (a := ⟨g + 1 + 1, 3, none⟩) hk6 (.slice po z5.length pc)
  have hg2 : w.heap.size ≤ g + 1 + 1 := by omega
  have BF := ((((B0.trans (hHeld.mono B0.size)).setCell (p := ⟨g + 1 + 1, 0, none⟩) hg2 (.slice bo B.length cb)).setCell (p := ⟨g + 1 + 1, 1, none⟩) hg2 (.slice ro zr2.length rc)).setCell (p := ⟨g + 1 + 1, 2, none⟩) hg2 (.slice tt T.length ct)).setCell (p := ⟨g + 1 + 1, 3, none⟩) hg2 (.slice po z5.length pc)
  refine bodyPost_ret (v := .agg #[.slice bo B.length cb, .slice ro zr2.length rc, .slice tt T.length ct, .slice po z5.length pc]) (by simp [results, Try.results52, go_sem, d0, d1, d2, d3]) rfl ⟨_, _, zr2, z5, pl p zq2, rfl, oR.mono hwb, oS.mono (Nat.le_trans hwb hk5), mr2, m5, VD.out, by rw [V5.out, V4.out], hlt, lr2, BF⟩

end Go.Proofs.Ytjpioijlpgmlfaa
