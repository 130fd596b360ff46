/- hess: a matrix of rows; what a work begins with. -/
import Derived.Test.YthghdjpjbngllaaHrow
namespace Go.Proofs.Ythghdjpjbngllaa
open Go.RowKit


theorem ftab_row (c i : Nat) (T : Nat → Nat → Nat) : ftab c T (i * c + c) = ftab c T (i * c) ++ (List.range c).map (T i) := by
  have H : ∀ k, k ≤ c → ftab c T (i * c + k) = ftab c T (i * c) ++ (List.range k).map (T i) := by
    intro k
    induction k with
    | zero => intro _; simp
    | succ k ih =>
      intro hk
      rw [ftab_at T (by omega), ih (by omega), List.range_succ, List.map_append, List.append_assoc]; rfl
  exact H c (Nat.le_refl _)
theorem RowAt.cs {p : Nat} {w : World} {base N : Nat} {v : Value} {r : Nat → Zp p} (h : RowAt (VZ p) 27 w base N v r) (hN : 0 < N) : ∃ b o cap, v = .slice (some ⟨b, o, none⟩) N cap ∧ N ≤ cap ∧ Cs .u64 w (some ⟨b, o, none⟩) b o (rwv N r) := by
  obtain ⟨ao, cap, b, o, cur, e1, h1, h2⟩ := h
  obtain ⟨rfl, h4, h5, h6⟩ := h2 hN
  refine ⟨b, o, cap, e1, h1, fun _ => rfl, fun j hj => ?_⟩
  rw [rwv_length] at hj
  obtain ⟨u, h7, rfl⟩ := h6 j hj
  rw [rwv_get r hj]
  exact (cell_of_row w b (o + j) cur 27 (0, 0) h5).trans h7

/-- Where the loop of matrix stands. -/
def MaR (p : Nat) (w wr : World) (n g : Nat) (W : Nat → Nat → Zp p) (i : Nat) : Prop := ∃ ao m k, Blk 42 wr (g + 1) [.int .i64 n, .int .i64 n, .slice ao m k] ∧ Blk 42 wr g [.int .i64 0, .int .i64 0, .slice none 0 0] ∧
  Own .u64 27 wr (g + 1 + 1) (.slice ao m k) (ftab n (fun a b => (W a b).val) (i * n)) ∧ Below w.heap.size w wr

set_option maxRecDepth 20000 in
set_option maxHeartbeats 1000000 in
theorem hs_matrix (p n base : Nat) (w : World) (rv : Value) (vs : List Value) (W : Nat → Nat → Zp p) (h : Rws (VZ p) 27 32 w base rv vs n n W) (hn : n ≤ 64) :
    Calls Try.prog 86 #[rv] w (RetFm p w n n (MT.of n n W)) := by
  obtain ⟨wb, ew, K1, K2, B0, hsz⟩ := boxes2 w 42 42 [.int .i64 0, .int .i64 0, .slice none 0 0] [.int .i64 n, .int .i64 n, .slice none 0 0]
  clear hsz
  obtain ⟨ra, rc, erv⟩ : ∃ ra rc, rv = .slice ra n rc := by
    rcases h.shape with ⟨e, e2⟩ | ⟨g, cap, e, -⟩
    · exact ⟨_, _, by rw [e, e2]⟩
    · exact ⟨_, _, e⟩
  subst erv
  have hT := tbv_of (p := p) (r := n) (c := n) (fun a b => (W a b).val) W (fun _ _ _ _ => rfl)
  obtain ⟨M, eM⟩ : ∃ M, M = MT.of n n W := ⟨_, rfl⟩
  rw [← eM] at hT ⊢
  have HT := Lib.hid hT; clear hT eM
  go_enter Try.func86, Try.ntmps86
  go_upto_region 2 with (fail)
  rw [← ew]
  obtain ⟨g, eg⟩ : ∃ g, g = w.heap.size := ⟨_, rfl⟩
  rw [← eg] at K1 K2 ⊢
  have hgw : w.heap.size ≤ g := by omega
  clear ew eg
  have st : MaR p w wb n g W 0 := ⟨_, _, _, K2, K1, by rw [Nat.zero_mul]; exact Own.nil _ _ _ _, B0⟩
  clear K1 K2 B0
  go_wp2
  go_loopw [13] (fun iv wr => ∃ i : Nat, i ≤ n ∧ iv = .int .i64 i ∧ MaR p w wr n g W i) (fun iv _ => n - (intOf iv).toNat)
  case atStart => exact ⟨0, by omega, rfl, st⟩
  case round =>
    clear st wb
    obtain ⟨i, hi, rfl, ao, m, k, K2, K1, ho, B0⟩ := hrel
    by_cases hin : i < n
    · have hr := h.next B0 (fun _ _ h => h)
      obtain ⟨v, hv⟩ := hr.hdr hin
      obtain ⟨b, o, cap, rfl, hcap, hcs⟩ := (hr.row i v hv).cs (by omega)
      obtain ⟨gr, cr, er⟩ : ∃ g cap, (Value.slice ra n rc) = .slice (some ⟨g, 0, none⟩) n cap := by
        rcases hr.shape with ⟨_, e2⟩ | ⟨g, cap, e, -⟩
        · omega
        · exact ⟨_, _, e⟩
      have qh := hr.head er hin
      rw [hv] at qh
      simp only [Value.slice.injEq, true_and] at er
      obtain ⟨rfl, rfl⟩ := er
      have f2 := K2.cell 2; have z2 := K2.free 2
      have HL := Lib.hid (rwv_length n (W i))
      have hlen := Lib.hid (ftab_length n (fun a b => (W a b).val) (i * n))
      have hin2 : i * n ≤ 64 * 64 := Nat.mul_le_mul (by omega) hn
      have hgx : g + 1 + 1 ≤ wr.heap.size := by have := K2.lt; omega
      clear hr hv
      go_wp2_with (at_builtin; refine wp_appS .u64 32 27 8 Try.underlying32 (by kernel_rfl) (by decide) rfl _ _ rfl wr (g + 1 + 1) _ (ftab n (fun a b => (W a b).val) (i * n)) (rwv n (W i)) ho (by rw [HL.out, hlen.out]; omega) hgx rfl ⟨b, o, none⟩ b o cap (by rw [HL.out]; rfl) hcs ?_; intro v' w4 ho4 hb4 hg4; have K4 := K2.below hb4 (by omega); have q1 := K4.cell 2; have q2 := K4.free 2; obtain ⟨a4, c4, e4⟩ := ho4.sliced; subst e4; rw [List.length_append] at ho4)
      have e1 : ftab n (fun a b => (W a b).val) (i * n) ++ rwv n (W i) = ftab n (fun a b => (W a b).val) ((i + 1) * n) := by rw [Nat.succ_mul, ftab_row]; rfl
      rw [e1] at ho4
      have K5 := K4.set 2 (.slice a4 ((ftab n (fun a b => (W a b).val) (i * n)).length + (rwv n (W i)).length) c4)
      have K6 := (K1.below hb4 (by omega)).far (a := ⟨g + 1, 2, none⟩) (Nat.ne_of_lt (show g < g + 1 by omega)) (.slice a4 ((ftab n (fun a b => (W a b).val) (i * n)).length + (rwv n (W i)).length) c4)
      have o6 := ho4.low (a := ⟨g + 1, 2, none⟩) (show g + 1 < g + 1 + 1 by omega) (.slice a4 ((ftab n (fun a b => (W a b).val) (i * n)).length + (rwv n (W i)).length) c4)
      have B6 := (B0.trans (hb4.mono (by omega))).setCell (p := ⟨g + 1, 2, none⟩) (show w.heap.size ≤ g + 1 by omega) (.slice a4 ((ftab n (fun a b => (W a b).val) (i * n)).length + (rwv n (W i)).length) c4)
      have st := Lib.hid (show MaR p w (w4.setCell ⟨g + 1, 2, none⟩ (.slice a4 ((ftab n (fun a b => (W a b).val) (i * n)).length + (rwv n (W i)).length) c4)) n g W (i + 1) from ⟨_, _, _, K5, K6, o6, B6⟩)
      clear K1 K2 K4 K5 K6 o6 B6 ho ho4 hb4 hg4 hcs B0 qh f2 z2 q1 q2 e1
      go_roundw
      case rel => exact ⟨i + 1, by omega, by go_num, st.out⟩
      case measure => simp [intOf] <;> omega
    · obtain rfl : i = n := by omega
      rw [HT.out] at ho
      obtain ⟨ao', c', e'⟩ := ho.sliced
      simp only [Value.slice.injEq] at e'
      obtain ⟨rfl, rfl, rfl⟩ := e'
      have c0 := K2.cell 0; have c1 := K2.cell 1; have c2 := K2.cell 2
      have e0 := K1.cell 0; have e1 := K1.cell 1; have e2 := K1.cell 2
      have f0 := K1.free 0; have f1 := K1.free 1; have f2 := K1.free 2
      have KF := ((K1.set 0 (.int .i64 i)).set 1 (.int .i64 i)).set 2 (.slice ao (tbv M).length k)
      have d0 := KF.cell 0; have d1 := KF.cell 1; have d2 := KF.cell 2
      have hlt : g < g + 1 + 1 := by omega
      have hof := ((ho.low (a := ⟨g, 0, none⟩) hlt (.int .i64 i)).low (a := ⟨g, 1, none⟩) hlt (.int .i64 i)).low (a := ⟨g, 2, none⟩) hlt (.slice ao (tbv M).length k)
      have BF := ((B0.setCell (p := ⟨g, 0, none⟩) hgw (.int .i64 i)).setCell (p := ⟨g, 1, none⟩) hgw (.int .i64 i)).setCell (p := ⟨g, 2, none⟩) hgw (.slice ao (tbv M).length k)
      have FR := Lib.hid (show RetFm p w i i M (.returned (.agg #[.int .i64 i, .int .i64 i, .slice ao (tbv M).length k])) (((wr.setCell ⟨g, 0, none⟩ (.int .i64 i)).setCell ⟨g, 1, none⟩ (.int .i64 i)).setCell ⟨g, 2, none⟩ (.slice ao (tbv M).length k)) from ⟨_, _, rfl, hof.mono (by omega), BF⟩)
      clear KF K1 K2 hof BF ho B0
      go_wp2
      exact bodyPost_ret (v := .agg #[.int .i64 i, .int .i64 i, .slice ao (tbv M).length k]) (by simp [results, Try.results86, go_sem, d0, d1, d2]) rfl FR.out

theorem Rws.slice_of {p : Nat} {w : World} {base : Nat} {rv : Value} {vs : List Value} {N C : Nat} {f : Nat → Nat → Zp p} (h : Rws (VZ p) 27 32 w base rv vs N C f) : ∃ a c, rv = .slice a N c := by
  rcases h.shape with ⟨e, e2⟩ | ⟨g, cap, e, -⟩
  · exact ⟨_, _, by rw [e, e2]⟩
  · exact ⟨_, _, e⟩
/-- The state of a work of hess: the rows of the matrix, and of what it is turned by, in blocks apart. -/
structure Hk (p : Nat) (w : World) (base gW n : Nat) (H P : Nat → Nat → Zp p) (hv pv : Value) (hs ps : List Value) : Prop where
  blk : Blk 107 w gW [.int .u64 p, hv, pv]
  gw : base ≤ gW
  h : Rws (VZ p) 27 32 w base hv hs n n H
  p : Rws (VZ p) 27 32 w base pv ps n n P
  sep : ∀ (i j : Nat) (b o c b' o' c' : Nat), hs[i]? = some (.slice (some ⟨b, o, none⟩) n c) → ps[j]? = some (.slice (some ⟨b', o', none⟩) n c') → b ≠ b'
  hd : ∀ g, hv.ownBlock = some g → pv.ownBlock ≠ some g
theorem Hk.next {p : Nat} {w w' : World} {base gW n : Nat} {H P : Nat → Nat → Zp p} {hv pv : Value} {hs ps : List Value} (h : Hk p w base gW n H P hv pv hs ps) (hb : Below w.heap.size w w') : Hk p w' base gW n H P hv pv hs ps :=
  ⟨h.blk.next hb, h.gw, h.h.next hb (fun _ _ h => h), h.p.next hb (fun _ _ h => h), h.sep, h.hd⟩
/-- A work of hess is returned. -/
def RetHk (p : Nat) (w : World) (n : Nat) (Q : (Nat → Nat → Zp p) → (Nat → Nat → Zp p) → Prop) (e : Ending) (w' : World) : Prop :=
  ∃ gW H P hv pv hs ps, e = .returned (.pointer (some ⟨gW, 0, none⟩)) ∧ Hk p w' w.heap.size gW n H P hv pv hs ps ∧ Q H P ∧ Below w.heap.size w w'

set_option maxRecDepth 20000 in
set_option maxHeartbeats 1000000 in
theorem hs_begun (p : Nat) (a : Value) (n : Nat) (xs : List Nat) (w : World) (hp : FP p) (hA : Fm w a n n xs) (hn : n ≤ 64) (hx : xs.length = n * n) :
    Calls Try.prog 126 #[.agg #[.int .u64 p], a] w (RetHk p w n (fun H P => H = (mx p n n xs).e ∧ P = (MT.one n : MT (Zp p) n n).e)) := by
  obtain ⟨aA, cA, rfl⟩ := hA.agg
  obtain ⟨wb, ew, KF, KA, B0, hsz⟩ := boxes2 w 29 42 [.int .u64 p] [.int .i64 n, .int .i64 n, .slice aA xs.length cA]
  clear hsz
  have HP := Lib.hid hp; clear hp
  replace hA := hA.next B0
  have HX := Lib.hid hx; clear hx
  go_enter Try.func126, Try.ntmps126
  go_upto_region 1 with (fail)
  rw [← ew]
  obtain ⟨g0, eg0⟩ : ∃ g, g = w.heap.size := ⟨_, rfl⟩
  rw [← eg0] at KF KA ⊢
  clear ew eg0
  have f0 := KF.cell 0; have f1 := KA.cell 0
  go_wp2_with fail
  refine (fm_Identity p n _ HP.out hn).mono ?_; rintro e w2 ⟨ao, k, rfl, o2, b2⟩
  clear f0 f1
  have HL := Lib.hid (tbv_length (MT.one n : MT (Zp p) n n))
  obtain ⟨wc, ewc, KM, B2, hs2⟩ := boxes1 w2 42 [.int .i64 n, .int .i64 n, .slice ao (tbv (MT.one n : MT (Zp p) n n)).length k]
  clear hs2
  have bb := b2.trans (B2.mono b2.size)
  replace B0 := B0.trans (bb.mono B0.size)
  replace KF := KF.next bb; replace KA := KA.next bb; replace hA := hA.next bb
  have hI : Fm wc (.agg #[.int .i64 n, .int .i64 n, .slice ao (tbv (MT.one n : MT (Zp p) n n)).length k]) n n (tbv (MT.one n : MT (Zp p) n n)) := ⟨_, rfl, (o2.next B2).sl⟩
  have HI1 := Lib.hid (mx_tbv (MT.one n : MT (Zp p) n n))
  obtain ⟨I, eI⟩ : ∃ I, I = (MT.one n : MT (Zp p) n n) := ⟨_, rfl⟩
  rw [← eI] at HL KM hI HI1 ewc ⊢
  have EI := Lib.hid eI
  clear eI o2 b2 B2 bb
  go_upto_region 2 with (fail)
  rw [← ewc]
  obtain ⟨g, eg⟩ : ∃ g, g = w2.heap.size := ⟨_, rfl⟩
  rw [← eg] at KM ⊢
  clear ewc eg
  have bd := Drawn.below (w' := wc.drew) ⟨1, rfl⟩ wc.heap.size
  replace KF := KF.next bd; replace KA := KA.next bd; replace KM := KM.next bd; replace hA := hA.next bd; replace hI := hI.next bd
  replace B0 := B0.trans (bd.mono B0.size)
  have B00 := Lib.hid B0.size
  clear bd
  refine startL (S := (fun w' => Below (wc.drew).heap.size (wc.drew) w')) (by kernel_rfl) (Below.refl _ _) (fun hHeld => ?_)
  refine takeL 0 (v := ?_) rfl (by kernel_rfl) (by kernel_rfl) (by kernel_rfl) (fun _ _ _ h => h) ⟨by rfl, ?_⟩ (by assumption) ?_
  rotate_left
  · intro w hS; have fa := KF.at hS; have fb := KA.at hS; have fc := KM.at hS; have f1 := fa 0; have f2 := fb 0; have f3 := fb 1; have f4 := fb 2; have f5 := fc 0; have f6 := fc 1; have f7 := fc 2; clear fa fb fc; go_simp <;> with_reducible rfl
  simp only [Act.put, List.setIfInBounds_toArray, List.set_cons_zero, List.set_cons_succ]
  refine takeL 1 (v := ?_) rfl (by kernel_rfl) (by kernel_rfl) (by kernel_rfl) (fun _ _ _ h => h) ⟨by rfl, ?_⟩ (by assumption) ?_
  rotate_left
  · intro w hS; have fa := KF.at hS; have fb := KA.at hS; have fc := KM.at hS; have f1 := fa 0; have f2 := fb 0; have f3 := fb 1; have f4 := fb 2; have f5 := fc 0; have f6 := fc 1; have f7 := fc 2; clear fa fb fc; go_simp <;> with_reducible rfl
  simp only [Act.put, List.setIfInBounds_toArray, List.set_cons_zero, List.set_cons_succ]
  refine takeL 2 (v := ?_) rfl (by kernel_rfl) (by kernel_rfl) (by kernel_rfl) (fun _ _ _ h => h) ⟨by rfl, ?_⟩ (by assumption) ?_
  rotate_left
  · intro w hS; have fa := KF.at hS; have fb := KA.at hS; have fc := KM.at hS; have f1 := fa 0; have f2 := fb 0; have f3 := fb 1; have f4 := fb 2; have f5 := fc 0; have f6 := fc 1; have f7 := fc 2; clear fa fb fc; go_simp <;> with_reducible rfl
  simp only [Act.put, List.setIfInBounds_toArray, List.set_cons_zero, List.set_cons_succ]
  refine takeL 4 (v := ?_) rfl (by kernel_rfl) (by kernel_rfl) (by kernel_rfl) (fun _ _ _ h => h) ⟨by rfl, ?_⟩ (by assumption) ?_
  rotate_left
  · intro w hS; have fa := KF.at hS; have fb := KA.at hS; have fc := KM.at hS; have f1 := fa 0; have f2 := fb 0; have f3 := fb 1; have f4 := fb 2; have f5 := fc 0; have f6 := fc 1; have f7 := fc 2; clear fa fb fc; go_simp <;> with_reducible rfl
  simp only [Act.put, List.setIfInBounds_toArray, List.set_cons_zero, List.set_cons_succ]
  refine takeL 5 (v := ?_) rfl (by kernel_rfl) (by kernel_rfl) (by kernel_rfl) (fun _ _ _ h => h) ⟨by rfl, ?_⟩ (by assumption) ?_
  rotate_left
  · intro w hS; have fa := KF.at hS; have fb := KA.at hS; have fc := KM.at hS; have f1 := fa 0; have f2 := fb 0; have f3 := fb 1; have f4 := fb 2; have f5 := fc 0; have f6 := fc 1; have f7 := fc 2; clear fa fb fc; go_simp <;> with_reducible rfl
  simp only [Act.put, List.setIfInBounds_toArray, List.set_cons_zero, List.set_cons_succ]
  refine oneL 3 rfl (by kernel_rfl) (by rfl) (fun K hK => ?_)
  go_simp
  go_at_call 145
  (with_reducible refine (hs_rowsOf p _ n xs _ HP.out (hA.next hHeld) hn HX.out).mono ?_); rintro e w5 ⟨hv, hs, rfl, R5, b5⟩; obtain ⟨ah, ch, rfl⟩ := R5.slice_of
  refine hK.out _ _ (hHeld.trans (b5.mono hHeld.size)) (fun hHeld => ?_)
  clear hK K
  try simp only [Act.put, List.setIfInBounds_toArray, List.set_cons_zero, List.set_cons_succ]
  refine oneL 6 rfl (by kernel_rfl) (by rfl) (fun K hK => ?_)
  go_simp
  go_at_call 145
  (with_reducible refine (hs_rowsOf p _ n (tbv I) _ HP.out (hI.next hHeld) hn HL.out).mono ?_); rintro e w6 ⟨pv, ps, rfl, R6, b6⟩; obtain ⟨ap, cp, rfl⟩ := R6.slice_of; have sz2 := Lib.hid hHeld.size
  refine hK.out _ _ (hHeld.trans (b6.mono hHeld.size)) (fun hHeld => ?_)
  clear hK K
  try simp only [Act.put, List.setIfInBounds_toArray, List.set_cons_zero, List.set_cons_succ]
  refine takeL 7 (v := ?_) rfl (by kernel_rfl) (by kernel_rfl) (by kernel_rfl) (fun _ _ _ h => h) ⟨by rfl, ?_⟩ (by assumption) ?_
  rotate_left
  · intro w hS; go_simp <;> with_reducible rfl
  simp only [Act.put, List.setIfInBounds_toArray, List.set_cons_zero, List.set_cons_succ]
  refine oneL 8 rfl (by kernel_rfl) (by rfl) (fun K hK => ?_)
  go_simp
  refine hK.out _ _ (hHeld.alloc hHeld.size _) (fun hHeld => ?_)
  clear hK K
  try simp only [Act.put, List.setIfInBounds_toArray, List.set_cons_zero, List.set_cons_succ]
  refine takeL 9 (v := ?_) rfl (by kernel_rfl) (by kernel_rfl) (by kernel_rfl) (fun _ _ _ h => h) ⟨by rfl, ?_⟩ (by assumption) ?_
  rotate_left
  · intro w hS; go_simp <;> with_reducible rfl
  simp only [Act.put, List.setIfInBounds_toArray, List.set_cons_zero, List.set_cons_succ]
  refine doneL (by kernel_rfl) ?_ _
  obtain ⟨w7, e7, K7, b7, hs7⟩ := boxes1 w6 107 [.int .u64 p, .slice ah n ch, .slice ap n cp]
  rw [← e7] at hHeld ⊢
  replace B0 := B0.trans (hHeld.mono B0.size)
  have S5 : ∀ (i b o c : Nat), hs[i]? = some (.slice (some ⟨b, o, none⟩) n c) → 0 < n → b < w5.heap.size := fun i b o c h h0 => (R5.at h h0).2.2.2
  have S6 : ∀ (i b o c : Nat), ps[i]? = some (.slice (some ⟨b, o, none⟩) n c) → 0 < n → w5.heap.size ≤ b := fun i b o c h h0 => (R6.at h h0).2.2.1
  have hH5 : ∀ g, (Value.slice ah n ch).ownBlock = some g → g < w5.heap.size := fun g h => (World.ownsRow.lt R5.own g h).2
  have hH6 : ∀ g, (Value.slice ap n cp).ownBlock = some g → w5.heap.size ≤ g := fun g h => (World.ownsRow.lt R6.own g h).1
  have hb0 := B0.size
  have sz1 : w.heap.size ≤ wc.drew.heap.size := B00.out
  have FR := Lib.hid (show RetHk p w n (fun H P => H = (mx p n n xs).e ∧ P = (MT.one n : MT (Zp p) n n).e) (.returned (.pointer (some ⟨w6.heap.size, 0, none⟩))) w7 from
    ⟨w6.heap.size, (mx p n n xs).e, I.e, .slice ah n ch, .slice ap n cp, hs, ps, rfl, ⟨K7, by have := B00.out; have := sz2.out; have := b6.size; omega, ((R5.next (b6.trans (b7.mono b6.size)) (fun _ _ h => h)).mono sz1), by rw [HI1.out] at R6; exact (R6.next b7 (fun _ _ h => h)).mono (by have := b5.size; omega),
      fun i j b o c b' o' c' h1 h2 e => by
        by_cases h0 : 0 < n
        · have := S5 i b o c h1 h0; have := S6 j b' o' c' h2 h0; omega
        · have := R5.len; have := (List.getElem?_eq_some_iff.1 h1).1; omega,
      fun g h1 h2 => by have := hH5 g h1; have := hH6 g h2; omega⟩, ⟨rfl, by rw [EI.out]⟩, B0⟩)
  clear R5 R6 K7 b5 b6 b7 hs7 e7 hHeld S5 S6 hH5 hH6 hb0 sz1 B0 KF KA KM hA hI
  go_wp2
  go_ret
  exact FR.out

end Go.Proofs.Ythghdjpjbngllaa
