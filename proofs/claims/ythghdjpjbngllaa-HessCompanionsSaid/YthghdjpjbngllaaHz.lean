/- hess: the characteristic polynomial. -/
import Derived.Test.YthghdjpjbngllaaHnext
namespace Go.Proofs.Ythghdjpjbngllaa
open Go.RowKit


theorem chi_of_sim {R : Type} [CR R] {n : Nat} {A : MT R n n} {H P : Nat → Nat → R} (h : Sim A H P) : chi A = dn n (xh H) := by
  obtain ⟨⟨X, hX⟩, h2⟩ := h
  rw [chi_conj hX h2, chi_xh]
  exact dn_congr n fun i k hi hk => by unfold xh; rw [MT.of_e _ hi hk]
theorem Hk.kept {p : Nat} {w w' : World} {base gW n : Nat} {H P : Nat → Nat → Zp p} {hv pv : Value} {hs ps : List Value} (h : Hk p w base gW n H P hv pv hs ps) {b1 n0 : Nat} {v0 : Value} {xs0 : List Value} (ho : w.ownsRow b1 33 1 v0 n0 xs0) (hg : w.grownBy w' v0.ownBlock) : Hk p w' base gW n H P hv pv hs ps :=
  ⟨h.blk.kept hg (rowOwn_ne ho h.blk (by decide)), h.gw, h.h.kept ho hg (by decide) (by decide) (fun _ _ h => h), h.p.kept ho hg (by decide) (by decide) (fun _ _ h => h), h.sep, h.hd⟩
theorem Own.keptP {w w' : World} {base : Nat} {v : Value} {xs : List Nat} (h : Own .u64 27 w base v xs) {b1 n0 : Nat} {v0 : Value} {xs0 : List Value} (ho : w.ownsRow b1 33 1 v0 n0 xs0) (hg : w.grownBy w' v0.ownBlock) : Own .u64 27 w' base v xs := by
  refine World.ownsRow.kept h hg ?_
  rcases h.2 with ⟨h1, _⟩ | ⟨g, cap, cur, h1, _, h2, _⟩
  · left; rw [h1]; rfl
  · right
    intro e
    rw [h1] at e
    exact rowOwn_ne ho h2 (by decide) e.symm
theorem Pls.push {p : Nat} {w w' : World} {base b1 : Nat} {bv bv' r : Value} {vs : List Value} {n : Nat} {D : Nat → Pol (Zp p)} {zs : List Nat} (h : Pls p w base bv vs n D) (hg : w.grownBy w' bv.ownBlock) (ho : w'.ownsRow base 33 1 bv' (n + 1) (vs ++ [r]))
    (hr : Own .u64 27 w b1 r zs) (hb : base ≤ b1) (hz : Nrm p zs) (hD : pl p zs = D n) (hl : zs.length ≤ n + 1) : Pls p w' base bv' (vs ++ [r]) (n + 1) D := by
  refine ⟨ho, by rw [List.length_append, h.2.1]; rfl, fun j v hv => ?_⟩
  by_cases hj : j < n
  · rw [List.getElem?_append_left (by rw [h.2.1]; exact hj)] at hv
    obtain ⟨ys, h1, h2⟩ := h.2.2 j v hv
    exact ⟨ys, h1.keptP h.1 hg, h2⟩
  · rw [List.getElem?_append_right (by rw [h.2.1]; omega), h.2.1] at hv
    have : j = n := by
      have := (List.getElem?_eq_some_iff.1 hv).1
      simp at this; omega
    subst this
    simp at hv
    subst hv
    exact ⟨zs, (hr.mono hb).keptP h.1 hg, hz, hD, hl⟩
theorem nrm_1 {p : Nat} (hp : FP p) : Nrm p [1] := ⟨wf_cons (by have := hp.1; omega) (wf_nil _), rfl⟩
theorem pls_start {p : Nat} (hp : FP p) (w : World) (D : Nat → Pol (Zp p)) (hD : D 0 = 1) :
    Pls p ((w.alloc (.cells #[.int .u64 1] 27)).alloc (.cells #[.slice (some ⟨w.heap.size, 0, none⟩) 1 1] 33)) w.heap.size (.slice (some ⟨w.heap.size + 1, 0, none⟩) 1 1) [.slice (some ⟨w.heap.size, 0, none⟩) 1 1] 1 D := by
  have e : (w.alloc (.cells #[.int .u64 1] 27)).heap.size = w.heap.size + 1 := by simp
  have h1 := World.ownsRow_lit (base := w.heap.size) (e := 33) (size := 1) (w.alloc (.cells #[.int .u64 1] 27)) #[.slice (some ⟨w.heap.size, 0, none⟩) 1 1] 1 (by rw [e]; omega) (by unfold maxLen; omega) rfl
  rw [e] at h1
  refine ⟨h1, rfl, fun j v hv => ?_⟩
  cases j with
  | zero =>
    simp at hv
    subst hv
    exact ⟨[1], (own_lit1 w 1).next ((Below.refl _ _).alloc (Nat.le_refl _) _), nrm_1 hp, by rw [hD]; exact pl1, by simp⟩
  | succ j => simp at hv

/-- A normal polynomial and a word are returned. -/
def RetPE (p : Nat) (w : World) (L : Nat) (f : Pol (Zp p)) (e : Ending) (w' : World) : Prop :=
  ∃ ao cap zs, e = .returned (.tuple #[.slice ao zs.length cap, .int .i64 0]) ∧ Own .u64 27 w' w.heap.size (.slice ao zs.length cap) zs ∧ Nrm p zs ∧ pl p zs = f ∧ zs.length ≤ L ∧ Below w.heap.size w w'
/-- Where the loop of Char stands. -/
def ChR (p : Nat) (w wr : World) (b0 gW n g : Nat) (mat : List Value) (H P : Nat → Nat → Zp p) (hv pv : Value) (hs ps : List Value) (i : Nat) (bv : Value) : Prop :=
  ∃ vs, Hk p wr b0 gW n H P hv pv hs ps ∧ Pls p wr w.heap.size bv vs (i + 1) (fun j => dn j (xh H)) ∧ Blk 42 wr g mat ∧ Below w.heap.size w wr

set_option maxRecDepth 20000 in
set_option maxHeartbeats 2000000 in
theorem hs_Char (p : Nat) (a : Value) (n : Nat) (xs : List Nat) (w : World) (hp : FP p) (ht : Trial p) (hA : Fm w a n n xs) (hn : n ≤ 64) (hx : xs.length = n * n) :
    Calls Try.prog 25 #[.agg #[.int .u64 p], a] w (RetPE p w (n + 1) (chi (mx p n n xs))) := by
  obtain ⟨aA, cA, rfl⟩ := hA.agg
  obtain ⟨wb, ew, KF, KA, B0, hsz⟩ := boxes2 w 29 42 [.int .u64 p] [.int .i64 n, .int .i64 n, .slice aA xs.length cA]
  clear hsz
  have HP := Lib.hid hp; clear hp
  have HTR := Lib.hid ht; clear ht
  replace hA := hA.next B0
  have HX := Lib.hid hx; clear hx
  obtain ⟨A, eA⟩ : ∃ A, A = mx p n n xs := ⟨_, rfl⟩
  rw [← eA]
  have EA := Lib.hid eA; clear eA
  go_enter Try.func25, Try.ntmps25
  go_upto_region 1 with (fail)
  rw [← ew]
  obtain ⟨g0, eg0⟩ : ∃ g, g = w.heap.size := ⟨_, rfl⟩
  rw [← eg0] at KF KA ⊢
  have hgw : w.heap.size ≤ g0 := by omega
  clear ew eg0
  have f0 := KF.cell 0; have f1 := KA.cell 0; have f2 := KA.cell 1; have f3 := KA.cell 2
  go_wp2_with fail
  refine (hs_square_yes _ n xs _ hA hn HX.out).mono ?_; rintro e w2 ⟨rfl, b2⟩
  replace B0 := B0.trans (b2.mono B0.size)
  replace KF := KF.next b2; replace KA := KA.next b2; replace hA := hA.next b2
  clear f0 f1 f2 f3 b2
  have f0 := KF.cell 0; have f1 := KA.cell 0; have f2 := KA.cell 1; have f3 := KA.cell 2
  go_wp2_with fail
  refine (hs_formed p _ n xs _ HP.out HTR.out hA hn HX.out).mono ?_; rintro e w3 ⟨gW, H, P, hv, pv, hs, ps, rfl, h1, ⟨hS, hH⟩, b3⟩
  rw [← EA.out] at hS
  have hch := chi_of_sim hS
  have HCH := Lib.hid hch; have HH := Lib.hid hH
  clear hch hH hS
  replace KF := KF.next b3; replace KA := KA.next b3; replace hA := hA.next b3
  clear f0 f1 f2 f3
  have hPl := pls_start HP.out w3 (fun j => dn j (xh H)) rfl
  obtain ⟨w4, ew4⟩ : ∃ w4, w4 = (w3.alloc (.cells #[.int .u64 1] 27)).alloc (.cells #[.slice (some ⟨w3.heap.size, 0, none⟩) 1 1] 33) := ⟨_, rfl⟩
  have b4 : Below w3.heap.size w3 w4 := by rw [ew4]; exact ((Below.refl _ _).alloc (Nat.le_refl _) _).alloc (by simp) _
  replace B0 := B0.trans (b3.mono B0.size)
  have hs3 := B0.size
  go_upto_region 5 with (fail)
  rw [← ew4] at hPl ⊢
  clear ew4
  have st : ChR p w w4 w2.heap.size gW n (g0 + 1) [.int .i64 n, .int .i64 n, .slice aA xs.length cA] H P hv pv hs ps 0 (.slice (some ⟨w3.heap.size + 1, 0, none⟩) 1 1) :=
    ⟨_, h1.next b4, ⟨rowOwn_mono hPl.1 hs3, hPl.2.1, fun j v hv => by obtain ⟨ys, h1, h2⟩ := hPl.2.2 j v hv; exact ⟨ys, h1.mono hs3, h2⟩⟩, KA.next b4, B0.trans (b4.mono hs3)⟩
  have f1 := (KA.next b4).cell 0
  clear KF KA hA h1 hPl b4 b3 B0 hs3
  go_wp2
  clear f1
  go_loopw [18, 7] (fun iv bv wr => ∃ i : Nat, i ≤ n ∧ iv = .int .i64 i ∧ ChR p w wr w2.heap.size gW n (g0 + 1) [.int .i64 n, .int .i64 n, .slice aA xs.length cA] H P hv pv hs ps i bv) (fun iv _ _ => n - (intOf iv).toNat)
  case atStart => exact ⟨0, by omega, rfl, st⟩
  case round =>
    clear st
    obtain ⟨i, hi, rfl, vs, h, hB, KA, B0⟩ := hrel
    have hbw := B0.size
    obtain ⟨gB, cB, rfl, hgb, hgB, hmc⟩ : ∃ g cap, u7 = .slice (some ⟨g, 0, none⟩) (i + 1) cap ∧ w.heap.size ≤ g ∧ g < wr.heap.size ∧ i + 1 ≤ cap := by
      rcases rowOwn_shape hB.1 with ⟨_, h0⟩ | h0
      · omega
      · exact h0
    by_cases hin : i < n
    · go_wp2_with fail
      refine (hs_next p _ HP.out w2.heap.size w.heap.size gW n H P _ _ hs ps h HH.out _ vs (i + 1) i rfl (by omega) hn hB).mono ?_; rintro e w5 ⟨r, zs, rfl, o5, m5, v5, l5, b5⟩
      obtain ⟨ar, cr, rfl⟩ := o5.sliced
      replace h := h.next b5; replace hB := hB.next b5; replace KA := KA.next b5
      replace B0 := B0.trans (b5.mono hbw)
      have hb5 : w.heap.size ≤ w5.heap.size := B0.size
      go_wp2_with (refine apVl 22 33 24 (.slice none 0 0) Try.underlying22 (by kernel_rfl) (by decide) rfl rfl _ _ rfl w5 w.heap.size _ (i + 1) vs (.slice ar zs.length cr) rfl hB.1 (by omega) hb5 rfl rfl ?_; intro gg cap w6 ho6 hb6 hg6 hor6)
      have h6 := h.kept hB.1 hg6
      have hB6 := hB.push hg6 ho6 o5 hbw m5 v5 l5
      have KA6 := KA.kept hg6 (rowOwn_ne hB.1 KA (by decide))
      have st := Lib.hid (show ChR p w w6 w2.heap.size gW n (g0 + 1) [.int .i64 n, .int .i64 n, .slice aA xs.length cA] H P hv pv hs ps (i + 1) (.slice (some ⟨gg, 0, none⟩) (i + 1 + 1) cap) from ⟨_, h6, hB6, KA6, B0.trans hb6⟩)
      clear h hB KA B0 h6 hB6 KA6 ho6 hb6 hg6 hor6 o5 m5 v5 b5
      go_wp2
      go_roundw
      case rel => exact ⟨i + 1, by omega, by go_num, st.out⟩
      case measure => simp [intOf] <;> omega
    · obtain rfl : i = n := by omega
      obtain ⟨vn, hvn⟩ : ∃ v, vs[i]? = some v := ⟨_, List.getElem?_eq_getElem (by rw [hB.2.1]; omega)⟩
      have qb := World.ownsRow.cellAt hB.1 i (by omega); rw [hvn] at qb
      obtain ⟨ys, o1, m1, v1, l1⟩ := hB.2.2 i vn hvn
      obtain ⟨ay, cy, rfl⟩ := o1.sliced
      have f1 := KA.cell 0
      have FR := Lib.hid (show RetPE p w (i + 1) (chi A) (.returned (.tuple #[.slice ay ys.length cy, .int .i64 0])) wr from ⟨_, _, ys, rfl, o1, m1, by rw [HCH.out]; exact v1, l1, B0⟩)
      clear h hB KA B0 o1 m1 v1 hvn
      go_wp2
      exact bodyPost_ret (v := .tuple #[.slice ay ys.length cy, .int .i64 0]) (by simp [results, Try.results25, go_sem]) rfl FR.out

set_option maxRecDepth 20000 in
theorem hs_Char_no (p : Nat) (a : Value) (R C : Int) (xs : List Nat) (w : World) (hA : Fm w a R C xs) (hno : ¬ (Fd R C xs.length ∧ R = C)) :
    Calls Try.prog 25 #[.agg #[.int .u64 p], a] w (fun e w' => e = .returned (.tuple #[.slice none 0 0, .int .i64 2]) ∧ Below w.heap.size w w') := by
  obtain ⟨aA, cA, rfl⟩ := hA.agg
  obtain ⟨wb, ew, KF, KA, B0, hsz⟩ := boxes2 w 29 42 [.int .u64 p] [.int .i64 R, .int .i64 C, .slice aA xs.length cA]
  clear hsz
  replace hA := hA.next B0
  go_enter Try.func25, Try.ntmps25
  go_upto_region 1 with (fail)
  rw [← ew]
  clear ew
  have f1 := KA.cell 0; have f2 := KA.cell 1; have f3 := KA.cell 2
  go_wp2_with fail
  refine (hs_square_no _ R C xs _ hA hno).mono ?_; rintro e w2 ⟨rfl, b2⟩
  go_wp2
  exact bodyPost_ret (v := .tuple #[.slice none 0 0, .int .i64 2]) (by simp [results, Try.results25, go_sem]) rfl ⟨rfl, B0.trans (b2.mono B0.size)⟩

end Go.Proofs.Ythghdjpjbngllaa
/- hess: Hessenberg. -/
namespace Go.Proofs.Ythghdjpjbngllaa
open Go.RowKit


set_option maxRecDepth 20000 in
set_option maxHeartbeats 4000000 in
theorem hs_Hessenberg (p : Nat) (a : Value) (n : Nat) (xs : List Nat) (w : World) (hp : FP p) (ht : Trial p) (hA : Fm w a n n xs) (hn : n ≤ 64) (hx : xs.length = n * n) :
    Calls Try.prog 28 #[.agg #[.int .u64 p], a] w (RetHes p w n (fun H P => (∃ X, Inv P X) ∧ P * mx p n n xs = H * P ∧ Hes n H.e)) := by
  obtain ⟨aA, cA, rfl⟩ := hA.agg
  obtain ⟨wb, ew, KF, KA, KH, KP, B0, hsz⟩ := boxes4 w 29 42 42 42 [.int .u64 p] [.int .i64 n, .int .i64 n, .slice aA xs.length cA] [.int .i64 0, .int .i64 0, .slice none 0 0] [.int .i64 0, .int .i64 0, .slice none 0 0]
  clear hsz
  have HP := Lib.hid hp; clear hp
  have HTR := Lib.hid ht; clear ht
  replace hA := hA.next B0
  have HX := Lib.hid hx; clear hx
  obtain ⟨A, eA⟩ : ∃ A, A = mx p n n xs := ⟨_, rfl⟩
  rw [← eA]
  have EA := Lib.hid eA; clear eA
  go_enter Try.func28, Try.ntmps28
  go_upto_region 1 with (fail)
  rw [← ew]
  obtain ⟨g, eg⟩ : ∃ g, g = w.heap.size := ⟨_, rfl⟩
  rw [← eg] at KF KA KH KP ⊢
  have hgw : w.heap.size ≤ g := by omega
  clear ew eg
  have f0 := KF.cell 0; have f1 := KA.cell 0; have f2 := KA.cell 1; have f3 := KA.cell 2
  go_wp2_with fail
  refine (hs_square_yes _ n xs _ hA hn HX.out).mono ?_; rintro e w2 ⟨rfl, b2⟩
  replace B0 := B0.trans (b2.mono B0.size)
  replace KF := KF.next b2; replace KA := KA.next b2; replace hA := hA.next b2; replace KH := KH.next b2; replace KP := KP.next b2
  clear f0 f1 f2 f3 b2
  have f0 := KF.cell 0; have f1 := KA.cell 0; have f2 := KA.cell 1; have f3 := KA.cell 2
  go_wp2_with fail
  refine (hs_formed p _ n xs _ HP.out HTR.out hA hn HX.out).mono ?_; rintro e w3 ⟨gW, H, P, hv, pv, hs, ps, rfl, h, ⟨hS, hH⟩, b3⟩
  rw [← EA.out] at hS
  have HS := Lib.hid hS; have HH := Lib.hid hH
  clear hH hS
  obtain ⟨ah, ch, rfl⟩ := h.h.slice_of
  obtain ⟨ap, cp, rfl⟩ := h.p.slice_of
  replace B0 := B0.trans (b3.mono B0.size)
  replace KH := KH.next b3; replace KP := KP.next b3
  clear f0 f1 f2 f3 b3 KF KA hA
  go_upto_region 4 with (fail)
  have bd := Drawn.below (w' := w3.drew) ⟨1, rfl⟩ w3.heap.size
  replace h := h.next bd; replace KH := KH.next bd; replace KP := KP.next bd
  replace B0 := B0.trans (bd.mono B0.size)
  clear bd
  have hlw := h.blk.lt
  have q1 := h.blk.cell 1; have q2 := h.blk.cell 2
  refine startL (S := (fun w' => Blk 107 w' gW [.int .u64 p, .slice ah n ch, .slice ap n cp])) (by kernel_rfl) h.blk (fun hHeld => ?_)
  refine takeL 0 (v := ?_) rfl (by kernel_rfl) (by kernel_rfl) (by kernel_rfl) (fun _ _ _ h => h) ⟨by rfl, ?_⟩ (by assumption) ?_
  rotate_left
  · intro w hS; go_simp <;> with_reducible rfl
  simp only [Act.put, List.setIfInBounds_toArray, List.set_cons_zero, List.set_cons_succ]
  refine takeL 1 (v := ?_) rfl (by kernel_rfl) (by kernel_rfl) (by kernel_rfl) (fun _ _ _ h => h) ⟨by rfl, ?_⟩ (by assumption) ?_
  rotate_left
  · intro w hS; go_simp <;> with_reducible rfl
  simp only [Act.put, List.setIfInBounds_toArray, List.set_cons_zero, List.set_cons_succ]
  refine takeL 2 (v := ?_) rfl (by kernel_rfl) (by kernel_rfl) (by kernel_rfl) (fun _ _ _ h => h) ⟨by rfl, ?_⟩ (by assumption) ?_
  rotate_left
  · intro w hS; go_simp <;> with_reducible rfl
  simp only [Act.put, List.setIfInBounds_toArray, List.set_cons_zero, List.set_cons_succ]
  refine takeL 3 (v := ?_) rfl (by kernel_rfl) (by kernel_rfl) (by kernel_rfl) (fun _ _ _ h => h) ⟨by rfl, ?_⟩ (by assumption) ?_
  rotate_left
  · intro w hS; have f1 := hS.cell 1; have f2 := hS.cell 2; go_simp <;> with_reducible rfl
  simp only [Act.put, List.setIfInBounds_toArray, List.set_cons_zero, List.set_cons_succ]
  refine takeL 5 (v := ?_) rfl (by kernel_rfl) (by kernel_rfl) (by kernel_rfl) (fun _ _ _ h => h) ⟨by rfl, ?_⟩ (by assumption) ?_
  rotate_left
  · intro w hS; go_simp <;> with_reducible rfl
  simp only [Act.put, List.setIfInBounds_toArray, List.set_cons_zero, List.set_cons_succ]
  refine takeL 6 (v := ?_) rfl (by kernel_rfl) (by kernel_rfl) (by kernel_rfl) (fun _ _ _ h => h) ⟨by rfl, ?_⟩ (by assumption) ?_
  rotate_left
  · intro w hS; go_simp <;> with_reducible rfl
  simp only [Act.put, List.setIfInBounds_toArray, List.set_cons_zero, List.set_cons_succ]
  refine takeL 7 (v := ?_) rfl (by kernel_rfl) (by kernel_rfl) (by kernel_rfl) (fun _ _ _ h => h) ⟨by rfl, ?_⟩ (by assumption) ?_
  rotate_left
  · intro w hS; go_simp <;> with_reducible rfl
  simp only [Act.put, List.setIfInBounds_toArray, List.set_cons_zero, List.set_cons_succ]
  refine takeL 8 (v := ?_) rfl (by kernel_rfl) (by kernel_rfl) (by kernel_rfl) (fun _ _ _ h => h) ⟨by rfl, ?_⟩ (by assumption) ?_
  rotate_left
  · intro w hS; have f1 := hS.cell 1; have f2 := hS.cell 2; go_simp <;> with_reducible rfl
  simp only [Act.put, List.setIfInBounds_toArray, List.set_cons_zero, List.set_cons_succ]
  refine oneL 4 rfl (by kernel_rfl) (by rfl) (fun K hK => ?_)
  go_simp
  go_at_call 86
  (with_reducible refine (hs_matrix p n _ _ _ hs H h.h hn).mono ?_); rintro e w5 ⟨aH, kH, rfl, oH, bH⟩; obtain ⟨M, eM⟩ : ∃ M, M = MT.of n n H := ⟨_, rfl⟩; rw [← eM] at oH ⊢; have EM := Lib.hid eM; clear eM
  refine hK.out _ _ (hHeld.next bH) (fun hHeld => ?_)
  clear hK K
  try simp only [Act.put, List.setIfInBounds_toArray, List.set_cons_zero, List.set_cons_succ]
  refine oneL 9 rfl (by kernel_rfl) (by rfl) (fun K hK => ?_)
  go_simp
  go_at_call 86
  (with_reducible refine (hs_matrix p n _ _ _ ps P (h.next bH).p hn).mono ?_); rintro e w6 ⟨aP, kP, rfl, oP, bP⟩; obtain ⟨N, eN⟩ : ∃ N, N = MT.of n n P := ⟨_, rfl⟩; rw [← eN] at oP ⊢; have EN := Lib.hid eN; clear eN; replace oH := oH.next bP; replace oP := oP.mono bH.size
  refine hK.out _ _ (hHeld.next bP) (fun hHeld => ?_)
  clear hK K
  try simp only [Act.put, List.setIfInBounds_toArray, List.set_cons_zero, List.set_cons_succ]
  refine oneL 10 rfl (by kernel_rfl) (by rfl) (fun K hK => ?_)
  have bHP := bH.trans (bP.mono bH.size)
  have hgg := KH.lt; have hgg2 := KP.lt
  have KH6 := KH.next bHP; have KP6 := KP.next bHP
  have hn2 : gW ≠ g + 1 + 1 := ne_typ (h.next bHP).blk KH6 (by decide)
  have hn3 : gW ≠ g + 1 + 1 + 1 := ne_typ (h.next bHP).blk KP6 (by decide)
  have y00 := KH6.cell 0; have z00 := KH6.free 0; have y01 := KH6.cell 1; have z01 := KH6.free 1; have y02 := KH6.cell 2; have z02 := KH6.free 2; have y10 := KP6.cell 0; have z10 := KP6.free 0; have y11 := KP6.cell 1; have z11 := KP6.free 1; have y12 := KP6.cell 2; have z12 := KP6.free 2
  go_simp
  refine hK.out _ _ (((hHeld.far (a := ⟨g + 1 + 1, 0, none⟩) hn2 (.int .i64 n)).far (a := ⟨g + 1 + 1, 1, none⟩) hn2 (.int .i64 n)).far (a := ⟨g + 1 + 1, 2, none⟩) hn2 (.slice aH (tbv M).length kH)) (fun hHeld => ?_)
  clear hK K
  try simp only [Act.put, List.setIfInBounds_toArray, List.set_cons_zero, List.set_cons_succ]
  refine oneL 11 rfl (by kernel_rfl) (by rfl) (fun K hK => ?_)
  have KP65 := (((KP6.far (a := ⟨g + 1 + 1, 0, none⟩) (show g + 1 + 1 + 1 ≠ g + 1 + 1 by omega) (.int .i64 n)).far (a := ⟨g + 1 + 1, 1, none⟩) (show g + 1 + 1 + 1 ≠ g + 1 + 1 by omega) (.int .i64 n)).far (a := ⟨g + 1 + 1, 2, none⟩) (show g + 1 + 1 + 1 ≠ g + 1 + 1 by omega) (.slice aH (tbv M).length kH))
  have x10 := KP65.cell 0; have xz10 := KP65.free 0; have x11 := KP65.cell 1; have xz11 := KP65.free 1; have x12 := KP65.cell 2; have xz12 := KP65.free 2
  go_simp
  refine hK.out _ _ (((hHeld.far (a := ⟨g + 1 + 1 + 1, 0, none⟩) hn3 (.int .i64 n)).far (a := ⟨g + 1 + 1 + 1, 1, none⟩) hn3 (.int .i64 n)).far (a := ⟨g + 1 + 1 + 1, 2, none⟩) hn3 (.slice aP (tbv N).length kP)) (fun hHeld => ?_)
  clear hK K
  try simp only [Act.put, List.setIfInBounds_toArray, List.set_cons_zero, List.set_cons_succ]
  refine takeL 12 (v := ?_) rfl (by kernel_rfl) (by kernel_rfl) (by kernel_rfl) (fun _ _ _ h => h) ⟨by rfl, ?_⟩ (by assumption) ?_
  rotate_left
  · intro w hS; go_simp <;> with_reducible rfl
  simp only [Act.put, List.setIfInBounds_toArray, List.set_cons_zero, List.set_cons_succ]
  refine doneL (by kernel_rfl) ?_ _
  replace B0 := B0.trans (bHP.mono B0.size)
  have hHs := B0.size
  have KH7 := ((KH6.set 0 (.int .i64 n)).set 1 (.int .i64 n)).set 2 (.slice aH (tbv M).length kH)
  have KP7 := ((((((KP6.far (a := ⟨g + 1 + 1, 0, none⟩) (show g + 1 + 1 + 1 ≠ g + 1 + 1 by omega) (.int .i64 n)).far (a := ⟨g + 1 + 1, 1, none⟩) (show g + 1 + 1 + 1 ≠ g + 1 + 1 by omega) (.int .i64 n)).far (a := ⟨g + 1 + 1, 2, none⟩) (show g + 1 + 1 + 1 ≠ g + 1 + 1 by omega) (.slice aH (tbv M).length kH))).set 0 (.int .i64 n)).set 1 (.int .i64 n)).set 2 (.slice aP (tbv N).length kP)
  have KH8 := ((KH7.far (a := ⟨g + 1 + 1 + 1, 0, none⟩) (show g + 1 + 1 ≠ g + 1 + 1 + 1 by omega) (.int .i64 n)).far (a := ⟨g + 1 + 1 + 1, 1, none⟩) (show g + 1 + 1 ≠ g + 1 + 1 + 1 by omega) (.int .i64 n)).far (a := ⟨g + 1 + 1 + 1, 2, none⟩) (show g + 1 + 1 ≠ g + 1 + 1 + 1 by omega) (.slice aP (tbv N).length kP)
  have c0 := KH8.cell 0; have c1 := KH8.cell 1; have c2 := KH8.cell 2
  have d0 := KP7.cell 0; have d1 := KP7.cell 1; have d2 := KP7.cell 2
  have low : ∀ {v : Value} {zs : List Nat}, Own .u64 27 w6 w3.drew.heap.size v zs → Own .u64 27 ((((((w6.setCell ⟨g + 1 + 1, 0, none⟩ (.int .i64 n)).setCell ⟨g + 1 + 1, 1, none⟩ (.int .i64 n)).setCell ⟨g + 1 + 1, 2, none⟩ (.slice aH (tbv M).length kH)).setCell ⟨g + 1 + 1 + 1, 0, none⟩ (.int .i64 n)).setCell ⟨g + 1 + 1 + 1, 1, none⟩ (.int .i64 n)).setCell ⟨g + 1 + 1 + 1, 2, none⟩ (.slice aP (tbv N).length kP)) w3.drew.heap.size v zs := fun h =>
    ((((((h.low (a := ⟨g + 1 + 1, 0, none⟩) hgg _).low (a := ⟨g + 1 + 1, 1, none⟩) hgg _).low (a := ⟨g + 1 + 1, 2, none⟩) hgg _).low (a := ⟨g + 1 + 1 + 1, 0, none⟩) hgg2 _).low (a := ⟨g + 1 + 1 + 1, 1, none⟩) hgg2 _).low (a := ⟨g + 1 + 1 + 1, 2, none⟩) hgg2 _)
  have BF := (((((B0.setCell (p := ⟨g + 1 + 1, 0, none⟩) (show w.heap.size ≤ g + 1 + 1 by omega) (.int .i64 n)).setCell (p := ⟨g + 1 + 1, 1, none⟩) (show w.heap.size ≤ g + 1 + 1 by omega) (.int .i64 n)).setCell (p := ⟨g + 1 + 1, 2, none⟩) (show w.heap.size ≤ g + 1 + 1 by omega) (.slice aH (tbv M).length kH)).setCell (p := ⟨g + 1 + 1 + 1, 0, none⟩) (show w.heap.size ≤ g + 1 + 1 + 1 by omega) (.int .i64 n)).setCell (p := ⟨g + 1 + 1 + 1, 1, none⟩) (show w.heap.size ≤ g + 1 + 1 + 1 by omega) (.int .i64 n)).setCell (p := ⟨g + 1 + 1 + 1, 2, none⟩) (show w.heap.size ≤ g + 1 + 1 + 1 by omega) (.slice aP (tbv N).length kP)
  have hw3 : w.heap.size ≤ w3.drew.heap.size := by omega
  have FR := Lib.hid (show RetHes p w n (fun H P => (∃ X, Inv P X) ∧ P * A = H * P ∧ Hes n H.e) (.returned (.tuple #[.agg #[.int .i64 n, .int .i64 n, (.slice aH (tbv M).length kH)], .agg #[.int .i64 n, .int .i64 n, (.slice aP (tbv N).length kP)], .int .i64 0])) ((((((w6.setCell ⟨g + 1 + 1, 0, none⟩ (.int .i64 n)).setCell ⟨g + 1 + 1, 1, none⟩ (.int .i64 n)).setCell ⟨g + 1 + 1, 2, none⟩ (.slice aH (tbv M).length kH)).setCell ⟨g + 1 + 1 + 1, 0, none⟩ (.int .i64 n)).setCell ⟨g + 1 + 1 + 1, 1, none⟩ (.int .i64 n)).setCell ⟨g + 1 + 1 + 1, 2, none⟩ (.slice aP (tbv N).length kP)) from
    ⟨_, _, _, _, M, N, rfl, (low oH).mono hw3, (low oP).mono hw3, ⟨by rw [EN.out]; exact HS.out.1, by rw [EN.out, EM.out]; exact HS.out.2, fun i c h1 h2 => by rw [EM.out, MT.of_e _ h2 (by omega)]; exact HH.out i c h1 h2⟩, BF⟩)
  clear h KH KP KH6 KP6 KH7 KP7 KH8 KP65 low oH oP BF B0 hHeld hlw q1 q2 hgg hgg2 bHP bH bP
  go_wp2
  exact bodyPost_ret (v := .tuple #[.agg #[.int .i64 n, .int .i64 n, (.slice aH (tbv M).length kH)], .agg #[.int .i64 n, .int .i64 n, (.slice aP (tbv N).length kP)], .int .i64 0]) (by simp [results, Try.results28, go_sem, c0, c1, c2, d0, d1, d2]) rfl FR.out

set_option maxRecDepth 20000 in
theorem hs_Hessenberg_no (p : Nat) (a : Value) (R C : Int) (xs : List Nat) (w : World) (hA : Fm w a R C xs) (hno : ¬ (Fd R C xs.length ∧ R = C)) :
    Calls Try.prog 28 #[.agg #[.int .u64 p], a] w (fun e w' => e = .returned (.tuple #[.agg #[.int .i64 0, .int .i64 0, .slice none 0 0], .agg #[.int .i64 0, .int .i64 0, .slice none 0 0], .int .i64 2]) ∧ Below w.heap.size w w') := by
  obtain ⟨aA, cA, rfl⟩ := hA.agg
  obtain ⟨wb, ew, KF, KA, KH, KP, B0, hsz⟩ := boxes4 w 29 42 42 42 [.int .u64 p] [.int .i64 R, .int .i64 C, .slice aA xs.length cA] [.int .i64 0, .int .i64 0, .slice none 0 0] [.int .i64 0, .int .i64 0, .slice none 0 0]
  clear hsz
  replace hA := hA.next B0
  go_enter Try.func28, Try.ntmps28
  go_upto_region 1 with (fail)
  rw [← ew]
  obtain ⟨g, eg⟩ : ∃ g, g = w.heap.size := ⟨_, rfl⟩
  rw [← eg] at KF KA KH KP ⊢
  have hgw : w.heap.size ≤ g := by omega
  clear ew eg
  have f1 := KA.cell 0; have f2 := KA.cell 1; have f3 := KA.cell 2
  go_wp2_with fail
  refine (hs_square_no _ R C xs _ hA hno).mono ?_; rintro e w2 ⟨rfl, b2⟩
  replace B0 := B0.trans (b2.mono B0.size)
  clear f1 f2 f3
  have KH6 := KH.next b2; have KP6 := KP.next b2
  clear KF KA KH KP hA b2
  have y00 := KH6.cell 0; have z00 := KH6.free 0; have y01 := KH6.cell 1; have z01 := KH6.free 1; have y02 := KH6.cell 2; have z02 := KH6.free 2; have y10 := KP6.cell 0; have z10 := KP6.free 0; have y11 := KP6.cell 1; have z11 := KP6.free 1; have y12 := KP6.cell 2; have z12 := KP6.free 2
  have KH7 := ((KH6.set 0 (.int .i64 0)).set 1 (.int .i64 0)).set 2 (.slice none 0 0)
  have KP7 := ((((((KP6.far (a := ⟨g + 1 + 1, 0, none⟩) (show g + 1 + 1 + 1 ≠ g + 1 + 1 by omega) (.int .i64 0)).far (a := ⟨g + 1 + 1, 1, none⟩) (show g + 1 + 1 + 1 ≠ g + 1 + 1 by omega) (.int .i64 0)).far (a := ⟨g + 1 + 1, 2, none⟩) (show g + 1 + 1 + 1 ≠ g + 1 + 1 by omega) (.slice none 0 0))).set 0 (.int .i64 0)).set 1 (.int .i64 0)).set 2 (.slice none 0 0)
  have KH8 := ((KH7.far (a := ⟨g + 1 + 1 + 1, 0, none⟩) (show g + 1 + 1 ≠ g + 1 + 1 + 1 by omega) (.int .i64 0)).far (a := ⟨g + 1 + 1 + 1, 1, none⟩) (show g + 1 + 1 ≠ g + 1 + 1 + 1 by omega) (.int .i64 0)).far (a := ⟨g + 1 + 1 + 1, 2, none⟩) (show g + 1 + 1 ≠ g + 1 + 1 + 1 by omega) (.slice none 0 0)
  have c0 := KH8.cell 0; have c1 := KH8.cell 1; have c2 := KH8.cell 2
  have d0 := KP7.cell 0; have d1 := KP7.cell 1; have d2 := KP7.cell 2
  have BF := (((((B0.setCell (p := ⟨g + 1 + 1, 0, none⟩) (show w.heap.size ≤ g + 1 + 1 by omega) (.int .i64 0)).setCell (p := ⟨g + 1 + 1, 1, none⟩) (show w.heap.size ≤ g + 1 + 1 by omega) (.int .i64 0)).setCell (p := ⟨g + 1 + 1, 2, none⟩) (show w.heap.size ≤ g + 1 + 1 by omega) (.slice none 0 0)).setCell (p := ⟨g + 1 + 1 + 1, 0, none⟩) (show w.heap.size ≤ g + 1 + 1 + 1 by omega) (.int .i64 0)).setCell (p := ⟨g + 1 + 1 + 1, 1, none⟩) (show w.heap.size ≤ g + 1 + 1 + 1 by omega) (.int .i64 0)).setCell (p := ⟨g + 1 + 1 + 1, 2, none⟩) (show w.heap.size ≤ g + 1 + 1 + 1 by omega) (.slice none 0 0)
  clear KH6 KP6 KH7 KP7 KH8 B0
  go_wp2
  exact bodyPost_ret (v := .tuple #[.agg #[.int .i64 0, .int .i64 0, .slice none 0 0], .agg #[.int .i64 0, .int .i64 0, .slice none 0 0], .int .i64 2]) (by simp [results, Try.results28, go_sem, c0, c1, c2, d0, d1, d2]) rfl ⟨rfl, BF⟩

end Go.Proofs.Ythghdjpjbngllaa
/- hess: Companion. -/
namespace Go.Proofs.Ythghdjpjbngllaa
open Go.RowKit


theorem ix_inj {n a b c d : Nat} (hb : b < n) (hd : d < n) (h : a * n + b = c * n + d) : a = c ∧ b = d := by
  have h1 : a = c := by
    rcases Nat.lt_trichotomy a c with h' | h' | h'
    · have := Nat.mul_le_mul_right n (show a + 1 ≤ c from h'); rw [Nat.succ_mul] at this; omega
    · exact h'
    · have := Nat.mul_le_mul_right n (show c + 1 ≤ a from h'); rw [Nat.succ_mul] at this; omega
  subst h1; exact ⟨rfl, by omega⟩
theorem getD_set1 (es : List Nat) (j x i : Nat) (hj : j < es.length) : (es.set j x).getD i 0 = if i = j then x else es.getD i 0 := by
  simp only [List.getD, List.getElem?_set]
  by_cases h : j = i
  · subst h; simp [hj]
  · rw [if_neg h, if_neg (fun e => h e.symm)]
/-- The companion matrix of a monic polynomial. -/
def cmp (p n : Nat) (zs : List Nat) : MT (Zp p) n n := MT.of n n fun i k => if k + 1 = n then -Zp.of p (zs.getD i 0) else if k + 1 = i then 1 else 0
theorem Own.headlt {k : IntKind} {e : TypeId} {w : World} {base g n cap : Nat} {xs : List Nat} (h : Own k e w base (.slice (some ⟨g, 0, none⟩) n cap) xs) : g < w.heap.size := by
  have := World.ownsRow.lt h g rfl
  exact this.2
def CoL (p n : Nat) (zs : List Nat) (i : Nat) (es : List Nat) : Prop := es.length = n * n ∧ ∀ a b, a < n → b < n → es.getD (a * n + b) 0 = if a < i then ((cmp p n zs).e a b).val else 0
def CoL1 (n i : Nat) (T : Nat → Nat → Nat) (es : List Nat) : Prop := es.length = n * n ∧ ∀ a b, a < n → b < n → es.getD (a * n + b) 0 = if a < i then T a b else if a = i ∧ b + 1 = i then 1 else 0
theorem CoL.sub {p n : Nat} {zs : List Nat} {i : Nat} {es : List Nat} (h : CoL p n zs i es) (hi : i < n) {l : Nat} (hl : i = l + 1) : CoL1 n i (fun a b => ((cmp p n zs).e a b).val) (es.set (i * n + l) 1) := by
  have hlt := at_lt (n := es.length) h.1 hi (show l < n by omega)
  refine ⟨by rw [List.length_set]; exact h.1, fun a b ha hb => ?_⟩
  rw [getD_set1 _ _ _ _ hlt, h.2 a b ha hb]
  by_cases e : a = i ∧ b = l
  · rw [if_pos (by rw [e.1, e.2]), if_neg (by omega), if_pos (by omega)]
  · rw [if_neg (fun h => e (ix_inj hb (by omega) h))]
    by_cases e2 : a < i
    · rw [if_pos e2, if_pos e2]
    · rw [if_neg e2, if_neg e2, if_neg (by omega)]
theorem CoL.zero {p n : Nat} {zs : List Nat} {es : List Nat} (h : CoL p n zs 0 es) : CoL1 n 0 (fun a b => ((cmp p n zs).e a b).val) es :=
  ⟨h.1, fun a b ha hb => by rw [h.2 a b ha hb, if_neg (by omega), if_neg (by omega), if_neg (by omega)]⟩
theorem CoL1.read {n i : Nat} {T : Nat → Nat → Nat} {es : List Nat} (h : CoL1 n i T es) (hi : i < n) {m : Nat} (hm : n = m + 1) : es.getD (i * n + m) 0 = 0 := by
  rw [h.2 i m hi (by omega), if_neg (by omega), if_neg (by omega)]
theorem CoL1.last {p n : Nat} {zs : List Nat} {i : Nat} {es : List Nat} (hp : FP p) (h : CoL1 n i (fun a b => ((cmp p n zs).e a b).val) es) (hi : i < n) {m : Nat} (hm : n = m + 1) {z : Nat} (hz : z = (-Zp.of p (zs.getD i 0)).val) : CoL p n zs (i + 1) (es.set (i * n + m) z) := by
  have hlt := at_lt (n := es.length) h.1 hi (show m < n by omega)
  refine ⟨by rw [List.length_set]; exact h.1, fun a b ha hb => ?_⟩
  rw [getD_set1 _ _ _ _ hlt, h.2 a b ha hb]
  by_cases e : a = i ∧ b = m
  · obtain ⟨rfl, rfl⟩ := e
    rw [if_pos rfl, if_pos (by omega)]
    unfold cmp
    rw [MT.of_e _ ha hb, if_pos hm.symm, hz]
  · rw [if_neg (fun h => e (ix_inj hb (by omega) h))]
    by_cases e2 : a < i
    · rw [if_pos e2, if_pos (by omega)]
    · rw [if_neg e2]
      by_cases e3 : a = i
      · subst e3
        rw [if_pos (show a < a + 1 by omega)]
        unfold cmp
        rw [MT.of_e _ ha hb, if_neg (show ¬ b + 1 = n by omega)]
        by_cases e4 : b + 1 = a
        · rw [if_pos ⟨rfl, e4⟩, if_pos e4]
          rw [← Zp.of_one, Zp.val_of, Nat.mod_eq_of_lt (by have := hp.1; omega)]
        · rw [if_neg (fun h => e4 h.2), if_neg e4]; rfl
      · rw [if_neg (fun h => e3 h.1), if_neg (show ¬ a < i + 1 by omega)]
theorem CoL.start (p n : Nat) (zs : List Nat) : CoL p n zs 0 (List.replicate (n * n) 0) := ⟨by simp, fun a b _ _ => by
  rw [if_neg (by omega)]
  simp only [List.getD, List.getElem?_replicate]
  split <;> rfl⟩
theorem CoL.all {p n : Nat} {zs es : List Nat} (h : CoL p n zs n es) : es = tbv (cmp p n zs) := by
  rw [list_ftab h.1]
  unfold tbv
  exact ftab_congr fun i k hi hk => by rw [h.2 i k hi hk, if_pos hi]

set_option maxRecDepth 20000 in
theorem hs_Companion_no (p : Nat) (v : Value) (gs zs : List Nat) (w : World) (hp : FP p) (hv : Sl .u64 w v gs) (hg : gs.length ≤ 60) (hz : zs = nl p gs) (hno : zs = [] ∨ zs.getD (zs.length - 1) 0 ≠ 1) :
    Calls Try.prog 66 #[.agg #[.int .u64 p], v] w (RetFX w 3) := by
  obtain ⟨wb, ew, KF, KR, B0, hsz⟩ := boxes2 w 29 42 [.int .u64 p] [.int .i64 0, .int .i64 0, .slice none 0 0]
  clear hsz
  have HP := Lib.hid hp; clear hp
  replace hv := hv.next B0
  have HZ := Lib.hid hz; clear hz
  have HN := Lib.hid hno; clear hno
  go_enter Try.func66, Try.ntmps66
  go_upto_region 1 with (fail)
  rw [← ew]
  obtain ⟨g, eg⟩ : ∃ g, g = w.heap.size + 1 := ⟨_, rfl⟩
  rw [← eg] at KR ⊢
  have hgw : w.heap.size ≤ g := by omega
  clear ew eg
  have f0 := KF.cell 0
  go_wp2_with fail
  refine (fp_Norm p v gs _ HP.out hv (by omega)).mono ?_; rintro e w2 ⟨r, zs', rfl, o2, m2, v2, l2, b2⟩
  obtain rfl : zs' = zs := by rw [HZ.out]; exact nl_is HP.out.pos m2 v2
  obtain ⟨ar, cr, rfl⟩ := o2.sliced
  replace B0 := B0.trans (b2.mono B0.size)
  replace KR := KR.next b2
  clear f0 KF hv v2 m2 b2 HZ
  rcases Nat.eq_zero_or_pos zs'.length with h0 | h0
  · have e0 : ((zs'.length : Nat) : Int) = 0 := by omega
    clear o2
    have f0 := KR.free 0; have f1 := KR.free 1; have f2 := KR.free 2
    have c0 := KR.cell 0; have c1 := KR.cell 1; have c2 := KR.cell 2
    have KF := ((KR.set 0 (.int .i64 0)).set 1 (.int .i64 0)).set 2 (.slice none 0 0)
    have d0 := KF.cell 0; have d1 := KF.cell 1; have d2 := KF.cell 2
    have FR := Lib.hid (show RetFX w 3 (.returned (.tuple #[.agg #[.int .i64 0, .int .i64 0, .slice none 0 0], .int .i64 3])) (((w2.setCell ⟨g, 0, none⟩ (.int .i64 0)).setCell ⟨g, 1, none⟩ (.int .i64 0)).setCell ⟨g, 2, none⟩ (.slice none 0 0)) from ⟨rfl, ((B0.setCell (p := ⟨g, 0, none⟩) hgw _).setCell (p := ⟨g, 1, none⟩) hgw _).setCell (p := ⟨g, 2, none⟩) hgw _⟩)
    clear KF KR B0
    go_wp2
    exact bodyPost_ret (v := .tuple #[.agg #[.int .i64 0, .int .i64 0, .slice none 0 0], .int .i64 3]) (by simp [results, Try.results66, go_sem, d0, d1, d2]) rfl FR.out
  · have hx : zs'.getD (zs'.length - 1) 0 ≠ 1 := by
      rcases HN.out with h | h
      · rw [h] at h0; simp at h0
      · exact h
    obtain ⟨n, hn⟩ : ∃ n, n = zs'.length - 1 := ⟨_, rfl⟩
    obtain ⟨L, hL⟩ : ∃ L, L = zs'.length := ⟨_, rfl⟩
    rw [← hn] at hx
    have qx : ∃ x : Nat, x ≠ 1 ∧ w2.cell? ⟨0, 0, none⟩ = w2.cell? ⟨0, 0, none⟩ := ⟨0, by omega, rfl⟩
    clear qx
    obtain ⟨gz, cz, e2⟩ : ∃ g cap, (Value.slice ar zs'.length cr) = .slice (some ⟨g, 0, none⟩) zs'.length cap := by
      rcases o2.shape with ⟨_, h⟩ | ⟨g, cap, h, _⟩
      · rw [h] at h0; simp at h0
      · exact ⟨g, cap, h⟩
    rw [e2] at o2
    simp only [Value.slice.injEq, true_and] at e2
    obtain ⟨rfl, rfl⟩ := e2
    have q := o2.cellAt n (by omega)
    obtain ⟨x, ex⟩ : ∃ x, x = zs'.getD n 0 := ⟨_, rfl⟩
    rw [← ex] at q hx
    have hx2 : ((x : Int) != 1) = true := by simp; omega
    have s1 : IntKind.i64.wrap (((zs'.length : Nat) : Int) - 1) = (n : Int) := by rw [IntWalk.i64_in _ ⟨by omega, by omega⟩]; omega
    have hnl : n < zs'.length := by omega
    clear ex hn hx o2 hL
    have f0 := KR.free 0; have f1 := KR.free 1; have f2 := KR.free 2
    have c0 := KR.cell 0; have c1 := KR.cell 1; have c2 := KR.cell 2
    have KF := ((KR.set 0 (.int .i64 0)).set 1 (.int .i64 0)).set 2 (.slice none 0 0)
    have d0 := KF.cell 0; have d1 := KF.cell 1; have d2 := KF.cell 2
    have FR := Lib.hid (show RetFX w 3 (.returned (.tuple #[.agg #[.int .i64 0, .int .i64 0, .slice none 0 0], .int .i64 3])) (((w2.setCell ⟨g, 0, none⟩ (.int .i64 0)).setCell ⟨g, 1, none⟩ (.int .i64 0)).setCell ⟨g, 2, none⟩ (.slice none 0 0)) from ⟨rfl, ((B0.setCell (p := ⟨g, 0, none⟩) hgw _).setCell (p := ⟨g, 1, none⟩) hgw _).setCell (p := ⟨g, 2, none⟩) hgw _⟩)
    clear KF KR B0
    go_wp2
    exact bodyPost_ret (v := .tuple #[.agg #[.int .i64 0, .int .i64 0, .slice none 0 0], .int .i64 3]) (by simp [results, Try.results66, go_sem, d0, d1, d2]) rfl FR.out

theorem gfp_Add0 (p b z : Nat) (w : World) (hp : FP p) (hz : z = (Zp.of p 0 + Zp.of p b).val) : Calls Try.prog 95 #[.agg #[.int .u64 p], .int .u64 0, .int .u64 b] w fun e w' => e = .returned (.int .u64 (z : Nat)) ∧ Below w.heap.size w w' := gfp_Add p 0 b z w hp hz
/-- Where the loop of Companion stands. -/
def CoR (w1 wr : World) (n N gE gM : Nat) (Q : List Nat → Prop) : Prop := ∃ es, Own .u64 27 wr gE (.slice (some ⟨gE, 0, none⟩) N N) es ∧ es.length = N ∧ Q es ∧ Blk 42 wr gM [.int .i64 n, .int .i64 n, .slice (some ⟨gE, 0, none⟩) N N] ∧ Below gE w1 wr

set_option maxRecDepth 20000 in
set_option maxHeartbeats 400000 in
theorem hs_Companion (p : Nat) (v : Value) (gs zs : List Nat) (n : Nat) (w : World) (hp : FP p) (hv : Sl .u64 w v gs) (hg : gs.length ≤ 60) (hz : zs = nl p gs) (hn : zs.length = n + 1) (h1 : zs.getD n 0 = 1) :
    Calls Try.prog 66 #[.agg #[.int .u64 p], v] w (RetFE p w n n (cmp p n zs)) := by
  obtain ⟨wb, ew, KF, KR, B0, hsz⟩ := boxes2 w 29 42 [.int .u64 p] [.int .i64 0, .int .i64 0, .slice none 0 0]
  clear hsz
  have HP := Lib.hid hp; clear hp
  replace hv := hv.next B0
  have HZ := Lib.hid hz; clear hz
  have H1 := Lib.hid h1; clear h1
  have HN := Lib.hid hn
  have hn60 : n ≤ 60 := by
    have := HZ.out; have := nl_len p gs; rw [← HZ.out] at this; omega
  clear hn
  go_enter Try.func66, Try.ntmps66
  go_upto_region 1 with (fail)
  rw [← ew]
  obtain ⟨g, eg⟩ : ∃ g, g = w.heap.size + 1 := ⟨_, rfl⟩
  rw [← eg] at KR ⊢
  have hgw : w.heap.size ≤ g := by omega
  clear ew eg
  obtain ⟨gF, egF⟩ : ∃ gF, gF = w.heap.size := ⟨_, rfl⟩
  rw [← egF] at KF ⊢
  clear egF
  have f0 := KF.cell 0
  go_wp2_with fail
  refine (fp_Norm p v gs _ HP.out hv (by omega)).mono ?_; rintro e w2 ⟨r, zs', rfl, o2, m2, v2, l2, b2⟩
  obtain rfl : zs' = zs := by rw [HZ.out]; exact nl_is HP.out.pos m2 v2
  obtain ⟨gz, cz, rfl⟩ : ∃ g cap, r = .slice (some ⟨g, 0, none⟩) zs'.length cap := by
    rcases o2.shape with ⟨_, h⟩ | ⟨g, cap, h, _⟩
    · have := HN.out; rw [h] at this; simp at this
    · exact ⟨g, cap, h⟩
  replace B0 := B0.trans (b2.mono B0.size)
  replace KR := KR.next b2; replace KF := KF.next b2
  clear f0 hv v2 m2 b2 HZ
  have q := o2.cellAt n (by have := HN.out; omega)
  rw [H1.out] at q
  obtain ⟨L, hL⟩ : ∃ L, L = zs'.length := ⟨_, rfl⟩
  rw [← hL] at o2 ⊢
  have hLn : L = n + 1 := by rw [hL, HN.out]
  have HL := Lib.hid hL; clear hL
  have s1 : IntKind.i64.wrap ((L : Int) - 1) = (n : Int) := by rw [IntWalk.i64_in _ ⟨by omega, by omega⟩]; omega
  have hnn : n * n ≤ 60 * 60 := Nat.mul_le_mul hn60 hn60
  obtain ⟨N, eN⟩ : ∃ N, N = n * n := ⟨_, rfl⟩
  have s2 : IntKind.i64.wrap ((n : Int) * (n : Int)) = (N : Int) := by rw [eN, ← Int.natCast_mul]; exact IntWalk.i64_in _ ⟨by omega, by omega⟩
  have HEN := Lib.hid eN
  have hN : N ≤ 3600 := by omega
  clear eN hnn
  have hnL : n < L := by omega
  have HLN := Lib.hid hLn; clear hLn
  go_upto_region 7 with (fail)
  clear q
  go_wp2_with (at_make; refine wp_make .u64 32 27 8 Try.underlying32 (by kernel_rfl) (by decide) rfl _ _ rfl .i64 .i64 N (by omega) _ _ _ rfl rfl (by omega) (by omega) ?_; intro w3 hq hbel hsz)
  obtain ⟨w4, ew4, KM, B4, hs4⟩ := boxes1 w3 42 [.int .i64 n, .int .i64 n, .slice (some ⟨w2.heap.size, 0, none⟩) N N]
  clear hs4
  rw [← ew4]
  clear ew4
  obtain ⟨gE, egE⟩ : ∃ g, g = w2.heap.size := ⟨_, rfl⟩
  obtain ⟨gM, egM⟩ : ∃ g, g = w3.heap.size := ⟨_, rfl⟩
  have HEM := Lib.hid (show gE < gM by omega)
  have HBE := Lib.hid (show w.heap.size ≤ gE by rw [egE]; exact B0.size)
  have HGE := Lib.hid egE
  rw [← egE] at hq hbel KM ⊢
  rw [← egM] at KM B4 ⊢
  have B4' := hbel.trans (B4.mono (by omega))
  have st : CoR w2 w4 n N gE gM (CoL p n zs' 0) := ⟨_, (hq.below B4 (by omega)), by simp, by rw [HEN.out]; exact CoL.start p n zs', KM, B4'⟩
  have hsE : gE ≤ w2.heap.size := by omega
  have hlE : w2.heap.size ≤ gE := by omega
  clear hq hbel KM B4 B4' egE egM hsz
  have HB0 := Lib.hid B0; have HKF := Lib.hid KF; have HKR := Lib.hid KR; have HO2 := Lib.hid o2
  clear B0 KF KR o2
  go_wp2
  go_loopw [38] (fun iv wr => ∃ i : Nat, i ≤ n ∧ iv = .int .i64 i ∧ CoR w2 wr n N gE gM (CoL p n zs' i)) (fun iv _ => n - (intOf iv).toNat)
  case atStart => exact ⟨0, by omega, rfl, st⟩
  case round =>
    clear st
    obtain ⟨i, hi, rfl, es, ho, hlen, hq, KM, B1⟩ := hrel
    by_cases hin : i < n
    · have hii : i * n + n ≤ N := by
        have := Nat.mul_le_mul_right n (show i + 1 ≤ n from hin); rw [Nat.succ_mul] at this
        rw [HEN.out]; exact this
      obtain ⟨lo, elo⟩ : ∃ lo, lo = i * n := ⟨_, rfl⟩
      rw [← elo] at hii
      have a1 : IntKind.i64.wrap ((i : Int) * (n : Int)) = (lo : Int) := by rw [elo, ← Int.natCast_mul]; exact IntWalk.i64_in _ ⟨by omega, by omega⟩
      obtain ⟨l, hl⟩ : ∃ l, n = l + 1 := ⟨n - 1, by omega⟩
      obtain ⟨mi, emi⟩ : ∃ mi, mi = lo + n := ⟨_, rfl⟩
      obtain ⟨ix, eix⟩ : ∃ ix, ix = lo + l := ⟨_, rfl⟩
      have a2 : IntKind.i64.wrap ((lo : Int) + (n : Int)) = (mi : Int) := by rw [emi, ← Int.natCast_add]; exact IntWalk.i64_in _ ⟨by omega, by omega⟩
      have a3 : IntKind.i64.wrap ((mi : Int) - 1) = (ix : Int) := by rw [IntWalk.i64_in _ ⟨by omega, by omega⟩]; omega
      have hixN : ix < N := by omega
      have HLO := Lib.hid elo; have HLL := Lib.hid hl; have HIX := Lib.hid eix
      clear elo hl emi eix
      go_upto_if 42 with (fail)
      go_cut [] (fun wx => CoR w2 wx n N gE gM (CoL1 n i (fun a b => ((cmp p n zs').e a b).val)))
      case first =>
        by_cases h0 : i = 0
        · have st := Lib.hid (show CoR w2 wr n N gE gM (CoL1 n i (fun a b => ((cmp p n zs').e a b).val)) from ⟨es, ho, hlen, by subst h0; exact hq.zero, KM, B1⟩)
          have hn0 : ¬ (i : Int) > 0 := by omega
          clear ho hq KM B1 h0
          go_wp2
          go_meet
          exact st.out
        · obtain ⟨k, hk⟩ : ∃ k, i = k + 1 := ⟨i - 1, by omega⟩
          have hp0 : (i : Int) > 0 := by omega
          obtain ⟨mj, emj⟩ : ∃ mj, mj = lo + i := ⟨_, rfl⟩
          obtain ⟨jx, ejx⟩ : ∃ jx, jx = lo + k := ⟨_, rfl⟩
          have c2 : IntKind.i64.wrap ((lo : Int) + (i : Int)) = (mj : Int) := by rw [emj, ← Int.natCast_add]; exact IntWalk.i64_in _ ⟨by omega, by omega⟩
          have c3 : IntKind.i64.wrap ((mj : Int) - 1) = (jx : Int) := by rw [IntWalk.i64_in _ ⟨by omega, by omega⟩]; omega
          have hjN : jx < N := by omega
          have q1 := ho.cellAt jx (by omega); have z1 := ho.frozenAt jx
          have q2 := KM.cell 2
          have st := Lib.hid (show CoR w2 (wr.setCell ⟨gE, jx, none⟩ (.int .u64 1)) n N gE gM (CoL1 n i (fun a b => ((cmp p n zs').e a b).val)) from
            ⟨es.set jx 1, (ho.store jx 1).1, by rw [List.length_set]; exact hlen, by rw [ejx, HLO.out]; exact hq.sub hin hk, KM.far (a := ⟨gE, jx, none⟩) (Nat.ne_of_gt HEM.out) _, B1.setCell (p := ⟨gE, jx, none⟩) (Nat.le_refl _) _⟩)
          clear ho hq KM B1 h0 hk emj ejx
          go_wp2
          go_meet
          exact st.out
      case rest =>
        clear ho hq KM B1 hlen
        obtain ⟨es1, ho, hlen, hq, KM, B1⟩ := hcut
        have hsr : gE ≤ wc.heap.size := Nat.le_trans hsE (B1.size)
        go_upto_region 13 with (fail)
        have bd := Drawn.below (w' := wc.drew) ⟨1, rfl⟩ wc.heap.size
        replace ho := ho.next bd; replace KM := KM.next bd
        replace B1 := B1.trans (bd.mono hsr)
        have hsr : gE ≤ wc.drew.heap.size := hsr
        clear bd
        have KF := HKF.out.below B1 (Nat.lt_of_lt_of_le HKF.out.lt hlE)
        have o2 := HO2.out.below B1 hlE
        have q1 := ho.cellAt ix (by omega)
        rw [show es1.getD ix 0 = 0 by rw [HIX.out, HLO.out]; exact hq.read hin HLL.out] at q1
        have hiL : i < L := by omega
        have q3 := o2.cellAt i (by have := HL.out; omega)
        obtain ⟨x, ex⟩ : ∃ x, x = zs'.getD i 0 := ⟨_, rfl⟩
        rw [← ex] at q3
        obtain ⟨y, ey⟩ : ∃ y, y = (-Zp.of p x).val := ⟨_, rfl⟩
        obtain ⟨z, ez⟩ : ∃ z, z = (Zp.of p 0 + Zp.of p y).val := ⟨_, rfl⟩
        have ez2 : z = (-Zp.of p (zs'.getD i 0)).val := by rw [ez, ey, ex, Zp.of_zero, CR.zero_add, Zp.of_val]
        have hlE2 : gE < wc.drew.heap.size := Own.headlt ho
        have hlz : gz < wc.drew.heap.size := Own.headlt o2
        have EY := Lib.hid ey; have EZ := Lib.hid ez; have EZ2 := Lib.hid ez2
        clear ex ey ez ez2
        have HQ := Lib.hid hq; have HO := Lib.hid ho; have HO3 := Lib.hid o2; have HB1 := Lib.hid B1; have HSR := Lib.hid hsr; have HII := Lib.hid hii; have HNX := Lib.hid (And.intro hg (And.intro hn60 hN))
        clear hq ho o2 B1 hsr hii hg hn60 hN
        refine startP (S := (fun w' => Below (wc.drew).heap.size (wc.drew) w')) (by kernel_rfl) _ rfl rfl rfl (by kernel_rfl) (Below.refl _ _) (fun hHeld => ?_)
        refine takeL 0 (v := ?_) rfl (by kernel_rfl) (by kernel_rfl) (by kernel_rfl) (fun _ _ _ h => h) ⟨by rfl, ?_⟩ (by assumption) ?_
        rotate_left
        · intro w hS; go_simp <;> with_reducible rfl
        simp only [Act.put, List.setIfInBounds_toArray, List.set_cons_zero, List.set_cons_succ]
        refine takeL 1 (v := ?_) rfl (by kernel_rfl) (by kernel_rfl) (by kernel_rfl) (fun _ _ _ h => h) ⟨by rfl, ?_⟩ (by assumption) ?_
        rotate_left
        · intro w hS; have f1 := (hS.cell (p := ⟨gM, 2, none⟩) KM.lt).trans (KM.cell 2); have f2 := (hS.cell (p := ⟨gF, 0, none⟩) KF.lt).trans (KF.cell 0); have f3 := (hS.cell (p := ⟨gE, ix, none⟩) hlE2).trans q1; have f4 := (hS.cell (p := ⟨gz, i, none⟩) hlz).trans q3; go_simp <;> with_reducible rfl
        simp only [Act.put, List.setIfInBounds_toArray, List.set_cons_zero, List.set_cons_succ]
        refine takeL 2 (v := ?_) rfl (by kernel_rfl) (by kernel_rfl) (by kernel_rfl) (fun _ _ _ h => h) ⟨by rfl, ?_⟩ (by assumption) ?_
        rotate_left
        · intro w hS; go_simp <;> with_reducible rfl
        simp only [Act.put, List.setIfInBounds_toArray, List.set_cons_zero, List.set_cons_succ]
        refine takeL 3 (v := ?_) rfl (by kernel_rfl) (by kernel_rfl) (by kernel_rfl) (fun _ _ _ h => h) ⟨by rfl, ?_⟩ (by assumption) ?_
        rotate_left
        · intro w hS; go_simp <;> with_reducible rfl
        simp only [Act.put, List.setIfInBounds_toArray, List.set_cons_zero, List.set_cons_succ]
        refine takeL 4 (v := ?_) rfl (by kernel_rfl) (by kernel_rfl) (by kernel_rfl) (fun _ _ _ h => h) ⟨by rfl, ?_⟩ (by assumption) ?_
        rotate_left
        · intro w hS; go_simp <;> with_reducible rfl
        simp only [Act.put, List.setIfInBounds_toArray, List.set_cons_zero, List.set_cons_succ]
        refine takeL 5 (v := ?_) rfl (by kernel_rfl) (by kernel_rfl) (by kernel_rfl) (fun _ _ _ h => h) ⟨by rfl, ?_⟩ (by assumption) ?_
        rotate_left
        · intro w hS; go_simp <;> with_reducible rfl
        simp only [Act.put, List.setIfInBounds_toArray, List.set_cons_zero, List.set_cons_succ]
        refine takeL 6 (v := ?_) rfl (by kernel_rfl) (by kernel_rfl) (by kernel_rfl) (fun _ _ _ h => h) ⟨by rfl, ?_⟩ (by assumption) ?_
        rotate_left
        · intro w hS; go_simp <;> with_reducible rfl
        simp only [Act.put, List.setIfInBounds_toArray, List.set_cons_zero, List.set_cons_succ]
        refine takeL 7 (v := ?_) rfl (by kernel_rfl) (by kernel_rfl) (by kernel_rfl) (fun _ _ _ h => h) ⟨by rfl, ?_⟩ (by assumption) ?_
        rotate_left
        · intro w hS; go_simp <;> with_reducible rfl
        simp only [Act.put, List.setIfInBounds_toArray, List.set_cons_zero, List.set_cons_succ]
        refine takeL 8 (v := ?_) rfl (by kernel_rfl) (by kernel_rfl) (by kernel_rfl) (fun _ _ _ h => h) ⟨by rfl, ?_⟩ (by assumption) ?_
        rotate_left
        · intro w hS; have f1 := (hS.cell (p := ⟨gM, 2, none⟩) KM.lt).trans (KM.cell 2); have f2 := (hS.cell (p := ⟨gF, 0, none⟩) KF.lt).trans (KF.cell 0); have f3 := (hS.cell (p := ⟨gE, ix, none⟩) hlE2).trans q1; have f4 := (hS.cell (p := ⟨gz, i, none⟩) hlz).trans q3; go_simp <;> with_reducible rfl
        simp only [Act.put, List.setIfInBounds_toArray, List.set_cons_zero, List.set_cons_succ]
        refine takeL 9 (v := ?_) rfl (by kernel_rfl) (by kernel_rfl) (by kernel_rfl) (fun _ _ _ h => h) ⟨by rfl, ?_⟩ (by assumption) ?_
        rotate_left
        · intro w hS; go_simp <;> with_reducible rfl
        simp only [Act.put, List.setIfInBounds_toArray, List.set_cons_zero, List.set_cons_succ]
        refine takeL 10 (v := ?_) rfl (by kernel_rfl) (by kernel_rfl) (by kernel_rfl) (fun _ _ _ h => h) ⟨by rfl, ?_⟩ (by assumption) ?_
        rotate_left
        · intro w hS; have f1 := (hS.cell (p := ⟨gM, 2, none⟩) KM.lt).trans (KM.cell 2); have f2 := (hS.cell (p := ⟨gF, 0, none⟩) KF.lt).trans (KF.cell 0); have f3 := (hS.cell (p := ⟨gE, ix, none⟩) hlE2).trans q1; have f4 := (hS.cell (p := ⟨gz, i, none⟩) hlz).trans q3; go_simp <;> with_reducible rfl
        simp only [Act.put, List.setIfInBounds_toArray, List.set_cons_zero, List.set_cons_succ]
        refine takeL 11 (v := ?_) rfl (by kernel_rfl) (by kernel_rfl) (by kernel_rfl) (fun _ _ _ h => h) ⟨by rfl, ?_⟩ (by assumption) ?_
        rotate_left
        · intro w hS; go_simp <;> with_reducible rfl
        simp only [Act.put, List.setIfInBounds_toArray, List.set_cons_zero, List.set_cons_succ]
        refine takeL 12 (v := ?_) rfl (by kernel_rfl) (by kernel_rfl) (by kernel_rfl) (fun _ _ _ h => h) ⟨by rfl, ?_⟩ (by assumption) ?_
        rotate_left
        · intro w hS; go_simp <;> with_reducible rfl
        simp only [Act.put, List.setIfInBounds_toArray, List.set_cons_zero, List.set_cons_succ]
        refine takeL 13 (v := ?_) rfl (by kernel_rfl) (by kernel_rfl) (by kernel_rfl) (fun _ _ _ h => h) ⟨by rfl, ?_⟩ (by assumption) ?_
        rotate_left
        · intro w hS; go_simp <;> with_reducible rfl
        simp only [Act.put, List.setIfInBounds_toArray, List.set_cons_zero, List.set_cons_succ]
        refine takeL 14 (v := ?_) rfl (by kernel_rfl) (by kernel_rfl) (by kernel_rfl) (fun _ _ _ h => h) ⟨by rfl, ?_⟩ (by assumption) ?_
        rotate_left
        · intro w hS; go_simp <;> with_reducible rfl
        simp only [Act.put, List.setIfInBounds_toArray, List.set_cons_zero, List.set_cons_succ]
        refine takeL 15 (v := ?_) rfl (by kernel_rfl) (by kernel_rfl) (by kernel_rfl) (fun _ _ _ h => h) ⟨by rfl, ?_⟩ (by assumption) ?_
        rotate_left
        · intro w hS; go_simp <;> with_reducible rfl
        simp only [Act.put, List.setIfInBounds_toArray, List.set_cons_zero, List.set_cons_succ]
        refine takeL 16 (v := ?_) rfl (by kernel_rfl) (by kernel_rfl) (by kernel_rfl) (fun _ _ _ h => h) ⟨by rfl, ?_⟩ (by assumption) ?_
        rotate_left
        · intro w hS; go_simp <;> with_reducible rfl
        simp only [Act.put, List.setIfInBounds_toArray, List.set_cons_zero, List.set_cons_succ]
        refine takeL 17 (v := ?_) rfl (by kernel_rfl) (by kernel_rfl) (by kernel_rfl) (fun _ _ _ h => h) ⟨by rfl, ?_⟩ (by assumption) ?_
        rotate_left
        · intro w hS; go_simp <;> with_reducible rfl
        simp only [Act.put, List.setIfInBounds_toArray, List.set_cons_zero, List.set_cons_succ]
        refine takeL 18 (v := ?_) rfl (by kernel_rfl) (by kernel_rfl) (by kernel_rfl) (fun _ _ _ h => h) ⟨by rfl, ?_⟩ (by assumption) ?_
        rotate_left
        · intro w hS; have f1 := (hS.cell (p := ⟨gM, 2, none⟩) KM.lt).trans (KM.cell 2); have f2 := (hS.cell (p := ⟨gF, 0, none⟩) KF.lt).trans (KF.cell 0); have f3 := (hS.cell (p := ⟨gE, ix, none⟩) hlE2).trans q1; have f4 := (hS.cell (p := ⟨gz, i, none⟩) hlz).trans q3; go_simp <;> with_reducible rfl
        simp only [Act.put, List.setIfInBounds_toArray, List.set_cons_zero, List.set_cons_succ]
        refine takeL 19 (v := ?_) rfl (by kernel_rfl) (by kernel_rfl) (by kernel_rfl) (fun _ _ _ h => h) ⟨by rfl, ?_⟩ (by assumption) ?_
        rotate_left
        · intro w hS; have f1 := (hS.cell (p := ⟨gM, 2, none⟩) KM.lt).trans (KM.cell 2); have f2 := (hS.cell (p := ⟨gF, 0, none⟩) KF.lt).trans (KF.cell 0); have f3 := (hS.cell (p := ⟨gE, ix, none⟩) hlE2).trans q1; have f4 := (hS.cell (p := ⟨gz, i, none⟩) hlz).trans q3; go_simp <;> with_reducible rfl
        simp only [Act.put, List.setIfInBounds_toArray, List.set_cons_zero, List.set_cons_succ]
        refine takeL 20 (v := ?_) rfl (by kernel_rfl) (by kernel_rfl) (by kernel_rfl) (fun _ _ _ h => h) ⟨by rfl, ?_⟩ (by assumption) ?_
        rotate_left
        · intro w hS; go_simp <;> with_reducible rfl
        simp only [Act.put, List.setIfInBounds_toArray, List.set_cons_zero, List.set_cons_succ]
        refine takeL 21 (v := ?_) rfl (by kernel_rfl) (by kernel_rfl) (by kernel_rfl) (fun _ _ _ h => h) ⟨by rfl, ?_⟩ (by assumption) ?_
        rotate_left
        · intro w hS; go_simp <;> with_reducible rfl
        simp only [Act.put, List.setIfInBounds_toArray, List.set_cons_zero, List.set_cons_succ]
        refine takeL 22 (v := ?_) rfl (by kernel_rfl) (by kernel_rfl) (by kernel_rfl) (fun _ _ _ h => h) ⟨by rfl, ?_⟩ (by assumption) ?_
        rotate_left
        · intro w hS; go_simp <;> with_reducible rfl
        simp only [Act.put, List.setIfInBounds_toArray, List.set_cons_zero, List.set_cons_succ]
        refine takeL 23 (v := ?_) rfl (by kernel_rfl) (by kernel_rfl) (by kernel_rfl) (fun _ _ _ h => h) ⟨by rfl, ?_⟩ (by assumption) ?_
        rotate_left
        · intro w hS; have f1 := (hS.cell (p := ⟨gM, 2, none⟩) KM.lt).trans (KM.cell 2); have f2 := (hS.cell (p := ⟨gF, 0, none⟩) KF.lt).trans (KF.cell 0); have f3 := (hS.cell (p := ⟨gE, ix, none⟩) hlE2).trans q1; have f4 := (hS.cell (p := ⟨gz, i, none⟩) hlz).trans q3; go_simp <;> with_reducible rfl
        simp only [Act.put, List.setIfInBounds_toArray, List.set_cons_zero, List.set_cons_succ]
        refine oneL 24 rfl (by kernel_rfl) (by rfl) (fun K hK => ?_)
        go_simp
        go_at_call 114
        (with_reducible refine (gfp_Neg p x y _ HP.out EY.out).mono ?_); rintro e w5 ⟨rfl, b5⟩
        refine hK.out _ _ (hHeld.trans (b5.mono hHeld.size)) (fun hHeld => ?_)
        clear hK K
        try simp only [Act.put, List.setIfInBounds_toArray, List.set_cons_zero, List.set_cons_succ]
        refine oneL 25 rfl (by kernel_rfl) (by rfl) (fun K hK => ?_)
        go_simp
        go_at_call 95
        (with_reducible refine (gfp_Add0 p y z _ HP.out EZ.out).mono ?_); rintro e w6 ⟨rfl, b6⟩
        refine hK.out _ _ (hHeld.trans (b6.mono hHeld.size)) (fun hHeld => ?_)
        clear hK K
        try simp only [Act.put, List.setIfInBounds_toArray, List.set_cons_zero, List.set_cons_succ]
        refine takeL 26 (v := ?_) rfl (by kernel_rfl) (by kernel_rfl) (by kernel_rfl) (fun _ _ _ h => h) ⟨by rfl, ?_⟩ (by assumption) ?_
        rotate_left
        · intro w hS; go_simp <;> with_reducible rfl
        simp only [Act.put, List.setIfInBounds_toArray, List.set_cons_zero, List.set_cons_succ]
        refine doneL (by kernel_rfl) ?_ _
        refine lastL rfl (by rfl) ?_
        have hq := HQ.out; have ho := HO.out; have o2 := HO3.out; have B1 := HB1.out; have hsr := HSR.out; obtain ⟨hg, hn60, hN⟩ := HNX.out
        have ho2 := ho.next hHeld
        have qc := ho2.cellAt ix (by omega); have zc := ho2.frozenAt ix
        have KM2 := KM.next hHeld
        have st := Lib.hid (show CoR w2 (w6.setCell ⟨gE, ix, none⟩ (.int .u64 z)) n N gE gM (CoL p n zs' (i + 1)) from
          ⟨es1.set ix z, (ho2.store ix z).1, by rw [List.length_set]; exact hlen, by rw [HIX.out, HLO.out]; exact hq.last HP.out hin HLL.out EZ2.out, KM2.far (a := ⟨gE, ix, none⟩) (Nat.ne_of_gt HEM.out) _, (B1.trans (hHeld.mono hsr)).setCell (p := ⟨gE, ix, none⟩) (Nat.le_refl _) _⟩)
        clear ho ho2 hq KM KM2 KF o2 B1 hHeld q1 q3 hlE2 hlz b6 b5
        go_wp2
        go_roundw
        case rel => exact ⟨i + 1, by omega, by go_num, st.out⟩
        case measure => simp [intOf] <;> omega
    · obtain rfl : i = n := by omega
      have hes := hq.all
      subst hes
      obtain ⟨M, eM⟩ : ∃ M, M = cmp p i zs' := ⟨_, rfl⟩
      rw [← eM] at ho hlen
      have EM := Lib.hid eM; clear eM
      have KR := HKR.out.below B1 (Nat.lt_of_lt_of_le HKR.out.lt hlE)
      have hgE : g < gE := Nat.lt_of_lt_of_le HKR.out.lt hlE
      have k0 := KM.cell 0; have k1 := KM.cell 1; have k2 := KM.cell 2
      have f0 := KR.free 0; have f1 := KR.free 1; have f2 := KR.free 2
      have c0 := KR.cell 0; have c1 := KR.cell 1; have c2 := KR.cell 2
      have KF := ((KR.set 0 (.int .i64 i)).set 1 (.int .i64 i)).set 2 (.slice (some ⟨gE, 0, none⟩) N N)
      have d0 := KF.cell 0; have d1 := KF.cell 1; have d2 := KF.cell 2
      have of := ((ho.low (a := ⟨g, 0, none⟩) hgE (.int .i64 i)).low (a := ⟨g, 1, none⟩) hgE (.int .i64 i)).low (a := ⟨g, 2, none⟩) hgE (.slice (some ⟨gE, 0, none⟩) N N)
      have B2 := HB0.out.trans (B1.mono HBE.out)
      have BF := ((B2.setCell (p := ⟨g, 0, none⟩) hgw (.int .i64 i)).setCell (p := ⟨g, 1, none⟩) hgw (.int .i64 i)).setCell (p := ⟨g, 2, none⟩) hgw (.slice (some ⟨gE, 0, none⟩) N N)
      have FR := Lib.hid (show RetFE p w i i (cmp p i zs') (.returned (.tuple #[.agg #[.int .i64 i, .int .i64 i, .slice (some ⟨gE, 0, none⟩) N N], .int .i64 0])) (((wr.setCell ⟨g, 0, none⟩ (.int .i64 i)).setCell ⟨g, 1, none⟩ (.int .i64 i)).setCell ⟨g, 2, none⟩ (.slice (some ⟨gE, 0, none⟩) N N)) from
        by rw [← EM.out]; exact ⟨some ⟨gE, 0, none⟩, N, by rw [hlen], by rw [hlen]; exact of.mono HBE.out, BF⟩)
      clear KF KR of BF B1 B2 ho KM
      go_wp2
      exact bodyPost_ret (v := .tuple #[.agg #[.int .i64 i, .int .i64 i, .slice (some ⟨gE, 0, none⟩) N N], .int .i64 0]) (by simp [results, Try.results66, go_sem, d0, d1, d2]) rfl FR.out

end Go.Proofs.Ythghdjpjbngllaa
/- hess: the characteristic polynomial of a companion; the awake of law 22. -/
namespace Go.Proofs.Ythghdjpjbngllaa
open Go.RowKit


section
variable {p n : Nat} {zs : List Nat}
theorem cmp_sub {j : Nat} (hj : j + 1 < n) : (cmp p n zs).e (j + 1) j = 1 := by
  unfold cmp; rw [MT.of_e _ hj (by omega), if_neg (by omega), if_pos rfl]
theorem cmp_nul {i k : Nat} (hi : i < n) (hk : k + 1 < n) (h : k + 1 ≠ i) : (cmp p n zs).e i k = 0 := by
  unfold cmp; rw [MT.of_e _ hi (by omega), if_neg (by omega), if_neg h]
theorem cmp_end {i k : Nat} (hi : i < n) (hk : k + 1 = n) : (cmp p n zs).e i k = -Zp.of p (zs.getD i 0) := by
  unfold cmp; rw [MT.of_e _ hi (by omega), if_pos hk]
theorem cmp_hes : Hes n (cmp p n zs).e := fun i c h1 h2 => cmp_nul h2 (by omega) (by omega)
theorem mon11 (a : Zp p) (k : Nat) : mon 1 1 * mon a k = mon a (k + 1) := by rw [mon_mul, CR.one_mul, Nat.add_comm]
theorem cmp_vA : ∀ j k, j ≤ k → k + 1 < n → hesV (cmp p n zs).e j k = 0
  | 0, _, _, _ => rfl
  | j + 1, k, h1, h2 => by
    show mon ((cmp p n zs).e (j + 1) j) 0 * hesU (xh (cmp p n zs).e) j k = 0
    rw [hesU_V cmp_hes (by omega), cmp_vA j k (by omega) h2]
    unfold xh
    rw [if_neg (by omega), cmp_nul (by omega) h2 (by omega), mon_zero, CR.sub_zero, CR.zero_mul, CR.add_zero, CR.mul_zero]
theorem cmp_dB : ∀ k, k < n → dn k (xh (cmp p n zs).e) = mon 1 k
  | 0, _ => rfl
  | k + 1, h => by
    rw [hesV_start cmp_hes (by omega), cmp_dB k (by omega), cmp_vA k k (by omega) h, cmp_nul (by omega) h (by omega), mon_zero, CR.sub_zero, CR.mul_zero, CR.add_zero, mon11]
theorem mon_negz (a : Zp p) (k : Nat) : mon (-a) k = -mon a k := Pol.ext fun i => by
  rw [Pol.c_neg, c_mon, c_mon]; split
  · rfl
  · exact CR.neg_zero.symm
theorem cmp_vC (m : Nat) (hm : n = m + 1) : ∀ j, j ≤ m → hesV (cmp p n zs).e j m = pl p (zs.take j)
  | 0, _ => by rw [List.take_zero, pl_nil]; rfl
  | j + 1, h => by
    show mon ((cmp p n zs).e (j + 1) j) 0 * hesU (xh (cmp p n zs).e) j m = _
    rw [cmp_sub (by omega), show (mon 1 0 : Pol (Zp p)) = 1 from rfl, CR.one_mul, hesU_V cmp_hes (by omega), cmp_vC m hm j (by omega), cmp_dB j (by omega), pl_take_succ, CR.add_comm]
    congr 1
    unfold xh
    rw [if_neg (by omega), cmp_end (by omega) hm.symm, mon_negz, CR.zero_sub, CR.neg_neg, mon_mul, CR.mul_one, Nat.zero_add]
/-- A monic polynomial is the characteristic one of its companion. -/
theorem chi_cmp (hl : zs.length = n + 1) (h1 : zs.getD n 0 = 1) : chi (cmp p n zs) = pl p zs := by
  rw [chi_xh]
  have e : pl p zs = pl p (zs.take n) + mon 1 n := by
    have := pl_take_succ p zs n
    rw [List.take_of_length_le (by omega), h1, Zp.of_one] at this
    exact this
  rw [e]
  cases n with
  | zero => rw [List.take_zero, pl_nil, CR.zero_add]; rfl
  | succ m =>
    rw [hesV_start cmp_hes (Nat.lt_succ_self m), cmp_vC m rfl m (Nat.le_refl _), cmp_dB m (Nat.lt_succ_self m), cmp_end (Nat.lt_succ_self m) rfl, pl_take_succ, show (mon 1 0 : Pol (Zp p)) = 1 from rfl, CR.one_mul, mon_negz, ← mon11 1 m]
    have : mon (Zp.of p (zs.getD m 0)) m = mon (Zp.of p (zs.getD m 0)) 0 * mon 1 m := by rw [mon_mul, CR.mul_one, Nat.zero_add]
    rw [this]
    exact by_ring [mon 1 1, mon (Zp.of p (zs.getD m 0)) 0, mon 1 m, pl p (zs.take m)] ((X0 - -X1) * X2 + X3) (X3 + X1 * X2 + X0 * X2) rfl
end

theorem own_lit3 (w : World) (x y z : Nat) : Own .u64 27 (w.alloc (.cells #[.int .u64 x, .int .u64 y, .int .u64 z] 27)) w.heap.size (.slice (some ⟨w.heap.size, 0, none⟩) 3 3) [x, y, z] :=
  World.ownsRow_lit w #[.int .u64 x, .int .u64 y, .int .u64 z] 3 (Nat.le_refl _) (by unfold maxLen; omega) rfl
theorem own_lit101 (w : World) : Own .u64 27 (w.alloc (.cells #[.int .u64 1, .int .u64 0, .int .u64 1] 27)) w.heap.size (.slice (some ⟨w.heap.size, 0, none⟩) 3 3) [1, 0, 1] := own_lit3 w 1 0 1

set_option maxRecDepth 20000 in
set_option maxHeartbeats 1000000 in
theorem law22_awake (w : World) : Calls Try.prog 23 #[] w (LawOk w) := by
  obtain ⟨p, ep⟩ : ∃ p, p = Ps 3 := ⟨_, rfl⟩
  have hp : FP p := by rw [ep]; exact Ps_FP (by omega)
  have ht : Trial p := by rw [ep]; exact Ps_trial (by omega)
  have c0 : ∀ w : World, Calls Try.prog 17 #[.int .u8 3] w fun e w' => e = .returned (.agg #[.int .u64 (p : Nat)]) ∧ Below w.heap.size w w' := fun w => by rw [ep]; exact law9_Of 3 w
  have hzs : [1, 0, 1] = nl p [1, 0, 1] := by rw [ep]; rfl
  have hn3 : Nrm p [1, 0, 1] := by rw [ep]; exact ⟨wf_cons (by decide) (wf_cons (by decide) (wf_cons (by decide) (wf_nil _))), rfl⟩
  have C0 := Lib.hid c0; have HP := Lib.hid hp; have HT := Lib.hid ht; have HZS := Lib.hid hzs; have HN3 := Lib.hid hn3
  clear c0 hp ht hzs hn3 ep
  go_enter Try.func23, Try.ntmps23
  go_wp2_with fail
  refine (C0.out _).mono ?_; rintro e w1 ⟨rfl, b1⟩
  go_wp2_with fail
  obtain ⟨w2, ew2, KF, B2, -⟩ := boxes1 w1 29 [.int .u64 p]
  have l3 := own_lit101 w2
  have b3 := (Below.refl w2.heap.size w2).alloc (Nat.le_refl _) (.cells #[.int .u64 1, .int .u64 0, .int .u64 1] 27)
  have KF3 := KF.next b3
  have hs2 : w2.heap.size = w1.heap.size + 1 := by rw [ew2]; simp
  rw [hs2] at l3
  have B3 := b1.trans ((B2.trans (b3.mono B2.size)).mono b1.size)
  obtain ⟨w3, ew3⟩ : ∃ w3, w3 = w2.alloc (.cells #[.int .u64 1, .int .u64 0, .int .u64 1] 27) := ⟨_, rfl⟩
  rw [← ew3] at l3 KF3 B3
  rw [ew2] at ew3
  rw [← ew3]
  clear ew3 ew2 KF b3 B2
  obtain ⟨n, en⟩ : ∃ n, n = 2 := ⟨_, rfl⟩
  obtain ⟨M, eM⟩ : ∃ M, M = cmp p n [1, 0, 1] := ⟨_, rfl⟩
  have hch : chi M = pl p [1, 0, 1] := by rw [eM]; exact chi_cmp (by rw [en]; rfl) (by rw [en]; rfl)
  have hn64 : n ≤ 64 := by omega
  have HCH := Lib.hid hch; have EN := Lib.hid en; clear hch en
  refine (hs_Companion p _ [1, 0, 1] [1, 0, 1] n _ HP.out l3.sl (by simp) HZS.out (by rw [EN.out]; rfl) (by rw [EN.out]; rfl)).mono ?_; rintro e w4 ⟨ao, k, rfl, o4, b4⟩
  rw [← eM] at o4 ⊢
  clear eM
  replace B3 := B3.trans (b4.mono B3.size)
  replace KF3 := KF3.next b4
  obtain ⟨w5, ew5, KM, B5, -⟩ := boxes1 w4 42 [.int .i64 n, .int .i64 n, .slice ao (tbv M).length k]
  go_upto_region 3 with (fail)
  rw [← ew5]
  clear ew5
  replace B3 := B3.trans (B5.mono B3.size)
  replace KF3 := KF3.next B5
  have hA : Fm w5 (.agg #[.int .i64 n, .int .i64 n, .slice ao (tbv M).length k]) n n (tbv M) := ⟨_, rfl, (o4.next B5).sl⟩
  have f0 := KF3.cell 0; have f1 := KM.cell 0; have f2 := KM.cell 1; have f3 := KM.cell 2
  clear l3 o4 b4 B5
  go_wp2_with fail
  refine (hs_Char p _ n (tbv M) _ HP.out HT.out hA hn64 (tbv_length M)).mono ?_; rintro e w6 ⟨a6, c6, zs, rfl, o6, m6, v6, l6, b6⟩
  obtain rfl : zs = [1, 0, 1] := pl_inj HP.out.pos m6 HN3.out (by rw [v6, mx_tbv, HCH.out])
  clear f0 f1 f2 f3 KF3 KM hA v6 m6 l6
  replace B3 := B3.trans (b6.mono B3.size)
  have l7 := own_lit101 w6
  have b7 := (Below.refl w6.heap.size w6).alloc (Nat.le_refl _) (.cells #[.int .u64 1, .int .u64 0, .int .u64 1] 27)
  go_wp2_with fail
  refine (ref9_Same _ _ [1, 0, 1] [1, 0, 1] true _ (o6.next b7).sl l7.sl (by simp) (by simp) (decide_eq_true rfl).symm).mono ?_; rintro e w8 ⟨rfl, q8⟩
  have b8 := q8.below (w6.alloc (.cells #[.int .u64 1, .int .u64 0, .int .u64 1] 27)).heap.size
  clear o6 l7
  go_wp2
  go_ret
  exact ⟨rfl, (B3.trans (b7.mono B3.size)).trans (b8.mono (B3.trans (b7.mono B3.size)).size)⟩

end Go.Proofs.Ythghdjpjbngllaa
