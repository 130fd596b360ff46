/- hess: a matrix of rows; what a work begins with. -/
import Derived.Test.YthghdjpjbngllaaZeHrow
namespace Go.Proofs.Ythghdjpjbngllaa
open Go.RowKit

theorem Rws.slice_of {p : Nat} {w : World} {base : Nat} {rv : Value} {vs : List Value} {N C : Nat} {f : Nat → Nat → Zp p} (h : Rws (VZ p) 27 32 w base rv vs N C f) : ∃ a c, rv = .slice a N c := by
  rcases h.shape with ⟨e, e2⟩ | ⟨g, cap, e, -⟩
  · exact ⟨_, _, by rw [e, e2]⟩
  · exact ⟨_, _, e⟩
/-- The state of a work of hess: the rows of the matrix, and of what it is turned by, in blocks apart. -/
structure Hk (p : Nat) (w : World) (base gW n : Nat) (H P : Nat → Nat → Zp p) (hv pv : Value) (hs ps : List Value) : Prop where
  blk : Blk 107 w gW [.int .u64 p, hv, pv]
  gw : base ≤ gW
  h : Rws (VZ p) 27 32 w base hv hs n n H
  p : Rws (VZ p) 27 32 w base pv ps n n P
  sep : ∀ (i j : Nat) (b o c b' o' c' : Nat), hs[i]? = some (.slice (some ⟨b, o, none⟩) n c) → ps[j]? = some (.slice (some ⟨b', o', none⟩) n c') → b ≠ b'
  hd : ∀ g, hv.ownBlock = some g → pv.ownBlock ≠ some g
theorem Hk.next {p : Nat} {w w' : World} {base gW n : Nat} {H P : Nat → Nat → Zp p} {hv pv : Value} {hs ps : List Value} (h : Hk p w base gW n H P hv pv hs ps) (hb : Below w.heap.size w w') : Hk p w' base gW n H P hv pv hs ps :=
  ⟨h.blk.next hb, h.gw, h.h.next hb (fun _ _ h => h), h.p.next hb (fun _ _ h => h), h.sep, h.hd⟩
/-- A work of hess is returned. -/
def RetHk (p : Nat) (w : World) (n : Nat) (Q : (Nat → Nat → Zp p) → (Nat → Nat → Zp p) → Prop) (e : Ending) (w' : World) : Prop :=
  ∃ gW H P hv pv hs ps, e = .returned (.pointer (some ⟨gW, 0, none⟩)) ∧ Hk p w' w.heap.size gW n H P hv pv hs ps ∧ Q H P ∧ Below w.heap.size w w'

set_option maxRecDepth 20000 in
set_option maxHeartbeats 1000000 in
theorem hs_begun (p : Nat) (a : Value) (n : Nat) (xs : List Nat) (w : World) (hp : FP p) (hA : Fm w a n n xs) (hn : n ≤ 64) (hx : xs.length = n * n) :
    Calls Try.prog 126 #[.agg #[.int .u64 p], a] w (RetHk p w n (fun H P => H = (mx p n n xs).e ∧ P = (MT.one n : MT (Zp p) n n).e)) := by
  obtain ⟨aA, cA, rfl⟩ := hA.agg
  obtain ⟨wb, ew, KF, KA, B0, hsz⟩ := boxes2 w 29 42 [.int .u64 p] [.int .i64 n, .int .i64 n, .slice aA xs.length cA]
  clear hsz
  have HP := Lib.hid hp; clear hp
  replace hA := hA.next B0
  have HX := Lib.hid hx; clear hx
  go_enter Try.func126, Try.ntmps126
  go_upto_region 1 with (fail)
  rw [← ew]
  obtain ⟨g0, eg0⟩ : ∃ g, g = w.heap.size := ⟨_, rfl⟩
  rw [← eg0] at KF KA ⊢
  clear ew eg0
  have f0 := KF.cell 0; have f1 := KA.cell 0
  go_wp2_with fail
  refine (fm_Identity p n _ HP.out hn).mono ?_; rintro e w2 ⟨ao, k, rfl, o2, b2⟩
  clear f0 f1
  have HL := Lib.hid (tbv_length (MT.one n : MT (Zp p) n n))
  obtain ⟨wc, ewc, KM, B2, hs2⟩ := boxes1 w2 42 [.int .i64 n, .int .i64 n, .slice ao (tbv (MT.one n : MT (Zp p) n n)).length k]
  clear hs2
  have bb := b2.trans (B2.mono b2.size)
  replace B0 := B0.trans (bb.mono B0.size)
  replace KF := KF.next bb; replace KA := KA.next bb; replace hA := hA.next bb
  have hI : Fm wc (.agg #[.int .i64 n, .int .i64 n, .slice ao (tbv (MT.one n : MT (Zp p) n n)).length k]) n n (tbv (MT.one n : MT (Zp p) n n)) := ⟨_, rfl, (o2.next B2).sl⟩
  have HI1 := Lib.hid (mx_tbv (MT.one n : MT (Zp p) n n))
  obtain ⟨I, eI⟩ : ∃ I, I = (MT.one n : MT (Zp p) n n) := ⟨_, rfl⟩
  rw [← eI] at HL KM hI HI1 ewc ⊢
  have EI := Lib.hid eI
  clear eI o2 b2 B2 bb
  go_upto_region 2 with (fail)
  rw [← ewc]
  obtain ⟨g, eg⟩ : ∃ g, g = w2.heap.size := ⟨_, rfl⟩
  rw [← eg] at KM ⊢
  clear ewc eg
  have bd := Drawn.below (w' := wc.drew) ⟨1, rfl⟩ wc.heap.size
  replace KF := KF.next bd; replace KA := KA.next bd; replace KM := KM.next bd; replace hA := hA.next bd; replace hI := hI.next bd
  replace B0 := B0.trans (bd.mono B0.size)
  have B00 := Lib.hid B0.size
  clear bd
  refine startL (S := (fun w' => Below (wc.drew).heap.size (wc.drew) w')) (by kernel_rfl) (Below.refl _ _) (fun hHeld => ?_)
  refine takeL 0 (v := ?_) rfl (by kernel_rfl) (by kernel_rfl) (by kernel_rfl) (fun _ _ _ h => h) ⟨by rfl, ?_⟩ (by assumption) ?_
  rotate_left
  · intro w hS; have fa := KF.at hS; have fb := KA.at hS; have fc := KM.at hS; have f1 := fa 0; have f2 := fb 0; have f3 := fb 1; have f4 := fb 2; have f5 := fc 0; have f6 := fc 1; have f7 := fc 2; clear fa fb fc; go_simp <;> with_reducible rfl
  simp only [Act.put, List.setIfInBounds_toArray, List.set_cons_zero, List.set_cons_succ]
  refine takeL 1 (v := ?_) rfl (by kernel_rfl) (by kernel_rfl) (by kernel_rfl) (fun _ _ _ h => h) ⟨by rfl, ?_⟩ (by assumption) ?_
  rotate_left
  · intro w hS; have fa := KF.at hS; have fb := KA.at hS; have fc := KM.at hS; have f1 := fa 0; have f2 := fb 0; have f3 := fb 1; have f4 := fb 2; have f5 := fc 0; have f6 := fc 1; have f7 := fc 2; clear fa fb fc; go_simp <;> with_reducible rfl
  simp only [Act.put, List.setIfInBounds_toArray, List.set_cons_zero, List.set_cons_succ]
  refine takeL 2 (v := ?_) rfl (by kernel_rfl) (by kernel_rfl) (by kernel_rfl) (fun _ _ _ h => h) ⟨by rfl, ?_⟩ (by assumption) ?_
  rotate_left
  · intro w hS; have fa := KF.at hS; have fb := KA.at hS; have fc := KM.at hS; have f1 := fa 0; have f2 := fb 0; have f3 := fb 1; have f4 := fb 2; have f5 := fc 0; have f6 := fc 1; have f7 := fc 2; clear fa fb fc; go_simp <;> with_reducible rfl
  simp only [Act.put, List.setIfInBounds_toArray, List.set_cons_zero, List.set_cons_succ]
  refine takeL 4 (v := ?_) rfl (by kernel_rfl) (by kernel_rfl) (by kernel_rfl) (fun _ _ _ h => h) ⟨by rfl, ?_⟩ (by assumption) ?_
  rotate_left
  · intro w hS; have fa := KF.at hS; have fb := KA.at hS; have fc := KM.at hS; have f1 := fa 0; have f2 := fb 0; have f3 := fb 1; have f4 := fb 2; have f5 := fc 0; have f6 := fc 1; have f7 := fc 2; clear fa fb fc; go_simp <;> with_reducible rfl
  simp only [Act.put, List.setIfInBounds_toArray, List.set_cons_zero, List.set_cons_succ]
  refine takeL 5 (v := ?_) rfl (by kernel_rfl) (by kernel_rfl) (by kernel_rfl) (fun _ _ _ h => h) ⟨by rfl, ?_⟩ (by assumption) ?_
  rotate_left
  · intro w hS; have fa := KF.at hS; have fb := KA.at hS; have fc := KM.at hS; have f1 := fa 0; have f2 := fb 0; have f3 := fb 1; have f4 := fb 2; have f5 := fc 0; have f6 := fc 1; have f7 := fc 2; clear fa fb fc; go_simp <;> with_reducible rfl
  simp only [Act.put, List.setIfInBounds_toArray, List.set_cons_zero, List.set_cons_succ]
  refine oneL 3 rfl (by kernel_rfl) (by rfl) (fun K hK => ?_)
  go_simp
  go_at_call 145
  (with_reducible refine (hs_rowsOf p _ n xs _ HP.out (hA.next hHeld) hn HX.out).mono ?_); rintro e w5 ⟨hv, hs, rfl, R5, b5⟩; obtain ⟨ah, ch, rfl⟩ := R5.slice_of
  refine hK.out _ _ (hHeld.trans (b5.mono hHeld.size)) (fun hHeld => ?_)
  clear hK K
  try simp only [Act.put, List.setIfInBounds_toArray, List.set_cons_zero, List.set_cons_succ]
  refine oneL 6 rfl (by kernel_rfl) (by rfl) (fun K hK => ?_)
  go_simp
  go_at_call 145
  (with_reducible refine (hs_rowsOf p _ n (tbv I) _ HP.out (hI.next hHeld) hn HL.out).mono ?_); rintro e w6 ⟨pv, ps, rfl, R6, b6⟩; obtain ⟨ap, cp, rfl⟩ := R6.slice_of; have sz2 := Lib.hid hHeld.size
  refine hK.out _ _ (hHeld.trans (b6.mono hHeld.size)) (fun hHeld => ?_)
  clear hK K
  try simp only [Act.put, List.setIfInBounds_toArray, List.set_cons_zero, List.set_cons_succ]
  refine takeL 7 (v := ?_) rfl (by kernel_rfl) (by kernel_rfl) (by kernel_rfl) (fun _ _ _ h => h) ⟨by rfl, ?_⟩ (by assumption) ?_
  rotate_left
  · intro w hS; go_simp <;> with_reducible rfl
  simp only [Act.put, List.setIfInBounds_toArray, List.set_cons_zero, List.set_cons_succ]
  refine oneL 8 rfl (by kernel_rfl) (by rfl) (fun K hK => ?_)
  go_simp
  refine hK.out _ _ (hHeld.alloc hHeld.size _) (fun hHeld => ?_)
  clear hK K
  try simp only [Act.put, List.setIfInBounds_toArray, List.set_cons_zero, List.set_cons_succ]
  refine takeL 9 (v := ?_) rfl (by kernel_rfl) (by kernel_rfl) (by kernel_rfl) (fun _ _ _ h => h) ⟨by rfl, ?_⟩ (by assumption) ?_
  rotate_left
  · intro w hS; go_simp <;> with_reducible rfl
  simp only [Act.put, List.setIfInBounds_toArray, List.set_cons_zero, List.set_cons_succ]
  refine doneL (by kernel_rfl) ?_ _
  obtain ⟨w7, e7, K7, b7, hs7⟩ := boxes1 w6 107 [.int .u64 p, .slice ah n ch, .slice ap n cp]
  rw [← e7] at hHeld ⊢
  replace B0 := B0.trans (hHeld.mono B0.size)
  have S5 : ∀ (i b o c : Nat), hs[i]? = some (.slice (some ⟨b, o, none⟩) n c) → 0 < n → b < w5.heap.size := fun i b o c h h0 => (R5.at h h0).2.2.2
  have S6 : ∀ (i b o c : Nat), ps[i]? = some (.slice (some ⟨b, o, none⟩) n c) → 0 < n → w5.heap.size ≤ b := fun i b o c h h0 => (R6.at h h0).2.2.1
  have hH5 : ∀ g, (Value.slice ah n ch).ownBlock = some g → g < w5.heap.size := fun g h => (World.ownsRow.lt R5.own g h).2
  have hH6 : ∀ g, (Value.slice ap n cp).ownBlock = some g → w5.heap.size ≤ g := fun g h => (World.ownsRow.lt R6.own g h).1
  have hb0 := B0.size
  have sz1 : w.heap.size ≤ wc.drew.heap.size := B00.out
  have FR := Lib.hid (show RetHk p w n (fun H P => H = (mx p n n xs).e ∧ P = (MT.one n : MT (Zp p) n n).e) (.returned (.pointer (some ⟨w6.heap.size, 0, none⟩))) w7 from
    ⟨w6.heap.size, (mx p n n xs).e, I.e, .slice ah n ch, .slice ap n cp, hs, ps, rfl, ⟨K7, by have := B00.out; have := sz2.out; have := b6.size; omega, ((R5.next (b6.trans (b7.mono b6.size)) (fun _ _ h => h)).mono sz1), by rw [HI1.out] at R6; exact (R6.next b7 (fun _ _ h => h)).mono (by have := b5.size; omega),
      fun i j b o c b' o' c' h1 h2 e => by
        by_cases h0 : 0 < n
        · have := S5 i b o c h1 h0; have := S6 j b' o' c' h2 h0; omega
        · have := R5.len; have := (List.getElem?_eq_some_iff.1 h1).1; omega,
      fun g h1 h2 => by have := hH5 g h1; have := hH6 g h2; omega⟩, ⟨rfl, by rw [EI.out]⟩, B0⟩)
  clear R5 R6 K7 b5 b6 b7 hs7 e7 hHeld S5 S6 hH5 hH6 hb0 sz1 B0 KF KA KM hA hI
  go_wp2
  go_ret
  exact FR.out

end Go.Proofs.Ythghdjpjbngllaa
