/- hess.work: the characteristic polynomial of one row and column more. -/
import Derived.Test.YthghdjpjbngllaaZeQz
import Derived.Test.YthghdjpjbngllaaZeHform
namespace Go.Proofs.Ythghdjpjbngllaa
open Go.RowKit

/-- Polynomials in a row. -/
def Pls (p : Nat) (w : World) (base : Nat) (bv : Value) (vs : List Value) (n : Nat) (D : Nat → Pol (Zp p)) : Prop :=
  w.ownsRow base 33 1 bv n vs ∧ vs.length = n ∧ ∀ (j : Nat) (v : Value), vs[j]? = some v → ∃ ys, Own .u64 27 w base v ys ∧ Nrm p ys ∧ pl p ys = D j ∧ ys.length ≤ j + 1
theorem Pls.next {p : Nat} {w w' : World} {base : Nat} {bv : Value} {vs : List Value} {n : Nat} {D : Nat → Pol (Zp p)} (h : Pls p w base bv vs n D) (hb : Below w.heap.size w w') : Pls p w' base bv vs n D :=
  ⟨rowOwn_next h.1 hb (Nat.le_refl _), h.2.1, fun j v hv => by obtain ⟨ys, h1, h2⟩ := h.2.2 j v hv; exact ⟨ys, h1.next hb, h2⟩⟩
theorem plc {p : Nat} (x : Nat) (xs : List Nat) : pl p (x :: xs) = mon (Zp.of p x) 0 + mon 1 1 * pl p xs := Pol.ext fun i => by
  rw [Pol.c_add, c_mon_mul, c_mon, pl_c]
  cases i with
  | zero => simp; exact (CR.add_zero _).symm
  | succ i => rw [if_neg (by omega), if_pos (by omega), CR.one_mul, CR.zero_add, pl_c]; rfl
theorem pl1 {p : Nat} : pl p [1] = 1 := Pol.ext fun i => by rw [pl_c, Pol.one_def, c_mon]; cases i <;> rfl
theorem own_lit_z1 (w : World) (x : Nat) : Own .u64 27 (w.alloc (.cells #[.int .u64 x, .int .u64 1] 27)) w.heap.size (.slice (some ⟨w.heap.size, 0, none⟩) 2 2) [x, 1] := own_lit2 w x 1
theorem pl_lin {p : Nat} (z : Nat) (x : Zp p) (hz : z = (-x).val) : pl p [z, 1] = mon 1 1 - mon x 0 := by
  rw [plc, pl1, CR.mul_one, hz, Zp.of_val]
  refine Pol.ext fun i => ?_
  rw [Pol.c_add, Pol.c_sub, c_mon, c_mon, c_mon]
  by_cases h0 : i = 0
  · subst h0; rw [if_pos rfl, if_neg (by omega), if_pos rfl, CR.add_zero, CR.zero_sub]
  · rw [if_neg h0, if_neg h0, CR.zero_add, CR.sub_zero]

/-- Where the sum of next stands. -/
def NxR (p : Nat) (w wr : World) (b0 b1 gW n k m g : Nat) (H P : Nat → Nat → Zp p) (hv pv : Value) (hs ps : List Value) (bv : Value) (vs : List Value) (i y : Nat) (r : Value) : Prop :=
  ∃ zs, Own .u64 27 wr w.heap.size r zs ∧ Nrm p zs ∧ zs.length ≤ m + 1 ∧ dn m (xh H) = pl p zs + mon (Zp.of p y) 0 * hesV H i k ∧ Hk p wr b0 gW n H P hv pv hs ps ∧ Pls p wr b1 bv vs m (fun j => dn j (xh H)) ∧
    Blk 29 wr g [.int .u64 p] ∧ Below w.heap.size w wr

set_option maxRecDepth 20000 in
set_option maxHeartbeats 4000000 in
theorem hs_next (p : Nat) (w : World) (hp : FP p) (b0 b1 gW n : Nat) (H P : Nat → Nat → Zp p) (hv pv : Value) (hs ps : List Value) (h : Hk p w b0 gW n H P hv pv hs ps) (hH : Hes n H)
    (bv : Value) (vs : List Value) (m k : Nat) (hm : m = k + 1) (hmn : m ≤ n) (hn : n ≤ 64) (hB : Pls p w b1 bv vs m (fun j => dn j (xh H))) :
    Calls Try.prog 85 #[.pointer (some ⟨gW, 0, none⟩), bv] w (RetP p w (m + 1) (dn m (xh H))) := by
  have HP := Lib.hid hp; clear hp
  have HH := Lib.hid hH; clear hH
  obtain ⟨gh, ch, rfl, -, -, hnch⟩ : ∃ g cap, hv = .slice (some ⟨g, 0, none⟩) n cap ∧ b0 ≤ g ∧ g < w.heap.size ∧ n ≤ cap := by
    rcases h.h.shape with ⟨_, h0⟩ | h0
    · omega
    · exact h0
  obtain ⟨gB, cB, rfl, -, hgB, hmc⟩ : ∃ g cap, bv = .slice (some ⟨g, 0, none⟩) m cap ∧ b1 ≤ g ∧ g < w.heap.size ∧ m ≤ cap := by
    rcases rowOwn_shape hB.1 with ⟨_, h0⟩ | h0
    · omega
    · exact h0
  have s1 : IntKind.i64.wrap ((m : Int) - 1) = (k : Int) := by rw [IntWalk.i64_in _ ⟨by omega, by omega⟩]; omega
  have hkn : k < n := by omega
  have hkm : k < m := by omega
  have HM := Lib.hid hm; clear hm
  have q0 := h.blk.cell 0
  have KF0 := Blk.lit w 29 [.int .u64 0]
  have z0 := KF0.cell 0; have zf := KF0.free 0
  go_enter Try.func85, Try.ntmps85
  go_upto_region 2 with (fail)
  clear q0 z0 zf
  clear KF0
  obtain ⟨w1, ew1, KF, B0, hsz0⟩ := boxes1 w 29 [.int .u64 p]
  clear hsz0
  rw [← ew1]
  clear ew1
  obtain ⟨g, eg⟩ : ∃ g, g = w.heap.size := ⟨_, rfl⟩
  rw [← eg] at KF ⊢
  clear eg
  have bd := Drawn.below (w' := w1.drew) ⟨1, rfl⟩ w1.heap.size
  replace h := (h.next B0).next bd
  replace hB := (hB.next B0).next bd
  replace KF := KF.next bd
  replace B0 := B0.trans (bd.mono B0.size)
  clear bd
  have hgB : gB < w1.drew.heap.size := Nat.lt_of_lt_of_le hgB B0.size
  have HS := Lib.hid B0.size
  have q1 := h.blk.cell 1
  have hlw := h.blk.lt
  obtain ⟨v, hv⟩ := h.h.hdr hkn
  have qk := h.h.head rfl hkn; rw [hv] at qk
  have hlh : gh < w1.drew.heap.size := by
    obtain ⟨cur, hcur⟩ := h.h.cellH rfl
    exact (Array.getElem?_eq_some_iff.1 hcur).1
  obtain ⟨ak, ck, rfl, hck⟩ := (h.h.row k v hv).slice
  obtain ⟨b, o, rfl⟩ := h.h.ao hv (by omega)
  obtain ⟨⟨u, qx, hu⟩, -, -, hl2⟩ := h.h.at hv hkn
  obtain ⟨x, ex⟩ : ∃ x, x = (H k k).val := ⟨_, rfl⟩
  have hu : u = .int .u64 (x : Nat) := by rw [ex]; exact hu
  subst hu
  obtain ⟨z, ez⟩ : ∃ z, z = (-Zp.of p x).val := ⟨_, rfl⟩
  have hz2 : z = (-H k k).val := by rw [ez, ex, Zp.of_val]
  have EZ := Lib.hid ez; have EZ2 := Lib.hid hz2
  clear ex ez hz2
  obtain ⟨vk, hvk⟩ : ∃ v, vs[k]? = some v := ⟨_, List.getElem?_eq_getElem (by rw [hB.2.1]; exact hkm)⟩
  have qb := World.ownsRow.cellAt hB.1 k (by omega); rw [hvk] at qb
  obtain ⟨ys, hy1, hy2, hy3, hy4⟩ := hB.2.2 k vk hvk
  have hmc' : ys.length ≤ 1000000 := by omega
  have HY := Lib.hid hy4; clear hy4
  refine startL (S := (fun w' => Below (w1.drew).heap.size (w1.drew) w')) (by kernel_rfl) (Below.refl _ _) (fun hHeld => ?_)
  refine takeL 0 (v := ?_) rfl (by kernel_rfl) (by kernel_rfl) (by kernel_rfl) (fun _ _ _ h => h) ⟨by rfl, ?_⟩ (by assumption) ?_
  rotate_left
  · intro w hS; have f1 := (hS.cell (p := ⟨g, 0, none⟩) KF.lt).trans (KF.cell 0); have f2 := (hS.cell (p := ⟨gW, 1, none⟩) hlw).trans q1; have f3 := (hS.cell (p := ⟨gh, k, none⟩) hlh).trans qk; have f4 := (hS.cell (p := ⟨b, o + k, none⟩) hl2).trans qx; have f5 := (hS.cell (p := ⟨gB, k, none⟩) hgB).trans qb; go_simp <;> with_reducible rfl
  simp only [Act.put, List.setIfInBounds_toArray, List.set_cons_zero, List.set_cons_succ]
  refine takeL 1 (v := ?_) rfl (by kernel_rfl) (by kernel_rfl) (by kernel_rfl) (fun _ _ _ h => h) ⟨by rfl, ?_⟩ (by assumption) ?_
  rotate_left
  · intro w hS; have f1 := (hS.cell (p := ⟨g, 0, none⟩) KF.lt).trans (KF.cell 0); have f2 := (hS.cell (p := ⟨gW, 1, none⟩) hlw).trans q1; have f3 := (hS.cell (p := ⟨gh, k, none⟩) hlh).trans qk; have f4 := (hS.cell (p := ⟨b, o + k, none⟩) hl2).trans qx; have f5 := (hS.cell (p := ⟨gB, k, none⟩) hgB).trans qb; go_simp <;> with_reducible rfl
  simp only [Act.put, List.setIfInBounds_toArray, List.set_cons_zero, List.set_cons_succ]
  refine takeL 2 (v := ?_) rfl (by kernel_rfl) (by kernel_rfl) (by kernel_rfl) (fun _ _ _ h => h) ⟨by rfl, ?_⟩ (by assumption) ?_
  rotate_left
  · intro w hS; go_simp <;> with_reducible rfl
  simp only [Act.put, List.setIfInBounds_toArray, List.set_cons_zero, List.set_cons_succ]
  refine takeL 3 (v := ?_) rfl (by kernel_rfl) (by kernel_rfl) (by kernel_rfl) (fun _ _ _ h => h) ⟨by rfl, ?_⟩ (by assumption) ?_
  rotate_left
  · intro w hS; go_simp <;> with_reducible rfl
  simp only [Act.put, List.setIfInBounds_toArray, List.set_cons_zero, List.set_cons_succ]
  refine takeL 4 (v := ?_) rfl (by kernel_rfl) (by kernel_rfl) (by kernel_rfl) (fun _ _ _ h => h) ⟨by rfl, ?_⟩ (by assumption) ?_
  rotate_left
  · intro w hS; go_simp <;> with_reducible rfl
  simp only [Act.put, List.setIfInBounds_toArray, List.set_cons_zero, List.set_cons_succ]
  refine takeL 5 (v := ?_) rfl (by kernel_rfl) (by kernel_rfl) (by kernel_rfl) (fun _ _ _ h => h) ⟨by rfl, ?_⟩ (by assumption) ?_
  rotate_left
  · intro w hS; have f1 := (hS.cell (p := ⟨g, 0, none⟩) KF.lt).trans (KF.cell 0); have f2 := (hS.cell (p := ⟨gW, 1, none⟩) hlw).trans q1; have f3 := (hS.cell (p := ⟨gh, k, none⟩) hlh).trans qk; have f4 := (hS.cell (p := ⟨b, o + k, none⟩) hl2).trans qx; have f5 := (hS.cell (p := ⟨gB, k, none⟩) hgB).trans qb; go_simp <;> with_reducible rfl
  simp only [Act.put, List.setIfInBounds_toArray, List.set_cons_zero, List.set_cons_succ]
  refine takeL 6 (v := ?_) rfl (by kernel_rfl) (by kernel_rfl) (by kernel_rfl) (fun _ _ _ h => h) ⟨by rfl, ?_⟩ (by assumption) ?_
  rotate_left
  · intro w hS; go_simp <;> with_reducible rfl
  simp only [Act.put, List.setIfInBounds_toArray, List.set_cons_zero, List.set_cons_succ]
  refine takeL 7 (v := ?_) rfl (by kernel_rfl) (by kernel_rfl) (by kernel_rfl) (fun _ _ _ h => h) ⟨by rfl, ?_⟩ (by assumption) ?_
  rotate_left
  · intro w hS; go_simp <;> with_reducible rfl
  simp only [Act.put, List.setIfInBounds_toArray, List.set_cons_zero, List.set_cons_succ]
  refine takeL 8 (v := ?_) rfl (by kernel_rfl) (by kernel_rfl) (by kernel_rfl) (fun _ _ _ h => h) ⟨by rfl, ?_⟩ (by assumption) ?_
  rotate_left
  · intro w hS; have f1 := (hS.cell (p := ⟨g, 0, none⟩) KF.lt).trans (KF.cell 0); have f2 := (hS.cell (p := ⟨gW, 1, none⟩) hlw).trans q1; have f3 := (hS.cell (p := ⟨gh, k, none⟩) hlh).trans qk; have f4 := (hS.cell (p := ⟨b, o + k, none⟩) hl2).trans qx; have f5 := (hS.cell (p := ⟨gB, k, none⟩) hgB).trans qb; go_simp <;> with_reducible rfl
  simp only [Act.put, List.setIfInBounds_toArray, List.set_cons_zero, List.set_cons_succ]
  refine takeL 9 (v := ?_) rfl (by kernel_rfl) (by kernel_rfl) (by kernel_rfl) (fun _ _ _ h => h) ⟨by rfl, ?_⟩ (by assumption) ?_
  rotate_left
  · intro w hS; go_simp <;> with_reducible rfl
  simp only [Act.put, List.setIfInBounds_toArray, List.set_cons_zero, List.set_cons_succ]
  refine takeL 10 (v := ?_) rfl (by kernel_rfl) (by kernel_rfl) (by kernel_rfl) (fun _ _ _ h => h) ⟨by rfl, ?_⟩ (by assumption) ?_
  rotate_left
  · intro w hS; go_simp <;> with_reducible rfl
  simp only [Act.put, List.setIfInBounds_toArray, List.set_cons_zero, List.set_cons_succ]
  refine takeL 11 (v := ?_) rfl (by kernel_rfl) (by kernel_rfl) (by kernel_rfl) (fun _ _ _ h => h) ⟨by rfl, ?_⟩ (by assumption) ?_
  rotate_left
  · intro w hS; have f1 := (hS.cell (p := ⟨g, 0, none⟩) KF.lt).trans (KF.cell 0); have f2 := (hS.cell (p := ⟨gW, 1, none⟩) hlw).trans q1; have f3 := (hS.cell (p := ⟨gh, k, none⟩) hlh).trans qk; have f4 := (hS.cell (p := ⟨b, o + k, none⟩) hl2).trans qx; have f5 := (hS.cell (p := ⟨gB, k, none⟩) hgB).trans qb; go_simp <;> with_reducible rfl
  simp only [Act.put, List.setIfInBounds_toArray, List.set_cons_zero, List.set_cons_succ]
  refine takeL 14 (v := ?_) rfl (by kernel_rfl) (by kernel_rfl) (by kernel_rfl) (fun _ _ _ h => h) ⟨by rfl, ?_⟩ (by assumption) ?_
  rotate_left
  · intro w hS; go_simp <;> with_reducible rfl
  simp only [Act.put, List.setIfInBounds_toArray, List.set_cons_zero, List.set_cons_succ]
  refine takeL 15 (v := ?_) rfl (by kernel_rfl) (by kernel_rfl) (by kernel_rfl) (fun _ _ _ h => h) ⟨by rfl, ?_⟩ (by assumption) ?_
  rotate_left
  · intro w hS; go_simp <;> with_reducible rfl
  simp only [Act.put, List.setIfInBounds_toArray, List.set_cons_zero, List.set_cons_succ]
  refine takeL 16 (v := ?_) rfl (by kernel_rfl) (by kernel_rfl) (by kernel_rfl) (fun _ _ _ h => h) ⟨by rfl, ?_⟩ (by assumption) ?_
  rotate_left
  · intro w hS; go_simp <;> with_reducible rfl
  simp only [Act.put, List.setIfInBounds_toArray, List.set_cons_zero, List.set_cons_succ]
  refine takeL 17 (v := ?_) rfl (by kernel_rfl) (by kernel_rfl) (by kernel_rfl) (fun _ _ _ h => h) ⟨by rfl, ?_⟩ (by assumption) ?_
  rotate_left
  · intro w hS; have f1 := (hS.cell (p := ⟨g, 0, none⟩) KF.lt).trans (KF.cell 0); have f2 := (hS.cell (p := ⟨gW, 1, none⟩) hlw).trans q1; have f3 := (hS.cell (p := ⟨gh, k, none⟩) hlh).trans qk; have f4 := (hS.cell (p := ⟨b, o + k, none⟩) hl2).trans qx; have f5 := (hS.cell (p := ⟨gB, k, none⟩) hgB).trans qb; go_simp <;> with_reducible rfl
  simp only [Act.put, List.setIfInBounds_toArray, List.set_cons_zero, List.set_cons_succ]
  refine oneL 12 rfl (by kernel_rfl) (by rfl) (fun K hK => ?_)
  go_simp
  go_at_call 114
  (with_reducible refine (gfp_Neg p x z _ HP.out EZ.out).mono ?_); rintro e w2 ⟨rfl, b2⟩
  refine hK.out _ _ (hHeld.trans (b2.mono hHeld.size)) (fun hHeld => ?_)
  clear hK K
  try simp only [Act.put, List.setIfInBounds_toArray, List.set_cons_zero, List.set_cons_succ]
  refine oneL 13 rfl (by kernel_rfl) (by rfl) (fun K hK => ?_)
  go_simp
  have hd := hHeld
  have hsz2 := Lib.hid (show w1.drew.heap.size ≤ (w2.alloc (.cells #[.int .u64 z, .int .u64 1] 27)).heap.size from (hHeld.alloc hHeld.size _).size)
  refine hK.out _ _ (hHeld.alloc hHeld.size _) (fun hHeld => ?_)
  clear hK K
  try simp only [Act.put, List.setIfInBounds_toArray, List.set_cons_zero, List.set_cons_succ]
  refine oneL 18 rfl (by kernel_rfl) (by rfl) (fun K hK => ?_)
  go_simp
  go_at_call 53
  (with_reducible refine (fp_Mul p _ _ [z, 1] ys _ HP.out (own_lit_z1 w2 z).sl (hy1.sl.next hHeld) (by simp) hmc').mono ?_); rintro e w3 ⟨r3, zs3, rfl, o3, m3, v3, l3, b3⟩
  refine hK.out _ _ (hHeld.trans (b3.mono hHeld.size)) (fun hHeld => ?_)
  clear hK K
  try simp only [Act.put, List.setIfInBounds_toArray, List.set_cons_zero, List.set_cons_succ]
  refine takeL 19 (v := ?_) rfl (by kernel_rfl) (by kernel_rfl) (by kernel_rfl) (fun _ _ _ h => h) ⟨by rfl, ?_⟩ (by assumption) ?_
  rotate_left
  · intro w hS; go_simp <;> with_reducible rfl
  simp only [Act.put, List.setIfInBounds_toArray, List.set_cons_zero, List.set_cons_succ]
  refine doneL (by kernel_rfl) ?_ _
  have st : NxR p w w3 b0 b1 gW n k m g H P (.slice (some ⟨gh, 0, none⟩) n ch) pv hs ps (.slice (some ⟨gB, 0, none⟩) m cB) vs k 1 r3 := ⟨zs3, o3.mono (Nat.le_trans HS.out hsz2.out), m3, by have := HY.out; have := HM.out; simp only [List.length_cons, List.length_nil] at l3; omega, by
    have e := hesV_start HH.out hkn
    rw [v3, pl_lin z (H k k) EZ2.out, hy3, HM.out, e, show Zp.of p 1 = 1 from Zp.of_one p], h.next hHeld, hB.next hHeld, KF.next hHeld, B0.trans (hHeld.mono HS.out)⟩
  clear h hB KF B0 hHeld o3 m3 v3 l3 b3 q1 qk qx qb hlw hlh hl2 hv hvk hy1 hy2 hy3 hgB b2 hsz2 HY hmc'
  have hk1 : IntKind.i64.wrap ((k : Int) - 1) = (k : Int) - 1 := IntWalk.i64_in _ ⟨by omega, by omega⟩
  go_wp2
  clear hk1
  go_loopw [9, 8, 7] (fun iv yv rv wr => ∃ i y : Nat, i ≤ k ∧ iv = .int .i64 ((i : Int) - 1) ∧ yv = .int .u64 y ∧ NxR p w wr b0 b1 gW n k m g H P (.slice (some ⟨gh, 0, none⟩) n ch) pv hs ps (.slice (some ⟨gB, 0, none⟩) m cB) vs i y rv) (fun iv _ _ _ => (intOf iv + 1).toNat)
  case atStart => exact ⟨k, 1, Nat.le_refl _, rfl, rfl, st⟩
  case round =>
    clear st
    obtain ⟨i, y, hik, rfl, rfl, zs, ho, hnz, hlz, hdn, h, hB, KF, B0⟩ := hrel
    cases i with
    | zero =>
      have hdn2 := Lib.hid (hesV_end (show dn (k + 1) (xh H) = _ by rw [← HM.out]; exact hdn))
      clear hdn
      have FR := Lib.hid (show RetP p w (m + 1) (dn m (xh H)) (.returned u7) wr from ⟨_, zs, rfl, ho, hnz, by rw [HM.out]; exact hdn2.out.symm, hlz, B0⟩)
      rw [show (((0 : Nat) : Int) - 1) = -1 by omega]
      clear ho hnz hlz h hB KF B0
      go_wp2
      go_ret
      exact FR.out
    | succ j =>
      rw [show (((j + 1 : Nat) : Int) - 1) = (j : Int) by omega]
      have hwr : w.heap.size ≤ wr.heap.size := B0.size
      have hdn := Lib.hid (hesV_step HH.out (show j < k by omega) hkn (show dn (k + 1) (xh H) = _ by rw [← HM.out]; exact hdn))
      obtain ⟨jj, ejj⟩ : ∃ jj, jj = j + 1 := ⟨_, rfl⟩
      have sj : IntKind.i64.wrap ((j : Int) + 1) = (jj : Int) := by rw [IntWalk.i64_in _ ⟨by omega, by omega⟩]; omega
      have hjj : jj < n := by omega
      have hjn : j < n := by omega
      have hjm : j < m := by omega
      have hj0 : (j : Int) ≥ 0 := by omega
      have HJJ := Lib.hid ejj; clear ejj
      go_upto_region 7 with (fail)
      have bd := Drawn.below (w' := wr.drew) ⟨1, rfl⟩ wr.heap.size
      replace h := h.next bd; replace hB := hB.next bd; replace KF := KF.next bd; replace ho := ho.next bd
      replace B0 := B0.trans (bd.mono B0.size)
      clear bd
      have hwr : w.heap.size ≤ wr.drew.heap.size := hwr
      have q1 := h.blk.cell 1
      have hlw := h.blk.lt
      obtain ⟨v, hv⟩ := h.h.hdr hjj
      have qk := h.h.head rfl hjj; rw [hv] at qk
      have hlh : gh < wr.drew.heap.size := by
        obtain ⟨cur, hcur⟩ := h.h.cellH rfl
        exact (Array.getElem?_eq_some_iff.1 hcur).1
      obtain ⟨ak, ck, rfl, hck⟩ := (h.h.row jj v hv).slice
      obtain ⟨b, o, rfl⟩ := h.h.ao hv (by omega)
      obtain ⟨⟨u, qx, hu⟩, -, -, hl2⟩ := h.h.at hv hjn
      obtain ⟨x, ex⟩ : ∃ x, x = (H jj j).val := ⟨_, rfl⟩
      have hu : u = .int .u64 (x : Nat) := by rw [ex]; exact hu
      subst hu
      obtain ⟨y2, ey2⟩ : ∃ z, z = (Zp.of p y * Zp.of p x).val := ⟨_, rfl⟩
      have hy2 : Zp.of p y2 = Zp.of p y * H (j + 1) j := by rw [ey2, Zp.of_val, ex, Zp.of_val, HJJ.out]
      have EY := Lib.hid ey2; have EY2 := Lib.hid hy2
      clear ex ey2 hy2
      refine startL (S := (fun w' => Below (wr.drew).heap.size (wr.drew) w')) (by kernel_rfl) (Below.refl _ _) (fun hHeld => ?_)
      refine takeL 0 (v := ?_) rfl (by kernel_rfl) (by kernel_rfl) (by kernel_rfl) (fun _ _ _ h => h) ⟨by rfl, ?_⟩ (by assumption) ?_
      rotate_left
      · intro w hS; have f1 := (hS.cell (p := ⟨g, 0, none⟩) KF.lt).trans (KF.cell 0); have f2 := (hS.cell (p := ⟨gW, 1, none⟩) hlw).trans q1; have f3 := (hS.cell (p := ⟨gh, jj, none⟩) hlh).trans qk; have f4 := (hS.cell (p := ⟨b, o + j, none⟩) hl2).trans qx; go_simp <;> with_reducible rfl
      simp only [Act.put, List.setIfInBounds_toArray, List.set_cons_zero, List.set_cons_succ]
      refine takeL 1 (v := ?_) rfl (by kernel_rfl) (by kernel_rfl) (by kernel_rfl) (fun _ _ _ h => h) ⟨by rfl, ?_⟩ (by assumption) ?_
      rotate_left
      · intro w hS; go_simp <;> with_reducible rfl
      simp only [Act.put, List.setIfInBounds_toArray, List.set_cons_zero, List.set_cons_succ]
      refine takeL 2 (v := ?_) rfl (by kernel_rfl) (by kernel_rfl) (by kernel_rfl) (fun _ _ _ h => h) ⟨by rfl, ?_⟩ (by assumption) ?_
      rotate_left
      · intro w hS; go_simp <;> with_reducible rfl
      simp only [Act.put, List.setIfInBounds_toArray, List.set_cons_zero, List.set_cons_succ]
      refine takeL 3 (v := ?_) rfl (by kernel_rfl) (by kernel_rfl) (by kernel_rfl) (fun _ _ _ h => h) ⟨by rfl, ?_⟩ (by assumption) ?_
      rotate_left
      · intro w hS; go_simp <;> with_reducible rfl
      simp only [Act.put, List.setIfInBounds_toArray, List.set_cons_zero, List.set_cons_succ]
      refine takeL 4 (v := ?_) rfl (by kernel_rfl) (by kernel_rfl) (by kernel_rfl) (fun _ _ _ h => h) ⟨by rfl, ?_⟩ (by assumption) ?_
      rotate_left
      · intro w hS; go_simp <;> with_reducible rfl
      simp only [Act.put, List.setIfInBounds_toArray, List.set_cons_zero, List.set_cons_succ]
      refine takeL 5 (v := ?_) rfl (by kernel_rfl) (by kernel_rfl) (by kernel_rfl) (fun _ _ _ h => h) ⟨by rfl, ?_⟩ (by assumption) ?_
      rotate_left
      · intro w hS; have f1 := (hS.cell (p := ⟨g, 0, none⟩) KF.lt).trans (KF.cell 0); have f2 := (hS.cell (p := ⟨gW, 1, none⟩) hlw).trans q1; have f3 := (hS.cell (p := ⟨gh, jj, none⟩) hlh).trans qk; have f4 := (hS.cell (p := ⟨b, o + j, none⟩) hl2).trans qx; go_simp <;> with_reducible rfl
      simp only [Act.put, List.setIfInBounds_toArray, List.set_cons_zero, List.set_cons_succ]
      refine takeL 6 (v := ?_) rfl (by kernel_rfl) (by kernel_rfl) (by kernel_rfl) (fun _ _ _ h => h) ⟨by rfl, ?_⟩ (by assumption) ?_
      rotate_left
      · intro w hS; go_simp <;> with_reducible rfl
      simp only [Act.put, List.setIfInBounds_toArray, List.set_cons_zero, List.set_cons_succ]
      refine takeL 7 (v := ?_) rfl (by kernel_rfl) (by kernel_rfl) (by kernel_rfl) (fun _ _ _ h => h) ⟨by rfl, ?_⟩ (by assumption) ?_
      rotate_left
      · intro w hS; go_simp <;> with_reducible rfl
      simp only [Act.put, List.setIfInBounds_toArray, List.set_cons_zero, List.set_cons_succ]
      refine takeL 8 (v := ?_) rfl (by kernel_rfl) (by kernel_rfl) (by kernel_rfl) (fun _ _ _ h => h) ⟨by rfl, ?_⟩ (by assumption) ?_
      rotate_left
      · intro w hS; go_simp <;> with_reducible rfl
      simp only [Act.put, List.setIfInBounds_toArray, List.set_cons_zero, List.set_cons_succ]
      refine takeL 9 (v := ?_) rfl (by kernel_rfl) (by kernel_rfl) (by kernel_rfl) (fun _ _ _ h => h) ⟨by rfl, ?_⟩ (by assumption) ?_
      rotate_left
      · intro w hS; have f1 := (hS.cell (p := ⟨g, 0, none⟩) KF.lt).trans (KF.cell 0); have f2 := (hS.cell (p := ⟨gW, 1, none⟩) hlw).trans q1; have f3 := (hS.cell (p := ⟨gh, jj, none⟩) hlh).trans qk; have f4 := (hS.cell (p := ⟨b, o + j, none⟩) hl2).trans qx; go_simp <;> with_reducible rfl
      simp only [Act.put, List.setIfInBounds_toArray, List.set_cons_zero, List.set_cons_succ]
      refine takeL 10 (v := ?_) rfl (by kernel_rfl) (by kernel_rfl) (by kernel_rfl) (fun _ _ _ h => h) ⟨by rfl, ?_⟩ (by assumption) ?_
      rotate_left
      · intro w hS; go_simp <;> with_reducible rfl
      simp only [Act.put, List.setIfInBounds_toArray, List.set_cons_zero, List.set_cons_succ]
      refine takeL 11 (v := ?_) rfl (by kernel_rfl) (by kernel_rfl) (by kernel_rfl) (fun _ _ _ h => h) ⟨by rfl, ?_⟩ (by assumption) ?_
      rotate_left
      · intro w hS; go_simp <;> with_reducible rfl
      simp only [Act.put, List.setIfInBounds_toArray, List.set_cons_zero, List.set_cons_succ]
      refine takeL 12 (v := ?_) rfl (by kernel_rfl) (by kernel_rfl) (by kernel_rfl) (fun _ _ _ h => h) ⟨by rfl, ?_⟩ (by assumption) ?_
      rotate_left
      · intro w hS; have f1 := (hS.cell (p := ⟨g, 0, none⟩) KF.lt).trans (KF.cell 0); have f2 := (hS.cell (p := ⟨gW, 1, none⟩) hlw).trans q1; have f3 := (hS.cell (p := ⟨gh, jj, none⟩) hlh).trans qk; have f4 := (hS.cell (p := ⟨b, o + j, none⟩) hl2).trans qx; go_simp <;> with_reducible rfl
      simp only [Act.put, List.setIfInBounds_toArray, List.set_cons_zero, List.set_cons_succ]
      refine oneL 13 rfl (by kernel_rfl) (by rfl) (fun K hK => ?_)
      go_simp
      go_at_call 96
      (with_reducible refine (gfp_Mul p y x y2 _ HP.out EY.out).mono ?_); rintro e w7 ⟨rfl, b7⟩
      refine hK.out _ _ (hHeld.trans (b7.mono hHeld.size)) (fun hHeld => ?_)
      clear hK K
      try simp only [Act.put, List.setIfInBounds_toArray, List.set_cons_zero, List.set_cons_succ]
      refine takeL 14 (v := ?_) rfl (by kernel_rfl) (by kernel_rfl) (by kernel_rfl) (fun _ _ _ h => h) ⟨by rfl, ?_⟩ (by assumption) ?_
      rotate_left
      · intro w hS; go_simp <;> with_reducible rfl
      simp only [Act.put, List.setIfInBounds_toArray, List.set_cons_zero, List.set_cons_succ]
      refine doneL (by kernel_rfl) ?_ _
      replace h := h.next hHeld; replace hB := hB.next hHeld; replace KF := KF.next hHeld; replace ho := ho.next hHeld
      replace B0 := B0.trans (hHeld.mono hwr)
      have hwr : w.heap.size ≤ w7.heap.size := Nat.le_trans hwr hHeld.size
      clear hHeld b7 q1 qk qx hlw hlh hl2 hv
      go_upto_region 8 with (fail)
      have bd := Drawn.below (w' := w7.drew) ⟨1, rfl⟩ w7.heap.size
      replace h := h.next bd; replace hB := hB.next bd; replace KF := KF.next bd; replace ho := ho.next bd
      replace B0 := B0.trans (bd.mono B0.size)
      clear bd
      have hwr : w.heap.size ≤ w7.drew.heap.size := hwr
      have q1 := h.blk.cell 1
      have hlw := h.blk.lt
      obtain ⟨v, hv⟩ := h.h.hdr hjn
      have qk := h.h.head rfl hjn; rw [hv] at qk
      have hlh : gh < w7.drew.heap.size := by
        obtain ⟨cur, hcur⟩ := h.h.cellH rfl
        exact (Array.getElem?_eq_some_iff.1 hcur).1
      obtain ⟨ak', ck', rfl, hck'⟩ := (h.h.row j v hv).slice
      obtain ⟨b', o', rfl⟩ := h.h.ao hv (by omega)
      obtain ⟨⟨u, qx, hu⟩, -, -, hl2⟩ := h.h.at hv hkn
      obtain ⟨x2, ex2⟩ : ∃ x, x = (H j k).val := ⟨_, rfl⟩
      have hu : u = .int .u64 (x2 : Nat) := by rw [ex2]; exact hu
      subst hu
      obtain ⟨c, ec⟩ : ∃ z, z = (Zp.of p y2 * Zp.of p x2).val := ⟨_, rfl⟩
      have hc2 : Zp.of p c = Zp.of p y * H (j + 1) j * H j k := by rw [ec, Zp.of_val, ex2, Zp.of_val, EY2.out]
      have EC := Lib.hid ec; have EC2 := Lib.hid hc2
      clear ex2 ec hc2
      obtain ⟨vj, hvj⟩ : ∃ v, vs[j]? = some v := ⟨_, List.getElem?_eq_getElem (by rw [hB.2.1]; exact hjm)⟩
      have qb := World.ownsRow.cellAt hB.1 j (by omega); rw [hvj] at qb
      obtain ⟨ys2, hy1, hy2, hy3, hy4⟩ := hB.2.2 j vj hvj
      have hyl : ys2.length ≤ 1000000 := by omega
      have hgB2 : gB < w7.drew.heap.size := by
        rcases hB.1.2 with ⟨h1, _⟩ | ⟨g', c', cur, h1, _, h2, _⟩
        · cases h1
        · simp only [Value.slice.injEq, Option.some.injEq, Addr.mk.injEq, and_true, true_and] at h1
          rw [h1.1]; exact (Array.getElem?_eq_some_iff.1 h2).1
      have hzl : zs.length ≤ 1000000 := by omega
      refine startL (S := (fun w' => Below (w7.drew).heap.size (w7.drew) w')) (by kernel_rfl) (Below.refl _ _) (fun hHeld => ?_)
      refine takeL 0 (v := ?_) rfl (by kernel_rfl) (by kernel_rfl) (by kernel_rfl) (fun _ _ _ h => h) ⟨by rfl, ?_⟩ (by assumption) ?_
      rotate_left
      · intro w hS; have f1 := (hS.cell (p := ⟨g, 0, none⟩) KF.lt).trans (KF.cell 0); have f2 := (hS.cell (p := ⟨gW, 1, none⟩) hlw).trans q1; have f3 := (hS.cell (p := ⟨gh, j, none⟩) hlh).trans qk; have f4 := (hS.cell (p := ⟨b', o' + k, none⟩) hl2).trans qx; have f5 := (hS.cell (p := ⟨gB, j, none⟩) hgB2).trans qb; go_simp <;> with_reducible rfl
      simp only [Act.put, List.setIfInBounds_toArray, List.set_cons_zero, List.set_cons_succ]
      refine takeL 1 (v := ?_) rfl (by kernel_rfl) (by kernel_rfl) (by kernel_rfl) (fun _ _ _ h => h) ⟨by rfl, ?_⟩ (by assumption) ?_
      rotate_left
      · intro w hS; go_simp <;> with_reducible rfl
      simp only [Act.put, List.setIfInBounds_toArray, List.set_cons_zero, List.set_cons_succ]
      refine takeL 2 (v := ?_) rfl (by kernel_rfl) (by kernel_rfl) (by kernel_rfl) (fun _ _ _ h => h) ⟨by rfl, ?_⟩ (by assumption) ?_
      rotate_left
      · intro w hS; have f1 := (hS.cell (p := ⟨g, 0, none⟩) KF.lt).trans (KF.cell 0); have f2 := (hS.cell (p := ⟨gW, 1, none⟩) hlw).trans q1; have f3 := (hS.cell (p := ⟨gh, j, none⟩) hlh).trans qk; have f4 := (hS.cell (p := ⟨b', o' + k, none⟩) hl2).trans qx; have f5 := (hS.cell (p := ⟨gB, j, none⟩) hgB2).trans qb; go_simp <;> with_reducible rfl
      simp only [Act.put, List.setIfInBounds_toArray, List.set_cons_zero, List.set_cons_succ]
      refine takeL 3 (v := ?_) rfl (by kernel_rfl) (by kernel_rfl) (by kernel_rfl) (fun _ _ _ h => h) ⟨by rfl, ?_⟩ (by assumption) ?_
      rotate_left
      · intro w hS; go_simp <;> with_reducible rfl
      simp only [Act.put, List.setIfInBounds_toArray, List.set_cons_zero, List.set_cons_succ]
      refine takeL 4 (v := ?_) rfl (by kernel_rfl) (by kernel_rfl) (by kernel_rfl) (fun _ _ _ h => h) ⟨by rfl, ?_⟩ (by assumption) ?_
      rotate_left
      · intro w hS; go_simp <;> with_reducible rfl
      simp only [Act.put, List.setIfInBounds_toArray, List.set_cons_zero, List.set_cons_succ]
      refine takeL 5 (v := ?_) rfl (by kernel_rfl) (by kernel_rfl) (by kernel_rfl) (fun _ _ _ h => h) ⟨by rfl, ?_⟩ (by assumption) ?_
      rotate_left
      · intro w hS; go_simp <;> with_reducible rfl
      simp only [Act.put, List.setIfInBounds_toArray, List.set_cons_zero, List.set_cons_succ]
      refine takeL 6 (v := ?_) rfl (by kernel_rfl) (by kernel_rfl) (by kernel_rfl) (fun _ _ _ h => h) ⟨by rfl, ?_⟩ (by assumption) ?_
      rotate_left
      · intro w hS; have f1 := (hS.cell (p := ⟨g, 0, none⟩) KF.lt).trans (KF.cell 0); have f2 := (hS.cell (p := ⟨gW, 1, none⟩) hlw).trans q1; have f3 := (hS.cell (p := ⟨gh, j, none⟩) hlh).trans qk; have f4 := (hS.cell (p := ⟨b', o' + k, none⟩) hl2).trans qx; have f5 := (hS.cell (p := ⟨gB, j, none⟩) hgB2).trans qb; go_simp <;> with_reducible rfl
      simp only [Act.put, List.setIfInBounds_toArray, List.set_cons_zero, List.set_cons_succ]
      refine takeL 7 (v := ?_) rfl (by kernel_rfl) (by kernel_rfl) (by kernel_rfl) (fun _ _ _ h => h) ⟨by rfl, ?_⟩ (by assumption) ?_
      rotate_left
      · intro w hS; have f1 := (hS.cell (p := ⟨g, 0, none⟩) KF.lt).trans (KF.cell 0); have f2 := (hS.cell (p := ⟨gW, 1, none⟩) hlw).trans q1; have f3 := (hS.cell (p := ⟨gh, j, none⟩) hlh).trans qk; have f4 := (hS.cell (p := ⟨b', o' + k, none⟩) hl2).trans qx; have f5 := (hS.cell (p := ⟨gB, j, none⟩) hgB2).trans qb; go_simp <;> with_reducible rfl
      simp only [Act.put, List.setIfInBounds_toArray, List.set_cons_zero, List.set_cons_succ]
      refine takeL 8 (v := ?_) rfl (by kernel_rfl) (by kernel_rfl) (by kernel_rfl) (fun _ _ _ h => h) ⟨by rfl, ?_⟩ (by assumption) ?_
      rotate_left
      · intro w hS; go_simp <;> with_reducible rfl
      simp only [Act.put, List.setIfInBounds_toArray, List.set_cons_zero, List.set_cons_succ]
      refine takeL 9 (v := ?_) rfl (by kernel_rfl) (by kernel_rfl) (by kernel_rfl) (fun _ _ _ h => h) ⟨by rfl, ?_⟩ (by assumption) ?_
      rotate_left
      · intro w hS; go_simp <;> with_reducible rfl
      simp only [Act.put, List.setIfInBounds_toArray, List.set_cons_zero, List.set_cons_succ]
      refine takeL 10 (v := ?_) rfl (by kernel_rfl) (by kernel_rfl) (by kernel_rfl) (fun _ _ _ h => h) ⟨by rfl, ?_⟩ (by assumption) ?_
      rotate_left
      · intro w hS; go_simp <;> with_reducible rfl
      simp only [Act.put, List.setIfInBounds_toArray, List.set_cons_zero, List.set_cons_succ]
      refine takeL 11 (v := ?_) rfl (by kernel_rfl) (by kernel_rfl) (by kernel_rfl) (fun _ _ _ h => h) ⟨by rfl, ?_⟩ (by assumption) ?_
      rotate_left
      · intro w hS; go_simp <;> with_reducible rfl
      simp only [Act.put, List.setIfInBounds_toArray, List.set_cons_zero, List.set_cons_succ]
      refine takeL 12 (v := ?_) rfl (by kernel_rfl) (by kernel_rfl) (by kernel_rfl) (fun _ _ _ h => h) ⟨by rfl, ?_⟩ (by assumption) ?_
      rotate_left
      · intro w hS; have f1 := (hS.cell (p := ⟨g, 0, none⟩) KF.lt).trans (KF.cell 0); have f2 := (hS.cell (p := ⟨gW, 1, none⟩) hlw).trans q1; have f3 := (hS.cell (p := ⟨gh, j, none⟩) hlh).trans qk; have f4 := (hS.cell (p := ⟨b', o' + k, none⟩) hl2).trans qx; have f5 := (hS.cell (p := ⟨gB, j, none⟩) hgB2).trans qb; go_simp <;> with_reducible rfl
      simp only [Act.put, List.setIfInBounds_toArray, List.set_cons_zero, List.set_cons_succ]
      refine takeL 13 (v := ?_) rfl (by kernel_rfl) (by kernel_rfl) (by kernel_rfl) (fun _ _ _ h => h) ⟨by rfl, ?_⟩ (by assumption) ?_
      rotate_left
      · intro w hS; go_simp <;> with_reducible rfl
      simp only [Act.put, List.setIfInBounds_toArray, List.set_cons_zero, List.set_cons_succ]
      refine takeL 14 (v := ?_) rfl (by kernel_rfl) (by kernel_rfl) (by kernel_rfl) (fun _ _ _ h => h) ⟨by rfl, ?_⟩ (by assumption) ?_
      rotate_left
      · intro w hS; go_simp <;> with_reducible rfl
      simp only [Act.put, List.setIfInBounds_toArray, List.set_cons_zero, List.set_cons_succ]
      refine takeL 15 (v := ?_) rfl (by kernel_rfl) (by kernel_rfl) (by kernel_rfl) (fun _ _ _ h => h) ⟨by rfl, ?_⟩ (by assumption) ?_
      rotate_left
      · intro w hS; have f1 := (hS.cell (p := ⟨g, 0, none⟩) KF.lt).trans (KF.cell 0); have f2 := (hS.cell (p := ⟨gW, 1, none⟩) hlw).trans q1; have f3 := (hS.cell (p := ⟨gh, j, none⟩) hlh).trans qk; have f4 := (hS.cell (p := ⟨b', o' + k, none⟩) hl2).trans qx; have f5 := (hS.cell (p := ⟨gB, j, none⟩) hgB2).trans qb; go_simp <;> with_reducible rfl
      simp only [Act.put, List.setIfInBounds_toArray, List.set_cons_zero, List.set_cons_succ]
      refine takeL 16 (v := ?_) rfl (by kernel_rfl) (by kernel_rfl) (by kernel_rfl) (fun _ _ _ h => h) ⟨by rfl, ?_⟩ (by assumption) ?_
      rotate_left
      · intro w hS; go_simp <;> with_reducible rfl
      simp only [Act.put, List.setIfInBounds_toArray, List.set_cons_zero, List.set_cons_succ]
      refine takeL 17 (v := ?_) rfl (by kernel_rfl) (by kernel_rfl) (by kernel_rfl) (fun _ _ _ h => h) ⟨by rfl, ?_⟩ (by assumption) ?_
      rotate_left
      · intro w hS; go_simp <;> with_reducible rfl
      simp only [Act.put, List.setIfInBounds_toArray, List.set_cons_zero, List.set_cons_succ]
      refine takeL 18 (v := ?_) rfl (by kernel_rfl) (by kernel_rfl) (by kernel_rfl) (fun _ _ _ h => h) ⟨by rfl, ?_⟩ (by assumption) ?_
      rotate_left
      · intro w hS; have f1 := (hS.cell (p := ⟨g, 0, none⟩) KF.lt).trans (KF.cell 0); have f2 := (hS.cell (p := ⟨gW, 1, none⟩) hlw).trans q1; have f3 := (hS.cell (p := ⟨gh, j, none⟩) hlh).trans qk; have f4 := (hS.cell (p := ⟨b', o' + k, none⟩) hl2).trans qx; have f5 := (hS.cell (p := ⟨gB, j, none⟩) hgB2).trans qb; go_simp <;> with_reducible rfl
      simp only [Act.put, List.setIfInBounds_toArray, List.set_cons_zero, List.set_cons_succ]
      refine oneL 19 rfl (by kernel_rfl) (by rfl) (fun K hK => ?_)
      go_simp
      go_at_call 96
      (with_reducible refine (gfp_Mul p y2 x2 c _ HP.out EC.out).mono ?_); rintro e w4 ⟨rfl, b4⟩
      refine hK.out _ _ (hHeld.trans (b4.mono hHeld.size)) (fun hHeld => ?_)
      clear hK K
      try simp only [Act.put, List.setIfInBounds_toArray, List.set_cons_zero, List.set_cons_succ]
      refine oneL 20 rfl (by kernel_rfl) (by rfl) (fun K hK => ?_)
      go_simp
      go_at_call 128
      (with_reducible refine (fp_Scale p c vj ys2 _ HP.out (hy1.sl.next hHeld) hyl).mono ?_); rintro e w5 ⟨r5, zs5, rfl, o5, m5, v5, l5, b5⟩
      refine hK.out _ _ (hHeld.trans (b5.mono hHeld.size)) (fun hHeld => ?_)
      clear hK K
      try simp only [Act.put, List.setIfInBounds_toArray, List.set_cons_zero, List.set_cons_succ]
      refine oneL 21 rfl (by kernel_rfl) (by rfl) (fun K hK => ?_)
      go_simp
      go_at_call 79
      (with_reducible refine (fp_Sub p u7 r5 zs zs5 _ HP.out (ho.sl.next hHeld) o5.sl hzl (by omega)).mono ?_); rintro e w8 ⟨r8, zs8, rfl, o8, m8, v8, l8, b8⟩; have hdd := Lib.hid hHeld.size
      refine hK.out _ _ (hHeld.trans (b8.mono hHeld.size)) (fun hHeld => ?_)
      clear hK K
      try simp only [Act.put, List.setIfInBounds_toArray, List.set_cons_zero, List.set_cons_succ]
      refine takeL 22 (v := ?_) rfl (by kernel_rfl) (by kernel_rfl) (by kernel_rfl) (fun _ _ _ h => h) ⟨by rfl, ?_⟩ (by assumption) ?_
      rotate_left
      · intro w hS; go_simp <;> with_reducible rfl
      simp only [Act.put, List.setIfInBounds_toArray, List.set_cons_zero, List.set_cons_succ]
      refine doneL (by kernel_rfl) ?_ _
      have st := Lib.hid (show NxR p w w8 b0 b1 gW n k m g H P (.slice (some ⟨gh, 0, none⟩) n ch) pv hs ps (.slice (some ⟨gB, 0, none⟩) m cB) vs j y2 r8 from
        ⟨zs8, o8.mono (Nat.le_trans hwr (hdd.out)), m8, by omega, by
          rw [v8, v5, hy3, EC2.out, EY2.out, HM.out]; exact hdn.out, h.next hHeld, hB.next hHeld, KF.next hHeld, B0.trans (hHeld.mono hwr)⟩)
      clear h hB KF ho B0 hHeld q1 qk qx qb hlw hlh hl2 hv hvj hy1 hy2 hy3 o8 m8 v8 b8 o5 m5 v5 b5 hdd hgB2
      have hk2 : IntKind.i64.wrap ((j : Int) - 1) = (j : Int) - 1 := IntWalk.i64_in _ ⟨by omega, by omega⟩
      go_wp2
      go_roundw
      case rel => exact ⟨j, y2, by omega, rfl, rfl, st.out⟩
      case measure => simp [intOf] <;> omega

end Go.Proofs.Ythghdjpjbngllaa
