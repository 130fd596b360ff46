/- hess.work: the characteristic polynomial of one row and column more. -/
import Derived.Test.YtkmfhabgempjiaaQfM5
import Derived.Test.YtkmfhabgempjiaaQfM9
namespace Go.Proofs.Ytkmfhabgempjiaa
set_option maxHeartbeats 4000000
open Go.RowKit
def Pls (p : Nat) (w : World) (base : Nat) (bv : Value) (vs : List Value) (n : Nat) (D : Nat → Pol (Zp p)) : Prop :=
 w.ownsRow base 43 1 bv n vs ∧ vs.length = n ∧ ∀ (j : Nat) (v : Value), vs[j]? = some v → ∃ ys, Own .u64 27 w base v ys ∧ Nrm p ys ∧ pl p ys = D j ∧ ys.length ≤ j + 1
theorem plc {p : Nat} (x : Nat) (xs : List Nat) : pl p (x :: xs) = mon (Zp.of p x) 0 + mon 1 1 * pl p xs := Pol.ext fun i => by
 rw [Pol.c_add, c_mon_mul, c_mon, pl_c]
 cases i with
 | zero => simp; exact (CR.add_zero _).symm
 | succ i => rw [if_neg (by omega), if_pos (by omega), CR.one_mul, CR.zero_add, pl_c]; rfl
theorem pl1 {p : Nat} : pl p [1] = 1 := Pol.ext fun i => by rw [pl_c, Pol.one_def, c_mon]; cases i <;> rfl
theorem own_lit_z1 (w : World) (x : Nat) : Own .u64 27 (w.alloc (.cells #[.int .u64 x, .int .u64 1] 27)) w.heap.size (.slice (some ⟨w.heap.size, 0, none⟩) 2 2) [x, 1] := own_lit2 w x 1
theorem pl_lin {p : Nat} (z : Nat) (x : Zp p) (hz : z = (-x).val) : pl p [z, 1] = mon 1 1 - mon x 0 := by
 rw [plc, pl1, CR.mul_one, hz, Zp.of_val]
 refine Pol.ext fun i => ?_
 rw [Pol.c_add, Pol.c_sub, c_mon, c_mon, c_mon]
 by_cases h0 : i = 0
 ·subst h0; rw [if_pos rfl, if_neg (by omega), if_pos rfl, CR.add_zero, CR.zero_sub]
 ·rw [if_neg h0, if_neg h0, CR.zero_add, CR.sub_zero]
def NxR (p : Nat) (w wr : World) (b0 b1 gW n k m g : Nat) (H P : Nat → Nat → Zp p) (hv pv : Value) (hs ps : List Value) (bv : Value) (vs : List Value) (i y : Nat) (r : Value) : Prop :=
 ∃ zs, Own .u64 27 wr w.heap.size r zs ∧ Nrm p zs ∧ zs.length ≤ m + 1 ∧ dn m (xh H) = pl p zs + mon (Zp.of p y) 0 * hesV H i k ∧ Hk p wr b0 gW n H P hv pv hs ps ∧ Pls p wr b1 bv vs m (fun j => dn j (xh H)) ∧
  Blk 29 wr g [.int .u64 p] ∧ Below w.heap.size w wr
set_option maxRecDepth 20000 in
theorem hs_next (p : Nat) (w : World) (hp : FP p) (b0 b1 gW n : Nat) (H P : Nat → Nat → Zp p) (hv pv : Value) (hs ps : List Value) (h : Hk p w b0 gW n H P hv pv hs ps) (hH : Hes n H)
  (bv : Value) (vs : List Value) (m k : Nat) (hm : m = k + 1) (hmn : m ≤ n) (hn : n ≤ 64) (hB : Pls p w b1 bv vs m (fun j => dn j (xh H))) :
  Calls Try.prog 121 #[.pointer (some ⟨gW, 0, none⟩), bv] w (RetP p w (m + 1) (dn m (xh H))) := by
 have HP := Lib.hid hp; clear hp
 have HH := Lib.hid hH; clear hH
 obtain ⟨gh, ch, rfl, -, -, hnch⟩ : ∃ g cap, hv = .slice (some ⟨g, 0, none⟩) n cap ∧ b0 ≤ g ∧ g < w.heap.size ∧ n ≤ cap := by
  rcases h.h.shape with ⟨_, h0⟩ | h0
  ·omega
  ·exact h0
 obtain ⟨gB, cB, rfl, -, hgB, hmc⟩ : ∃ g cap, bv = .slice (some ⟨g, 0, none⟩) m cap ∧ b1 ≤ g ∧ g < w.heap.size ∧ m ≤ cap := by
  rcases rowOwn_shape hB.1 with ⟨_, h0⟩ | h0
  ·omega
  ·exact h0
 have s1 : IntKind.i64.wrap ((m : Int) - 1) = (k : Int) := by rw [IntWalk.i64_in _ ⟨by omega, by omega⟩]; omega
 have hkn : k < n := by omega
 have hkm : k < m := by omega
 have HM := Lib.hid hm; clear hm
 have q0 := h.blk.cell 0
 have KF0 := Blk.lit w 29 [.int .u64 0]
 have z0 := KF0.cell 0; have zf := KF0.free 0
 go_enter Try.func121, Try.ntmps121
 go_upto_region 2 with (fail)
 clear q0 z0 zf
 clear KF0
 obtain ⟨w1, ew1, KF, B0, hsz0⟩ := boxes1 w 29 [.int .u64 p]
 clear hsz0
 rw [← ew1]
 clear ew1
 obtain ⟨g, eg⟩ : ∃ g, g = w.heap.size := ⟨_, rfl⟩
 rw [← eg] at KF ⊢
 clear eg
 have bd := dw w1
 replace h := (h.next B0).next bd
 replace hB := (hB.next B0).next bd
 replace KF := KF.next bd
 replace B0 := B0.trans (bd.mono B0.size)
 clear bd
 have hgB : gB < w1.drew.heap.size := Nat.lt_of_lt_of_le hgB B0.size
 have HS := Lib.hid B0.size
 have q1 := h.blk.cell 1
 have hlw := h.blk.lt
 obtain ⟨v, hv⟩ := h.h.hdr hkn
 have qk := h.h.head rfl hkn; rw [hv] at qk
 have hlh : gh < w1.drew.heap.size := by
  obtain ⟨cur, hcur⟩ := h.h.cellH rfl
  exact (Array.getElem?_eq_some_iff.1 hcur).1
 obtain ⟨ak, ck, rfl, hck⟩ := (h.h.row k v hv).slice
 obtain ⟨b, o, rfl⟩ := h.h.ao hv (by omega)
 obtain ⟨⟨u, qx, hu⟩, -, -, hl2⟩ := h.h.at hv hkn
 obtain ⟨x, ex⟩ : ∃ x, x = (H k k).val := ⟨_, rfl⟩
 have hu : u = .int .u64 (x : Nat) := by rw [ex]; exact hu
 subst hu
 obtain ⟨z, ez⟩ : ∃ z, z = (-Zp.of p x).val := ⟨_, rfl⟩
 have hz2 : z = (-H k k).val := by rw [ez, ex, Zp.of_val]
 have EZ := Lib.hid ez; have EZ2 := Lib.hid hz2
 clear ex ez hz2
 obtain ⟨vk, hvk⟩ : ∃ v, vs[k]? = some v := ⟨_, List.getElem?_eq_getElem (by rw [hB.2.1]; exact hkm)⟩
 have qb := World.ownsRow.cellAt hB.1 k (by omega); rw [hvk] at qb
 obtain ⟨ys, hy1, hy2, hy3, hy4⟩ := hB.2.2 k vk hvk
 have hmc' : ys.length ≤ 1000000 := by omega
 have HY := Lib.hid hy4; clear hy4
 have zF0 := Lib.hid fun (w : World) (hS : Below (w1.drew).heap.size (w1.drew) w) => And.intro ((hS.cell (p := ⟨g, 0, none⟩) KF.lt).trans (KF.cell 0)) (And.intro ((hS.cell (p := ⟨gW, 1, none⟩) hlw).trans q1) (And.intro ((hS.cell (p := ⟨gh, k, none⟩) hlh).trans qk) (And.intro ((hS.cell (p := ⟨b, o + k, none⟩) hl2).trans qx) ((hS.cell (p := ⟨gB, k, none⟩) hgB).trans qb))))
 refine startL (S := (fun w' => Below (w1.drew).heap.size (w1.drew) w')) (by kernel_rfl) (Below.refl _ _) (fun hHeld => ?_)
 refine tf 0 zF0.out ?_
 refine tf 1 zF0.out ?_
 refine tk 2 ?_
 refine tk 3 ?_
 refine tk 4 ?_
 refine tf 5 zF0.out ?_
 refine tk 6 ?_
 refine tk 7 ?_
 refine tf 8 zF0.out ?_
 refine tk 9 ?_
 refine tk 10 ?_
 refine tf 11 zF0.out ?_
 refine tk 14 ?_
 refine tk 15 ?_
 refine tk 16 ?_
 refine tf 17 zF0.out ?_
 refine on 12 fun K hK => ?_
 go_simp
 go_at_call 110
 (with_reducible refine (gfp_Neg p x z _ HP.out EZ.out).mono ?_); rintro e w2 ⟨rfl, b2⟩
 refine hK.out _ _ (hHeld.trans (b2.mono hHeld.size)) (fun hHeld => ?_)
 clear hK K
 try simp only [Act.put, zq1, zq2, zq3]
 refine on 13 fun K hK => ?_
 go_simp
 have hd := hHeld
 have hsz2 := Lib.hid (show w1.drew.heap.size ≤ (w2.alloc (.cells #[.int .u64 z, .int .u64 1] 27)).heap.size from (hHeld.alloc hHeld.size _).size)
 refine hK.out _ _ (hHeld.alloc hHeld.size _) (fun hHeld => ?_)
 clear hK K
 try simp only [Act.put, zq1, zq2, zq3]
 refine on 18 fun K hK => ?_
 go_simp
 go_at_call 65
 (with_reducible refine (fp_Mul p _ _ [z, 1] ys _ HP.out (own_lit_z1 w2 z).sl (hy1.sl.next hHeld) (by simp) hmc').mono ?_); rintro e w3 ⟨r3, zs3, rfl, o3, m3, v3, l3, b3⟩
 refine hK.out _ _ (hHeld.trans (b3.mono hHeld.size)) (fun hHeld => ?_)
 clear hK K
 try simp only [Act.put, zq1, zq2, zq3]
 refine tk 19 ?_
 clear zF0; refine doneL (by kernel_rfl) ?_ _
 have st : NxR p w w3 b0 b1 gW n k m g H P (.slice (some ⟨gh, 0, none⟩) n ch) pv hs ps (.slice (some ⟨gB, 0, none⟩) m cB) vs k 1 r3 := ⟨zs3, o3.mono (Nat.le_trans HS.out hsz2.out), m3, by have := HY.out; have := HM.out; simp only [List.length_cons, List.length_nil] at l3; omega, by
  have e := hesV_start HH.out hkn
  rw [v3, pl_lin z (H k k) EZ2.out, hy3, HM.out, e, show Zp.of p 1 = 1 from Zp.of_one p], h.next hHeld, hB.next hHeld, KF.next hHeld, B0.trans (hHeld.mono HS.out)⟩
 clear h hB KF B0 hHeld o3 m3 v3 l3 b3 q1 qk qx qb hlw hlh hl2 hv hvk hy1 hy2 hy3 hgB b2 hsz2 HY hmc'
 have hk1 : IntKind.i64.wrap ((k : Int) - 1) = (k : Int) - 1 := IntWalk.i64_in _ ⟨by omega, by omega⟩
 go_wp2
 clear hk1
 go_loopw [9, 8, 7] (fun iv yv rv wr => ∃ i y : Nat, i ≤ k ∧ iv = .int .i64 ((i : Int) - 1) ∧ yv = .int .u64 y ∧ NxR p w wr b0 b1 gW n k m g H P (.slice (some ⟨gh, 0, none⟩) n ch) pv hs ps (.slice (some ⟨gB, 0, none⟩) m cB) vs i y rv) (fun iv _ _ _ => (intOf iv + 1).toNat)
 case atStart => exact ⟨k, 1, Nat.le_refl _, rfl, rfl, st⟩
 case round =>
  clear st
  obtain ⟨i, y, hik, rfl, rfl, zs, ho, hnz, hlz, hdn, h, hB, KF, B0⟩ := hrel
  cases i with
  | zero =>
   have hdn2 := Lib.hid (hesV_end (show dn (k + 1) (xh H) = _ by rw [← HM.out]; exact hdn))
   clear hdn
   have FR := Lib.hid (show RetP p w (m + 1) (dn m (xh H)) (.returned u7) wr from ⟨_, zs, rfl, ho, hnz, by rw [HM.out]; exact hdn2.out.symm, hlz, B0⟩)
   rw [show (((0 : Nat) : Int) - 1) = -1 by omega]
   clear ho hnz hlz h hB KF B0
   go_wp2
   go_ret
   exact FR.out
  | succ j =>
   rw [show (((j + 1 : Nat) : Int) - 1) = (j : Int) by omega]
   have hwr : w.heap.size ≤ wr.heap.size := B0.size
   have hdn := Lib.hid (hesV_step HH.out (show j < k by omega) hkn (show dn (k + 1) (xh H) = _ by rw [← HM.out]; exact hdn))
   obtain ⟨jj, ejj⟩ : ∃ jj, jj = j + 1 := ⟨_, rfl⟩
   have sj : IntKind.i64.wrap ((j : Int) + 1) = (jj : Int) := by rw [IntWalk.i64_in _ ⟨by omega, by omega⟩]; omega
   have hjj : jj < n := by omega
   have hjn : j < n := by omega
   have hjm : j < m := by omega
   have hj0 : (j : Int) ≥ 0 := by omega
   have HJJ := Lib.hid ejj; clear ejj
   go_upto_region 7 with (fail)
   have bd := dw wr
   replace h := h.next bd; replace hB := hB.next bd; replace KF := KF.next bd; replace ho := ho.next bd
   replace B0 := B0.trans (bd.mono B0.size)
   clear bd
   have hwr : w.heap.size ≤ wr.drew.heap.size := hwr
   have q1 := h.blk.cell 1
   have hlw := h.blk.lt
   obtain ⟨v, hv⟩ := h.h.hdr hjj
   have qk := h.h.head rfl hjj; rw [hv] at qk
   have hlh : gh < wr.drew.heap.size := by
    obtain ⟨cur, hcur⟩ := h.h.cellH rfl
    exact (Array.getElem?_eq_some_iff.1 hcur).1
   obtain ⟨ak, ck, rfl, hck⟩ := (h.h.row jj v hv).slice
   obtain ⟨b, o, rfl⟩ := h.h.ao hv (by omega)
   obtain ⟨⟨u, qx, hu⟩, -, -, hl2⟩ := h.h.at hv hjn
   obtain ⟨x, ex⟩ : ∃ x, x = (H jj j).val := ⟨_, rfl⟩
   have hu : u = .int .u64 (x : Nat) := by rw [ex]; exact hu
   subst hu
   obtain ⟨y2, ey2⟩ : ∃ z, z = (Zp.of p y * Zp.of p x).val := ⟨_, rfl⟩
   have hy2 : Zp.of p y2 = Zp.of p y * H (j + 1) j := by rw [ey2, Zp.of_val, ex, Zp.of_val, HJJ.out]
   have EY := Lib.hid ey2; have EY2 := Lib.hid hy2
   clear ex ey2 hy2
   have zF0 := Lib.hid fun (w : World) (hS : Below (wr.drew).heap.size (wr.drew) w) => And.intro ((hS.cell (p := ⟨g, 0, none⟩) KF.lt).trans (KF.cell 0)) (And.intro ((hS.cell (p := ⟨gW, 1, none⟩) hlw).trans q1) (And.intro ((hS.cell (p := ⟨gh, jj, none⟩) hlh).trans qk) ((hS.cell (p := ⟨b, o + j, none⟩) hl2).trans qx)))
   refine startL (S := (fun w' => Below (wr.drew).heap.size (wr.drew) w')) (by kernel_rfl) (Below.refl _ _) (fun hHeld => ?_)
   refine tf 0 zF0.out ?_
   refine tk 1 ?_
   refine tk 2 ?_
   refine tk 3 ?_
   refine tk 4 ?_
   refine tf 5 zF0.out ?_
   refine tk 6 ?_
   refine tk 7 ?_
   refine tk 8 ?_
   refine tf 9 zF0.out ?_
   refine tk 10 ?_
   refine tk 11 ?_
   refine tf 12 zF0.out ?_
   refine on 13 fun K hK => ?_
   go_simp
   go_at_call 118
   (with_reducible refine (gfp_Mul p y x y2 _ HP.out EY.out).mono ?_); rintro e w7 ⟨rfl, b7⟩
   refine hK.out _ _ (hHeld.trans (b7.mono hHeld.size)) (fun hHeld => ?_)
   clear hK K
   try simp only [Act.put, zq1, zq2, zq3]
   refine tk 14 ?_
   clear zF0; refine doneL (by kernel_rfl) ?_ _
   replace h := h.next hHeld; replace hB := hB.next hHeld; replace KF := KF.next hHeld; replace ho := ho.next hHeld
   replace B0 := B0.trans (hHeld.mono hwr)
   have hwr : w.heap.size ≤ w7.heap.size := Nat.le_trans hwr hHeld.size
   clear hHeld b7 q1 qk qx hlw hlh hl2 hv
   go_upto_region 8 with (fail)
   have bd := dw w7
   replace h := h.next bd; replace hB := hB.next bd; replace KF := KF.next bd; replace ho := ho.next bd
   replace B0 := B0.trans (bd.mono B0.size)
   clear bd
   have hwr : w.heap.size ≤ w7.drew.heap.size := hwr
   have q1 := h.blk.cell 1
   have hlw := h.blk.lt
   obtain ⟨v, hv⟩ := h.h.hdr hjn
   have qk := h.h.head rfl hjn; rw [hv] at qk
   have hlh : gh < w7.drew.heap.size := by
    obtain ⟨cur, hcur⟩ := h.h.cellH rfl
    exact (Array.getElem?_eq_some_iff.1 hcur).1
   obtain ⟨ak', ck', rfl, hck'⟩ := (h.h.row j v hv).slice
   obtain ⟨b', o', rfl⟩ := h.h.ao hv (by omega)
   obtain ⟨⟨u, qx, hu⟩, -, -, hl2⟩ := h.h.at hv hkn
   obtain ⟨x2, ex2⟩ : ∃ x, x = (H j k).val := ⟨_, rfl⟩
   have hu : u = .int .u64 (x2 : Nat) := by rw [ex2]; exact hu
   subst hu
   obtain ⟨c, ec⟩ : ∃ z, z = (Zp.of p y2 * Zp.of p x2).val := ⟨_, rfl⟩
   have hc2 : Zp.of p c = Zp.of p y * H (j + 1) j * H j k := by rw [ec, Zp.of_val, ex2, Zp.of_val, EY2.out]
   have EC := Lib.hid ec; have EC2 := Lib.hid hc2
   clear ex2 ec hc2
   obtain ⟨vj, hvj⟩ : ∃ v, vs[j]? = some v := ⟨_, List.getElem?_eq_getElem (by rw [hB.2.1]; exact hjm)⟩
   have qb := World.ownsRow.cellAt hB.1 j (by omega); rw [hvj] at qb
   obtain ⟨ys2, hy1, hy2, hy3, hy4⟩ := hB.2.2 j vj hvj
   have hyl : ys2.length ≤ 1000000 := by omega
   have hgB2 : gB < w7.drew.heap.size := by
    rcases hB.1.2 with ⟨h1, _⟩ | ⟨g', c', cur, h1, _, h2, _⟩
    ·cases h1
    ·simp only [Value.slice.injEq, Option.some.injEq, Addr.mk.injEq, and_true, true_and] at h1
     rw [h1.1]; exact (Array.getElem?_eq_some_iff.1 h2).1
   have hzl : zs.length ≤ 1000000 := by omega
   have zF0 := Lib.hid fun (w : World) (hS : Below (w7.drew).heap.size (w7.drew) w) => And.intro ((hS.cell (p := ⟨g, 0, none⟩) KF.lt).trans (KF.cell 0)) (And.intro ((hS.cell (p := ⟨gW, 1, none⟩) hlw).trans q1) (And.intro ((hS.cell (p := ⟨gh, j, none⟩) hlh).trans qk) (And.intro ((hS.cell (p := ⟨b', o' + k, none⟩) hl2).trans qx) ((hS.cell (p := ⟨gB, j, none⟩) hgB2).trans qb))))
   refine startL (S := (fun w' => Below (w7.drew).heap.size (w7.drew) w')) (by kernel_rfl) (Below.refl _ _) (fun hHeld => ?_)
   refine tf 0 zF0.out ?_
   refine tk 1 ?_
   refine tf 2 zF0.out ?_
   refine tk 3 ?_
   refine tk 4 ?_
   refine tk 5 ?_
   refine tf 6 zF0.out ?_
   refine tf 7 zF0.out ?_
   refine tk 8 ?_
   refine tk 9 ?_
   refine tk 10 ?_
   refine tk 11 ?_
   refine tf 12 zF0.out ?_
   refine tk 13 ?_
   refine tk 14 ?_
   refine tf 15 zF0.out ?_
   refine tk 16 ?_
   refine tk 17 ?_
   refine tf 18 zF0.out ?_
   refine on 19 fun K hK => ?_
   go_simp
   go_at_call 118
   (with_reducible refine (gfp_Mul p y2 x2 c _ HP.out EC.out).mono ?_); rintro e w4 ⟨rfl, b4⟩
   refine hK.out _ _ (hHeld.trans (b4.mono hHeld.size)) (fun hHeld => ?_)
   clear hK K
   try simp only [Act.put, zq1, zq2, zq3]
   refine on 20 fun K hK => ?_
   go_simp
   go_at_call 132
   (with_reducible refine (fp_Scale p c vj ys2 _ HP.out (hy1.sl.next hHeld) hyl).mono ?_); rintro e w5 ⟨r5, zs5, rfl, o5, m5, v5, l5, b5⟩
   refine hK.out _ _ (hHeld.trans (b5.mono hHeld.size)) (fun hHeld => ?_)
   clear hK K
   try simp only [Act.put, zq1, zq2, zq3]
   refine on 21 fun K hK => ?_
   go_simp
   go_at_call 154
   (with_reducible refine (fp_Sub p u7 r5 zs zs5 _ HP.out (ho.sl.next hHeld) o5.sl hzl (by omega)).mono ?_); rintro e w8 ⟨r8, zs8, rfl, o8, m8, v8, l8, b8⟩; have hdd := Lib.hid hHeld.size
   refine hK.out _ _ (hHeld.trans (b8.mono hHeld.size)) (fun hHeld => ?_)
   clear hK K
   try simp only [Act.put, zq1, zq2, zq3]
   refine tk 22 ?_
   clear zF0; refine doneL (by kernel_rfl) ?_ _
   have st := Lib.hid (show NxR p w w8 b0 b1 gW n k m g H P (.slice (some ⟨gh, 0, none⟩) n ch) pv hs ps (.slice (some ⟨gB, 0, none⟩) m cB) vs j y2 r8 from
    ⟨zs8, o8.mono (Nat.le_trans hwr (hdd.out)), m8, by omega, by
     rw [v8, v5, hy3, EC2.out, EY2.out, HM.out]; exact hdn.out, h.next hHeld, hB.next hHeld, KF.next hHeld, B0.trans (hHeld.mono hwr)⟩)
   clear h hB KF ho B0 hHeld q1 qk qx qb hlw hlh hl2 hv hvj hy1 hy2 hy3 o8 m8 v8 b8 o5 m5 v5 b5 hdd hgB2
   have hk2 : IntKind.i64.wrap ((j : Int) - 1) = (j : Int) - 1 := IntWalk.i64_in _ ⟨by omega, by omega⟩
   go_wp2
   go_roundw
   case rel => exact ⟨j, y2, by omega, rfl, rfl, st.out⟩
   case measure => simp [intOf] <;> omega
end Go.Proofs.Ytkmfhabgempjiaa
/- hess: the characteristic polynomial. -/
namespace Go.Proofs.Ytkmfhabgempjiaa
set_option maxHeartbeats 4000000
open Go.RowKit
theorem chi_of_sim {R : Type} [CR R] {n : Nat} {A : MT R n n} {H P : Nat → Nat → R} (h : Sim A H P) : chi A = dn n (xh H) := by
 obtain ⟨⟨X, hX⟩, h2⟩ := h
 rw [chi_conj hX h2, chi_xh]
 exact dn_congr n fun i k hi hk => by unfold xh; rw [MT.of_e _ hi hk]
theorem Own.keptP {w w' : World} {base : Nat} {v : Value} {xs : List Nat} (h : Own .u64 27 w base v xs) {b1 n0 : Nat} {v0 : Value} {xs0 : List Value} (ho : w.ownsRow b1 43 1 v0 n0 xs0) (hg : w.grownBy w' v0.ownBlock) : Own .u64 27 w' base v xs := by
 refine World.ownsRow.kept h hg ?_
 rcases h.2 with ⟨h1, _⟩ | ⟨g, cap, cur, h1, _, h2, _⟩
 ·left; rw [h1]; rfl
 ·right
  intro e
  rw [h1] at e
  exact rowOwn_ne ho h2 (by decide) e.symm
theorem nrm_1 {p : Nat} (hp : FP p) : Nrm p [1] := ⟨wf_cons (by have := hp.1; omega) (wf_nil _), rfl⟩
theorem pls_start {p : Nat} (hp : FP p) (w : World) (D : Nat → Pol (Zp p)) (hD : D 0 = 1) :
  Pls p ((w.alloc (.cells #[.int .u64 1] 27)).alloc (.cells #[.slice (some ⟨w.heap.size, 0, none⟩) 1 1] 43)) w.heap.size (.slice (some ⟨w.heap.size + 1, 0, none⟩) 1 1) [.slice (some ⟨w.heap.size, 0, none⟩) 1 1] 1 D := by
 have e : (w.alloc (.cells #[.int .u64 1] 27)).heap.size = w.heap.size + 1 := by simp
 have h1 := World.ownsRow_lit (base := w.heap.size) (e := 43) (size := 1) (w.alloc (.cells #[.int .u64 1] 27)) #[.slice (some ⟨w.heap.size, 0, none⟩) 1 1] 1 (by rw [e]; omega) (by unfold maxLen; omega) rfl
 rw [e] at h1
 refine ⟨h1, rfl, fun j v hv => ?_⟩
 cases j with
 | zero =>
  simp at hv
  subst hv
  exact ⟨[1], (own_lit1 w 1).next ((Below.refl _ _).alloc (Nat.le_refl _) _), nrm_1 hp, by rw [hD]; exact pl1, by simp⟩
 | succ j => simp at hv
def RetPE (p : Nat) (w : World) (L : Nat) (f : Pol (Zp p)) (e : Ending) (w' : World) : Prop :=
 ∃ ao cap zs, e = .returned (.tuple #[.slice ao zs.length cap, .int .i64 0]) ∧ Own .u64 27 w' w.heap.size (.slice ao zs.length cap) zs ∧ Nrm p zs ∧ pl p zs = f ∧ zs.length ≤ L ∧ Below w.heap.size w w'
def ChR (p : Nat) (w wr : World) (b0 gW n g : Nat) (mat : List Value) (H P : Nat → Nat → Zp p) (hv pv : Value) (hs ps : List Value) (i : Nat) (bv : Value) : Prop :=
 ∃ vs, Hk p wr b0 gW n H P hv pv hs ps ∧ Pls p wr w.heap.size bv vs (i + 1) (fun j => dn j (xh H)) ∧ Blk 63 wr g mat ∧ Below w.heap.size w wr
set_option maxRecDepth 20000 in
theorem hs_Char (p : Nat) (a : Value) (n : Nat) (xs : List Nat) (w : World) (hp : FP p) (ht : Trial p) (hA : Fm w a n n xs) (hn : n ≤ 64) (hx : xs.length = n * n) :
  Calls Try.prog 66 #[.agg #[.int .u64 p], a] w (RetPE p w (n + 1) (chi (mx p n n xs))) := by
 obtain ⟨aA, cA, rfl⟩ := hA.agg
 obtain ⟨wb, ew, KF, KA, B0, hsz⟩ := boxes2 w 29 63 [.int .u64 p] [.int .i64 n, .int .i64 n, .slice aA xs.length cA]
 clear hsz
 have HP := Lib.hid hp; clear hp
 have HTR := Lib.hid ht; clear ht
 replace hA := hA.next B0
 have HX := Lib.hid hx; clear hx
 obtain ⟨A, eA⟩ : ∃ A, A = mx p n n xs := ⟨_, rfl⟩
 rw [← eA]
 have EA := Lib.hid eA; clear eA
 go_enter Try.func66, Try.ntmps66
 go_upto_region 1 with (fail)
 rw [← ew]
 obtain ⟨g0, eg0⟩ : ∃ g, g = w.heap.size := ⟨_, rfl⟩
 rw [← eg0] at KF KA ⊢
 have hgw : w.heap.size ≤ g0 := by omega
 clear ew eg0
 have f0 := KF.cell 0; have f1 := KA.cell 0; have f2 := KA.cell 1; have f3 := KA.cell 2
 go_wp2_with fail
 refine (hs_square_yes _ n xs _ hA hn HX.out).mono ?_; rintro e w2 ⟨rfl, b2⟩
 replace B0 := B0.trans (b2.mono B0.size)
 replace KF := KF.next b2; replace KA := KA.next b2; replace hA := hA.next b2
 clear f0 f1 f2 f3 b2
 have f0 := KF.cell 0; have f1 := KA.cell 0; have f2 := KA.cell 1; have f3 := KA.cell 2
 go_wp2_with fail
 refine (hs_formed p _ n xs _ HP.out HTR.out hA hn HX.out).mono ?_; rintro e w3 ⟨gW, H, P, hv, pv, hs, ps, rfl, h1, ⟨hS, hH⟩, b3⟩
 rw [← EA.out] at hS
 have hch := chi_of_sim hS
 have HCH := Lib.hid hch; have HH := Lib.hid hH
 clear hch hH hS
 replace KF := KF.next b3; replace KA := KA.next b3; replace hA := hA.next b3
 clear f0 f1 f2 f3
 have hPl := pls_start HP.out w3 (fun j => dn j (xh H)) rfl
 obtain ⟨w4, ew4⟩ : ∃ w4, w4 = (w3.alloc (.cells #[.int .u64 1] 27)).alloc (.cells #[.slice (some ⟨w3.heap.size, 0, none⟩) 1 1] 43) := ⟨_, rfl⟩
 have b4 : Below w3.heap.size w3 w4 := by rw [ew4]; exact ((Below.refl _ _).alloc (Nat.le_refl _) _).alloc (by simp) _
 replace B0 := B0.trans (b3.mono B0.size)
 have hs3 := B0.size
 go_upto_region 5 with (fail)
 rw [← ew4] at hPl ⊢
 clear ew4
 have st : ChR p w w4 w2.heap.size gW n (g0 + 1) [.int .i64 n, .int .i64 n, .slice aA xs.length cA] H P hv pv hs ps 0 (.slice (some ⟨w3.heap.size + 1, 0, none⟩) 1 1) :=
  ⟨_, h1.next b4, ⟨rowOwn_mono hPl.1 hs3, hPl.2.1, fun j v hv => by obtain ⟨ys, h1, h2⟩ := hPl.2.2 j v hv; exact ⟨ys, h1.mono hs3, h2⟩⟩, KA.next b4, B0.trans (b4.mono hs3)⟩
 have f1 := (KA.next b4).cell 0
 clear KF KA hA h1 hPl b4 b3 B0 hs3
 go_wp2
 clear f1
 go_loopw [18, 7] (fun iv bv wr => ∃ i : Nat, i ≤ n ∧ iv = .int .i64 i ∧ ChR p w wr w2.heap.size gW n (g0 + 1) [.int .i64 n, .int .i64 n, .slice aA xs.length cA] H P hv pv hs ps i bv) (fun iv _ _ => n - (intOf iv).toNat)
 case atStart => exact ⟨0, by omega, rfl, st⟩
 case round =>
  clear st
  obtain ⟨i, hi, rfl, vs, h, hB, KA, B0⟩ := hrel
  have hbw := B0.size
  obtain ⟨gB, cB, rfl, hgb, hgB, hmc⟩ : ∃ g cap, u7 = .slice (some ⟨g, 0, none⟩) (i + 1) cap ∧ w.heap.size ≤ g ∧ g < wr.heap.size ∧ i + 1 ≤ cap := by
   rcases rowOwn_shape hB.1 with ⟨_, h0⟩ | h0
   ·omega
   ·exact h0
  by_cases hin : i < n
  ·go_wp2_with fail
   refine (hs_next p _ HP.out w2.heap.size w.heap.size gW n H P _ _ hs ps h HH.out _ vs (i + 1) i rfl (by omega) hn hB).mono ?_; rintro e w5 ⟨r, zs, rfl, o5, m5, v5, l5, b5⟩
   obtain ⟨ar, cr, rfl⟩ := o5.sliced
   replace h := h.next b5; replace hB := hB.next b5; replace KA := KA.next b5
   replace B0 := B0.trans (b5.mono hbw)
   have hb5 : w.heap.size ≤ w5.heap.size := B0.size
   go_wp2_with (refine apVl 22 43 24 (.slice none 0 0) Try.underlying22 (by kernel_rfl) (by decide) rfl rfl _ _ rfl w5 w.heap.size _ (i + 1) vs (.slice ar zs.length cr) rfl hB.1 (by omega) hb5 rfl rfl ?_; intro gg cap w6 ho6 hb6 hg6 hor6)
   have h6 := h.kept hB.1 hg6
   have hB6 := hB.push hg6 ho6 o5 hbw m5 v5 l5
   have KA6 := KA.kept hg6 (rowOwn_ne hB.1 KA (by decide))
   have st := Lib.hid (show ChR p w w6 w2.heap.size gW n (g0 + 1) [.int .i64 n, .int .i64 n, .slice aA xs.length cA] H P hv pv hs ps (i + 1) (.slice (some ⟨gg, 0, none⟩) (i + 1 + 1) cap) from ⟨_, h6, hB6, KA6, B0.trans hb6⟩)
   clear h hB KA B0 h6 hB6 KA6 ho6 hb6 hg6 hor6 o5 m5 v5 b5
   go_wp2
   go_roundw
   case rel => exact ⟨i + 1, by omega, by go_num, st.out⟩
   case measure => simp [intOf] <;> omega
  ·obtain rfl : i = n := by omega
   obtain ⟨vn, hvn⟩ : ∃ v, vs[i]? = some v := ⟨_, List.getElem?_eq_getElem (by rw [hB.2.1]; omega)⟩
   have qb := World.ownsRow.cellAt hB.1 i (by omega); rw [hvn] at qb
   obtain ⟨ys, o1, m1, v1, l1⟩ := hB.2.2 i vn hvn
   obtain ⟨ay, cy, rfl⟩ := o1.sliced
   have f1 := KA.cell 0
   have FR := Lib.hid (show RetPE p w (i + 1) (chi A) (.returned (.tuple #[.slice ay ys.length cy, .int .i64 0])) wr from ⟨_, _, ys, rfl, o1, m1, by rw [HCH.out]; exact v1, l1, B0⟩)
   clear h hB KA B0 o1 m1 v1 hvn
   go_wp2
   exact bodyPost_ret (v := .tuple #[.slice ay ys.length cy, .int .i64 0]) (by simp [results, Try.results66, go_sem]) rfl FR.out
end Go.Proofs.Ytkmfhabgempjiaa
/- hess: Hessenberg. -/
namespace Go.Proofs.Ytkmfhabgempjiaa
set_option maxHeartbeats 4000000
open Go.RowKit
end Go.Proofs.Ytkmfhabgempjiaa
/- hess: Companion. -/
namespace Go.Proofs.Ytkmfhabgempjiaa
set_option maxHeartbeats 4000000
open Go.RowKit
theorem ix_inj {n a b c d : Nat} (hb : b < n) (hd : d < n) (h : a * n + b = c * n + d) : a = c ∧ b = d := by
 have h1 : a = c := by
  rcases Nat.lt_trichotomy a c with h' | h' | h'
  ·have := Nat.mul_le_mul_right n (show a + 1 ≤ c from h'); rw [Nat.succ_mul] at this; omega
  ·exact h'
  ·have := Nat.mul_le_mul_right n (show c + 1 ≤ a from h'); rw [Nat.succ_mul] at this; omega
 subst h1; exact ⟨rfl, by omega⟩
theorem getD_set1 (es : List Nat) (j x i : Nat) (hj : j < es.length) : (es.set j x).getD i 0 = if i = j then x else es.getD i 0 := by
 simp only [List.getD, List.getElem?_set]
 by_cases h : j = i
 ·subst h; simp [hj]
 ·rw [if_neg h, if_neg (fun e => h e.symm)]
def cmp (p n : Nat) (zs : List Nat) : MT (Zp p) n n := MT.of n n fun i k => if k + 1 = n then -Zp.of p (zs.getD i 0) else if k + 1 = i then 1 else 0
theorem Own.headlt {k : IntKind} {e : TypeId} {w : World} {base g n cap : Nat} {xs : List Nat} (h : Own k e w base (.slice (some ⟨g, 0, none⟩) n cap) xs) : g < w.heap.size := by
 have := World.ownsRow.lt h g rfl
 exact this.2
def CoL (p n : Nat) (zs : List Nat) (i : Nat) (es : List Nat) : Prop := es.length = n * n ∧ ∀ a b, a < n → b < n → es.getD (a * n + b) 0 = if a < i then ((cmp p n zs).e a b).val else 0
def CoL1 (n i : Nat) (T : Nat → Nat → Nat) (es : List Nat) : Prop := es.length = n * n ∧ ∀ a b, a < n → b < n → es.getD (a * n + b) 0 = if a < i then T a b else if a = i ∧ b + 1 = i then 1 else 0
theorem CoL.sub {p n : Nat} {zs : List Nat} {i : Nat} {es : List Nat} (h : CoL p n zs i es) (hi : i < n) {l : Nat} (hl : i = l + 1) : CoL1 n i (fun a b => ((cmp p n zs).e a b).val) (es.set (i * n + l) 1) := by
 have hlt := at_lt (n := es.length) h.1 hi (show l < n by omega)
 refine ⟨by rw [List.length_set]; exact h.1, fun a b ha hb => ?_⟩
 rw [getD_set1 _ _ _ _ hlt, h.2 a b ha hb]
 by_cases e : a = i ∧ b = l
 ·rw [if_pos (by rw [e.1, e.2]), if_neg (by omega), if_pos (by omega)]
 ·rw [if_neg (fun h => e (ix_inj hb (by omega) h))]
  by_cases e2 : a < i
  ·rw [if_pos e2, if_pos e2]
  ·rw [if_neg e2, if_neg e2, if_neg (by omega)]
theorem CoL.zero {p n : Nat} {zs : List Nat} {es : List Nat} (h : CoL p n zs 0 es) : CoL1 n 0 (fun a b => ((cmp p n zs).e a b).val) es :=
 ⟨h.1, fun a b ha hb => by rw [h.2 a b ha hb, if_neg (by omega), if_neg (by omega), if_neg (by omega)]⟩
theorem CoL1.read {n i : Nat} {T : Nat → Nat → Nat} {es : List Nat} (h : CoL1 n i T es) (hi : i < n) {m : Nat} (hm : n = m + 1) : es.getD (i * n + m) 0 = 0 := by
 rw [h.2 i m hi (by omega), if_neg (by omega), if_neg (by omega)]
theorem CoL1.last {p n : Nat} {zs : List Nat} {i : Nat} {es : List Nat} (hp : FP p) (h : CoL1 n i (fun a b => ((cmp p n zs).e a b).val) es) (hi : i < n) {m : Nat} (hm : n = m + 1) {z : Nat} (hz : z = (-Zp.of p (zs.getD i 0)).val) : CoL p n zs (i + 1) (es.set (i * n + m) z) := by
 have hlt := at_lt (n := es.length) h.1 hi (show m < n by omega)
 refine ⟨by rw [List.length_set]; exact h.1, fun a b ha hb => ?_⟩
 rw [getD_set1 _ _ _ _ hlt, h.2 a b ha hb]
 by_cases e : a = i ∧ b = m
 ·obtain ⟨rfl, rfl⟩ := e
  rw [if_pos rfl, if_pos (by omega)]
  unfold cmp
  rw [MT.of_e _ ha hb, if_pos hm.symm, hz]
 ·rw [if_neg (fun h => e (ix_inj hb (by omega) h))]
  by_cases e2 : a < i
  ·rw [if_pos e2, if_pos (by omega)]
  ·rw [if_neg e2]
   by_cases e3 : a = i
   ·subst e3
    rw [if_pos (show a < a + 1 by omega)]
    unfold cmp
    rw [MT.of_e _ ha hb, if_neg (show ¬ b + 1 = n by omega)]
    by_cases e4 : b + 1 = a
    ·rw [if_pos ⟨rfl, e4⟩, if_pos e4]
     rw [← Zp.of_one, Zp.val_of, Nat.mod_eq_of_lt (by have := hp.1; omega)]
    ·rw [if_neg (fun h => e4 h.2), if_neg e4]; rfl
   ·rw [if_neg (fun h => e3 h.1), if_neg (show ¬ a < i + 1 by omega)]
theorem CoL.start (p n : Nat) (zs : List Nat) : CoL p n zs 0 (List.replicate (n * n) 0) := ⟨by simp, fun a b _ _ => by
 rw [if_neg (by omega)]
 simp only [List.getD, List.getElem?_replicate]
 split <;> rfl⟩
theorem CoL.all {p n : Nat} {zs es : List Nat} (h : CoL p n zs n es) : es = tbv (cmp p n zs) := by
 rw [list_ftab h.1]
 unfold tbv
 exact ftab_congr fun i k hi hk => by rw [h.2 i k hi hk, if_pos hi]
theorem gfp_Add0 (p b z : Nat) (w : World) (hp : FP p) (hz : z = (Zp.of p 0 + Zp.of p b).val) : Calls Try.prog 117 #[.agg #[.int .u64 p], .int .u64 0, .int .u64 b] w fun e w' => e = .returned (.int .u64 (z : Nat)) ∧ Below w.heap.size w w' := gfp_Add p 0 b z w hp hz
def CoR (w1 wr : World) (n N gE gM : Nat) (Q : List Nat → Prop) : Prop := ∃ es, Own .u64 27 wr gE (.slice (some ⟨gE, 0, none⟩) N N) es ∧ es.length = N ∧ Q es ∧ Blk 63 wr gM [.int .i64 n, .int .i64 n, .slice (some ⟨gE, 0, none⟩) N N] ∧ Below gE w1 wr
set_option maxRecDepth 20000 in
theorem hs_Companion (p : Nat) (v : Value) (gs zs : List Nat) (n : Nat) (w : World) (hp : FP p) (hv : Sl .u64 w v gs) (hg : gs.length ≤ 60) (hz : zs = nl p gs) (hn : zs.length = n + 1) (h1 : zs.getD n 0 = 1) :
  Calls Try.prog 99 #[.agg #[.int .u64 p], v] w (RetFE p w n n (cmp p n zs)) := by
 obtain ⟨wb, ew, KF, KR, B0, hsz⟩ := boxes2 w 29 63 [.int .u64 p] [.int .i64 0, .int .i64 0, .slice none 0 0]
 clear hsz
 have HP := Lib.hid hp; clear hp
 replace hv := hv.next B0
 have HZ := Lib.hid hz; clear hz
 have H1 := Lib.hid h1; clear h1
 have HN := Lib.hid hn
 have hn60 : n ≤ 60 := by
  have := HZ.out; have := nl_len p gs; rw [← HZ.out] at this; omega
 clear hn
 go_enter Try.func99, Try.ntmps99
 go_upto_region 1 with (fail)
 rw [← ew]
 obtain ⟨g, eg⟩ : ∃ g, g = w.heap.size + 1 := ⟨_, rfl⟩
 rw [← eg] at KR ⊢
 have hgw : w.heap.size ≤ g := by omega
 clear ew eg
 obtain ⟨gF, egF⟩ : ∃ gF, gF = w.heap.size := ⟨_, rfl⟩
 rw [← egF] at KF ⊢
 clear egF
 have f0 := KF.cell 0
 go_wp2_with fail
 refine (fp_Norm p v gs _ HP.out hv (by omega)).mono ?_; rintro e w2 ⟨r, zs', rfl, o2, m2, v2, l2, b2⟩
 obtain rfl : zs' = zs := by rw [HZ.out]; exact nl_is HP.out.pos m2 v2
 obtain ⟨gz, cz, rfl⟩ : ∃ g cap, r = .slice (some ⟨g, 0, none⟩) zs'.length cap := by
  rcases o2.shape with ⟨_, h⟩ | ⟨g, cap, h, _⟩
  ·have := HN.out; rw [h] at this; simp at this
  ·exact ⟨g, cap, h⟩
 replace B0 := B0.trans (b2.mono B0.size)
 replace KR := KR.next b2; replace KF := KF.next b2
 clear f0 hv v2 m2 b2 HZ
 have q := o2.cellAt n (by have := HN.out; omega)
 rw [H1.out] at q
 obtain ⟨L, hL⟩ : ∃ L, L = zs'.length := ⟨_, rfl⟩
 rw [← hL] at o2 ⊢
 have hLn : L = n + 1 := by rw [hL, HN.out]
 have HL := Lib.hid hL; clear hL
 have s1 : IntKind.i64.wrap ((L : Int) - 1) = (n : Int) := by rw [IntWalk.i64_in _ ⟨by omega, by omega⟩]; omega
 have hnn : n * n ≤ 60 * 60 := Nat.mul_le_mul hn60 hn60
 obtain ⟨N, eN⟩ : ∃ N, N = n * n := ⟨_, rfl⟩
 have s2 : IntKind.i64.wrap ((n : Int) * (n : Int)) = (N : Int) := by rw [eN, ← Int.natCast_mul]; exact IntWalk.i64_in _ ⟨by omega, by omega⟩
 have HEN := Lib.hid eN
 have hN : N ≤ 3600 := by omega
 clear eN hnn
 have hnL : n < L := by omega
 have HLN := Lib.hid hLn; clear hLn
 go_upto_region 7 with (fail)
 clear q
 go_wp2_with (at_make; refine wp_make .u64 41 27 8 Try.underlying41 (by kernel_rfl) (by decide) rfl _ _ rfl .i64 .i64 N (by omega) _ _ _ rfl rfl (by omega) (by omega) ?_; intro w3 hq hbel hsz)
 obtain ⟨w4, ew4, KM, B4, hs4⟩ := boxes1 w3 63 [.int .i64 n, .int .i64 n, .slice (some ⟨w2.heap.size, 0, none⟩) N N]
 clear hs4
 rw [← ew4]
 clear ew4
 obtain ⟨gE, egE⟩ : ∃ g, g = w2.heap.size := ⟨_, rfl⟩
 obtain ⟨gM, egM⟩ : ∃ g, g = w3.heap.size := ⟨_, rfl⟩
 have HEM := Lib.hid (show gE < gM by omega)
 have HBE := Lib.hid (show w.heap.size ≤ gE by rw [egE]; exact B0.size)
 have HGE := Lib.hid egE
 rw [← egE] at hq hbel KM ⊢
 rw [← egM] at KM B4 ⊢
 have B4' := hbel.trans (B4.mono (by omega))
 have st : CoR w2 w4 n N gE gM (CoL p n zs' 0) := ⟨_, (hq.below B4 (by omega)), by simp, by rw [HEN.out]; exact CoL.start p n zs', KM, B4'⟩
 have hsE : gE ≤ w2.heap.size := by omega
 have hlE : w2.heap.size ≤ gE := by omega
 clear hq hbel KM B4 B4' egE egM hsz
 have HB0 := Lib.hid B0; have HKF := Lib.hid KF; have HKR := Lib.hid KR; have HO2 := Lib.hid o2
 clear B0 KF KR o2
 go_wp2
 go_loopw [38] (fun iv wr => ∃ i : Nat, i ≤ n ∧ iv = .int .i64 i ∧ CoR w2 wr n N gE gM (CoL p n zs' i)) (fun iv _ => n - (intOf iv).toNat)
 case atStart => exact ⟨0, by omega, rfl, st⟩
 case round =>
  clear st
  obtain ⟨i, hi, rfl, es, ho, hlen, hq, KM, B1⟩ := hrel
  by_cases hin : i < n
  ·have hii : i * n + n ≤ N := by
    have := Nat.mul_le_mul_right n (show i + 1 ≤ n from hin); rw [Nat.succ_mul] at this
    rw [HEN.out]; exact this
   obtain ⟨lo, elo⟩ : ∃ lo, lo = i * n := ⟨_, rfl⟩
   rw [← elo] at hii
   have a1 : IntKind.i64.wrap ((i : Int) * (n : Int)) = (lo : Int) := by rw [elo, ← Int.natCast_mul]; exact IntWalk.i64_in _ ⟨by omega, by omega⟩
   obtain ⟨l, hl⟩ : ∃ l, n = l + 1 := ⟨n - 1, by omega⟩
   obtain ⟨mi, emi⟩ : ∃ mi, mi = lo + n := ⟨_, rfl⟩
   obtain ⟨ix, eix⟩ : ∃ ix, ix = lo + l := ⟨_, rfl⟩
   have a2 : IntKind.i64.wrap ((lo : Int) + (n : Int)) = (mi : Int) := by rw [emi, ← Int.natCast_add]; exact IntWalk.i64_in _ ⟨by omega, by omega⟩
   have a3 : IntKind.i64.wrap ((mi : Int) - 1) = (ix : Int) := by rw [IntWalk.i64_in _ ⟨by omega, by omega⟩]; omega
   have hixN : ix < N := by omega
   have HLO := Lib.hid elo; have HLL := Lib.hid hl; have HIX := Lib.hid eix
   clear elo hl emi eix
   go_upto_if 42 with (fail)
   go_cut [] (fun wx => CoR w2 wx n N gE gM (CoL1 n i (fun a b => ((cmp p n zs').e a b).val)))
   case first =>
    by_cases h0 : i = 0
    ·have st := Lib.hid (show CoR w2 wr n N gE gM (CoL1 n i (fun a b => ((cmp p n zs').e a b).val)) from ⟨es, ho, hlen, by subst h0; exact hq.zero, KM, B1⟩)
     have hn0 : ¬ (i : Int) > 0 := by omega
     clear ho hq KM B1 h0
     go_wp2
     go_meet
     exact st.out
    ·obtain ⟨k, hk⟩ : ∃ k, i = k + 1 := ⟨i - 1, by omega⟩
     have hp0 : (i : Int) > 0 := by omega
     obtain ⟨mj, emj⟩ : ∃ mj, mj = lo + i := ⟨_, rfl⟩
     obtain ⟨jx, ejx⟩ : ∃ jx, jx = lo + k := ⟨_, rfl⟩
     have c2 : IntKind.i64.wrap ((lo : Int) + (i : Int)) = (mj : Int) := by rw [emj, ← Int.natCast_add]; exact IntWalk.i64_in _ ⟨by omega, by omega⟩
     have c3 : IntKind.i64.wrap ((mj : Int) - 1) = (jx : Int) := by rw [IntWalk.i64_in _ ⟨by omega, by omega⟩]; omega
     have hjN : jx < N := by omega
     have q1 := ho.cellAt jx (by omega); have z1 := ho.frozenAt jx
     have q2 := KM.cell 2
     have st := Lib.hid (show CoR w2 (wr.setCell ⟨gE, jx, none⟩ (.int .u64 1)) n N gE gM (CoL1 n i (fun a b => ((cmp p n zs').e a b).val)) from
      ⟨es.set jx 1, (ho.store jx 1).1, by rw [List.length_set]; exact hlen, by rw [ejx, HLO.out]; exact hq.sub hin hk, KM.far (a := ⟨gE, jx, none⟩) (Nat.ne_of_gt HEM.out) _, B1.setCell (p := ⟨gE, jx, none⟩) (Nat.le_refl _) _⟩)
     clear ho hq KM B1 h0 hk emj ejx
     go_wp2
     go_meet
     exact st.out
   case rest =>
    clear ho hq KM B1 hlen
    obtain ⟨es1, ho, hlen, hq, KM, B1⟩ := hcut
    have hsr : gE ≤ wc.heap.size := Nat.le_trans hsE (B1.size)
    go_upto_region 13 with (fail)
    have bd := dw wc
    replace ho := ho.next bd; replace KM := KM.next bd
    replace B1 := B1.trans (bd.mono hsr)
    have hsr : gE ≤ wc.drew.heap.size := hsr
    clear bd
    have KF := HKF.out.below B1 (Nat.lt_of_lt_of_le HKF.out.lt hlE)
    have o2 := HO2.out.below B1 hlE
    have q1 := ho.cellAt ix (by omega)
    rw [show es1.getD ix 0 = 0 by rw [HIX.out, HLO.out]; exact hq.read hin HLL.out] at q1
    have hiL : i < L := by omega
    have q3 := o2.cellAt i (by have := HL.out; omega)
    obtain ⟨x, ex⟩ : ∃ x, x = zs'.getD i 0 := ⟨_, rfl⟩
    rw [← ex] at q3
    obtain ⟨y, ey⟩ : ∃ y, y = (-Zp.of p x).val := ⟨_, rfl⟩
    obtain ⟨z, ez⟩ : ∃ z, z = (Zp.of p 0 + Zp.of p y).val := ⟨_, rfl⟩
    have ez2 : z = (-Zp.of p (zs'.getD i 0)).val := by rw [ez, ey, ex, Zp.of_zero, CR.zero_add, Zp.of_val]
    have hlE2 : gE < wc.drew.heap.size := Own.headlt ho
    have hlz : gz < wc.drew.heap.size := Own.headlt o2
    have EY := Lib.hid ey; have EZ := Lib.hid ez; have EZ2 := Lib.hid ez2
    clear ex ey ez ez2
    have HQ := Lib.hid hq; have HO := Lib.hid ho; have HO3 := Lib.hid o2; have HB1 := Lib.hid B1; have HSR := Lib.hid hsr; have HII := Lib.hid hii; have HNX := Lib.hid (And.intro hg (And.intro hn60 hN))
    clear hq ho o2 B1 hsr hii hg hn60 hN
    have zF0 := Lib.hid fun (w : World) (hS : Below (wc.drew).heap.size (wc.drew) w) => And.intro ((hS.cell (p := ⟨gM, 2, none⟩) KM.lt).trans (KM.cell 2)) (And.intro ((hS.cell (p := ⟨gF, 0, none⟩) KF.lt).trans (KF.cell 0)) (And.intro ((hS.cell (p := ⟨gE, ix, none⟩) hlE2).trans q1) ((hS.cell (p := ⟨gz, i, none⟩) hlz).trans q3)))
    refine startP (S := (fun w' => Below (wc.drew).heap.size (wc.drew) w')) (by kernel_rfl) _ rfl rfl rfl (by kernel_rfl) (Below.refl _ _) (fun hHeld => ?_)
    refine tk 0 ?_
    refine tf 1 zF0.out ?_
    refine tk 2 ?_
    refine tk 3 ?_
    refine tk 4 ?_
    refine tk 5 ?_
    refine tk 6 ?_
    refine tk 7 ?_
    refine tf 8 zF0.out ?_
    refine tk 9 ?_
    refine tf 10 zF0.out ?_
    refine tk 11 ?_
    refine tk 12 ?_
    refine tk 13 ?_
    refine tk 14 ?_
    refine tk 15 ?_
    refine tk 16 ?_
    refine tk 17 ?_
    refine tf 18 zF0.out ?_
    refine tf 19 zF0.out ?_
    refine tk 20 ?_
    refine tk 21 ?_
    refine tk 22 ?_
    refine tf 23 zF0.out ?_
    refine on 24 fun K hK => ?_
    go_simp
    go_at_call 110
    (with_reducible refine (gfp_Neg p x y _ HP.out EY.out).mono ?_); rintro e w5 ⟨rfl, b5⟩
    refine hK.out _ _ (hHeld.trans (b5.mono hHeld.size)) (fun hHeld => ?_)
    clear hK K
    try simp only [Act.put, zq1, zq2, zq3]
    refine on 25 fun K hK => ?_
    go_simp
    go_at_call 117
    (with_reducible refine (gfp_Add0 p y z _ HP.out EZ.out).mono ?_); rintro e w6 ⟨rfl, b6⟩
    refine hK.out _ _ (hHeld.trans (b6.mono hHeld.size)) (fun hHeld => ?_)
    clear hK K
    try simp only [Act.put, zq1, zq2, zq3]
    refine tk 26 ?_
    clear zF0; refine doneL (by kernel_rfl) ?_ _
    refine lastL rfl (by rfl) ?_
    have hq := HQ.out; have ho := HO.out; have o2 := HO3.out; have B1 := HB1.out; have hsr := HSR.out; obtain ⟨hg, hn60, hN⟩ := HNX.out
    have ho2 := ho.next hHeld
    have qc := ho2.cellAt ix (by omega); have zc := ho2.frozenAt ix
    have KM2 := KM.next hHeld
    have st := Lib.hid (show CoR w2 (w6.setCell ⟨gE, ix, none⟩ (.int .u64 z)) n N gE gM (CoL p n zs' (i + 1)) from
     ⟨es1.set ix z, (ho2.store ix z).1, by rw [List.length_set]; exact hlen, by rw [HIX.out, HLO.out]; exact hq.last HP.out hin HLL.out EZ2.out, KM2.far (a := ⟨gE, ix, none⟩) (Nat.ne_of_gt HEM.out) _, (B1.trans (hHeld.mono hsr)).setCell (p := ⟨gE, ix, none⟩) (Nat.le_refl _) _⟩)
    clear ho ho2 hq KM KM2 KF o2 B1 hHeld q1 q3 hlE2 hlz b6 b5
    go_wp2
    go_roundw
    case rel => exact ⟨i + 1, by omega, by go_num, st.out⟩
    case measure => simp [intOf] <;> omega
  ·obtain rfl : i = n := by omega
   have hes := hq.all
   subst hes
   obtain ⟨M, eM⟩ : ∃ M, M = cmp p i zs' := ⟨_, rfl⟩
   rw [← eM] at ho hlen
   have EM := Lib.hid eM; clear eM
   have KR := HKR.out.below B1 (Nat.lt_of_lt_of_le HKR.out.lt hlE)
   have hgE : g < gE := Nat.lt_of_lt_of_le HKR.out.lt hlE
   have k0 := KM.cell 0; have k1 := KM.cell 1; have k2 := KM.cell 2
   have f0 := KR.free 0; have f1 := KR.free 1; have f2 := KR.free 2
   have c0 := KR.cell 0; have c1 := KR.cell 1; have c2 := KR.cell 2
   have KF := ((KR.set 0 (.int .i64 i)).set 1 (.int .i64 i)).set 2 (.slice (some ⟨gE, 0, none⟩) N N)
   have d0 := KF.cell 0; have d1 := KF.cell 1; have d2 := KF.cell 2
   have of := ((ho.low (a := ⟨g, 0, none⟩) hgE (.int .i64 i)).low (a := ⟨g, 1, none⟩) hgE (.int .i64 i)).low (a := ⟨g, 2, none⟩) hgE (.slice (some ⟨gE, 0, none⟩) N N)
   have B2 := HB0.out.trans (B1.mono HBE.out)
   have BF := ((B2.setCell (p := ⟨g, 0, none⟩) hgw (.int .i64 i)).setCell (p := ⟨g, 1, none⟩) hgw (.int .i64 i)).setCell (p := ⟨g, 2, none⟩) hgw (.slice (some ⟨gE, 0, none⟩) N N)
   have FR := Lib.hid (show RetFE p w i i (cmp p i zs') (.returned (.tuple #[.agg #[.int .i64 i, .int .i64 i, .slice (some ⟨gE, 0, none⟩) N N], .int .i64 0])) (((wr.setCell ⟨g, 0, none⟩ (.int .i64 i)).setCell ⟨g, 1, none⟩ (.int .i64 i)).setCell ⟨g, 2, none⟩ (.slice (some ⟨gE, 0, none⟩) N N)) from
    by rw [← EM.out]; exact ⟨some ⟨gE, 0, none⟩, N, by rw [hlen], by rw [hlen]; exact of.mono HBE.out, BF⟩)
   clear KF KR of BF B1 B2 ho KM
   go_wp2
   exact bodyPost_ret (v := .tuple #[.agg #[.int .i64 i, .int .i64 i, .slice (some ⟨gE, 0, none⟩) N N], .int .i64 0]) (by simp [results, Try.results99, go_sem, d0, d1, d2]) rfl FR.out
end Go.Proofs.Ytkmfhabgempjiaa
/- hess: the characteristic polynomial of a companion; the awake of law 22. -/
namespace Go.Proofs.Ytkmfhabgempjiaa
set_option maxHeartbeats 4000000
open Go.RowKit
section
variable {p n : Nat} {zs : List Nat}
end
end Go.Proofs.Ytkmfhabgempjiaa
