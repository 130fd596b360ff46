/- hess.work: the characteristic polynomial of one row and column more. -/
import Derived.ChangeSame
import Derived.Lib.SmallJoins
import Derived.Test.YtkmfhabgempjiaaQeM5
import Derived.Test.YtkmfhabgempjiaaQeM9
import Derived.Test.YtkmfhabgempjiaaQeM1
import Derived.Test.YtkmfhabgempjiaaQeM3
namespace Go.Proofs.Ytkmfhabgempjiaa
set_option maxHeartbeats 4000000
open Go.RowKit
def Pls (p : Nat) (w : World) (base : Nat) (bv : Value) (vs : List Value) (n : Nat) (D : Nat → Pol (Zp p)) : Prop :=
 w.ownsRow base 43 1 bv n vs ∧ vs.length = n ∧ ∀ (j : Nat) (v : Value), vs[j]? = some v → ∃ ys, Own .u64 27 w base v ys ∧ Nrm p ys ∧ pl p ys = D j ∧ ys.length ≤ j + 1
theorem Pls.next {p : Nat} {w w' : World} {base : Nat} {bv : Value} {vs : List Value} {n : Nat} {D : Nat → Pol (Zp p)} (h : Pls p w base bv vs n D) (hb : Below w.heap.size w w') : Pls p w' base bv vs n D :=
 ⟨rowOwn_next h.1 hb (Nat.le_refl _), h.2.1, fun j v hv => by obtain ⟨ys, h1, h2⟩ := h.2.2 j v hv; exact ⟨ys, h1.next hb, h2⟩⟩
theorem plc {p : Nat} (x : Nat) (xs : List Nat) : pl p (x :: xs) = mon (Zp.of p x) 0 + mon 1 1 * pl p xs := Pol.ext fun i => by
 rw [Pol.c_add, c_mon_mul, c_mon, pl_c]
 cases i with
 | zero => simp; exact (CR.add_zero _).symm
 | succ i => rw [if_neg (by omega), if_pos (by omega), CR.one_mul, CR.zero_add, pl_c]; rfl
theorem pl1 {p : Nat} : pl p [1] = 1 := Pol.ext fun i => by rw [pl_c, Pol.one_def, c_mon]; cases i <;> rfl
theorem own_lit_z1 (w : World) (x : Nat) : Own .u64 27 (w.alloc (.cells #[.int .u64 x, .int .u64 1] 27)) w.heap.size (.slice (some ⟨w.heap.size, 0, none⟩) 2 2) [x, 1] := own_lit2 w x 1
theorem pl_lin {p : Nat} (z : Nat) (x : Zp p) (hz : z = (-x).val) : pl p [z, 1] = mon 1 1 - mon x 0 := by
 rw [plc, pl1, CR.mul_one, hz, Zp.of_val]
 refine Pol.ext fun i => ?_
 rw [Pol.c_add, Pol.c_sub, c_mon, c_mon, c_mon]
 by_cases h0 : i = 0
 ·subst h0; rw [if_pos rfl, if_neg (by omega), if_pos rfl, CR.add_zero, CR.zero_sub]
 ·rw [if_neg h0, if_neg h0, CR.zero_add, CR.sub_zero]
def NxR (p : Nat) (w wr : World) (b0 b1 gW n k m g : Nat) (H P : Nat → Nat → Zp p) (hv pv : Value) (hs ps : List Value) (bv : Value) (vs : List Value) (i y : Nat) (r : Value) : Prop :=
 ∃ zs, Own .u64 27 wr w.heap.size r zs ∧ Nrm p zs ∧ zs.length ≤ m + 1 ∧ dn m (xh H) = pl p zs + mon (Zp.of p y) 0 * hesV H i k ∧ Hk p wr b0 gW n H P hv pv hs ps ∧ Pls p wr b1 bv vs m (fun j => dn j (xh H)) ∧
  Blk 29 wr g [.int .u64 p] ∧ Below w.heap.size w wr
set_option maxRecDepth 20000 in
theorem hs_next (p : Nat) (w : World) (hp : FP p) (b0 b1 gW n : Nat) (H P : Nat → Nat → Zp p) (hv pv : Value) (hs ps : List Value) (h : Hk p w b0 gW n H P hv pv hs ps) (hH : Hes n H)
  (bv : Value) (vs : List Value) (m k : Nat) (hm : m = k + 1) (hmn : m ≤ n) (hn : n ≤ 64) (hB : Pls p w b1 bv vs m (fun j => dn j (xh H))) :
  Calls Try.prog 121 #[.pointer (some ⟨gW, 0, none⟩), bv] w (RetP p w (m + 1) (dn m (xh H))) := by
 have HP := Lib.hid hp; clear hp
 have HH := Lib.hid hH; clear hH
 obtain ⟨gh, ch, rfl, -, -, hnch⟩ : ∃ g cap, hv = .slice (some ⟨g, 0, none⟩) n cap ∧ b0 ≤ g ∧ g < w.heap.size ∧ n ≤ cap := by
  rcases h.h.shape with ⟨_, h0⟩ | h0
  ·omega
  ·exact h0
 obtain ⟨gB, cB, rfl, -, hgB, hmc⟩ : ∃ g cap, bv = .slice (some ⟨g, 0, none⟩) m cap ∧ b1 ≤ g ∧ g < w.heap.size ∧ m ≤ cap := by
  rcases rowOwn_shape hB.1 with ⟨_, h0⟩ | h0
  ·omega
  ·exact h0
 have s1 : IntKind.i64.wrap ((m : Int) - 1) = (k : Int) := by rw [IntWalk.i64_in _ ⟨by omega, by omega⟩]; omega
 have hkn : k < n := by omega
 have hkm : k < m := by omega
 have HM := Lib.hid hm; clear hm
 have q0 := h.blk.cell 0
 have KF0 := Blk.lit w 29 [.int .u64 0]
 have z0 := KF0.cell 0; have zf := KF0.free 0
 go_enter Try.func121, Try.ntmps121
 go_upto_region 2 with (fail)
 clear q0 z0 zf
 clear KF0
 obtain ⟨w1, ew1, KF, B0, hsz0⟩ := boxes1 w 29 [.int .u64 p]
 clear hsz0
 rw [← ew1]
 clear ew1
 obtain ⟨g, eg⟩ : ∃ g, g = w.heap.size := ⟨_, rfl⟩
 rw [← eg] at KF ⊢
 clear eg
 have bd := dw w1
 replace h := (h.next B0).next bd
 replace hB := (hB.next B0).next bd
 replace KF := KF.next bd
 replace B0 := B0.trans (bd.mono B0.size)
 clear bd
 have hgB : gB < w1.drew.heap.size := Nat.lt_of_lt_of_le hgB B0.size
 have HS := Lib.hid B0.size
 have q1 := h.blk.cell 1
 have hlw := h.blk.lt
 obtain ⟨v, hv⟩ := h.h.hdr hkn
 have qk := h.h.head rfl hkn; rw [hv] at qk
 have hlh : gh < w1.drew.heap.size := by
  obtain ⟨cur, hcur⟩ := h.h.cellH rfl
  exact (Array.getElem?_eq_some_iff.1 hcur).1
 obtain ⟨ak, ck, rfl, hck⟩ := (h.h.row k v hv).slice
 obtain ⟨b, o, rfl⟩ := h.h.ao hv (by omega)
 obtain ⟨⟨u, qx, hu⟩, -, -, hl2⟩ := h.h.at hv hkn
 obtain ⟨x, ex⟩ : ∃ x, x = (H k k).val := ⟨_, rfl⟩
 have hu : u = .int .u64 (x : Nat) := by rw [ex]; exact hu
 subst hu
 obtain ⟨z, ez⟩ : ∃ z, z = (-Zp.of p x).val := ⟨_, rfl⟩
 have hz2 : z = (-H k k).val := by rw [ez, ex, Zp.of_val]
 have EZ := Lib.hid ez; have EZ2 := Lib.hid hz2
 clear ex ez hz2
 obtain ⟨vk, hvk⟩ : ∃ v, vs[k]? = some v := ⟨_, List.getElem?_eq_getElem (by rw [hB.2.1]; exact hkm)⟩
 have qb := World.ownsRow.cellAt hB.1 k (by omega); rw [hvk] at qb
 obtain ⟨ys, hy1, hy2, hy3, hy4⟩ := hB.2.2 k vk hvk
 have hmc' : ys.length ≤ 1000000 := by omega
 have HY := Lib.hid hy4; clear hy4
 have zF0 := Lib.hid fun (w : World) (hS : Below (w1.drew).heap.size (w1.drew) w) => And.intro ((hS.cell (p := ⟨g, 0, none⟩) KF.lt).trans (KF.cell 0)) (And.intro ((hS.cell (p := ⟨gW, 1, none⟩) hlw).trans q1) (And.intro ((hS.cell (p := ⟨gh, k, none⟩) hlh).trans qk) (And.intro ((hS.cell (p := ⟨b, o + k, none⟩) hl2).trans qx) ((hS.cell (p := ⟨gB, k, none⟩) hgB).trans qb))))
 refine startL (S := (fun w' => Below (w1.drew).heap.size (w1.drew) w')) (by kernel_rfl) (Below.refl _ _) (fun hHeld => ?_)
 refine tf 0 zF0.out ?_
 refine tf 1 zF0.out ?_
 refine tk 2 ?_
 refine tk 3 ?_
 refine tk 4 ?_
 refine tf 5 zF0.out ?_
 refine tk 6 ?_
 refine tk 7 ?_
 refine tf 8 zF0.out ?_
 refine tk 9 ?_
 refine tk 10 ?_
 refine tf 11 zF0.out ?_
 refine tk 14 ?_
 refine tk 15 ?_
 refine tk 16 ?_
 refine tf 17 zF0.out ?_
 refine on 12 fun K hK => ?_
 go_simp
 go_at_call 110
 (with_reducible refine (gfp_Neg p x z _ HP.out EZ.out).mono ?_); rintro e w2 ⟨rfl, b2⟩
 refine hK.out _ _ (hHeld.trans (b2.mono hHeld.size)) (fun hHeld => ?_)
 clear hK K
 try simp only [Act.put, zq1, zq2, zq3]
 refine on 13 fun K hK => ?_
 go_simp
 have hd := hHeld
 have hsz2 := Lib.hid (show w1.drew.heap.size ≤ (w2.alloc (.cells #[.int .u64 z, .int .u64 1] 27)).heap.size from (hHeld.alloc hHeld.size _).size)
 refine hK.out _ _ (hHeld.alloc hHeld.size _) (fun hHeld => ?_)
 clear hK K
 try simp only [Act.put, zq1, zq2, zq3]
 refine on 18 fun K hK => ?_
 go_simp
 go_at_call 65
 (with_reducible refine (fp_Mul p _ _ [z, 1] ys _ HP.out (own_lit_z1 w2 z).sl (hy1.sl.next hHeld) (by simp) hmc').mono ?_); rintro e w3 ⟨r3, zs3, rfl, o3, m3, v3, l3, b3⟩
 refine hK.out _ _ (hHeld.trans (b3.mono hHeld.size)) (fun hHeld => ?_)
 clear hK K
 try simp only [Act.put, zq1, zq2, zq3]
 refine tk 19 ?_
 clear zF0; refine doneL (by kernel_rfl) ?_ _
 have st : NxR p w w3 b0 b1 gW n k m g H P (.slice (some ⟨gh, 0, none⟩) n ch) pv hs ps (.slice (some ⟨gB, 0, none⟩) m cB) vs k 1 r3 := ⟨zs3, o3.mono (Nat.le_trans HS.out hsz2.out), m3, by have := HY.out; have := HM.out; simp only [List.length_cons, List.length_nil] at l3; omega, by
  have e := hesV_start HH.out hkn
  rw [v3, pl_lin z (H k k) EZ2.out, hy3, HM.out, e, show Zp.of p 1 = 1 from Zp.of_one p], h.next hHeld, hB.next hHeld, KF.next hHeld, B0.trans (hHeld.mono HS.out)⟩
 clear h hB KF B0 hHeld o3 m3 v3 l3 b3 q1 qk qx qb hlw hlh hl2 hv hvk hy1 hy2 hy3 hgB b2 hsz2 HY hmc'
 have hk1 : IntKind.i64.wrap ((k : Int) - 1) = (k : Int) - 1 := IntWalk.i64_in _ ⟨by omega, by omega⟩
 go_wp2
 clear hk1
 go_loopw [9, 8, 7] (fun iv yv rv wr => ∃ i y : Nat, i ≤ k ∧ iv = .int .i64 ((i : Int) - 1) ∧ yv = .int .u64 y ∧ NxR p w wr b0 b1 gW n k m g H P (.slice (some ⟨gh, 0, none⟩) n ch) pv hs ps (.slice (some ⟨gB, 0, none⟩) m cB) vs i y rv) (fun iv _ _ _ => (intOf iv + 1).toNat)
 case atStart => exact ⟨k, 1, Nat.le_refl _, rfl, rfl, st⟩
 case round =>
  clear st
  obtain ⟨i, y, hik, rfl, rfl, zs, ho, hnz, hlz, hdn, h, hB, KF, B0⟩ := hrel
  cases i with
  | zero =>
   have hdn2 := Lib.hid (hesV_end (show dn (k + 1) (xh H) = _ by rw [← HM.out]; exact hdn))
   clear hdn
   have FR := Lib.hid (show RetP p w (m + 1) (dn m (xh H)) (.returned u7) wr from ⟨_, zs, rfl, ho, hnz, by rw [HM.out]; exact hdn2.out.symm, hlz, B0⟩)
   rw [show (((0 : Nat) : Int) - 1) = -1 by omega]
   clear ho hnz hlz h hB KF B0
   go_wp2
   go_ret
   exact FR.out
  | succ j =>
   rw [show (((j + 1 : Nat) : Int) - 1) = (j : Int) by omega]
   have hwr : w.heap.size ≤ wr.heap.size := B0.size
   have hdn := Lib.hid (hesV_step HH.out (show j < k by omega) hkn (show dn (k + 1) (xh H) = _ by rw [← HM.out]; exact hdn))
   obtain ⟨jj, ejj⟩ : ∃ jj, jj = j + 1 := ⟨_, rfl⟩
   have sj : IntKind.i64.wrap ((j : Int) + 1) = (jj : Int) := by rw [IntWalk.i64_in _ ⟨by omega, by omega⟩]; omega
   have hjj : jj < n := by omega
   have hjn : j < n := by omega
   have hjm : j < m := by omega
   have hj0 : (j : Int) ≥ 0 := by omega
   have HJJ := Lib.hid ejj; clear ejj
   go_upto_region 7 with (fail)
   have bd := dw wr
   replace h := h.next bd; replace hB := hB.next bd; replace KF := KF.next bd; replace ho := ho.next bd
   replace B0 := B0.trans (bd.mono B0.size)
   clear bd
   have hwr : w.heap.size ≤ wr.drew.heap.size := hwr
   have q1 := h.blk.cell 1
   have hlw := h.blk.lt
   obtain ⟨v, hv⟩ := h.h.hdr hjj
   have qk := h.h.head rfl hjj; rw [hv] at qk
   have hlh : gh < wr.drew.heap.size := by
    obtain ⟨cur, hcur⟩ := h.h.cellH rfl
    exact (Array.getElem?_eq_some_iff.1 hcur).1
   obtain ⟨ak, ck, rfl, hck⟩ := (h.h.row jj v hv).slice
   obtain ⟨b, o, rfl⟩ := h.h.ao hv (by omega)
   obtain ⟨⟨u, qx, hu⟩, -, -, hl2⟩ := h.h.at hv hjn
   obtain ⟨x, ex⟩ : ∃ x, x = (H jj j).val := ⟨_, rfl⟩
   have hu : u = .int .u64 (x : Nat) := by rw [ex]; exact hu
   subst hu
   obtain ⟨y2, ey2⟩ : ∃ z, z = (Zp.of p y * Zp.of p x).val := ⟨_, rfl⟩
   have hy2 : Zp.of p y2 = Zp.of p y * H (j + 1) j := by rw [ey2, Zp.of_val, ex, Zp.of_val, HJJ.out]
   have EY := Lib.hid ey2; have EY2 := Lib.hid hy2
   clear ex ey2 hy2
   have zF0 := Lib.hid fun (w : World) (hS : Below (wr.drew).heap.size (wr.drew) w) => And.intro ((hS.cell (p := ⟨g, 0, none⟩) KF.lt).trans (KF.cell 0)) (And.intro ((hS.cell (p := ⟨gW, 1, none⟩) hlw).trans q1) (And.intro ((hS.cell (p := ⟨gh, jj, none⟩) hlh).trans qk) ((hS.cell (p := ⟨b, o + j, none⟩) hl2).trans qx)))
   refine startL (S := (fun w' => Below (wr.drew).heap.size (wr.drew) w')) (by kernel_rfl) (Below.refl _ _) (fun hHeld => ?_)
   refine tf 0 zF0.out ?_
   refine tk 1 ?_
   refine tk 2 ?_
   refine tk 3 ?_
   refine tk 4 ?_
   refine tf 5 zF0.out ?_
   refine tk 6 ?_
   refine tk 7 ?_
   refine tk 8 ?_
   refine tf 9 zF0.out ?_
   refine tk 10 ?_
   refine tk 11 ?_
   refine tf 12 zF0.out ?_
   refine on 13 fun K hK => ?_
   go_simp
   go_at_call 118
   (with_reducible refine (gfp_Mul p y x y2 _ HP.out EY.out).mono ?_); rintro e w7 ⟨rfl, b7⟩
   refine hK.out _ _ (hHeld.trans (b7.mono hHeld.size)) (fun hHeld => ?_)
   clear hK K
   try simp only [Act.put, zq1, zq2, zq3]
   refine tk 14 ?_
   clear zF0; refine doneL (by kernel_rfl) ?_ _
   replace h := h.next hHeld; replace hB := hB.next hHeld; replace KF := KF.next hHeld; replace ho := ho.next hHeld
   replace B0 := B0.trans (hHeld.mono hwr)
   have hwr : w.heap.size ≤ w7.heap.size := Nat.le_trans hwr hHeld.size
   clear hHeld b7 q1 qk qx hlw hlh hl2 hv
   go_upto_region 8 with (fail)
   have bd := dw w7
   replace h := h.next bd; replace hB := hB.next bd; replace KF := KF.next bd; replace ho := ho.next bd
   replace B0 := B0.trans (bd.mono B0.size)
   clear bd
   have hwr : w.heap.size ≤ w7.drew.heap.size := hwr
   have q1 := h.blk.cell 1
   have hlw := h.blk.lt
   obtain ⟨v, hv⟩ := h.h.hdr hjn
   have qk := h.h.head rfl hjn; rw [hv] at qk
   have hlh : gh < w7.drew.heap.size := by
    obtain ⟨cur, hcur⟩ := h.h.cellH rfl
    exact (Array.getElem?_eq_some_iff.1 hcur).1
   obtain ⟨ak', ck', rfl, hck'⟩ := (h.h.row j v hv).slice
   obtain ⟨b', o', rfl⟩ := h.h.ao hv (by omega)
   obtain ⟨⟨u, qx, hu⟩, -, -, hl2⟩ := h.h.at hv hkn
   obtain ⟨x2, ex2⟩ : ∃ x, x = (H j k).val := ⟨_, rfl⟩
   have hu : u = .int .u64 (x2 : Nat) := by rw [ex2]; exact hu
   subst hu
   obtain ⟨c, ec⟩ : ∃ z, z = (Zp.of p y2 * Zp.of p x2).val := ⟨_, rfl⟩
   have hc2 : Zp.of p c = Zp.of p y * H (j + 1) j * H j k := by rw [ec, Zp.of_val, ex2, Zp.of_val, EY2.out]
   have EC := Lib.hid ec; have EC2 := Lib.hid hc2
   clear ex2 ec hc2
   obtain ⟨vj, hvj⟩ : ∃ v, vs[j]? = some v := ⟨_, List.getElem?_eq_getElem (by rw [hB.2.1]; exact hjm)⟩
   have qb := World.ownsRow.cellAt hB.1 j (by omega); rw [hvj] at qb
   obtain ⟨ys2, hy1, hy2, hy3, hy4⟩ := hB.2.2 j vj hvj
   have hyl : ys2.length ≤ 1000000 := by omega
   have hgB2 : gB < w7.drew.heap.size := by
    rcases hB.1.2 with ⟨h1, _⟩ | ⟨g', c', cur, h1, _, h2, _⟩
    ·cases h1
    ·simp only [Value.slice.injEq, Option.some.injEq, Addr.mk.injEq, and_true, true_and] at h1
     rw [h1.1]; exact (Array.getElem?_eq_some_iff.1 h2).1
   have hzl : zs.length ≤ 1000000 := by omega
   have zF0 := Lib.hid fun (w : World) (hS : Below (w7.drew).heap.size (w7.drew) w) => And.intro ((hS.cell (p := ⟨g, 0, none⟩) KF.lt).trans (KF.cell 0)) (And.intro ((hS.cell (p := ⟨gW, 1, none⟩) hlw).trans q1) (And.intro ((hS.cell (p := ⟨gh, j, none⟩) hlh).trans qk) (And.intro ((hS.cell (p := ⟨b', o' + k, none⟩) hl2).trans qx) ((hS.cell (p := ⟨gB, j, none⟩) hgB2).trans qb))))
   refine startL (S := (fun w' => Below (w7.drew).heap.size (w7.drew) w')) (by kernel_rfl) (Below.refl _ _) (fun hHeld => ?_)
   refine tf 0 zF0.out ?_
   refine tk 1 ?_
   refine tf 2 zF0.out ?_
   refine tk 3 ?_
   refine tk 4 ?_
   refine tk 5 ?_
   refine tf 6 zF0.out ?_
   refine tf 7 zF0.out ?_
   refine tk 8 ?_
   refine tk 9 ?_
   refine tk 10 ?_
   refine tk 11 ?_
   refine tf 12 zF0.out ?_
   refine tk 13 ?_
   refine tk 14 ?_
   refine tf 15 zF0.out ?_
   refine tk 16 ?_
   refine tk 17 ?_
   refine tf 18 zF0.out ?_
   refine on 19 fun K hK => ?_
   go_simp
   go_at_call 118
   (with_reducible refine (gfp_Mul p y2 x2 c _ HP.out EC.out).mono ?_); rintro e w4 ⟨rfl, b4⟩
   refine hK.out _ _ (hHeld.trans (b4.mono hHeld.size)) (fun hHeld => ?_)
   clear hK K
   try simp only [Act.put, zq1, zq2, zq3]
   refine on 20 fun K hK => ?_
   go_simp
   go_at_call 132
   (with_reducible refine (fp_Scale p c vj ys2 _ HP.out (hy1.sl.next hHeld) hyl).mono ?_); rintro e w5 ⟨r5, zs5, rfl, o5, m5, v5, l5, b5⟩
   refine hK.out _ _ (hHeld.trans (b5.mono hHeld.size)) (fun hHeld => ?_)
   clear hK K
   try simp only [Act.put, zq1, zq2, zq3]
   refine on 21 fun K hK => ?_
   go_simp
   go_at_call 154
   (with_reducible refine (fp_Sub p u7 r5 zs zs5 _ HP.out (ho.sl.next hHeld) o5.sl hzl (by omega)).mono ?_); rintro e w8 ⟨r8, zs8, rfl, o8, m8, v8, l8, b8⟩; have hdd := Lib.hid hHeld.size
   refine hK.out _ _ (hHeld.trans (b8.mono hHeld.size)) (fun hHeld => ?_)
   clear hK K
   try simp only [Act.put, zq1, zq2, zq3]
   refine tk 22 ?_
   clear zF0; refine doneL (by kernel_rfl) ?_ _
   have st := Lib.hid (show NxR p w w8 b0 b1 gW n k m g H P (.slice (some ⟨gh, 0, none⟩) n ch) pv hs ps (.slice (some ⟨gB, 0, none⟩) m cB) vs j y2 r8 from
    ⟨zs8, o8.mono (Nat.le_trans hwr (hdd.out)), m8, by omega, by
     rw [v8, v5, hy3, EC2.out, EY2.out, HM.out]; exact hdn.out, h.next hHeld, hB.next hHeld, KF.next hHeld, B0.trans (hHeld.mono hwr)⟩)
   clear h hB KF ho B0 hHeld q1 qk qx qb hlw hlh hl2 hv hvj hy1 hy2 hy3 o8 m8 v8 b8 o5 m5 v5 b5 hdd hgB2
   have hk2 : IntKind.i64.wrap ((j : Int) - 1) = (j : Int) - 1 := IntWalk.i64_in _ ⟨by omega, by omega⟩
   go_wp2
   go_roundw
   case rel => exact ⟨j, y2, by omega, rfl, rfl, st.out⟩
   case measure => simp [intOf] <;> omega
end Go.Proofs.Ytkmfhabgempjiaa
/- hess: the characteristic polynomial. -/
namespace Go.Proofs.Ytkmfhabgempjiaa
set_option maxHeartbeats 4000000
open Go.RowKit
theorem chi_of_sim {R : Type} [CR R] {n : Nat} {A : MT R n n} {H P : Nat → Nat → R} (h : Sim A H P) : chi A = dn n (xh H) := by
 obtain ⟨⟨X, hX⟩, h2⟩ := h
 rw [chi_conj hX h2, chi_xh]
 exact dn_congr n fun i k hi hk => by unfold xh; rw [MT.of_e _ hi hk]
theorem Hk.kept {p : Nat} {w w' : World} {base gW n : Nat} {H P : Nat → Nat → Zp p} {hv pv : Value} {hs ps : List Value} (h : Hk p w base gW n H P hv pv hs ps) {b1 n0 : Nat} {v0 : Value} {xs0 : List Value} (ho : w.ownsRow b1 43 1 v0 n0 xs0) (hg : w.grownBy w' v0.ownBlock) : Hk p w' base gW n H P hv pv hs ps :=
 ⟨h.blk.kept hg (rowOwn_ne ho h.blk (by decide)), h.gw, h.h.kept ho hg (by decide) (by decide) (fun _ _ h => h), h.p.kept ho hg (by decide) (by decide) (fun _ _ h => h), h.sep, h.hd⟩
theorem Own.keptP {w w' : World} {base : Nat} {v : Value} {xs : List Nat} (h : Own .u64 27 w base v xs) {b1 n0 : Nat} {v0 : Value} {xs0 : List Value} (ho : w.ownsRow b1 43 1 v0 n0 xs0) (hg : w.grownBy w' v0.ownBlock) : Own .u64 27 w' base v xs := by
 refine World.ownsRow.kept h hg ?_
 rcases h.2 with ⟨h1, _⟩ | ⟨g, cap, cur, h1, _, h2, _⟩
 ·left; rw [h1]; rfl
 ·right
  intro e
  rw [h1] at e
  exact rowOwn_ne ho h2 (by decide) e.symm
theorem Pls.push {p : Nat} {w w' : World} {base b1 : Nat} {bv bv' r : Value} {vs : List Value} {n : Nat} {D : Nat → Pol (Zp p)} {zs : List Nat} (h : Pls p w base bv vs n D) (hg : w.grownBy w' bv.ownBlock) (ho : w'.ownsRow base 43 1 bv' (n + 1) (vs ++ [r]))
  (hr : Own .u64 27 w b1 r zs) (hb : base ≤ b1) (hz : Nrm p zs) (hD : pl p zs = D n) (hl : zs.length ≤ n + 1) : Pls p w' base bv' (vs ++ [r]) (n + 1) D := by
 refine ⟨ho, by rw [List.length_append, h.2.1]; rfl, fun j v hv => ?_⟩
 by_cases hj : j < n
 ·rw [List.getElem?_append_left (by rw [h.2.1]; exact hj)] at hv
  obtain ⟨ys, h1, h2⟩ := h.2.2 j v hv
  exact ⟨ys, h1.keptP h.1 hg, h2⟩
 ·rw [List.getElem?_append_right (by rw [h.2.1]; omega), h.2.1] at hv
  have : j = n := by
   have := (List.getElem?_eq_some_iff.1 hv).1
   simp at this; omega
  subst this
  simp at hv
  subst hv
  exact ⟨zs, (hr.mono hb).keptP h.1 hg, hz, hD, hl⟩
theorem nrm_1 {p : Nat} (hp : FP p) : Nrm p [1] := ⟨wf_cons (by have := hp.1; omega) (wf_nil _), rfl⟩
theorem pls_start {p : Nat} (hp : FP p) (w : World) (D : Nat → Pol (Zp p)) (hD : D 0 = 1) :
  Pls p ((w.alloc (.cells #[.int .u64 1] 27)).alloc (.cells #[.slice (some ⟨w.heap.size, 0, none⟩) 1 1] 43)) w.heap.size (.slice (some ⟨w.heap.size + 1, 0, none⟩) 1 1) [.slice (some ⟨w.heap.size, 0, none⟩) 1 1] 1 D := by
 have e : (w.alloc (.cells #[.int .u64 1] 27)).heap.size = w.heap.size + 1 := by simp
 have h1 := World.ownsRow_lit (base := w.heap.size) (e := 43) (size := 1) (w.alloc (.cells #[.int .u64 1] 27)) #[.slice (some ⟨w.heap.size, 0, none⟩) 1 1] 1 (by rw [e]; omega) (by unfold maxLen; omega) rfl
 rw [e] at h1
 refine ⟨h1, rfl, fun j v hv => ?_⟩
 cases j with
 | zero =>
  simp at hv
  subst hv
  exact ⟨[1], (own_lit1 w 1).next ((Below.refl _ _).alloc (Nat.le_refl _) _), nrm_1 hp, by rw [hD]; exact pl1, by simp⟩
 | succ j => simp at hv
def RetPE (p : Nat) (w : World) (L : Nat) (f : Pol (Zp p)) (e : Ending) (w' : World) : Prop :=
 ∃ ao cap zs, e = .returned (.tuple #[.slice ao zs.length cap, .int .i64 0]) ∧ Own .u64 27 w' w.heap.size (.slice ao zs.length cap) zs ∧ Nrm p zs ∧ pl p zs = f ∧ zs.length ≤ L ∧ Below w.heap.size w w'
def ChR (p : Nat) (w wr : World) (b0 gW n g : Nat) (mat : List Value) (H P : Nat → Nat → Zp p) (hv pv : Value) (hs ps : List Value) (i : Nat) (bv : Value) : Prop :=
 ∃ vs, Hk p wr b0 gW n H P hv pv hs ps ∧ Pls p wr w.heap.size bv vs (i + 1) (fun j => dn j (xh H)) ∧ Blk 63 wr g mat ∧ Below w.heap.size w wr
set_option maxRecDepth 20000 in
theorem hs_Char (p : Nat) (a : Value) (n : Nat) (xs : List Nat) (w : World) (hp : FP p) (ht : Trial p) (hA : Fm w a n n xs) (hn : n ≤ 64) (hx : xs.length = n * n) :
  Calls Try.prog 66 #[.agg #[.int .u64 p], a] w (RetPE p w (n + 1) (chi (mx p n n xs))) := by
 obtain ⟨aA, cA, rfl⟩ := hA.agg
 obtain ⟨wb, ew, KF, KA, B0, hsz⟩ := boxes2 w 29 63 [.int .u64 p] [.int .i64 n, .int .i64 n, .slice aA xs.length cA]
 clear hsz
 have HP := Lib.hid hp; clear hp
 have HTR := Lib.hid ht; clear ht
 replace hA := hA.next B0
 have HX := Lib.hid hx; clear hx
 obtain ⟨A, eA⟩ : ∃ A, A = mx p n n xs := ⟨_, rfl⟩
 rw [← eA]
 have EA := Lib.hid eA; clear eA
 go_enter Try.func66, Try.ntmps66
 go_upto_region 1 with (fail)
 rw [← ew]
 obtain ⟨g0, eg0⟩ : ∃ g, g = w.heap.size := ⟨_, rfl⟩
 rw [← eg0] at KF KA ⊢
 have hgw : w.heap.size ≤ g0 := by omega
 clear ew eg0
 have f0 := KF.cell 0; have f1 := KA.cell 0; have f2 := KA.cell 1; have f3 := KA.cell 2
 go_wp2_with fail
 refine (hs_square_yes _ n xs _ hA hn HX.out).mono ?_; rintro e w2 ⟨rfl, b2⟩
 replace B0 := B0.trans (b2.mono B0.size)
 replace KF := KF.next b2; replace KA := KA.next b2; replace hA := hA.next b2
 clear f0 f1 f2 f3 b2
 have f0 := KF.cell 0; have f1 := KA.cell 0; have f2 := KA.cell 1; have f3 := KA.cell 2
 go_wp2_with fail
 refine (hs_formed p _ n xs _ HP.out HTR.out hA hn HX.out).mono ?_; rintro e w3 ⟨gW, H, P, hv, pv, hs, ps, rfl, h1, ⟨hS, hH⟩, b3⟩
 rw [← EA.out] at hS
 have hch := chi_of_sim hS
 have HCH := Lib.hid hch; have HH := Lib.hid hH
 clear hch hH hS
 replace KF := KF.next b3; replace KA := KA.next b3; replace hA := hA.next b3
 clear f0 f1 f2 f3
 have hPl := pls_start HP.out w3 (fun j => dn j (xh H)) rfl
 obtain ⟨w4, ew4⟩ : ∃ w4, w4 = (w3.alloc (.cells #[.int .u64 1] 27)).alloc (.cells #[.slice (some ⟨w3.heap.size, 0, none⟩) 1 1] 43) := ⟨_, rfl⟩
 have b4 : Below w3.heap.size w3 w4 := by rw [ew4]; exact ((Below.refl _ _).alloc (Nat.le_refl _) _).alloc (by simp) _
 replace B0 := B0.trans (b3.mono B0.size)
 have hs3 := B0.size
 go_upto_region 5 with (fail)
 rw [← ew4] at hPl ⊢
 clear ew4
 have st : ChR p w w4 w2.heap.size gW n (g0 + 1) [.int .i64 n, .int .i64 n, .slice aA xs.length cA] H P hv pv hs ps 0 (.slice (some ⟨w3.heap.size + 1, 0, none⟩) 1 1) :=
  ⟨_, h1.next b4, ⟨rowOwn_mono hPl.1 hs3, hPl.2.1, fun j v hv => by obtain ⟨ys, h1, h2⟩ := hPl.2.2 j v hv; exact ⟨ys, h1.mono hs3, h2⟩⟩, KA.next b4, B0.trans (b4.mono hs3)⟩
 have f1 := (KA.next b4).cell 0
 clear KF KA hA h1 hPl b4 b3 B0 hs3
 go_wp2
 clear f1
 go_loopw [18, 7] (fun iv bv wr => ∃ i : Nat, i ≤ n ∧ iv = .int .i64 i ∧ ChR p w wr w2.heap.size gW n (g0 + 1) [.int .i64 n, .int .i64 n, .slice aA xs.length cA] H P hv pv hs ps i bv) (fun iv _ _ => n - (intOf iv).toNat)
 case atStart => exact ⟨0, by omega, rfl, st⟩
 case round =>
  clear st
  obtain ⟨i, hi, rfl, vs, h, hB, KA, B0⟩ := hrel
  have hbw := B0.size
  obtain ⟨gB, cB, rfl, hgb, hgB, hmc⟩ : ∃ g cap, u7 = .slice (some ⟨g, 0, none⟩) (i + 1) cap ∧ w.heap.size ≤ g ∧ g < wr.heap.size ∧ i + 1 ≤ cap := by
   rcases rowOwn_shape hB.1 with ⟨_, h0⟩ | h0
   ·omega
   ·exact h0
  by_cases hin : i < n
  ·go_wp2_with fail
   refine (hs_next p _ HP.out w2.heap.size w.heap.size gW n H P _ _ hs ps h HH.out _ vs (i + 1) i rfl (by omega) hn hB).mono ?_; rintro e w5 ⟨r, zs, rfl, o5, m5, v5, l5, b5⟩
   obtain ⟨ar, cr, rfl⟩ := o5.sliced
   replace h := h.next b5; replace hB := hB.next b5; replace KA := KA.next b5
   replace B0 := B0.trans (b5.mono hbw)
   have hb5 : w.heap.size ≤ w5.heap.size := B0.size
   go_wp2_with (refine apVl 22 43 24 (.slice none 0 0) Try.underlying22 (by kernel_rfl) (by decide) rfl rfl _ _ rfl w5 w.heap.size _ (i + 1) vs (.slice ar zs.length cr) rfl hB.1 (by omega) hb5 rfl rfl ?_; intro gg cap w6 ho6 hb6 hg6 hor6)
   have h6 := h.kept hB.1 hg6
   have hB6 := hB.push hg6 ho6 o5 hbw m5 v5 l5
   have KA6 := KA.kept hg6 (rowOwn_ne hB.1 KA (by decide))
   have st := Lib.hid (show ChR p w w6 w2.heap.size gW n (g0 + 1) [.int .i64 n, .int .i64 n, .slice aA xs.length cA] H P hv pv hs ps (i + 1) (.slice (some ⟨gg, 0, none⟩) (i + 1 + 1) cap) from ⟨_, h6, hB6, KA6, B0.trans hb6⟩)
   clear h hB KA B0 h6 hB6 KA6 ho6 hb6 hg6 hor6 o5 m5 v5 b5
   go_wp2
   go_roundw
   case rel => exact ⟨i + 1, by omega, by go_num, st.out⟩
   case measure => simp [intOf] <;> omega
  ·obtain rfl : i = n := by omega
   obtain ⟨vn, hvn⟩ : ∃ v, vs[i]? = some v := ⟨_, List.getElem?_eq_getElem (by rw [hB.2.1]; omega)⟩
   have qb := World.ownsRow.cellAt hB.1 i (by omega); rw [hvn] at qb
   obtain ⟨ys, o1, m1, v1, l1⟩ := hB.2.2 i vn hvn
   obtain ⟨ay, cy, rfl⟩ := o1.sliced
   have f1 := KA.cell 0
   have FR := Lib.hid (show RetPE p w (i + 1) (chi A) (.returned (.tuple #[.slice ay ys.length cy, .int .i64 0])) wr from ⟨_, _, ys, rfl, o1, m1, by rw [HCH.out]; exact v1, l1, B0⟩)
   clear h hB KA B0 o1 m1 v1 hvn
   go_wp2
   exact bodyPost_ret (v := .tuple #[.slice ay ys.length cy, .int .i64 0]) (by simp [results, Try.results66, go_sem]) rfl FR.out
end Go.Proofs.Ytkmfhabgempjiaa
/- hess: Hessenberg. -/
namespace Go.Proofs.Ytkmfhabgempjiaa
set_option maxHeartbeats 4000000
open Go.RowKit
end Go.Proofs.Ytkmfhabgempjiaa
/- hess: Companion. -/
namespace Go.Proofs.Ytkmfhabgempjiaa
set_option maxHeartbeats 4000000
open Go.RowKit
theorem getD_set1 (es : List Nat) (j x i : Nat) (hj : j < es.length) : (es.set j x).getD i 0 = if i = j then x else es.getD i 0 := by
 simp only [List.getD, List.getElem?_set]
 by_cases h : j = i
 ·subst h; simp [hj]
 ·rw [if_neg h, if_neg (fun e => h e.symm)]
theorem Own.headlt {k : IntKind} {e : TypeId} {w : World} {base g n cap : Nat} {xs : List Nat} (h : Own k e w base (.slice (some ⟨g, 0, none⟩) n cap) xs) : g < w.heap.size := by
 have := World.ownsRow.lt h g rfl
 exact this.2
end Go.Proofs.Ytkmfhabgempjiaa
/- hess: the characteristic polynomial of a companion; the awake of law 22. -/
namespace Go.Proofs.Ytkmfhabgempjiaa
set_option maxHeartbeats 4000000
open Go.RowKit
section
variable {p n : Nat} {zs : List Nat}
end
end Go.Proofs.Ytkmfhabgempjiaa
/- The reference of chapter 21: places, forms. -/
namespace Go.Proofs.Ytkmfhabgempjiaa
set_option maxHeartbeats 4000000
open Go.RowKit
theorem rf21_Formed (v : Value) (R C : Int) (xs : List Nat) (w : World) (hm : Fm w v R C xs) (b : Bool) (hb : b = decide (Fd R C xs.length)) :
  Calls Try.prog 103 #[v] w (RetW w (.bool b)) := by
 obtain ⟨ao, ca, rfl⟩ := hm.agg
 obtain ⟨wb, ew, KA, B0, hsz⟩ := boxes1 w 63 [.int .i64 R, .int .i64 C, .slice ao xs.length ca]
 clear hsz hm
 by_cases h0 : R ≥ 0
 rotate_left
 ·obtain rfl : b = false := by rw [hb]; exact decide_eq_false (fun h => h0 h.1.1)
  clear hb
  have d0 : decide (R ≥ 0) = false := decide_eq_false (by omega)
  go_enter Try.func103, Try.ntmps103
  go_upto_region 1 with (fail)
  rw [← ew]
  clear ew
  have c0 := KA.cell 0; have c1 := KA.cell 1; have c2 := KA.cell 2
  go_wp2
  go_ret
  exact ⟨rfl, B0⟩
 by_cases h1 : R ≤ 64
 rotate_left
 ·obtain rfl : b = false := by rw [hb]; exact decide_eq_false (fun h => h1 h.1.2)
  clear hb
  have d0 : decide (R ≥ 0) = true := decide_eq_true (by omega)
  have d1 : decide (R ≤ 64) = false := decide_eq_false (by omega)
  go_enter Try.func103, Try.ntmps103
  go_upto_region 1 with (fail)
  rw [← ew]
  clear ew
  have c0 := KA.cell 0; have c1 := KA.cell 1; have c2 := KA.cell 2
  go_wp2
  go_ret
  exact ⟨rfl, B0⟩
 by_cases h2 : C ≥ 0
 rotate_left
 ·obtain rfl : b = false := by rw [hb]; exact decide_eq_false (fun h => h2 h.2.1.1)
  clear hb
  have d0 : decide (R ≥ 0) = true := decide_eq_true (by omega)
  have d1 : decide (R ≤ 64) = true := decide_eq_true (by omega)
  have d2 : decide (C ≥ 0) = false := decide_eq_false (by omega)
  go_enter Try.func103, Try.ntmps103
  go_upto_region 1 with (fail)
  rw [← ew]
  clear ew
  have c0 := KA.cell 0; have c1 := KA.cell 1; have c2 := KA.cell 2
  go_wp2
  go_ret
  exact ⟨rfl, B0⟩
 by_cases h3 : C ≤ 64
 rotate_left
 ·obtain rfl : b = false := by rw [hb]; exact decide_eq_false (fun h => h3 h.2.1.2)
  clear hb
  have d0 : decide (R ≥ 0) = true := decide_eq_true (by omega)
  have d1 : decide (R ≤ 64) = true := decide_eq_true (by omega)
  have d2 : decide (C ≥ 0) = true := decide_eq_true (by omega)
  have d3 : decide (C ≤ 64) = false := decide_eq_false (by omega)
  go_enter Try.func103, Try.ntmps103
  go_upto_region 1 with (fail)
  rw [← ew]
  clear ew
  have c0 := KA.cell 0; have c1 := KA.cell 1; have c2 := KA.cell 2
  go_wp2
  go_ret
  exact ⟨rfl, B0⟩
 by_cases h4 : (xs.length : Int) = R * C
 rotate_left
 ·obtain rfl : b = false := by rw [hb]; exact decide_eq_false (fun h => h4 h.2.2)
  clear hb
  have d0 : decide (R ≥ 0) = true := decide_eq_true (by omega)
  have d1 : decide (R ≤ 64) = true := decide_eq_true (by omega)
  have d2 : decide (C ≥ 0) = true := decide_eq_true (by omega)
  have d3 : decide (C ≤ 64) = true := decide_eq_true (by omega); have hw : IntKind.i64.wrap (R * C) = R * C := Sd.mul ⟨h0, h1⟩ ⟨h2, h3⟩
  have d4 : ((xs.length : Int) == R * C) = false := by simp [h4]
  go_enter Try.func103, Try.ntmps103
  go_upto_region 1 with (fail)
  rw [← ew]
  clear ew
  have c0 := KA.cell 0; have c1 := KA.cell 1; have c2 := KA.cell 2
  go_wp2
  go_ret
  exact ⟨rfl, B0⟩
 obtain rfl : b = true := by rw [hb]; exact decide_eq_true ⟨⟨h0, h1⟩, ⟨h2, h3⟩, h4⟩
 clear hb
 have d0 : decide (R ≥ 0) = true := decide_eq_true (by omega)
 have d1 : decide (R ≤ 64) = true := decide_eq_true (by omega)
 have d2 : decide (C ≥ 0) = true := decide_eq_true (by omega)
 have d3 : decide (C ≤ 64) = true := decide_eq_true (by omega); have hw : IntKind.i64.wrap (R * C) = R * C := Sd.mul ⟨h0, h1⟩ ⟨h2, h3⟩
 have d4 : ((xs.length : Int) == R * C) = true := by simp [h4]
 go_enter Try.func103, Try.ntmps103
 go_upto_region 1 with (fail)
 rw [← ew]
 clear ew
 have c0 := KA.cell 0; have c1 := KA.cell 1; have c2 := KA.cell 2
 go_wp2
 go_ret
 exact ⟨rfl, B0⟩
theorem rf21_Few (v : Value) (R C s : Int) (xs : List Nat) (w : World) (hm : Fm w v R C xs) (b : Bool) (hb : b = decide (R ≤ s ∧ C ≤ s ∧ xs.length ≤ 100)) :
  Calls Try.prog 52 #[v, .int .i64 s] w (RetW w (.bool b)) := by
 obtain ⟨ao, ca, rfl⟩ := hm.agg
 obtain ⟨wb, ew, KA, B0, hsz⟩ := boxes1 w 63 [.int .i64 R, .int .i64 C, .slice ao xs.length ca]
 clear hsz hm
 by_cases h0 : R ≤ s
 rotate_left
 ·obtain rfl : b = false := by rw [hb]; exact decide_eq_false (fun h => h0 h.1)
  clear hb
  have d0 : decide (R ≤ s) = false := decide_eq_false (by omega)
  go_enter Try.func52, Try.ntmps52
  go_upto_region 1 with (fail)
  rw [← ew]
  clear ew
  have c0 := KA.cell 0; have c1 := KA.cell 1; have c2 := KA.cell 2
  go_wp2
  go_ret
  exact ⟨rfl, B0⟩
 by_cases h1 : C ≤ s
 rotate_left
 ·obtain rfl : b = false := by rw [hb]; exact decide_eq_false (fun h => h1 h.2.1)
  clear hb
  have d0 : decide (R ≤ s) = true := decide_eq_true (by omega)
  have d1 : decide (C ≤ s) = false := decide_eq_false (by omega)
  go_enter Try.func52, Try.ntmps52
  go_upto_region 1 with (fail)
  rw [← ew]
  clear ew
  have c0 := KA.cell 0; have c1 := KA.cell 1; have c2 := KA.cell 2
  go_wp2
  go_ret
  exact ⟨rfl, B0⟩
 by_cases h2 : xs.length ≤ 100
 rotate_left
 ·obtain rfl : b = false := by rw [hb]; exact decide_eq_false (fun h => h2 h.2.2)
  clear hb
  have d0 : decide (R ≤ s) = true := decide_eq_true (by omega)
  have d1 : decide (C ≤ s) = true := decide_eq_true (by omega)
  have d2 : decide (((xs.length : Nat) : Int) ≤ 100) = false := decide_eq_false (by omega)
  go_enter Try.func52, Try.ntmps52
  go_upto_region 1 with (fail)
  rw [← ew]
  clear ew
  have c0 := KA.cell 0; have c1 := KA.cell 1; have c2 := KA.cell 2
  go_wp2
  go_ret
  exact ⟨rfl, B0⟩
 obtain rfl : b = true := by rw [hb]; exact decide_eq_true ⟨h0, h1, h2⟩
 clear hb
 have d0 : decide (R ≤ s) = true := decide_eq_true (by omega)
 have d1 : decide (C ≤ s) = true := decide_eq_true (by omega)
 have d2 : decide (((xs.length : Nat) : Int) ≤ 100) = true := decide_eq_true (by omega)
 go_enter Try.func52, Try.ntmps52
 go_upto_region 1 with (fail)
 rw [← ew]
 clear ew
 have c0 := KA.cell 0; have c1 := KA.cell 1; have c2 := KA.cell 2
 go_wp2
 go_ret
 exact ⟨rfl, B0⟩
end Go.Proofs.Ytkmfhabgempjiaa
/- The reference of chapter 21: matrices of one reading; Hessenberg's form. -/
namespace Go.Proofs.Ytkmfhabgempjiaa
set_option maxHeartbeats 4000000
open Go.RowKit
end Go.Proofs.Ytkmfhabgempjiaa
/- The reference of chapter 21: products. -/
namespace Go.Proofs.Ytkmfhabgempjiaa
set_option maxHeartbeats 4000000
open Go.RowKit
end Go.Proofs.Ytkmfhabgempjiaa
/- The reference of chapter 21: determinants. -/
namespace Go.Proofs.Ytkmfhabgempjiaa
set_option maxHeartbeats 4000000
open Go.RowKit
end Go.Proofs.Ytkmfhabgempjiaa
/- What comes in: matrices of words, opened. -/
namespace Go.Proofs.Ytkmfhabgempjiaa
set_option maxHeartbeats 4000000
open Go.ChangeShapes Go.WideShapes Go.ChangeAt Go.RowKit Go.Deep Go.Joins
section
variable {H : Type} {enc : TypeId × Value → H} {P : Program} {w : World} {base : Nat} {spare : Nat → Bool} {held : Bool}
theorem trod_words {t e : TypeId} {fuel : Nat} {v : Value} {x : DataW H × List MemPlace} (ht : P.underlying t = some (.slice e)) (he : P.underlying e = some (.int .u64)) (hc : P.cellsOf e = 1)
  (hf : DataW.trod enc P w base spare held fuel t [v] = some x) : ∃ xs, Sl .u64 w v xs ∧ wf W64 xs := by
 rcases open_ints ht he hc hf with ⟨hcs, _⟩ | ⟨x, l, c, zs, hcs, _, hl, hm, hz, _, hcell, hwz⟩
 ·simp at hcs
  subst hcs
  exact ⟨[], Sl.nil _ _, wf_nil _⟩
 ·simp at hcs
  subst hcs
  have hlz : l ≤ zs.length := by rw [hz]; split <;> omega
  have hlen : ((zs.take l).map Int.toNat).length = l := by simp; omega
  have hget : ∀ j, j < l → ((zs.take l).map Int.toNat).getD j 0 = (zs.getD j 0).toNat := by
   intro j hj
   simp [List.getD, hj]
   cases zs[j]? <;> rfl
  refine ⟨(zs.take l).map Int.toNat, ⟨some x, x.block, x.off, c, by rw [hlen], by rw [hlen]; exact hl, ?_, ?_⟩, ?_⟩
  ·intro hne
   have h0 : 0 < zs.length := by
    by_cases h : zs = []
    ·subst h; simp at hne
    ·exact List.length_pos_iff.2 h
   have := World.cell?_spot (hcell 0 h0)
   simp [Addr.add] at this
   obtain ⟨b, o, s⟩ := x
   simp at this; rw [this]
  ·intro j hj
   rw [hlen] at hj
   have hjz : j < zs.length := by omega
   have h1 := hcell j hjz
   have hwj := wf_u64_bounds (hwz (zs.getD j 0) (by simp [List.getD, List.getElem?_eq_getElem hjz]))
   rw [hget j hj]
   have e1 : (((zs.getD j 0).toNat : Nat) : Int) = zs.getD j 0 := by omega
   rw [e1, ← h1]
   congr 1
   have h0 : 0 < zs.length := by omega
   have := World.cell?_spot (hcell 0 h0)
   simp [Addr.add] at this
   obtain ⟨b, o, s⟩ := x
   simp at this; subst this
   unfold Addr.add; split
   ·rename_i h; subst h; rfl
   ·rfl
  ·intro y hy
   simp only [List.mem_map] at hy
   obtain ⟨z, hz1, rfl⟩ := hy
   have := wf_u64_bounds (hwz z (List.mem_of_mem_take hz1))
   unfold W64; omega
end
section
variable {H : Type} {enc : TypeId × Value → H} {w : World} {base : Nat} {spare : Nat → Bool} {held : Bool}
set_option maxRecDepth 100000 in
theorem open_fm {r : Reach} {b0 : Nat} {v : Value} {d : DataW H} {p : List MemPlace} (hv : Value.okWide Try.prog w r b0 63 v) (h : DataW.Trod enc Try.prog w base spare held 63 v d p) :
  ∃ (R C : Int) (xs : List Nat), Fm w v R C xs ∧ (-9223372036854775808 ≤ R ∧ R ≤ 9223372036854775807) ∧ (-9223372036854775808 ≤ C ∧ C ≤ 9223372036854775807) := by
 obtain ⟨v0, v1, v2, y0, y1, y2, n, rfl, -, -, h0, h1, h2⟩ := open_agg3 Try.underlying63 (by kernel_rfl) (by kernel_rfl) hv h
 obtain ⟨R, e0, -, w0⟩ := DataW.trod_int Try.underlying3 h0
 obtain ⟨C, e1, -, w1⟩ := DataW.trod_int Try.underlying3 h1
 obtain ⟨xs, hxs, -⟩ := trod_words Try.underlying41 Try.underlying27 (by kernel_rfl) h2
 simp at e0 e1; subst e0 e1
 exact ⟨R, C, xs, ⟨v2, rfl, hxs⟩, wf_i64_bounds w0, wf_i64_bounds w1⟩
end
end Go.Proofs.Ytkmfhabgempjiaa
/- hess: Eval. -/
namespace Go.Proofs.Ytkmfhabgempjiaa
set_option maxHeartbeats 4000000
open Go.RowKit
theorem rowOwn_ne' {w : World} {base : Nat} {e e' : TypeId} {size n b : Nat} {v : Value} {xs vals : List Value} (h : w.ownsRow base e size v n xs) (hb : Blk e' w b vals) (he : e ≠ e') : v.ownBlock ≠ some b := rowOwn_ne h hb he
theorem Own.off {w : World} {base : Nat} {v : Value} {xs : List Nat} (h : Own .u64 27 w base v xs) {g : Nat} {vals : List Value} (hb : Blk 63 w g vals) (i : Nat) (u : Value) : Own .u64 27 (w.setCell ⟨g, i, none⟩ u) base v xs :=
 ownsRow_setCell_other h (rowOwn_ne' h hb (by decide)) u
end Go.Proofs.Ytkmfhabgempjiaa
/- Rows of rows of polynomials, that are read; an append of a window. -/
namespace Go.Proofs.Ytkmfhabgempjiaa
set_option maxHeartbeats 4000000
open Go.RowKit
def VsF (w : World) (v : Value) (n : Nat) (U : Nat → Value) : Prop := ∃ ao b o cap, v = .slice ao n cap ∧ n ≤ cap ∧ (0 < n → ao = some ⟨b, o, none⟩ ∧ b < w.heap.size) ∧ ∀ k, k < n → w.cell? ⟨b, o + k, none⟩ = some (U k)
def rowL (n : Nat) (U : Nat → Value) : List Value := (List.range n).map U
theorem rowL_length (n : Nat) (U : Nat → Value) : (rowL n U).length = n := by simp [rowL]
theorem rowL_get {n : Nat} {U : Nat → Value} {k : Nat} (hk : k < n) : (rowL n U)[k]? = some (U k) := by simp [rowL, hk]
theorem rowL_get' {n : Nat} {U : Nat → Value} {k : Nat} {u : Value} (h : (rowL n U)[k]? = some u) : k < n ∧ u = U k := by
 have hk : k < n := by have := (List.getElem?_eq_some_iff.1 h).1; rwa [rowL_length] at this
 rw [rowL_get hk] at h
 exact ⟨hk, (Option.some.inj h).symm⟩
theorem rowL_snoc (n : Nat) (U : Nat → Value) : rowL (n + 1) U = rowL n U ++ [U n] := by simp [rowL, List.range_succ]
theorem rowL_congr {n : Nat} {U V : Nat → Value} (h : ∀ k, k < n → U k = V k) : rowL n U = rowL n V := List.map_congr_left fun k hk => h k (List.mem_range.1 hk)
theorem win_news {w : World} {b o n : Nat} {U : Nat → Value} (h : ∀ k, k < n → w.cell? ⟨b, o + k, none⟩ = some (U k)) (lo m : Nat) (hm : lo + m ≤ n) : ∀ j u, (rowL m (fun j => U (lo + j)))[j]? = some u → w.cell? ((⟨b, o + lo, none⟩ : Addr).add j) = some u := by
 intro j u hj
 obtain ⟨h1, rfl⟩ := rowL_get' hj
 have e : (⟨b, o + lo, none⟩ : Addr).add j = ⟨b, o + (lo + j), none⟩ := by
  unfold Addr.add; split
  ·rename_i h; subst h; rfl
  ·simp [Nat.add_assoc]
 rw [e]
 exact h (lo + j) (by omega)
section
variable {p : Nat}
end
end Go.Proofs.Ytkmfhabgempjiaa
