/- Layer 25: Blocks refuses what is not monic of a degree above 0. -/
import Derived.Test.YtkmfhabgempjiaaQlM17
import Derived.Test.YtkmfhabgempjiaaQlM5
import Derived.Test.YtkmfhabgempjiaaQlM7
import Derived.Test.YtkmfhabgempjiaaQlM15
namespace Go.Proofs.Ytkmfhabgempjiaa
set_option maxHeartbeats 4000000
open Go.RowKit
def Gd (p : Nat) (q : List Nat) : Prop := 1 < (nl p q).length ∧ (nl p q).getD ((nl p q).length - 1) 0 = 1
theorem gd_iv {p : Nat} (hp : FP p) (tr : Trial p) {q z : List Nat} (hz : z = nl p q) (h1 : 1 < z.length) (h : z.getD (z.length - 1) 0 ≠ 1) {z2 : List Nat} (v2 : pl p z2 = pl p q * mon (Zp.of p (Zp.of p (z.getD (z.length - 1) 0)).iv.val) 0) : z ≠ z2 := fun e => by
 have hn : Nrm p z := by rw [hz]; exact nl_nrm hp.pos q
 have hv : pl p z = pl p q := by rw [hz]; exact nl_pl p q
 have hln := nrm_ln hp.pos hn
 rw [← e, ← hv] at v2
 obtain ⟨m, hm⟩ : ∃ m, z.length = m + 1 := ⟨z.length - 1, by omega⟩
 rw [hm, Nat.add_sub_cancel] at v2 h
 rw [hm] at hln
 have h2 : (pl p z).c m = (pl p z * mon (Zp.of p (Zp.of p (z.getD m 0)).iv.val) 0).c m := congrArg (fun f : Pol (Zp p) => f.c m) v2
 obtain ⟨x, hx⟩ : ∃ x : Zp p, x = (pl p z).c m := ⟨_, rfl⟩
 have hxz : x = Zp.of p (z.getD m 0) := by rw [hx, pl_c]
 have hx0 : x ≠ 0 := by rw [hx]; exact hln.2 m rfl
 have h3 : (pl p z * mon (Zp.of p (Zp.of p (z.getD m 0)).iv.val) 0).c m = x * Zp.of p (Zp.of p (z.getD m 0)).iv.val := by
  rw [CR.mul_comm, c_mon_mul, if_pos (Nat.zero_le _), Nat.sub_zero, CR.mul_comm, hx]
 rw [h3, ← hx, ← hxz, Zp.of_val] at h2
 have h4 := Zp.iv_mul tr hx0
 have h5 : x.iv * x = x := by rw [CR.mul_comm]; exact h2.symm
 have h6 : x = 1 := by rw [← h5]; exact h4
 have hlt : z.getD m 0 < p := wf_getD hn.1 hp.pos _
 have h7 := congrArg Zp.val (hxz.symm.trans h6)
 have hp2 := hp.1
 rw [Zp.val_of, Nat.mod_eq_of_lt (by omega), ← Zp.of_one, Zp.val_of, Nat.mod_eq_of_lt (by omega)] at h7
 exact h h7
set_option maxRecDepth 20000 in
theorem fb_Blocks_no (p : Nat) (lv : Value) (qs : List (List Nat)) (w : World) (hp : FP p) (tr : Trial p) (hl : Ns w lv qs) (hM : qs.length ≤ 3) (hq : ∀ j, j < qs.length → (qs.getD j []).length ≤ 60) (hb : ∃ j, j < qs.length ∧ ¬ Gd p (qs.getD j [])) :
  Calls Try.prog 44 #[.agg #[.int .u64 p], lv] w (RetFX w 3) := by
 obtain ⟨M, eM⟩ : ∃ M, M = qs.length := ⟨_, rfl⟩
 obtain ⟨az, cz, rfl⟩ : ∃ az cz, lv = .slice az M cz := by
  obtain ⟨ao, b, off, cap, U, e, -⟩ := hl; rw [eM]; exact ⟨ao, cap, e⟩
 obtain ⟨wb, ew, KF, KR, B0, hsz⟩ := boxes2 w 29 63 [.int .u64 p] [.int .i64 0, .int .i64 0, .slice none 0 0]
 clear hsz
 replace hl := hl.next B0
 have HNS := Lib.hid hl; have HP := Lib.hid hp; have HT := Lib.hid tr; have HB := Lib.hid hb; have HQ := Lib.hid hq; have HQL := Lib.hid eM
 have hM3 : M ≤ 3 := by omega
 clear hp tr hl hb hq eM hM
 go_enter Try.func44, Try.ntmps44
 go_upto_region 1 with (fail)
 rw [← ew]
 obtain ⟨g, eg⟩ : ∃ g, g = w.heap.size + 1 := ⟨_, rfl⟩
 rw [← eg] at KR ⊢
 have hgw : w.heap.size ≤ g := by omega
 clear ew eg
 have HKF := Lib.hid KF; have HKR := Lib.hid KR; have HB0 := Lib.hid B0
 clear KF KR B0
 go_wp2
 go_loopw [6, 22] (fun nv jv wr => ∃ i s : Nat, i ≤ M ∧ jv = .int .i64 i ∧ nv = .int .i64 s ∧ s ≤ 60 * i ∧ RowKit.Hid (∀ j, j < i → Gd p (qs.getD j [])) ∧ Below wb.heap.size wb wr) (fun _ jv _ => M - (intOf jv).toNat)
 case atStart => exact ⟨0, 0, by omega, rfl, rfl, by omega, Lib.hid (fun j hj => by omega), Below.refl _ _⟩
 case round =>
  obtain ⟨i, s, hi, rfl, rfl, hs, HG, B1⟩ := hrel
  have him : i < M := by
   obtain ⟨j, h1, h2⟩ := HB.out
   have h3 := HG.out j
   have h4 := HQL.out
   have h5 : ¬ j < i := fun h => h2 (h3 h)
   omega
  have hq60 := HQ.out i (by rw [← HQL.out]; exact him)
  have nz := HNS.out.next B1
  obtain ⟨az', bz, oz, cz', UZ, ez, -, hz1, hz2⟩ := nz
  simp only [Value.slice.injEq] at ez
  obtain ⟨rfl, -, rfl⟩ := ez
  obtain ⟨rfl, lz⟩ := hz1 (by rw [← HQL.out]; omega)
  obtain ⟨qz, sz, -⟩ := hz2 i (by rw [← HQL.out]; exact him)
  obtain ⟨q, eq⟩ : ∃ q, q = qs.getD i [] := ⟨_, rfl⟩
  rw [← eq] at sz hq60
  obtain ⟨ak, ck, euk⟩ : ∃ ao c, UZ i = .slice ao q.length c := by
   obtain ⟨a', b', o', c', e', -⟩ := sz; exact ⟨a', c', e'⟩
  rw [euk] at qz sz
  obtain ⟨z, ez⟩ : ∃ z, z = nl p q := ⟨_, rfl⟩
  have hz60 : z.length ≤ 60 := by
   have h1 : (nl p q).length ≤ q.length := (nrm_len HP.out.pos (nl_nrm HP.out.pos q) (by rw [nl_pl]; exact pl_dlt p q))
   rw [ez]; omega
  have HZ := Lib.hid ez; have HEQ := Lib.hid eq
  have KF := HKF.out.next B1
  have f0 := KF.cell 0
  clear hz1 hz2 euk eq ez
  go_wp2_with fail
  refine (fp_Degree p _ q z _ HP.out sz (by omega) HZ.out).mono ?_; rintro e w2 ⟨rfl, b2⟩
  replace KF := KF.next b2; replace sz := sz.next b2
  have B2 := B1.trans (b2.mono B1.size)
  clear f0 qz lz b2 B1
  by_cases h1 : z.length ≤ 1
  ·have t1 : decide ((z.length : Int) - 1 < 1) = true := by simp; omega
   clear KF sz
   go_upto_region 7 with (fail)
   have bd := dw w2
   replace B2 := B2.trans (bd.mono B2.size)
   clear bd
   refine startL (S := (fun w' => Below (w2.drew).heap.size (w2.drew) w')) (by kernel_rfl) (Below.refl _ _) (fun hHeld => ?_)
   refine tk 0 ?_
   refine tk 1 ?_
   refine tk 2 ?_
   refine skipL 3 rfl (by kernel_rfl) (by kernel_rfl) (by kernel_rfl) (fun _ _ _ h => h) (by rfl) (by assumption) ?_
   simp only [Act.put, zq1, zq2, zq3]
   refine skipL 4 rfl (by kernel_rfl) (by kernel_rfl) (by kernel_rfl) (fun _ _ _ h => h) (by rfl) (by assumption) ?_
   simp only [Act.put, zq1, zq2, zq3]
   refine skipL 5 rfl (by kernel_rfl) (by kernel_rfl) (by kernel_rfl) (fun _ _ _ h => h) (by rfl) (by assumption) ?_
   simp only [Act.put, zq1, zq2, zq3]
   refine skipL 6 rfl (by kernel_rfl) (by kernel_rfl) (by kernel_rfl) (fun _ _ _ h => h) (by rfl) (by assumption) ?_
   simp only [Act.put, zq1, zq2, zq3]
   refine skipL 7 rfl (by kernel_rfl) (by kernel_rfl) (by kernel_rfl) (fun _ _ _ h => h) (by rfl) (by assumption) ?_
   simp only [Act.put, zq1, zq2, zq3]
   refine skipL 8 rfl (by kernel_rfl) (by kernel_rfl) (by kernel_rfl) (fun _ _ _ h => h) (by rfl) (by assumption) ?_
   simp only [Act.put, zq1, zq2, zq3]
   refine skipL 9 rfl (by kernel_rfl) (by kernel_rfl) (by kernel_rfl) (fun _ _ _ h => h) (by rfl) (by assumption) ?_
   simp only [Act.put, zq1, zq2, zq3]
   refine skipL 10 rfl (by kernel_rfl) (by kernel_rfl) (by kernel_rfl) (fun _ _ _ h => h) (by rfl) (by assumption) ?_
   simp only [Act.put, zq1, zq2, zq3]
   refine tk 11 ?_
   refine doneL (by kernel_rfl) ?_ _
   have KR := HKR.out.next (B2.trans (hHeld.mono B2.size))
   have B0 := HB0.out.trans ((B2.trans (hHeld.mono B2.size)).mono HB0.out.size)
   clear hHeld B2 t1
   generalize w2.drew = wd at *
   have f0 := KR.free 0; have f1 := KR.free 1; have f2 := KR.free 2
   have c0 := KR.cell 0; have c1 := KR.cell 1; have c2 := KR.cell 2
   have KF := ((KR.set 0 (.int .i64 0)).set 1 (.int .i64 0)).set 2 (.slice none 0 0)
   have d0 := KF.cell 0; have d1 := KF.cell 1; have d2 := KF.cell 2
   have FR := Lib.hid (show RetFX w 3 (.returned (.tuple #[.agg #[.int .i64 0, .int .i64 0, .slice none 0 0], .int .i64 3])) (((wd.setCell ⟨g, 0, none⟩ (.int .i64 0)).setCell ⟨g, 1, none⟩ (.int .i64 0)).setCell ⟨g, 2, none⟩ (.slice none 0 0)) from ⟨rfl, ((B0.setCell (p := ⟨g, 0, none⟩) hgw _).setCell (p := ⟨g, 1, none⟩) hgw _).setCell (p := ⟨g, 2, none⟩) hgw _⟩)
   clear KF KR B0
   go_wp2
   exact bodyPost_ret (v := .tuple #[.agg #[.int .i64 0, .int .i64 0, .slice none 0 0], .int .i64 3]) (by simp [results, Try.results44, go_sem, d0, d1, d2]) rfl FR.out
  ·have t1 : decide ((z.length : Int) - 1 < 1) = false := by simp; omega
   by_cases h2 : z.getD (z.length - 1) 0 = 1
   ·have HZ1 := Lib.hid h2
    have HGI := Lib.hid (show ∀ j, j < i + 1 → Gd p (qs.getD j []) from fun j hj => by
     by_cases e : j = i
     ·rw [e, ← HEQ.out]; exact ⟨by rw [← HZ.out]; omega, by rw [← HZ.out]; exact h2⟩
     ·exact HG.out j (by omega))
    have hzd : (z.length : Int) - 1 = ((z.length - 1 : Nat) : Int) := by omega
    have hws : IntKind.i64.wrap ((s : Int) + ((z.length - 1 : Nat) : Int)) = ((s + (z.length - 1) : Nat) : Int) := by rw [IntWalk.i64_in _ ⟨by omega, by omega⟩]; omega
    rw [hzd] at t1 ⊢
    clear h2 hzd
    go_upto_region 7 with (fail)
    have bd := dw w2
    replace KF := KF.next bd; replace sz := sz.next bd
    replace B2 := B2.trans (bd.mono B2.size)
    clear bd
    have zF0 := Lib.hid fun (w : World) (hS : Below (w2.drew).heap.size (w2.drew) w) => (KF.at hS) 0
    refine startL (S := (fun w' => Below (w2.drew).heap.size (w2.drew) w')) (by kernel_rfl) (Below.refl _ _) (fun hHeld => ?_)
    refine tk 0 ?_
    refine tk 1 ?_
    refine tk 2 ?_
    refine tf 3 zF0.out ?_
    refine tk 4 ?_
    refine tf 6 zF0.out ?_
    refine tk 7 ?_
    refine on 5 fun K hK => ?_
    go_simp
    go_at_call 80
    (with_reducible refine (fp_Norm p _ q _ HP.out (sz.next hHeld) (by omega)).mono ?_); rintro e y1 ⟨r1, z1, rfl, o1, n1, v1, l1, c1⟩
    obtain ⟨a1, k1, rfl⟩ := o1.sliced
    obtain rfl : z1 = z := by rw [HZ.out]; exact nl_is HP.out.pos n1 v1
    clear n1 v1 l1
    refine hK.out _ _ (hHeld.trans (c1.mono hHeld.size)) (fun hHeld => ?_)
    clear hK K
    try simp only [Act.put, zq1, zq2, zq3]
    refine on 8 fun K hK => ?_
    go_simp
    go_at_call 98
    (with_reducible refine (fp_Monic p (1 : Zp p).val _ q z1 _ HP.out (sz.next hHeld) (by omega) HZ.out (by rw [HZ1.out, Zp.of_one, iv_one HT.out])).mono ?_); rintro e y2 ⟨r2, z2, rfl, o2, n2, v2, l2, c2⟩
    obtain ⟨a2, k2, rfl⟩ := o2.sliced
    obtain rfl : z2 = z1 := by
     rw [HZ.out]; refine nl_is HP.out.pos n2 (v2.trans ?_)
     rw [Zp.of_val, show (mon (1 : Zp p) 0 : Pol (Zp p)) = 1 from rfl, CR.mul_one]
    replace o1 := o1.next c2
    clear n2 v2 l2
    refine hK.out _ _ (hHeld.trans (c2.mono hHeld.size)) (fun hHeld => ?_)
    clear hK K
    try simp only [Act.put, zq1, zq2, zq3]
    refine on 9 fun K hK => ?_
    go_simp
    go_at_call 97
    (with_reducible refine (slices_Equal _ _ z2 z2 true _ o1.sl o2.sl (by omega) (by omega) (by simp)).mono ?_); rintro e y3 ⟨rfl, q4⟩
    refine hK.out _ _ (hHeld.trans ((q4.below _).mono hHeld.size)) (fun hHeld => ?_)
    clear hK K
    try simp only [Act.put, zq1, zq2, zq3]
    refine tk 10 ?_
    refine tk 11 ?_
    clear zF0; refine doneL (by kernel_rfl) ?_ _
    replace B2 := B2.trans (hHeld.mono B2.size)
    clear hHeld KF sz t1
    go_wp2
    go_roundw
    case rel => exact ⟨i + 1, s + (z2.length - 1), by omega, by go_num, by go_num, by omega, HGI, B2⟩
    case measure => simp [intOf] <;> omega
   ·have HZ1 := Lib.hid h2; clear h2
    go_upto_region 7 with (fail)
    have bd := dw w2
    replace KF := KF.next bd; replace sz := sz.next bd
    replace B2 := B2.trans (bd.mono B2.size)
    clear bd
    have zF0 := Lib.hid fun (w : World) (hS : Below (w2.drew).heap.size (w2.drew) w) => (KF.at hS) 0
    refine startL (S := (fun w' => Below (w2.drew).heap.size (w2.drew) w')) (by kernel_rfl) (Below.refl _ _) (fun hHeld => ?_)
    refine tk 0 ?_
    refine tk 1 ?_
    refine tk 2 ?_
    refine tf 3 zF0.out ?_
    refine tk 4 ?_
    refine tf 6 zF0.out ?_
    refine tk 7 ?_
    refine on 5 fun K hK => ?_
    go_simp
    go_at_call 80
    (with_reducible refine (fp_Norm p _ q _ HP.out (sz.next hHeld) (by omega)).mono ?_); rintro e y1 ⟨r1, z1, rfl, o1, n1, v1, l1, c1⟩
    obtain ⟨a1, k1, rfl⟩ := o1.sliced
    obtain rfl : z1 = z := by rw [HZ.out]; exact nl_is HP.out.pos n1 v1
    clear n1 v1 l1
    refine hK.out _ _ (hHeld.trans (c1.mono hHeld.size)) (fun hHeld => ?_)
    clear hK K
    try simp only [Act.put, zq1, zq2, zq3]
    refine on 8 fun K hK => ?_
    go_simp
    go_at_call 98
    (with_reducible refine (fp_Monic p _ _ q z1 _ HP.out (sz.next hHeld) (by omega) HZ.out rfl).mono ?_); rintro e y2 ⟨r2, z2, rfl, o2, n2, v2, l2, c2⟩
    obtain ⟨a2, k2, rfl⟩ := o2.sliced
    have hnz : z1 ≠ z2 := gd_iv HP.out HT.out HZ.out (by omega) HZ1.out v2
    replace o1 := o1.next c2
    clear n2 v2
    refine hK.out _ _ (hHeld.trans (c2.mono hHeld.size)) (fun hHeld => ?_)
    clear hK K
    try simp only [Act.put, zq1, zq2, zq3]
    refine on 9 fun K hK => ?_
    go_simp
    go_at_call 97
    (with_reducible refine (slices_Equal _ _ z1 z2 false _ o1.sl o2.sl (by omega) (by omega) (by simp [hnz])).mono ?_); rintro e y3 ⟨rfl, q4⟩
    refine hK.out _ _ (hHeld.trans ((q4.below _).mono hHeld.size)) (fun hHeld => ?_)
    clear hK K
    try simp only [Act.put, zq1, zq2, zq3]
    refine tk 10 ?_
    refine tk 11 ?_
    clear zF0; refine doneL (by kernel_rfl) ?_ _
    have KR := HKR.out.next (B2.trans (hHeld.mono B2.size))
    have B0 := HB0.out.trans ((B2.trans (hHeld.mono B2.size)).mono HB0.out.size)
    clear hHeld B2 t1 KF sz
    have f0 := KR.free 0; have f1 := KR.free 1; have f2 := KR.free 2
    have c0 := KR.cell 0; have c1 := KR.cell 1; have c2 := KR.cell 2
    have KF := ((KR.set 0 (.int .i64 0)).set 1 (.int .i64 0)).set 2 (.slice none 0 0)
    have d0 := KF.cell 0; have d1 := KF.cell 1; have d2 := KF.cell 2
    have FR := Lib.hid (show RetFX w 3 (.returned (.tuple #[.agg #[.int .i64 0, .int .i64 0, .slice none 0 0], .int .i64 3])) (((y3.setCell ⟨g, 0, none⟩ (.int .i64 0)).setCell ⟨g, 1, none⟩ (.int .i64 0)).setCell ⟨g, 2, none⟩ (.slice none 0 0)) from ⟨rfl, ((B0.setCell (p := ⟨g, 0, none⟩) hgw _).setCell (p := ⟨g, 1, none⟩) hgw _).setCell (p := ⟨g, 2, none⟩) hgw _⟩)
    clear KF KR B0
    go_wp2
    exact bodyPost_ret (v := .tuple #[.agg #[.int .i64 0, .int .i64 0, .slice none 0 0], .int .i64 3]) (by simp [results, Try.results44, go_sem, d0, d1, d2]) rfl FR.out
end Go.Proofs.Ytkmfhabgempjiaa
/- Layer 25, plain: what FrobBlocks asks of Smith's form of x less a block companion. -/
namespace Go.Proofs.Ytkmfhabgempjiaa
set_option maxHeartbeats 4000000
open Go.RowKit
open CR
section
variable {p : Nat}
def Gd4 (p : Nat) (qs : List (List Nat)) : Prop := ∀ j, j < qs.length → Gd p (qs.getD j []) ∧ (qs.getD j []).length ≤ 4
def bS (p : Nat) (qs : List (List Nat)) (j : Nat) : Nat := bdm ((bls p qs).take j)
def bD (p : Nat) (qs : List (List Nat)) (j : Nat) : Nat := (nl p (qs.getD j [])).length - 1
def bQ (p : Nat) (qs : List (List Nat)) (j : Nat) : Pol (Zp p) := pl p (qs.getD j [])
theorem nl_len4 (hp : 0 < p) (q : List Nat) : (nl p q).length ≤ q.length := pl_len hp (nl_nrm hp q) (by rw [nl_pl]; exact pl_dlt p q)
theorem blk_dat (hp : FP p) {qs : List (List Nat)} (h : Gd4 p qs) : Dat (bdm (bls p qs)) qs.length (bS p qs) (bD p qs) (bQ p qs) := by
 refine ⟨rfl, fun j hj => ?_, ?_, fun j hj => ?_, fun j hj => ?_⟩
 ·have hj' : j < (bls p qs).length := by rw [bls_length]; exact hj
  unfold bS bD
  rw [bdm_take _ j hj', (bls_get qs j hj').1]
 ·unfold bS
  rw [List.take_of_length_le (by rw [bls_length]; exact Nat.le_refl _)]
 ·obtain ⟨⟨h1, -⟩, h2⟩ := h j hj
  have h3 := nl_len4 hp.pos (qs.getD j [])
  unfold bD
  omega
 ·obtain ⟨⟨h1, h2⟩, -⟩ := h j hj
  have h3 := nrm_ln hp.pos (nl_nrm hp.pos (qs.getD j []))
  rw [nl_pl] at h3
  unfold bD bQ
  refine ⟨by rw [show (nl p (qs.getD j [])).length - 1 + 1 = (nl p (qs.getD j [])).length by omega]; exact h3, ?_⟩
  rw [← nl_pl, pl_c, h2]; rfl
theorem blk_size {qs : List (List Nat)} (h : Dat (bdm (bls p qs)) qs.length (bS p qs) (bD p qs) (bQ p qs)) : ∀ j, j ≤ qs.length → j ≤ bS p qs j ∧ bS p qs j ≤ 3 * j
 | 0, _ => by rw [h.s0]; omega
 | j + 1, hj => by
  have h1 := blk_size h j (by omega)
  have h2 := h.ss j (by omega)
  have h3 := h.hd j (by omega)
  omega
theorem blk_size' (hp : FP p) {qs : List (List Nat)} (h : Gd4 p qs) : qs.length ≤ bdm (bls p qs) ∧ bdm (bls p qs) ≤ 3 * qs.length := by
 have D := blk_dat hp h
 have := blk_size D qs.length (Nat.le_refl _)
 rw [D.sn] at this; exact this
abbrev bF (p : Nat) (qs : List (List Nat)) : MT (Zp p) (bdm (bls p qs)) (bdm (bls p qs)) := MT.of _ _ (fmE (bls p qs))
abbrev bPh (p : Nat) (qs : List (List Nat)) := UPh (bdm (bls p qs)) qs.length (bS p qs) (bD p qs) (bQ p qs) (XA (bF p qs))
theorem blk_sms (hp : FP p) (tr : Trial p) {qs : List (List Nat)} (h : Gd4 p qs) (hM : qs.length ≤ 3) : SmS p _ _ (XA (bF p qs)) (bPh p qs) := by
 have h1 := blk_size' hp h
 exact sms_blk tr (blk_dat hp h) (by omega) hM h1.1 _
theorem blk_start (hp : FP p) (tr : Trial p) {qs : List (List Nat)} (h : Gd4 p qs) {W U V : Nat → Nat → Pol (Zp p)} (hW : ∀ i k, i < bdm (bls p qs) → k < bdm (bls p qs) → W i k = (XA (bF p qs)).e i k)
  (hU : ∀ i k, i < bdm (bls p qs) → k < bdm (bls p qs) → U i k = if i = k then 1 else 0) (hV : ∀ i k, i < bdm (bls p qs) → k < bdm (bls p qs) → V i k = if i = k then 1 else 0) : bPh p qs 0 W U V := by
 have D := blk_dat hp h
 refine uph_start tr D (fun i hi a ha c hc => ?_) hU hV
 have hin := D.next hi (Nat.le_refl _)
 rw [D.sn] at hin
 have hi' : i < (bls p qs).length := by rw [bls_length]; exact hi
 obtain ⟨g1, g2⟩ := bls_get (p := p) qs i hi'
 have hF : fmE (bls p qs) (bS p qs i + a) c = if bS p qs i ≤ c ∧ c < bS p qs i + bD p qs i then cmpE (bD p qs i) (bQ p qs i).c a (c - bS p qs i) else 0 := by
  have := fmE_at (bls p qs) i hi' a c (by rw [g1]; exact ha)
  rw [g1, g2] at this
  exact this
 rw [hW _ _ (by omega) hc]
 unfold XA
 rw [MT.of_e _ (by omega) hc, MT.of_e _ (by omega) hc, hF]
 by_cases e : bS p qs i ≤ c ∧ c < bS p qs i + bD p qs i
 ·rw [if_pos e, if_pos e]
  unfold ceE
  by_cases e2 : bS p qs i + a = c
  ·rw [if_pos e2, if_pos (by omega)]
  ·rw [if_neg e2, if_neg (by omega)]
 ·rw [if_neg e, if_neg e, if_neg (by omega), mon_zero, sub_zero]
theorem blk_law (hp : FP p) (tr : Trial p) {qs : List (List Nat)} (h : Gd4 p qs) {W U V : Nat → Nat → Pol (Zp p)} {X : MT (Pol (Zp p)) (bdm (bls p qs)) (bdm (bls p qs))} (hS : ∃ s, bPh p qs s W U V ∧ Pst (bdm (bls p qs)) (bdm (bls p qs)) s W) (hW : SmF (bF p qs) W U V X)
  (hc : ∀ j, j + 1 < qs.length → Dv (pl p (qs.getD j [])) (pl p (qs.getD (j + 1) []))) {zz : List (List Nat)} (hz : IvL (bdm (bls p qs)) W zz) : zz.length = qs.length ∧ ∀ j, j < qs.length → pl p (zz.getD j []) = pl p (qs.getD j []) := by
 have D := blk_dat hp h
 have hsz := blk_size' hp h
 obtain ⟨z1, z2⟩ := hz
 by_cases h0 : 0 < qs.length
 ·obtain ⟨s, hs, hP⟩ := hS
  have hF := uph_end tr D h0 hs hP
  have hch : ∀ i l, i ≤ l → l < qs.length → Dv (bQ p qs i) (bQ p qs l) := fun i l hil => by
   induction hil with
   | refl => intro _; exact ⟨1, (mul_one _).symm⟩
   | @step l _ ih =>
    intro hl
    obtain ⟨x, hx⟩ := ih (by omega)
    obtain ⟨y, hy⟩ := hc l hl
    exact ⟨x * y, by show pl p (qs.getD (l + 1) []) = _; rw [hy, ← mul_assoc, ← hx]; rfl⟩
  obtain ⟨b1, b2⟩ := blk_inv tr D hsz.1 hF hch hW
  obtain ⟨c1, c2⟩ := blk_pks tr D hsz.1 b1 b2
  refine ⟨by rw [z1, c1], fun j hj => ?_⟩
  rw [(z2 j (by omega)).2, c2 j hj, b2 j hj]; rfl
 ·have e0 : qs.length = 0 := by omega
  have e1 : bdm (bls p qs) = 0 := by omega
  have e2 := pks_len W (bdm (bls p qs))
  exact ⟨by omega, fun j hj => absurd hj (by omega)⟩
theorem blk_pack (hp : FP p) (tr : Trial p) {qs : List (List Nat)} (h : Gd4 p qs) (hM : qs.length ≤ 3) (N : Nat) (hN : bdm (bls p qs) = N) (A : MT (Zp p) N N) (hA : A = MT.of N N (fmE (bls p qs))) :
  N ≤ 9 ∧ ∃ Φ : Nat → (Nat → Nat → Pol (Zp p)) → (Nat → Nat → Pol (Zp p)) → (Nat → Nat → Pol (Zp p)) → Prop, SmS p N N (XA A) Φ ∧
   (∀ W U V, (∀ i k, i < N → k < N → W i k = (XA A).e i k) → (∀ i k, i < N → k < N → U i k = if i = k then 1 else 0) → (∀ i k, i < N → k < N → V i k = if i = k then 1 else 0) → Φ 0 W U V) ∧
   (∀ t W U V, Φ t W U V → Bds N N 66600 66600 66600 W U V) ∧
   ∀ W U V X, (∃ s, Φ s W U V ∧ Pst N N s W) → SmF A W U V X → (∀ j, j + 1 < qs.length → Dv (pl p (qs.getD j [])) (pl p (qs.getD (j + 1) []))) → ∀ zz, IvL N W zz → zz.length = qs.length ∧ ∀ j, j < qs.length → pl p (zz.getD j []) = pl p (qs.getD j []) := by
 subst hN
 subst hA
 have h1 := blk_size' hp h
 exact ⟨by omega, bPh p qs, blk_sms hp tr h hM, fun W U V => blk_start hp tr h, fun t W U V => uph_bds (by omega), fun W U V X hS hW hc zz hz => blk_law hp tr h hS hW hc hz⟩
end
end Go.Proofs.Ytkmfhabgempjiaa
/- Layer 25: Degrees tells that a polynomial is not monic of a degree above 0. -/
namespace Go.Proofs.Ytkmfhabgempjiaa
set_option maxHeartbeats 4000000
open Go.RowKit
set_option maxRecDepth 20000 in
theorem rf25_Degrees_no (p : Nat) (v : Value) (qs : List (List Nat)) (w : World) (hp : FP p) (h : Ns w v qs) (hM : qs.length ≤ 3) (hq : ∀ j, j < qs.length → (qs.getD j []).length ≤ 60) (hb : ∃ j, j < qs.length ∧ ¬ Gd p (qs.getD j [])) :
  Calls Try.prog 45 #[v, .int .u64 p] w (fun e w' => ∃ s : Int, e = .returned (.tuple #[.int .i64 s, .bool false]) ∧ Below w.heap.size w w') := by
 obtain ⟨M, eM⟩ : ∃ M, M = qs.length := ⟨_, rfl⟩
 obtain ⟨az, cz, rfl⟩ := h.slice
 have hM3 : M ≤ 3 := by omega
 rw [← eM] at h ⊢
 have HNS := Lib.hid h; have HP := Lib.hid hp; have HB := Lib.hid hb; have HQ := Lib.hid hq; have HM := Lib.hid eM
 clear h hp hb hq eM hM
 go_enter Try.func45, Try.ntmps45
 go_wp2
 go_loopw [6, 7, 8] (fun nv bv jv wr => ∃ (i : Nat) (s : Int) (β : Bool), i ≤ M ∧ jv = .int .i64 i ∧ nv = .int .i64 s ∧ bv = .bool β ∧ -(i : Int) ≤ s ∧ s ≤ 60 * (i : Int) ∧ RowKit.Hid (β = true → ∀ j, j < i → Gd p (qs.getD j [])) ∧ Below w.heap.size w wr) (fun _ _ jv _ => M - (intOf jv).toNat)
 case atStart => exact ⟨0, 0, true, by omega, rfl, rfl, rfl, by omega, by omega, Lib.hid (fun _ j hj => by omega), Below.refl _ _⟩
 case round =>
  obtain ⟨i, s, β, hi, rfl, rfl, rfl, hs1, hs2, HG, B⟩ := hrel
  by_cases him : i < M
  ·obtain ⟨b, o, ak, ck, rfl, lb, qz, sz⟩ := (HNS.out.next B).get HM.out him
   have hq60 := HQ.out i (by rw [← HM.out]; exact him)
   obtain ⟨q, eq⟩ : ∃ q, q = qs.getD i [] := ⟨_, rfl⟩
   rw [← eq] at qz sz hq60
   have HEQ := Lib.hid eq
   clear eq
   go_wp2_with fail
   refine (ref9_Norm p _ q _ HP.out sz (by omega)).mono ?_; rintro e w2 ⟨r2, z, rfl, o2, n2, v2, l2, b2⟩
   obtain rfl : z = nl p q := nl_is HP.out.pos n2 v2
   obtain ⟨z, ez⟩ : ∃ z, z = nl p q := ⟨_, rfl⟩
   rw [← ez] at o2 l2
   obtain ⟨a2, c2, rfl⟩ := o2.sliced
   have hz1 : IntKind.i64.wrap ((z.length : Int) - 1) = (z.length : Int) - 1 := IntWalk.i64_in _ ⟨by omega, by omega⟩
   have hz2 : IntKind.i64.wrap (s + ((z.length : Int) - 1)) = s + ((z.length : Int) - 1) := IntWalk.i64_in _ ⟨by omega, by omega⟩
   have B2 := B.trans (b2.mono B.size)
   have EZ := Lib.hid ez
   have SZ := Lib.hid o2.sl
   clear qz sz n2 v2 ez o2 b2 B lb
   cases β
   ·have HGF := Lib.hid (show (false = true → ∀ j, j < i + 1 → Gd p (qs.getD j [])) from fun h => by cases h)
    clear HG
    go_wp2
    go_roundw
    case rel => exact ⟨i + 1, s + ((z.length : Int) - 1), false, by omega, by go_num, by go_num, rfl, by omega, by omega, HGF, B2⟩
    case measure => simp [intOf] <;> omega
   ·by_cases h1 : 1 < z.length
    ·have t1 : decide ((1 : Int) < (z.length : Int)) = true := by simp; omega
     obtain ⟨μ, eμ⟩ : ∃ μ, μ = decide (z = [] ∨ z.getD (z.length - 1) 0 = 1) := ⟨_, rfl⟩
     have HGM := Lib.hid (show (μ = true → ∀ j, j < i + 1 → Gd p (qs.getD j [])) from fun hμ j hj => by
      by_cases e : j = i
      ·have h3 : z = [] ∨ z.getD (z.length - 1) 0 = 1 := of_decide_eq_true (eμ.symm.trans hμ)
       have h4 : z.getD (z.length - 1) 0 = 1 := h3.resolve_left fun e => by rw [e] at h1; simp at h1
       rw [e, ← HEQ.out]; unfold Gd; rw [← EZ.out]; exact ⟨h1, h4⟩
      ·exact HG.out rfl j (by omega))
     have hmo := ref9_Monic (.slice a2 z.length c2) z μ w2 SZ.out (by omega) eμ
     have HMO := Lib.hid hmo
     clear HG hmo eμ
     go_wp2_with fail
     refine HMO.out.mono ?_; rintro e w3 ⟨rfl, rfl⟩
     clear HMO t1
     go_wp2
     go_roundw
     case rel => exact ⟨i + 1, s + ((z.length : Int) - 1), μ, by omega, by go_num, by go_num, rfl, by omega, by omega, HGM, B2⟩
     case measure => simp [intOf] <;> omega
    ·have t1 : decide ((1 : Int) < (z.length : Int)) = false := by simp; omega
     have HGF := Lib.hid (show (false = true → ∀ j, j < i + 1 → Gd p (qs.getD j [])) from fun h => by cases h)
     clear HG
     go_wp2
     go_roundw
     case rel => exact ⟨i + 1, s + ((z.length : Int) - 1), false, by omega, by go_num, by go_num, rfl, by omega, by omega, HGF, B2⟩
     case measure => simp [intOf] <;> omega
  ·obtain rfl : β = false := by
    obtain ⟨j, h1, h2⟩ := HB.out
    have h4 := HM.out
    cases β
    ·rfl
    ·exact absurd (HG.out rfl j (by omega)) h2
   have FIN := Lib.hid (show (∃ s' : Int, (Ending.returned (.tuple #[.int .i64 s, .bool false])) = .returned (.tuple #[.int .i64 s', .bool false]) ∧ Below w.heap.size w wr) from ⟨s, rfl, B⟩)
   clear HG B
   go_wp2
   exact bodyPost_ret (v := .tuple #[.int .i64 s, .bool false]) (by simp [results, Try.results45, go_sem]) rfl FIN.out
end Go.Proofs.Ytkmfhabgempjiaa
/- What the laws of layer 25 begin with: awake. -/
namespace Go.Proofs.Ytkmfhabgempjiaa
set_option maxHeartbeats 4000000
open Go.RowKit
set_option maxRecDepth 20000 in
theorem law25_awake (w : World) : Calls Try.prog 42 #[] w (LawOk w) := by
 obtain ⟨p, ep⟩ : ∃ p, p = Ps 3 := ⟨_, rfl⟩
 have hp : FP p := by rw [ep]; exact Ps_FP (by omega)
 have ht : Trial p := by rw [ep]; exact Ps_trial (by omega)
 have c0 : ∀ w : World, Calls Try.prog 17 #[.int .u8 3] w fun e w' => e = .returned (.agg #[.int .u64 (p : Nat)]) ∧ Below w.heap.size w w' := fun w => by rw [ep]; exact law9_Of 3 w
 have h5 : Zp.of p 5 = -Zp.of p 2 := by rw [ep]; rfl
 have hn1 : Nrm p [5, 1] := by rw [ep]; exact ⟨wf_cons (by decide) (wf_cons (by decide) (wf_nil _)), rfl⟩
 have C0 := Lib.hid c0; have HP := Lib.hid hp; have HT := Lib.hid ht; have H5 := Lib.hid h5; have HN1 := Lib.hid hn1
 clear c0 hp ht h5 hn1 ep
 go_enter Try.func42, Try.ntmps42
 go_wp2_with fail
 refine (C0.out _).mono ?_; rintro e w1 ⟨rfl, b1⟩
 go_wp2_with fail
 obtain ⟨w2, e2, k1, B2, -⟩ := boxes1 w1 27 [.int .u64 2, .int .u64 0, .int .u64 0, .int .u64 2]
 rw [← e2]
 have B3 := b1.trans (B2.mono b1.size)
 have hA : Fm w2 (.agg #[.int .i64 2, .int .i64 2, .slice (some ⟨w1.heap.size, 0, none⟩) 4 4]) (2 : Nat) (2 : Nat) [2, 0, 0, 2] := ⟨_, rfl, Blk.sl (xs := [2, 0, 0, 2]) k1⟩
 refine (fb_Invariants p _ 2 [2, 0, 0, 2] w2 HP.out HT.out hA (by omega) rfl).mono ?_
 rintro e w3 ⟨W, U, V, X, -, h1, -, h3, h4, -, iv, us, rfl, QI, b3⟩
 obtain ⟨e0, e1, e4⟩ := awk25 HT.out H5.out h1 h3 h4
 rw [e0] at QI
 have B4 := B3.trans (b3.mono B3.size)
 obtain ⟨hrow, hul, hel⟩ := QI
 obtain ⟨u0, u1, rfl⟩ : ∃ u0 u1, us = [u0, u1] := by
  match us, hul with
  | [a, b], _ => exact ⟨a, b, rfl⟩
 obtain ⟨z0, o0, n0, v0, -⟩ := hel 0 u0 rfl
 obtain ⟨z1, o1, n1, v1, -⟩ := hel 1 u1 rfl
 obtain rfl : z0 = [5, 1] := pl_inj HP.out.pos n0 HN1.out (v0.trans e1)
 obtain rfl : z1 = [5, 1] := pl_inj HP.out.pos n1 HN1.out (v1.trans e4)
 obtain ⟨gb, cap, rfl⟩ : ∃ b cap, iv = .slice (some ⟨b, 0, none⟩) 2 cap := by
  rcases rowOwn_shape hrow with ⟨_, e2⟩ | ⟨b, cap, e1, _⟩
  ·simp at e2
  ·exact ⟨b, cap, e1⟩
 have q0 : w3.cell? ⟨gb, 0, none⟩ = some u0 := World.ownsRow.cellAt hrow 0 (by decide)
 have q1 : w3.cell? ⟨gb, 1, none⟩ = some u1 := World.ownsRow.cellAt hrow 1 (by decide)
 obtain ⟨a0, c0, h0⟩ := o0.sliced
 obtain ⟨a1, c1, h1⟩ := o1.sliced
 rw [h0] at q0 o0; rw [h1] at q1 o1
 have gl : gb < w3.heap.size := (rowOwn_tyb hrow rfl).2.2
 have HS0 := Lib.hid o0; have HS1 := Lib.hid o1
 clear hrow hel h3 h4 o0 o1 n0 v0 n1 v1 e0 e1 e4 h0 h1 B3 b3 hA e2 k1 b1 B2
 have b7 := (Below.refl w3.heap.size w3).alloc (Nat.le_refl _) (.cells #[.int .u64 5, .int .u64 1] 27)
 have l7 := own_lit2 w3 5 1
 have q1' := (b7.cell (p := ⟨gb, 1, none⟩) gl).trans q1
 go_wp2_with fail
 refine (ref9_Same _ _ [5, 1] [5, 1] true _ (HS0.out.next b7).sl l7.sl (by simp) (by simp) (decide_eq_true rfl).symm).mono ?_; rintro e w8 ⟨rfl, q8⟩
 have b8 := b7.trans (q8.below w3.heap.size)
 have HS1' := HS1.out.next b8
 have B5 := B4.trans (b8.mono B4.size)
 have q1'' := (q8.below _).cell (p := ⟨gb, 1, none⟩) (by have := b7.size; omega) |>.trans q1'
 clear HS0 HS1 l7 q0 q1 q1' b7 q8 b8 B4
 have b9 := (Below.refl w8.heap.size w8).alloc (Nat.le_refl _) (.cells #[.int .u64 5, .int .u64 1] 27)
 have l9 := own_lit2 w8 5 1
 go_wp2_with fail
 refine (ref9_Same _ _ [5, 1] [5, 1] true _ (HS1'.next b9).sl l9.sl (by simp) (by simp) (decide_eq_true rfl).symm).mono ?_; rintro e w10 ⟨rfl, q10⟩
 have FIN := Lib.hid (show LawOk w (.returned (.bool true)) w10 from ⟨rfl, (B5.trans (b9.mono B5.size)).trans (q10.below w.heap.size)⟩)
 clear HS1' q1'' l9 b9 q10 B5
 go_wp2
 go_ret
 exact FIN.out
end Go.Proofs.Ytkmfhabgempjiaa
