/- Package fpoly: Degree, Same, lead, Scale, Monic, Eval. -/
import Derived.Test.YthghdjpjbngllaaFlaw
namespace Go.Proofs.Ythghdjpjbngllaa
open Go.RowKit

/-- The normal list. -/
def nl (p : Nat) (xs : List Nat) : List Nat := tr (xs.map (· % p))

theorem nl_nrm {p : Nat} (hp : 0 < p) (xs : List Nat) : Nrm p (nl p xs) := nrm_tr (fun x hx => by
  obtain ⟨y, _, rfl⟩ := List.mem_map.1 hx
  exact Nat.mod_lt _ hp)
theorem nl_pl (p : Nat) (xs : List Nat) : pl p (nl p xs) = pl p xs := by unfold nl; rw [pl_tr, pl_map_mod]
theorem nl_len (p : Nat) (xs : List Nat) : (nl p xs).length ≤ xs.length := by
  have := tr_len (xs.map (· % p)); simpa [nl] using this
theorem nl_is {p : Nat} (hp : 0 < p) {zs xs : List Nat} (h : Nrm p zs) (hv : pl p zs = pl p xs) : zs = nl p xs := pl_inj hp h (nl_nrm hp xs) (hv.trans (nl_pl p xs).symm)
theorem nl_of {p : Nat} (hp : 0 < p) {zs : List Nat} (h : Nrm p zs) : nl p zs = zs := (nl_is hp h rfl).symm

theorem fp_Degree (p : Nat) (v : Value) (xs zs : List Nat) (w : World) (hp : FP p) (hv : Sl .u64 w v xs) (hm : xs.length ≤ 1000000) (hz : zs = nl p xs) :
    Calls Try.prog 77 #[.agg #[.int .u64 p], v] w fun e w' => e = .returned (.int .i64 ((zs.length : Int) - 1)) ∧ Below w.heap.size w w' := by
  have HZ := Lib.hid hz; clear hz
  have HP := Lib.hid hp; clear hp
  have fx := Fx.box (p := p) (Below.refl w.heap.size w)
  go_enter Try.func77, Try.ntmps77
  go_wp2_with fail
  generalize w.alloc (.cells #[.int .u64 p] 29) = wb at *
  obtain ⟨g, eg⟩ : ∃ g, g = w.heap.size := ⟨_, rfl⟩
  rw [← eg] at fx ⊢
  have hgw : w.heap.size ≤ g := by omega
  clear eg
  refine (fp_Norm p v xs _ HP.out (hv.next fx.below) (by omega)).mono ?_; rintro e w2 ⟨r, z2, rfl, o2, m2, v2, l2, b2⟩
  obtain rfl : zs = z2 := HZ.out.trans (nl_is HP.out.pos m2 v2).symm
  clear v2 m2
  obtain ⟨ao, bo, oo, co, rfl, -, -⟩ := o2.sl
  go_wp2
  go_ret
  exact ⟨rfl, fx.below.trans (b2.mono fx.below.size)⟩

theorem fp_lead (p x : Nat) (v : Value) (xs zs : List Nat) (w : World) (hp : FP p) (hv : Sl .u64 w v xs) (hm : xs.length ≤ 1000000) (hz : zs = nl p xs) (hx : x = zs.getD (zs.length - 1) 0) :
    Calls Try.prog 151 #[.agg #[.int .u64 p], v] w fun e w' => e = .returned (.int .u64 x) ∧ Below w.heap.size w w' := by
  have HZ := Lib.hid hz; clear hz
  have HX := Lib.hid hx; clear hx
  have HP := Lib.hid hp; clear hp
  have fx := Fx.box (p := p) (Below.refl w.heap.size w)
  go_enter Try.func151, Try.ntmps151
  go_wp2_with fail
  generalize w.alloc (.cells #[.int .u64 p] 29) = wb at *
  obtain ⟨g, eg⟩ : ∃ g, g = w.heap.size := ⟨_, rfl⟩
  rw [← eg] at fx ⊢
  have hgw : w.heap.size ≤ g := by omega
  clear eg
  refine (fp_Norm p v xs _ HP.out (hv.next fx.below) (by omega)).mono ?_; rintro e w2 ⟨r, z2, rfl, o2, m2, v2, l2, b2⟩
  obtain rfl : zs = z2 := HZ.out.trans (nl_is HP.out.pos m2 v2).symm
  clear v2 m2
  obtain ⟨ao, bo, oo, co, rfl, hc, cs⟩ := o2.sl
  by_cases h0 : zs.length = 0
  · obtain rfl : zs = [] := List.length_eq_zero_iff.mp h0
    obtain rfl : x = 0 := HX.out
    go_wp2
    go_ret
    exact ⟨rfl, fx.below.trans (b2.mono fx.below.size)⟩
  · obtain ⟨j, hj⟩ : ∃ j, zs.length = j + 1 := ⟨zs.length - 1, by omega⟩
    have hcx := cs.cell j (by omega)
    obtain rfl := cs.ao (by intro h; subst h; simp at h0)
    have hz : ((zs.length : Int) == 0) = false := beq_eq_false_iff_ne.mpr (by omega)
    have s1 : IntKind.i64.wrap ((zs.length : Int) - 1) = (j : Int) := by rw [IntWalk.i64_in _ ⟨by omega, by omega⟩]; omega
    have s2 : (zs.length : Int) - 1 = (j : Int) := by omega
    have s3 : (j : Int) < (zs.length : Int) := by omega
    have s4 : x = zs.getD j 0 := by rw [HX.out, show zs.length - 1 = j by omega]
    rw [← s4] at hcx
    have i0 : (0 : Int) ≤ (j : Int) := Int.natCast_nonneg _
    have HJ := Lib.hid hj
    clear hj s4 h0
    go_wp2
    go_ret
    exact ⟨rfl, fx.below.trans (b2.mono fx.below.size)⟩

set_option maxHeartbeats 1000000 in
theorem fp_Same (p : Nat) (v u : Value) (xs ys : List Nat) (β : Bool) (w : World) (hp : FP p) (s0 : Sl .u64 w v xs) (s1 : Sl .u64 w u ys) (hm : xs.length ≤ 1000000) (hn : ys.length ≤ 1000000) (hβ : β = decide (nl p xs = nl p ys)) :
    Calls Try.prog 106 #[.agg #[.int .u64 p], v, u] w fun e w' => e = .returned (.bool β) ∧ Below w.heap.size w w' := by
  have HB := Lib.hid hβ; clear hβ
  have HP := Lib.hid hp; clear hp
  have fx := Fx.box (p := p) (Below.refl w.heap.size w)
  go_enter Try.func106, Try.ntmps106
  go_upto_region 1 with (fail)
  generalize w.alloc (.cells #[.int .u64 p] 29) = wb at *
  obtain ⟨g, eg⟩ : ∃ g, g = w.heap.size := ⟨_, rfl⟩
  rw [← eg] at fx ⊢
  have hgw : w.heap.size ≤ g := by omega
  clear eg
  have fd := fx.drew
  have t0 := s0.next fd.below
  have t1 := s1.next fd.below
  refine startL (S := (fun w' => Below wb.drew.heap.size wb.drew w')) (by kernel_rfl) (Below.refl _ _) (fun hHeld => ?_)
  refine takeL 0 (v := ?_) rfl (by kernel_rfl) (by kernel_rfl) (by kernel_rfl) (fun _ _ _ h => h) ⟨by rfl, ?_⟩ (by assumption) ?_
  rotate_left
  · intro w hS; have f1 := fd.at hS; go_simp <;> with_reducible rfl
  simp only [Act.put, List.setIfInBounds_toArray, List.set_cons_zero, List.set_cons_succ]
  refine takeL 1 (v := ?_) rfl (by kernel_rfl) (by kernel_rfl) (by kernel_rfl) (fun _ _ _ h => h) ⟨by rfl, ?_⟩ (by assumption) ?_
  rotate_left
  · intro w hS; go_simp <;> with_reducible rfl
  simp only [Act.put, List.setIfInBounds_toArray, List.set_cons_zero, List.set_cons_succ]
  refine takeL 3 (v := ?_) rfl (by kernel_rfl) (by kernel_rfl) (by kernel_rfl) (fun _ _ _ h => h) ⟨by rfl, ?_⟩ (by assumption) ?_
  rotate_left
  · intro w hS; have f1 := fd.at hS; go_simp <;> with_reducible rfl
  simp only [Act.put, List.setIfInBounds_toArray, List.set_cons_zero, List.set_cons_succ]
  refine takeL 4 (v := ?_) rfl (by kernel_rfl) (by kernel_rfl) (by kernel_rfl) (fun _ _ _ h => h) ⟨by rfl, ?_⟩ (by assumption) ?_
  rotate_left
  · intro w hS; go_simp <;> with_reducible rfl
  simp only [Act.put, List.setIfInBounds_toArray, List.set_cons_zero, List.set_cons_succ]
  refine oneL 2 rfl (by kernel_rfl) (by rfl) (fun K hK => ?_)
  go_simp
  go_at_call 80
  refine (fp_Norm p v xs _ HP.out (t0.next hHeld) (by omega)).mono ?_; rintro e w2 ⟨r2, z2, rfl, o2, m2, v2, l2, b2⟩
  obtain rfl := nl_is HP.out.pos m2 v2; clear v2 m2
  refine hK.out _ _ (hHeld.trans (b2.mono hHeld.size)) (fun hHeld => ?_)
  clear hK K
  try simp only [Act.put, List.setIfInBounds_toArray, List.set_cons_zero, List.set_cons_succ]
  refine oneL 5 rfl (by kernel_rfl) (by rfl) (fun K hK => ?_)
  go_simp
  go_at_call 80
  refine (fp_Norm p u ys _ HP.out (t1.next hHeld) (by omega)).mono ?_; rintro e w3 ⟨r3, z3, rfl, o3, m3, v3, l3, b3⟩
  obtain rfl := nl_is HP.out.pos m3 v3; clear v3 m3; replace o2 := o2.next b3
  refine hK.out _ _ (hHeld.trans (b3.mono hHeld.size)) (fun hHeld => ?_)
  clear hK K
  try simp only [Act.put, List.setIfInBounds_toArray, List.set_cons_zero, List.set_cons_succ]
  refine oneL 6 rfl (by kernel_rfl) (by rfl) (fun K hK => ?_)
  go_simp
  go_at_call 131
  refine (slices_Equal r2 r3 (nl p xs) (nl p ys) β _ o2.sl o3.sl (by omega) (by omega) HB.out).mono ?_; rintro e w4 ⟨rfl, q4⟩
  refine hK.out _ _ (hHeld.trans ((q4.below _).mono hHeld.size)) (fun hHeld => ?_)
  clear hK K
  try simp only [Act.put, List.setIfInBounds_toArray, List.set_cons_zero, List.set_cons_succ]
  refine takeL 7 (v := ?_) rfl (by kernel_rfl) (by kernel_rfl) (by kernel_rfl) (fun _ _ _ h => h) ⟨by rfl, ?_⟩ (by assumption) ?_
  rotate_left
  · intro w hS; go_simp <;> with_reducible rfl
  simp only [Act.put, List.setIfInBounds_toArray, List.set_cons_zero, List.set_cons_succ]
  refine doneL (by kernel_rfl) ?_ _
  go_wp2
  go_ret
  exact ⟨rfl, fd.below.trans (hHeld.mono fd.below.size)⟩

theorem scale_arith {p i z x c : Nat} {xs zs : List Nat} (hi : i < zs.length) (hv : pl p (zs.take i) = pl p (xs.take i) * mon (Zp.of p c) 0) (hx : x = xs.getD i 0) (hz : Zp.of p z = Zp.of p x * Zp.of p c) :
    pl p ((zs.set i z).take (i + 1)) = pl p (xs.take (i + 1)) * mon (Zp.of p c) 0 := by
  rw [pl_set_take p zs i z hi, hv, hz, pl_take_succ, ← hx, CR.add_mul, mon_mul, Nat.add_zero]

set_option maxHeartbeats 1000000 in
theorem fp_Scale (p c : Nat) (v : Value) (xs : List Nat) (w : World) (hp : FP p) (hv : Sl .u64 w v xs) (hm : xs.length ≤ 1000000) :
    Calls Try.prog 128 #[.agg #[.int .u64 p], v, .int .u64 c] w (RetP p w xs.length (pl p xs * mon (Zp.of p c) 0)) := by
  obtain ⟨ao, b, off, cap, rfl, hl, hcs⟩ := hv
  have HP := Lib.hid hp; clear hp
  have fx := Fx.box (p := p) (Below.refl w.heap.size w)
  go_enter Try.func128, Try.ntmps128
  go_upto_region 1 with (fail)
  generalize w.alloc (.cells #[.int .u64 p] 29) = wb at *
  obtain ⟨g, eg⟩ : ∃ g, g = w.heap.size := ⟨_, rfl⟩
  rw [← eg] at fx ⊢
  have hgw : w.heap.size ≤ g := by omega
  clear eg
  go_wp2_with (at_make; refine wp_make .u64 33 27 8 Try.underlying33 (by kernel_rfl) (by decide) rfl _ _ rfl .i64 .i64 xs.length (by omega) _ _ _ rfl rfl (by omega) (by omega) ?_; intro w1 hown hbel hsz)
  obtain ⟨gg, egg⟩ : ∃ gg, gg = wb.heap.size := ⟨_, rfl⟩
  have hgg : g < gg := by have := fx.lt; omega
  have hggw : w.heap.size ≤ gg := by omega
  replace hown := hown.mono fx.below.size
  rw [← egg] at hown ⊢
  replace fx := fx.next hbel
  clear hbel hsz egg
  have hne : g ≠ gg := by omega
  go_loopw [15] (fun iv wr => ∃ (i : Nat) (zs : List Nat), i ≤ xs.length ∧ iv = .int .i64 i ∧ Fx p w wr g ∧ Own .u64 27 wr w.heap.size (.slice (some ⟨gg, 0, none⟩) xs.length xs.length) zs ∧ zs.length = xs.length ∧ pl p (zs.take i) = pl p (xs.take i) * mon (Zp.of p c) 0) (fun iv _ => xs.length - (intOf iv).toNat)
  case atStart => exact ⟨0, _, by omega, rfl, fx, hown, by simp, by simp only [List.take_zero, pl_nil]; rw [CR.zero_mul]⟩
  case round =>
    clear hown fx
    obtain ⟨i, zs, hi, rfl, fx, ho, hzl, hval⟩ := hrel
    have HV := Lib.hid hval; clear hval
    by_cases hlt : i < xs.length
    · obtain rfl := hcs.ao (by intro h; subst h; simp at hlt)
      have hcx := (hcs.below fx.below (Nat.le_refl _)).cell i hlt
      have hcg := fx.cell
      obtain ⟨x, ex⟩ : ∃ x, x = xs.getD i 0 := ⟨_, rfl⟩
      rw [← ex] at hcx
      obtain ⟨z, ez⟩ : ∃ z, z = (Zp.of p x * Zp.of p c).val := ⟨_, rfl⟩
      have C1 := Lib.hid (fun w => gfp_Mul p x c z w HP.out ez)
      have AR := Lib.hid (scale_arith (i := i) (by omega) HV.out ex (Zp.fact HP.out ez).2)
      clear ex ez
      have i0 : (0 : Int) ≤ (i : Int) := Int.natCast_nonneg _
      have i1 : (i : Int) < (xs.length : Int) := by omega
      go_wp2_with fail
      refine (C1.out _).mono ?_; rintro e wn ⟨rfl, bn⟩
      clear hcx hcg
      have ho2 := ho.next bn
      have hc2 := ho2.cellAt i (by omega)
      have hf2 := ho2.frozenAt i
      have fx2 := (fx.next bn).set (a := ⟨gg, i, none⟩) hggw hne (.int .u64 (z : Int))
      have HZL := Lib.hid hzl
      clear ho fx bn hzl
      go_wp2
      go_roundw
      case rel => exact ⟨i + 1, zs.set i z, by omega, by go_num, fx2, (ho2.store i z).1, by rw [List.length_set]; exact HZL.out, AR.out⟩
      case measure => simp [intOf] <;> omega
    · obtain rfl : i = xs.length := by omega
      have HZL := Lib.hid hzl
      have hend : pl p zs = pl p xs * mon (Zp.of p c) 0 := by
        have h1 := HV.out
        have h2 := HZL.out
        rw [List.take_length, ← h2, List.take_length] at h1; exact h1
      have HE := Lib.hid hend; clear hend
      have hcg := fx.cell
      go_wp2_with fail
      refine (fp_Norm p _ zs _ HP.out ho.sl (by omega)).mono ?_; rintro e w2 ⟨r, z2, rfl, o2, m2, v2, l2, b2⟩
      have V2 := Lib.hid v2; clear v2
      go_wp2
      go_ret
      exact ⟨r, z2, rfl, o2.mono fx.below.size, m2, by rw [V2.out, HE.out], by have := HZL.out; omega, fx.below.trans (b2.mono fx.below.size)⟩

set_option maxHeartbeats 1000000 in
theorem fp_Monic (p y : Nat) (v : Value) (xs zs : List Nat) (w : World) (hp : FP p) (hv : Sl .u64 w v xs) (hm : xs.length ≤ 1000000) (hz : zs = nl p xs) (hy : y = (Zp.of p (zs.getD (zs.length - 1) 0)).iv.val) :
    Calls Try.prog 140 #[.agg #[.int .u64 p], v] w (RetP p w xs.length (pl p xs * mon (Zp.of p y) 0)) := by
  have HZ := Lib.hid hz; clear hz
  have HY := Lib.hid hy; clear hy
  obtain ⟨x, ex⟩ : ∃ x, x = zs.getD (zs.length - 1) 0 := ⟨_, rfl⟩
  have HX := Lib.hid ex; clear ex
  have HP := Lib.hid hp; clear hp
  have fx := Fx.box (p := p) (Below.refl w.heap.size w)
  go_enter Try.func140, Try.ntmps140
  go_upto_region 1 with (fail)
  generalize w.alloc (.cells #[.int .u64 p] 29) = wb at *
  obtain ⟨g, eg⟩ : ∃ g, g = w.heap.size := ⟨_, rfl⟩
  rw [← eg] at fx ⊢
  have hgw : w.heap.size ≤ g := by omega
  clear eg
  have fd := fx.drew
  have t0 := hv.next fd.below
  refine startL (S := (fun w' => Below wb.drew.heap.size wb.drew w')) (by kernel_rfl) (Below.refl _ _) (fun hHeld => ?_)
  refine takeL 0 (v := ?_) rfl (by kernel_rfl) (by kernel_rfl) (by kernel_rfl) (fun _ _ _ h => h) ⟨by rfl, ?_⟩ (by assumption) ?_
  rotate_left
  · intro w hS; have f1 := fd.at hS; go_simp <;> with_reducible rfl
  simp only [Act.put, List.setIfInBounds_toArray, List.set_cons_zero, List.set_cons_succ]
  refine takeL 1 (v := ?_) rfl (by kernel_rfl) (by kernel_rfl) (by kernel_rfl) (fun _ _ _ h => h) ⟨by rfl, ?_⟩ (by assumption) ?_
  rotate_left
  · intro w hS; go_simp <;> with_reducible rfl
  simp only [Act.put, List.setIfInBounds_toArray, List.set_cons_zero, List.set_cons_succ]
  refine takeL 2 (v := ?_) rfl (by kernel_rfl) (by kernel_rfl) (by kernel_rfl) (fun _ _ _ h => h) ⟨by rfl, ?_⟩ (by assumption) ?_
  rotate_left
  · intro w hS; have f1 := fd.at hS; go_simp <;> with_reducible rfl
  simp only [Act.put, List.setIfInBounds_toArray, List.set_cons_zero, List.set_cons_succ]
  refine takeL 3 (v := ?_) rfl (by kernel_rfl) (by kernel_rfl) (by kernel_rfl) (fun _ _ _ h => h) ⟨by rfl, ?_⟩ (by assumption) ?_
  rotate_left
  · intro w hS; have f1 := fd.at hS; go_simp <;> with_reducible rfl
  simp only [Act.put, List.setIfInBounds_toArray, List.set_cons_zero, List.set_cons_succ]
  refine takeL 4 (v := ?_) rfl (by kernel_rfl) (by kernel_rfl) (by kernel_rfl) (fun _ _ _ h => h) ⟨by rfl, ?_⟩ (by assumption) ?_
  rotate_left
  · intro w hS; go_simp <;> with_reducible rfl
  simp only [Act.put, List.setIfInBounds_toArray, List.set_cons_zero, List.set_cons_succ]
  refine oneL 5 rfl (by kernel_rfl) (by rfl) (fun K hK => ?_)
  go_simp
  go_at_call 151
  refine (fp_lead p x v xs zs _ HP.out (t0.next hHeld) hm HZ.out HX.out).mono ?_; rintro e w2 ⟨rfl, b2⟩
  refine hK.out _ _ (hHeld.trans (b2.mono hHeld.size)) (fun hHeld => ?_)
  clear hK K
  try simp only [Act.put, List.setIfInBounds_toArray, List.set_cons_zero, List.set_cons_succ]
  refine oneL 6 rfl (by kernel_rfl) (by rfl) (fun K hK => ?_)
  go_simp
  go_at_call 118
  refine (gfp_Inv p x y _ HP.out (by rw [HX.out]; exact HY.out)).mono ?_; rintro e w3 ⟨rfl, b3⟩
  refine hK.out _ _ (hHeld.trans (b3.mono hHeld.size)) (fun hHeld => ?_)
  clear hK K
  try simp only [Act.put, List.setIfInBounds_toArray, List.set_cons_zero, List.set_cons_succ]
  refine oneL 7 rfl (by kernel_rfl) (by rfl) (fun K hK => ?_)
  go_simp
  go_at_call 128
  refine (fp_Scale p y v xs _ HP.out (t0.next hHeld) hm).mono ?_; rintro e w4 ⟨r4, z4, rfl, o4, m4, v4, l4, b4⟩
  have V4 := Lib.hid v4; clear v4; replace o4 := o4.mono (Nat.le_trans fd.below.size hHeld.size)
  refine hK.out _ _ (hHeld.trans (b4.mono hHeld.size)) (fun hHeld => ?_)
  clear hK K
  try simp only [Act.put, List.setIfInBounds_toArray, List.set_cons_zero, List.set_cons_succ]
  refine takeL 8 (v := ?_) rfl (by kernel_rfl) (by kernel_rfl) (by kernel_rfl) (fun _ _ _ h => h) ⟨by rfl, ?_⟩ (by assumption) ?_
  rotate_left
  · intro w hS; go_simp <;> with_reducible rfl
  simp only [Act.put, List.setIfInBounds_toArray, List.set_cons_zero, List.set_cons_succ]
  refine doneL (by kernel_rfl) ?_ _
  go_wp2
  go_ret
  exact ⟨r4, z4, rfl, o4, m4, V4.out, l4, fd.below.trans (hHeld.mono fd.below.size)⟩

/-- A polynomial's value, by Horner. -/
def evl (p : Nat) (x : Zp p) : List Nat → Zp p
  | [] => 0
  | a :: bs => Zp.of p a + evl p x bs * x

def EvRel (p c : Nat) (xs : List Nat) (i y : Nat) : Prop := y = (evl p (Zp.of p c) (xs.drop i)).val

theorem evl_drop {p : Nat} {x : Zp p} {xs : List Nat} {i : Nat} (hi : i < xs.length) : evl p x (xs.drop i) = Zp.of p (xs.getD i 0) + evl p x (xs.drop (i + 1)) * x := by
  rw [List.drop_eq_getElem_cons hi, evl, getD_lt xs i hi]

set_option maxHeartbeats 1000000 in
theorem fp_Eval (p c z : Nat) (v : Value) (xs : List Nat) (w : World) (hp : FP p) (hv : Sl .u64 w v xs) (hm : xs.length ≤ 1000000) (hz : z = (evl p (Zp.of p c) xs).val) :
    Calls Try.prog 56 #[.agg #[.int .u64 p], v, .int .u64 c] w fun e w' => e = .returned (.int .u64 z) ∧ Below w.heap.size w w' := by
  obtain ⟨ao, b, off, cap, rfl, hl, hcs⟩ := hv
  have HZ := Lib.hid hz; clear hz
  have HP := Lib.hid hp; clear hp
  have fx := Fx.box (p := p) (Below.refl w.heap.size w)
  go_enter Try.func56, Try.ntmps56
  go_wp2_with fail
  generalize w.alloc (.cells #[.int .u64 p] 29) = wb at *
  obtain ⟨g, eg⟩ : ∃ g, g = w.heap.size := ⟨_, rfl⟩
  rw [← eg] at fx ⊢
  have hgw : w.heap.size ≤ g := by omega
  clear eg
  go_loopw [7, 8] (fun ov iv wr => ∃ (i y : Nat), i ≤ xs.length ∧ iv = .int .i64 ((i : Int) - 1) ∧ ov = .int .u64 y ∧ EvRel p c xs i y ∧ Fx p w wr g) (fun _ iv _ => (intOf iv + 1).toNat)
  case atStart => exact ⟨xs.length, 0, by omega, rfl, rfl, by unfold EvRel; rw [List.drop_length]; exact (Zp.zero_val p).symm, fx⟩
  case round =>
    clear fx
    obtain ⟨i, y, hi, rfl, rfl, hy, fx⟩ := hrel
    have HY := Lib.hid (show y = (evl p (Zp.of p c) (xs.drop i)).val from hy); clear hy
    by_cases h0 : 0 < i
    · obtain ⟨j, rfl⟩ : ∃ j, i = j + 1 := ⟨i - 1, by omega⟩
      have hlt : j < xs.length := by omega
      obtain rfl := hcs.ao (by intro h; subst h; simp at hlt)
      have hcx := ((hcs.below fx.below (Nat.le_refl _)).drawn ⟨1, rfl⟩ : Cs .u64 wr.drew _ _ _ _).cell j hlt
      have hbl : b < wr.drew.heap.size := Nat.lt_of_lt_of_le (hcs.lt (by intro h; subst h; simp at hlt)) fx.below.size
      obtain ⟨x, ex⟩ : ∃ x, x = xs.getD j 0 := ⟨_, rfl⟩
      rw [← ex] at hcx
      obtain ⟨m, em⟩ : ∃ m, m = (Zp.of p y * Zp.of p c).val := ⟨_, rfl⟩
      obtain ⟨n, en⟩ : ∃ n, n = (Zp.of p m + Zp.of p x).val := ⟨_, rfl⟩
      have C1 := Lib.hid (fun w => gfp_Mul p y c m w HP.out em)
      have C2 := Lib.hid (fun w => gfp_Add p m x n w HP.out en)
      have ar : n = (evl p (Zp.of p c) (xs.drop j)).val := by
        rw [en, (Zp.fact HP.out em).2, evl_drop hlt, ← ex, HY.out, Zp.of_val, CR.add_comm]
      have AR := Lib.hid ar
      clear ex em en ar
      have i0 : (0 : Int) ≤ (j : Int) := Int.natCast_nonneg _
      have i1 : (j : Int) < (xs.length : Int) := by omega
      have i2 : ((j + 1 : Nat) : Int) - 1 = (j : Int) := by omega
      rw [i2]
      have HI2 := Lib.hid i2
      clear i2 h0
      have fd := fx.drew
      clear fx
      go_upto_region 5 with (fail)
      refine startL (S := (fun w' => Below wr.drew.heap.size wr.drew w')) (by kernel_rfl) (Below.refl _ _) (fun hHeld => ?_)
      refine takeL 0 (v := ?_) rfl (by kernel_rfl) (by kernel_rfl) (by kernel_rfl) (fun _ _ _ h => h) ⟨by rfl, ?_⟩ (by assumption) ?_
      rotate_left
      · intro w hS; have f1 := fd.at hS; have f2 := (hS.cell (p := ⟨b, off + j, none⟩) hbl).trans hcx; go_simp <;> with_reducible rfl
      simp only [Act.put, List.setIfInBounds_toArray, List.set_cons_zero, List.set_cons_succ]
      refine takeL 1 (v := ?_) rfl (by kernel_rfl) (by kernel_rfl) (by kernel_rfl) (fun _ _ _ h => h) ⟨by rfl, ?_⟩ (by assumption) ?_
      rotate_left
      · intro w hS; have f1 := fd.at hS; have f2 := (hS.cell (p := ⟨b, off + j, none⟩) hbl).trans hcx; go_simp <;> with_reducible rfl
      simp only [Act.put, List.setIfInBounds_toArray, List.set_cons_zero, List.set_cons_succ]
      refine takeL 2 (v := ?_) rfl (by kernel_rfl) (by kernel_rfl) (by kernel_rfl) (fun _ _ _ h => h) ⟨by rfl, ?_⟩ (by assumption) ?_
      rotate_left
      · intro w hS; go_simp <;> with_reducible rfl
      simp only [Act.put, List.setIfInBounds_toArray, List.set_cons_zero, List.set_cons_succ]
      refine takeL 3 (v := ?_) rfl (by kernel_rfl) (by kernel_rfl) (by kernel_rfl) (fun _ _ _ h => h) ⟨by rfl, ?_⟩ (by assumption) ?_
      rotate_left
      · intro w hS; go_simp <;> with_reducible rfl
      simp only [Act.put, List.setIfInBounds_toArray, List.set_cons_zero, List.set_cons_succ]
      refine takeL 5 (v := ?_) rfl (by kernel_rfl) (by kernel_rfl) (by kernel_rfl) (fun _ _ _ h => h) ⟨by rfl, ?_⟩ (by assumption) ?_
      rotate_left
      · intro w hS; go_simp <;> with_reducible rfl
      simp only [Act.put, List.setIfInBounds_toArray, List.set_cons_zero, List.set_cons_succ]
      refine takeL 6 (v := ?_) rfl (by kernel_rfl) (by kernel_rfl) (by kernel_rfl) (fun _ _ _ h => h) ⟨by rfl, ?_⟩ (by assumption) ?_
      rotate_left
      · intro w hS; go_simp <;> with_reducible rfl
      simp only [Act.put, List.setIfInBounds_toArray, List.set_cons_zero, List.set_cons_succ]
      refine takeL 7 (v := ?_) rfl (by kernel_rfl) (by kernel_rfl) (by kernel_rfl) (fun _ _ _ h => h) ⟨by rfl, ?_⟩ (by assumption) ?_
      rotate_left
      · intro w hS; go_simp <;> with_reducible rfl
      simp only [Act.put, List.setIfInBounds_toArray, List.set_cons_zero, List.set_cons_succ]
      refine takeL 8 (v := ?_) rfl (by kernel_rfl) (by kernel_rfl) (by kernel_rfl) (fun _ _ _ h => h) ⟨by rfl, ?_⟩ (by assumption) ?_
      rotate_left
      · intro w hS; have f1 := fd.at hS; have f2 := (hS.cell (p := ⟨b, off + j, none⟩) hbl).trans hcx; go_simp <;> with_reducible rfl
      simp only [Act.put, List.setIfInBounds_toArray, List.set_cons_zero, List.set_cons_succ]
      refine oneL 4 rfl (by kernel_rfl) (by rfl) (fun K hK => ?_)
      go_simp
      go_at_call 96
      refine (C1.out _).mono ?_; rintro e w2 ⟨rfl, b2⟩
      refine hK.out _ _ (hHeld.trans (b2.mono hHeld.size)) (fun hHeld => ?_)
      clear hK K
      try simp only [Act.put, List.setIfInBounds_toArray, List.set_cons_zero, List.set_cons_succ]
      refine oneL 9 rfl (by kernel_rfl) (by rfl) (fun K hK => ?_)
      go_simp
      go_at_call 95
      refine (C2.out _).mono ?_; rintro e w3 ⟨rfl, b3⟩
      refine hK.out _ _ (hHeld.trans (b3.mono hHeld.size)) (fun hHeld => ?_)
      clear hK K
      try simp only [Act.put, List.setIfInBounds_toArray, List.set_cons_zero, List.set_cons_succ]
      refine takeL 10 (v := ?_) rfl (by kernel_rfl) (by kernel_rfl) (by kernel_rfl) (fun _ _ _ h => h) ⟨by rfl, ?_⟩ (by assumption) ?_
      rotate_left
      · intro w hS; go_simp <;> with_reducible rfl
      simp only [Act.put, List.setIfInBounds_toArray, List.set_cons_zero, List.set_cons_succ]
      refine doneL (by kernel_rfl) ?_ _
      replace fd := fd.next hHeld
      clear hHeld b2 b3 hcx
      go_wp2
      go_roundw
      case rel => exact ⟨j, n, by omega, by go_num, rfl, AR.out, fd⟩
      case measure => simp [intOf] <;> omega
    · obtain rfl : i = 0 := by omega
      obtain rfl : z = y := by rw [HZ.out, HY.out, List.drop_zero]
      go_wp2
      go_ret
      exact ⟨rfl, fx.below⟩

end Go.Proofs.Ythghdjpjbngllaa
