/- Package fpoly: Mul. -/
import Derived.Test.YthghdjpjbngllaaFpoly3
import Derived.Test.YthghdjpjbngllaaPeel
namespace Go.Proofs.Ythghdjpjbngllaa
open Go.RowKit

/-- Two normal lists. -/
def TwoCut (p : Nat) (w : World) (g : Nat) (xs ys : List Nat) (a b : Value) (wx : World) : Prop :=
  ∃ za zb, Own .u64 27 wx w.heap.size a za ∧ Nrm p za ∧ pl p za = pl p xs ∧ za.length ≤ xs.length ∧ Own .u64 27 wx w.heap.size b zb ∧ Nrm p zb ∧ pl p zb = pl p ys ∧ zb.length ≤ ys.length ∧
    Box w wx g ∧ wx.cell? ⟨g, 0, none⟩ = some (.int .u64 p)

theorem mul_arith {p i k z m x y : Nat} {A C zs : List Nat} (hl : i + k < zs.length) (hv : pl p zs = pl p (A.take i) * pl p C + mon (Zp.of p x) i * pl p (C.take k)) (hy : y = C.getD k 0)
    (hm : Zp.of p m = Zp.of p x * Zp.of p y) (hz : Zp.of p z = Zp.of p (zs.getD (i + k) 0) + Zp.of p m) :
    pl p (zs.set (i + k) z) = pl p (A.take i) * pl p C + mon (Zp.of p x) i * pl p (C.take (k + 1)) := by
  rw [pl_set p zs (i + k) z hl, hv, hz, hm, pl_take_succ, ← hy, CR.mul_add, mon_mul, CR.add_comm (Zp.of p (zs.getD (i + k) 0)), CR.add_sub_cancel, CR.add_assoc]

theorem mul_outer {p i x : Nat} {A C zs : List Nat} (hx : x = A.getD i 0) (hv : pl p zs = pl p (A.take i) * pl p C + mon (Zp.of p x) i * pl p (C.take C.length)) :
    pl p zs = pl p (A.take (i + 1)) * pl p C := by
  rw [hv, pl_take_succ, ← hx, CR.add_mul, List.take_length]

set_option maxHeartbeats 1000000 in
theorem fp_Mul (p : Nat) (v u : Value) (xs ys : List Nat) (w : World) (hp : FP p) (s0 : Sl .u64 w v xs) (s1 : Sl .u64 w u ys) (hm : xs.length ≤ 1000000) (hn : ys.length ≤ 1000000) :
    Calls Try.prog 53 #[.agg #[.int .u64 p], v, u] w (RetP p w (xs.length + ys.length - 1) (pl p xs * pl p ys)) := by
  obtain ⟨ao, ba, oa, ca, rfl, la, ka⟩ := s0
  have s0 : Sl .u64 w (.slice ao xs.length ca) xs := ⟨ao, ba, oa, ca, rfl, la, ka⟩
  obtain ⟨bo, bb, ob, cb, rfl, lb, kb⟩ := s1
  have s1 : Sl .u64 w (.slice bo ys.length cb) ys := ⟨bo, bb, ob, cb, rfl, lb, kb⟩
  clear ka kb
  have B : Below w.heap.size w (w.alloc (.cells #[.int .u64 p] 29)) := (Below.refl _ _).alloc (Nat.le_refl _) _
  have hcp : (w.alloc (.cells #[.int .u64 p] 29)).cell? ⟨w.heap.size, 0, none⟩ = some (.int .u64 p) := (World.ownsRow_lit w #[.int .u64 p] 1 (Nat.le_refl _) (by unfold maxLen; omega) rfl : Own .u64 29 (w.alloc (.cells #[.int .u64 p] 29)) w.heap.size (.slice (some ⟨w.heap.size, 0, none⟩) 1 1) [p]).cellAt 0 (by simp)
  have hg : w.heap.size < (w.alloc (.cells #[.int .u64 p] 29)).heap.size := by simp
  have HP := Lib.hid hp; clear hp
  go_enter Try.func53, Try.ntmps53
  go_upto_region 1 with (fail)
  generalize w.alloc (.cells #[.int .u64 p] 29) = wb at *
  obtain ⟨g, eg⟩ : ∃ g, g = w.heap.size := ⟨_, rfl⟩
  rw [← eg] at hcp hg ⊢
  have hgw : w.heap.size ≤ g := by omega
  clear eg
  have hbx : Box w wb g := ⟨hg, B⟩
  clear hg B
  go_cut [1, 2] (fun a b wx => TwoCut p w g xs ys a b wx)
  case first =>
    have s0b : Sl .u64 wb.drew (.slice ao xs.length ca) xs := (s0.next hbx.below).drawn ⟨1, rfl⟩
    have s1b : Sl .u64 wb.drew (.slice bo ys.length cb) ys := (s1.next hbx.below).drawn ⟨1, rfl⟩
    go_region_held3 (fun w' => w'.cell? ⟨g, 0, none⟩ = some (.int .u64 (p : Int)) ∧ Box w w' g) (first | (exact ⟨hcp, hbx.drew 1⟩) | (go_split_ands; refine ⟨(b2.cell (p := ⟨g, 0, none⟩) (Box.lt (by assumption))).trans (by assumption), Box.next (by assumption) b2⟩) | (go_split_ands; refine ⟨(b1.cell (p := ⟨g, 0, none⟩) (Box.lt (by assumption))).trans (by assumption), Box.next (by assumption) b1⟩))
      ((first
        | (go_at_call_of 80 (Value.slice ao xs.length ca); refine (fp_Norm p _ xs _ HP.out s0b (by omega)).mono ?_; rintro e w1 ⟨r1, z1, rfl, o1, m1, v1, l1, b1⟩)
        | (go_at_call_of 80 (Value.slice bo ys.length cb); refine (fp_Norm p _ ys _ HP.out (s1b.next b1) (by omega)).mono ?_; rintro e w2 ⟨r2, z2, rfl, o2, m2, v2, l2, b2⟩)))
    all_goals (go_wp2_with fail; go_meet)
    all_goals exact ⟨z1, z2, (o1.next b2).mono hbx.below.size, m1, v1, l1, o2.mono (Nat.le_trans hbx.below.size b1.size), m2, v2, l2, ((hbx.drew 1).next b1).next b2, (b2.cell (p := ⟨g, 0, none⟩) ((hbx.drew 1).next b1).lt).trans ((b1.cell (p := ⟨g, 0, none⟩) (hbx.drew 1).lt).trans hcp)⟩
  case rest =>
    clear hbx hcp s0 s1
    obtain ⟨A, C, oA, nA, vA, lA, oC, nC, vC, lC, hbx, hcp⟩ := hcut
    obtain ⟨ao, ba, oa, ca, rfl, la, ka⟩ := oA.sl
    have sA : Sl .u64 wc (.slice ao A.length ca) A := ⟨ao, ba, oa, ca, rfl, la, ka⟩
    obtain ⟨bo, bb, ob, cb, rfl, lb, kb⟩ := oC.sl
    have sC : Sl .u64 wc (.slice bo C.length cb) C := ⟨bo, bb, ob, cb, rfl, lb, kb⟩
    have VA := Lib.hid vA; have VC := Lib.hid vC
    clear vA vC oA oC
    by_cases hA0 : A.length = 0
    · have hA : A = [] := List.length_eq_zero_iff.mp hA0
      have hz : pl p xs * pl p ys = 0 := by rw [← VA.out, hA, pl_nil, CR.zero_mul]
      have HZ := Lib.hid hz
      subst hA
      clear hz hA0
      go_wp2
      go_ret
      exact ⟨_, [], rfl, Own.nil _ _ _ _, nrm_nil _, by rw [HZ.out, pl_nil], by simp, hbx.below⟩
    · by_cases hC0 : C.length = 0
      · have hC : C = [] := List.length_eq_zero_iff.mp hC0
        have hz : pl p xs * pl p ys = 0 := by rw [← VC.out, hC, pl_nil, CR.mul_zero]
        have HZ := Lib.hid hz
        subst hC
        clear hz hC0
        have hAz : (((A.length : Nat) : Int) == 0) = false := beq_eq_false_iff_ne.mpr (by omega)
        go_wp2
        go_ret
        exact ⟨_, [], rfl, Own.nil _ _ _ _, nrm_nil _, by rw [HZ.out, pl_nil], by simp, hbx.below⟩
      · have hAz : (((A.length : Nat) : Int) == 0) = false := beq_eq_false_iff_ne.mpr (by omega)
        have hCz : (((C.length : Nat) : Int) == 0) = false := beq_eq_false_iff_ne.mpr (by omega)
        obtain ⟨n, en⟩ : ∃ n, n + 1 = A.length + C.length := ⟨A.length + C.length - 1, by omega⟩
        go_wp2_with (at_make; refine wp_make .u64 33 27 8 Try.underlying33 (by kernel_rfl) (by decide) rfl _ _ rfl .i64 .i64 n (by omega) _ _ _ rfl rfl (by omega) (by omega) ?_; intro w1 hown hbel hsz)
        obtain ⟨gg, egg⟩ : ∃ gg, gg = wc.heap.size := ⟨_, rfl⟩
        have hgg : g < gg := by have := hbx.lt; omega
        have hne : g ≠ gg := by omega
        have hwg : w.heap.size ≤ gg := by omega
        rw [← egg] at hown ⊢
        have hggl : gg ≤ wc.heap.size := by omega
        have EGG := Lib.hid egg; clear egg
        have EN := Lib.hid en
        have hbel' : Below gg wc w1 := hbel.mono hggl
        obtain rfl := ka.ao (by intro h; subst h; exact hA0 rfl)
        obtain rfl := kb.ao (by intro h; subst h; exact hC0 rfl)
        have hba : ba < wc.heap.size := ka.lt (by intro h; subst h; exact hA0 rfl)
        have hbb : bb < wc.heap.size := kb.lt (by intro h; subst h; exact hC0 rfl)
        have hgs1 : gg < w1.heap.size := by omega
        clear hsz hAz hCz sA sC
        go_loopw [35] (fun iv wr => ∃ (i : Nat) (zs : List Nat), i ≤ A.length ∧ iv = .int .i64 i ∧ Own .u64 27 wr gg (.slice (some ⟨gg, 0, none⟩) n n) zs ∧ zs.length = n ∧ Below wc.heap.size wc wr ∧ gg < wr.heap.size ∧ pl p zs = pl p (A.take i) * pl p C) (fun iv _ => A.length - (intOf iv).toNat)
        case atStart => exact ⟨0, List.replicate n 0, by omega, rfl, hown, by simp, hbel, hgs1, by rw [List.take_zero, pl_nil, CR.zero_mul, pl_replicate0]⟩
        case round =>
          clear hown hbel hbel' hgs1
          obtain ⟨i, zs, hi, rfl, ho, hzl, hb, hgs, hval⟩ := hrel
          have HV := Lib.hid hval; clear hval
          by_cases hlt : i < A.length
          · have hcx := (ka.below hb (Nat.le_refl _)).cell i hlt
            obtain ⟨x, ex⟩ : ∃ x, x = A.getD i 0 := ⟨_, rfl⟩
            rw [← ex] at hcx
            have EX := Lib.hid ex; clear ex
            have i0 : (0 : Int) ≤ (i : Int) := Int.natCast_nonneg _
            have i1 : (i : Int) < (A.length : Int) := by omega
            obtain ⟨wo, rfl⟩ : ∃ wo : World, wo = wr := ⟨_, rfl⟩
            go_wp2
            go_loopw [42] (fun kv wr => ∃ (k : Nat) (zs : List Nat), k ≤ C.length ∧ kv = .int .i64 k ∧ Own .u64 27 wr gg (.slice (some ⟨gg, 0, none⟩) n n) zs ∧ zs.length = n ∧ Below wc.heap.size wc wr ∧ gg < wr.heap.size ∧ pl p zs = pl p (A.take i) * pl p C + mon (Zp.of p x) i * pl p (C.take k)) (fun kv _ => C.length - (intOf kv).toNat)
            case atStart => exact ⟨0, zs, by omega, rfl, ho, hzl, hb, hgs, by rw [HV.out, List.take_zero, pl_nil, CR.mul_zero, CR.add_zero]⟩
            case round =>
              clear ho hzl hb hgs HV hcx
              obtain ⟨k, zs, hk, rfl, ho, hzl, hb, hgs, hval⟩ := hrel
              have HV := Lib.hid hval; clear hval
              by_cases hltk : k < C.length
              · have hcy := (kb.below hb (Nat.le_refl _)).cell k hltk
                obtain ⟨y, ey⟩ : ∃ y, y = C.getD k 0 := ⟨_, rfl⟩
                rw [← ey] at hcy
                have hct := (ho.drawn ⟨1, rfl⟩).cellAt (i + k) (by omega)
                have hft := (ho.drawn ⟨1, rfl⟩).frozenAt (i + k)
                obtain ⟨t, et⟩ : ∃ t, t = zs.getD (i + k) 0 := ⟨_, rfl⟩
                rw [← et] at hct
                obtain ⟨m, em⟩ : ∃ m, m = (Zp.of p x * Zp.of p y).val := ⟨_, rfl⟩
                obtain ⟨z, ez⟩ : ∃ z, z = (Zp.of p t + Zp.of p m).val := ⟨_, rfl⟩
                have C1 := Lib.hid (fun w => gfp_Mul p x y m w HP.out em)
                have C2 := Lib.hid (fun w => gfp_Add p t m z w HP.out ez)
                have ar := mul_arith (z := z) (m := m) (by omega) HV.out ey (Zp.fact HP.out em).2 (by rw [← et]; exact (Zp.fact HP.out ez).2)
                have AR := Lib.hid ar
                have ET := Lib.hid et
                clear ar ey em ez et
                have hcg : wr.drew.cell? ⟨g, 0, none⟩ = some (.int .u64 (p : Int)) := (hb.cell (p := ⟨g, 0, none⟩) hbx.lt).trans hcp
                have hbs := hb.size
                have hgl := Nat.lt_of_lt_of_le hbx.lt hbs
                have k0 : (0 : Int) ≤ (k : Int) := Int.natCast_nonneg _
                have k1 : (k : Int) < (C.length : Int) := by omega
                have j0 : (0 : Int) ≤ (i : Int) + (k : Int) := by omega
                have j1 : (i : Int) + (k : Int) < (n : Int) := by omega
                have sj : IntKind.i64.wrap ((i : Int) + (k : Int)) = (i : Int) + (k : Int) := IntWalk.i64_in _ ⟨by omega, by omega⟩
                have hkn : i + k < zs.length := by omega
                have hij : ((i : Int) + (k : Int)).toNat = i + k := by omega
                have HIJ := Lib.hid hij
                replace hct : wr.drew.cell? ⟨gg, ((i : Int) + (k : Int)).toNat, none⟩ = some (.int .u64 (t : Int)) := by rw [hij]; exact hct
                clear hft hij
                have HKN := Lib.hid hkn
                have HZL := Lib.hid hzl
                have HGG := Lib.hid (show gg < wr.drew.heap.size from hgs)
                clear hkn hzl
                replace hb : Below wc.heap.size wc wr.drew := hb.trans (Drawn.below ⟨1, rfl⟩ _)
                have ho1 := ho.drawn (w' := wr.drew) ⟨1, rfl⟩
                go_upto_region 11 with (fail)
                clear hcy
                refine startP (S := fun w' => Below wr.drew.heap.size wr.drew w') (by kernel_rfl) _ rfl rfl rfl (by kernel_rfl) (Below.refl _ _) (fun hHeld => ?_)
                refine takeL 0 (v := ?_) rfl (by kernel_rfl) (by kernel_rfl) (by kernel_rfl) (fun _ _ _ h => h) ⟨by rfl, ?_⟩ (by assumption) ?_
                rotate_left
                · intro w hS; have f1 := (hS.cell (p := ⟨g, 0, none⟩) hgl).trans hcg; have f2 := (hS.cell (p := ⟨gg, ((i : Int) + (k : Int)).toNat, none⟩) HGG.out).trans hct; go_simp <;> with_reducible rfl
                simp only [Act.put, List.setIfInBounds_toArray, List.set_cons_zero, List.set_cons_succ]
                refine takeL 1 (v := ?_) rfl (by kernel_rfl) (by kernel_rfl) (by kernel_rfl) (fun _ _ _ h => h) ⟨by rfl, ?_⟩ (by assumption) ?_
                rotate_left
                · intro w hS; have f1 := (hS.cell (p := ⟨g, 0, none⟩) hgl).trans hcg; have f2 := (hS.cell (p := ⟨gg, ((i : Int) + (k : Int)).toNat, none⟩) HGG.out).trans hct; go_simp <;> with_reducible rfl
                simp only [Act.put, List.setIfInBounds_toArray, List.set_cons_zero, List.set_cons_succ]
                refine takeL 2 (v := ?_) rfl (by kernel_rfl) (by kernel_rfl) (by kernel_rfl) (fun _ _ _ h => h) ⟨by rfl, ?_⟩ (by assumption) ?_
                rotate_left
                · intro w hS; have f1 := (hS.cell (p := ⟨g, 0, none⟩) hgl).trans hcg; have f2 := (hS.cell (p := ⟨gg, ((i : Int) + (k : Int)).toNat, none⟩) HGG.out).trans hct; go_simp <;> with_reducible rfl
                simp only [Act.put, List.setIfInBounds_toArray, List.set_cons_zero, List.set_cons_succ]
                refine takeL 3 (v := ?_) rfl (by kernel_rfl) (by kernel_rfl) (by kernel_rfl) (fun _ _ _ h => h) ⟨by rfl, ?_⟩ (by assumption) ?_
                rotate_left
                · intro w hS; have f1 := (hS.cell (p := ⟨g, 0, none⟩) hgl).trans hcg; have f2 := (hS.cell (p := ⟨gg, ((i : Int) + (k : Int)).toNat, none⟩) HGG.out).trans hct; go_simp <;> with_reducible rfl
                simp only [Act.put, List.setIfInBounds_toArray, List.set_cons_zero, List.set_cons_succ]
                refine takeL 4 (v := ?_) rfl (by kernel_rfl) (by kernel_rfl) (by kernel_rfl) (fun _ _ _ h => h) ⟨by rfl, ?_⟩ (by assumption) ?_
                rotate_left
                · intro w hS; have f1 := (hS.cell (p := ⟨g, 0, none⟩) hgl).trans hcg; have f2 := (hS.cell (p := ⟨gg, ((i : Int) + (k : Int)).toNat, none⟩) HGG.out).trans hct; go_simp <;> with_reducible rfl
                simp only [Act.put, List.setIfInBounds_toArray, List.set_cons_zero, List.set_cons_succ]
                refine takeL 5 (v := ?_) rfl (by kernel_rfl) (by kernel_rfl) (by kernel_rfl) (fun _ _ _ h => h) ⟨by rfl, ?_⟩ (by assumption) ?_
                rotate_left
                · intro w hS; have f1 := (hS.cell (p := ⟨g, 0, none⟩) hgl).trans hcg; have f2 := (hS.cell (p := ⟨gg, ((i : Int) + (k : Int)).toNat, none⟩) HGG.out).trans hct; go_simp <;> with_reducible rfl
                simp only [Act.put, List.setIfInBounds_toArray, List.set_cons_zero, List.set_cons_succ]
                refine takeL 6 (v := ?_) rfl (by kernel_rfl) (by kernel_rfl) (by kernel_rfl) (fun _ _ _ h => h) ⟨by rfl, ?_⟩ (by assumption) ?_
                rotate_left
                · intro w hS; have f1 := (hS.cell (p := ⟨g, 0, none⟩) hgl).trans hcg; have f2 := (hS.cell (p := ⟨gg, ((i : Int) + (k : Int)).toNat, none⟩) HGG.out).trans hct; go_simp <;> with_reducible rfl
                simp only [Act.put, List.setIfInBounds_toArray, List.set_cons_zero, List.set_cons_succ]
                refine takeL 7 (v := ?_) rfl (by kernel_rfl) (by kernel_rfl) (by kernel_rfl) (fun _ _ _ h => h) ⟨by rfl, ?_⟩ (by assumption) ?_
                rotate_left
                · intro w hS; have f1 := (hS.cell (p := ⟨g, 0, none⟩) hgl).trans hcg; have f2 := (hS.cell (p := ⟨gg, ((i : Int) + (k : Int)).toNat, none⟩) HGG.out).trans hct; go_simp <;> with_reducible rfl
                simp only [Act.put, List.setIfInBounds_toArray, List.set_cons_zero, List.set_cons_succ]
                refine takeL 8 (v := ?_) rfl (by kernel_rfl) (by kernel_rfl) (by kernel_rfl) (fun _ _ _ h => h) ⟨by rfl, ?_⟩ (by assumption) ?_
                rotate_left
                · intro w hS; have f1 := (hS.cell (p := ⟨g, 0, none⟩) hgl).trans hcg; have f2 := (hS.cell (p := ⟨gg, ((i : Int) + (k : Int)).toNat, none⟩) HGG.out).trans hct; go_simp <;> with_reducible rfl
                simp only [Act.put, List.setIfInBounds_toArray, List.set_cons_zero, List.set_cons_succ]
                refine takeL 9 (v := ?_) rfl (by kernel_rfl) (by kernel_rfl) (by kernel_rfl) (fun _ _ _ h => h) ⟨by rfl, ?_⟩ (by assumption) ?_
                rotate_left
                · intro w hS; have f1 := (hS.cell (p := ⟨g, 0, none⟩) hgl).trans hcg; have f2 := (hS.cell (p := ⟨gg, ((i : Int) + (k : Int)).toNat, none⟩) HGG.out).trans hct; go_simp <;> with_reducible rfl
                simp only [Act.put, List.setIfInBounds_toArray, List.set_cons_zero, List.set_cons_succ]
                refine takeL 10 (v := ?_) rfl (by kernel_rfl) (by kernel_rfl) (by kernel_rfl) (fun _ _ _ h => h) ⟨by rfl, ?_⟩ (by assumption) ?_
                rotate_left
                · intro w hS; have f1 := (hS.cell (p := ⟨g, 0, none⟩) hgl).trans hcg; have f2 := (hS.cell (p := ⟨gg, ((i : Int) + (k : Int)).toNat, none⟩) HGG.out).trans hct; go_simp <;> with_reducible rfl
                simp only [Act.put, List.setIfInBounds_toArray, List.set_cons_zero, List.set_cons_succ]
                refine takeL 11 (v := ?_) rfl (by kernel_rfl) (by kernel_rfl) (by kernel_rfl) (fun _ _ _ h => h) ⟨by rfl, ?_⟩ (by assumption) ?_
                rotate_left
                · intro w hS; have f1 := (hS.cell (p := ⟨g, 0, none⟩) hgl).trans hcg; have f2 := (hS.cell (p := ⟨gg, ((i : Int) + (k : Int)).toNat, none⟩) HGG.out).trans hct; go_simp <;> with_reducible rfl
                simp only [Act.put, List.setIfInBounds_toArray, List.set_cons_zero, List.set_cons_succ]
                refine takeL 12 (v := ?_) rfl (by kernel_rfl) (by kernel_rfl) (by kernel_rfl) (fun _ _ _ h => h) ⟨by rfl, ?_⟩ (by assumption) ?_
                rotate_left
                · intro w hS; have f1 := (hS.cell (p := ⟨g, 0, none⟩) hgl).trans hcg; have f2 := (hS.cell (p := ⟨gg, ((i : Int) + (k : Int)).toNat, none⟩) HGG.out).trans hct; go_simp <;> with_reducible rfl
                simp only [Act.put, List.setIfInBounds_toArray, List.set_cons_zero, List.set_cons_succ]
                refine takeL 13 (v := ?_) rfl (by kernel_rfl) (by kernel_rfl) (by kernel_rfl) (fun _ _ _ h => h) ⟨by rfl, ?_⟩ (by assumption) ?_
                rotate_left
                · intro w hS; have f1 := (hS.cell (p := ⟨g, 0, none⟩) hgl).trans hcg; have f2 := (hS.cell (p := ⟨gg, ((i : Int) + (k : Int)).toNat, none⟩) HGG.out).trans hct; go_simp <;> with_reducible rfl
                simp only [Act.put, List.setIfInBounds_toArray, List.set_cons_zero, List.set_cons_succ]
                refine oneL 14 rfl (by kernel_rfl) (by rfl) (fun K hK => ?_)
                go_simp
                go_at_call 96
                refine (C1.out _).mono ?_; rintro e wm ⟨rfl, b1⟩
                refine hK _ _ (hHeld.trans (b1.mono hHeld.size)) (fun hHeld => ?_)
                clear hK K
                try simp only [Act.put, List.setIfInBounds_toArray, List.set_cons_zero, List.set_cons_succ]
                refine oneL 15 rfl (by kernel_rfl) (by rfl) (fun K hK => ?_)
                go_simp
                go_at_call 95
                refine (C2.out _).mono ?_; rintro e wn ⟨rfl, b2⟩
                refine hK _ _ (hHeld.trans (b2.mono hHeld.size)) (fun hHeld => ?_)
                clear hK K
                try simp only [Act.put, List.setIfInBounds_toArray, List.set_cons_zero, List.set_cons_succ]
                refine takeL 16 (v := ?_) rfl (by kernel_rfl) (by kernel_rfl) (by kernel_rfl) (fun _ _ _ h => h) ⟨by rfl, ?_⟩ (by assumption) ?_
                rotate_left
                · intro w hS; have f1 := (hS.cell (p := ⟨g, 0, none⟩) hgl).trans hcg; have f2 := (hS.cell (p := ⟨gg, ((i : Int) + (k : Int)).toNat, none⟩) HGG.out).trans hct; go_simp <;> with_reducible rfl
                simp only [Act.put, List.setIfInBounds_toArray, List.set_cons_zero, List.set_cons_succ]
                refine doneL (by kernel_rfl) ?_ _
                refine lastL rfl (by rfl) ?_
                have ho2 := (ho1.next b1).next b2
                have hc2 := ho2.cellAt (i + k) HKN.out
                have hf2 := ho2.frozenAt (i + k)
                rw [← HIJ.out] at hc2 hf2
                have hgs3 := Nat.lt_of_lt_of_le HGG.out hHeld.size
                have hb3 := hb.trans (hHeld.mono hb.size)
                clear hcg hct hHeld b1 b2
                go_wp2
                go_roundw
                case rel => exact ⟨k + 1, zs.set (i + k) z, by omega, by go_num, (ho2.store (i + k) z).1, by rw [List.length_set]; exact HZL.out, hb3.setCell (Nat.le_of_eq EGG.out.symm) _, by simpa [World.setCell] using hgs3, AR.out⟩
                case measure => simp [intOf] <;> omega
              · obtain rfl : k = C.length := by omega
                have ho2 := mul_outer EX.out HV.out
                have HO := Lib.hid ho2; clear ho2
                go_wp2
                go_roundw
                case rel => exact ⟨i + 1, zs, by omega, by go_num, ho, hzl, hb, hgs, HO.out⟩
                case measure => simp [intOf] <;> omega
          · obtain rfl : i = A.length := by omega
            have hend : pl p zs = pl p xs * pl p ys := by rw [HV.out, List.take_length, VA.out, VC.out]
            have HE := Lib.hid hend; clear hend
            have hcp2 := (hb.cell (p := ⟨g, 0, none⟩) hbx.lt).trans hcp
            have hbx2 := hbx.next hb
            have HZL := Lib.hid hzl
            clear hcp hbx
            go_wp2_with fail
            refine (fp_Norm p _ zs _ HP.out ho.sl (by omega)).mono ?_; rintro e w2 ⟨r, z2, rfl, o2, m2, v2, l2, b2⟩
            have V2 := Lib.hid v2; clear v2
            go_wp2
            go_ret
            exact ⟨r, z2, rfl, o2.mono hbx2.below.size, m2, by rw [V2.out, HE.out], by have h1 := HZL.out; have h2 := EN.out; omega, hbx2.below.trans (b2.mono hbx2.below.size)⟩

end Go.Proofs.Ythghdjpjbngllaa
