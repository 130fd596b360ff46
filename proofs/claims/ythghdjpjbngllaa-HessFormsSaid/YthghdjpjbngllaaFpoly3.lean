/- Package fpoly: both, Add, Sub. -/
import Derived.Test.YthghdjpjbngllaaFpoly2
namespace Go.Proofs.Ythghdjpjbngllaa
open Go.RowKit

theorem fp_at (v : Value) (xs : List Nat) (i : Nat) (w : World) (hv : Sl .u64 w v xs) :
    Calls Try.prog 144 #[v, .int .i64 i] w fun e w' => e = .returned (.int .u64 (xs.getD i 0 : Nat)) ∧ w = w' := by
  obtain ⟨ao, b, off, cap, rfl, hl, hcs⟩ := hv
  have i0 : (0 : Int) ≤ (i : Int) := Int.natCast_nonneg _
  by_cases hi : i < xs.length
  · obtain rfl := hcs.ao (by intro h; subst h; simp at hi)
    have hcx := hcs.cell i hi
    have i1 : (i : Int) < (xs.length : Int) := by omega
    obtain ⟨x, ex⟩ : ∃ x, x = xs.getD i 0 := ⟨_, rfl⟩
    rw [← ex] at hcx ⊢
    clear ex
    go_enter Try.func144, Try.ntmps144
    go_wp2
    go_ret
    exact ⟨rfl, rfl⟩
  · have e : xs.getD i 0 = 0 := by rw [List.getD, List.getElem?_eq_none (by omega)]; rfl
    rw [e]
    clear e
    go_enter Try.func144, Try.ntmps144
    go_wp2
    go_ret
    exact ⟨rfl, rfl⟩

theorem pl_set_take (p : Nat) (zs : List Nat) (i z : Nat) (hi : i < zs.length) : pl p ((zs.set i z).take (i + 1)) = pl p (zs.take i) + mon (Zp.of p z) i := by
  rw [take_set_succ zs i z hi, pl_snoc, List.length_take, Nat.min_eq_left (by omega)]

theorem both_Add {p i z x y : Nat} {xs ys zs : List Nat} (hi : i < zs.length) (hv : pl p (zs.take i) = pl p (xs.take i) + pl p (ys.take i)) (hx : x = xs.getD i 0) (hy : y = ys.getD i 0) (hz : Zp.of p z = Zp.of p x + Zp.of p y) :
    pl p ((zs.set i z).take (i + 1)) = pl p (xs.take (i + 1)) + pl p (ys.take (i + 1)) := by
  rw [pl_set_take p zs i z hi, hv, hz, pl_take_succ, pl_take_succ, ← hx, ← hy, mon_add]
  exact by_ring [pl p (xs.take i), pl p (ys.take i), mon (Zp.of p x) i, mon (Zp.of p y) i] (X0 + X1 + (X2 + X3)) (X0 + X2 + (X1 + X3)) rfl

set_option maxHeartbeats 1000000 in
theorem fp_bothAdd (p : Nat) (v u : Value) (xs ys : List Nat) (w : World) (hp : FP p) (s0 : Sl .u64 w v xs) (s1 : Sl .u64 w u ys) (hm : xs.length ≤ 1000000) (hn : ys.length ≤ 1000000) :
    Calls Try.prog 123 #[.agg #[.int .u64 p], v, u, .func (.func 95) #[.agg #[.int .u64 p]] #[]] w (RetP p w (max xs.length ys.length) (pl p xs + pl p ys)) := by
  obtain ⟨ao, ba, oa, ca, rfl, la, ka⟩ := s0
  have s0 : Sl .u64 w (.slice ao xs.length ca) xs := ⟨ao, ba, oa, ca, rfl, la, ka⟩
  obtain ⟨bo, bb, ob, cb, rfl, lb, kb⟩ := s1
  have s1 : Sl .u64 w (.slice bo ys.length cb) ys := ⟨bo, bb, ob, cb, rfl, lb, kb⟩
  clear ka kb
  have B : Below w.heap.size w (w.alloc (.cells #[.int .u64 p] 29)) := (Below.refl _ _).alloc (Nat.le_refl _) _
  have hcp : (w.alloc (.cells #[.int .u64 p] 29)).cell? ⟨w.heap.size, 0, none⟩ = some (.int .u64 p) := (World.ownsRow_lit w #[.int .u64 p] 1 (Nat.le_refl _) (by unfold maxLen; omega) rfl : Own .u64 29 (w.alloc (.cells #[.int .u64 p] 29)) w.heap.size (.slice (some ⟨w.heap.size, 0, none⟩) 1 1) [p]).cellAt 0 (by simp)
  have hg : w.heap.size < (w.alloc (.cells #[.int .u64 p] 29)).heap.size := by simp
  have HP := Lib.hid hp; clear hp
  go_enter Try.func123, Try.ntmps123
  go_upto_region 1 with (fail)
  generalize w.alloc (.cells #[.int .u64 p] 29) = wb at *
  obtain ⟨g, eg⟩ : ∃ g, g = w.heap.size := ⟨_, rfl⟩
  rw [← eg] at hcp hg ⊢
  have hgw : w.heap.size ≤ g := by omega
  clear eg
  have hbx : Box w wb g := ⟨hg, B⟩
  clear hg B
  obtain ⟨n, en⟩ : ∃ n, n = max xs.length ys.length := ⟨_, rfl⟩
  rw [← en]
  have hnx : xs.length ≤ n := by omega
  have hny : ys.length ≤ n := by omega
  have hnm : n ≤ 1000000 := by omega
  have hnc : n = xs.length ∨ n = ys.length := by omega
  have EN := Lib.hid en; clear en
  go_cut [9] (fun ov wx => ∃ gg, ov = .slice (some ⟨gg, 0, none⟩) n n ∧ g < gg ∧ Own .u64 27 wx w.heap.size ov (List.replicate n 0) ∧ Box w wx g ∧ wx.cell? ⟨g, 0, none⟩ = some (.int .u64 p))
  case first =>
    go_wp2_with (at_make; refine wp_make .u64 33 27 8 Try.underlying33 (by kernel_rfl) (by decide) rfl _ _ rfl .i64 .i64 n (by omega) _ _ _ rfl rfl (by omega) (by omega) ?_; intro w1 hown hbel hsz)
    all_goals go_meet
    all_goals exact ⟨_, rfl, hbx.lt, hown.mono hbx.below.size, hbx.next hbel, (hbel.cell (p := ⟨g, 0, none⟩) hbx.lt).trans hcp⟩
  case rest =>
    clear hbx hcp
    obtain ⟨gg, rfl, hgg, hown, hbx, hcp⟩ := hcut
    have hne : g ≠ gg := by omega
    have hggw : w.heap.size ≤ gg := by omega
    clear hgg hgw hnc
    go_wp2_with fail
    go_loopw [19] (fun iv wr => ∃ (i : Nat) (zs : List Nat), i ≤ n ∧ iv = .int .i64 i ∧ Box w wr g ∧ wr.cell? ⟨g, 0, none⟩ = some (.int .u64 p) ∧ Own .u64 27 wr w.heap.size (.slice (some ⟨gg, 0, none⟩) n n) zs ∧ zs.length = n ∧ pl p (zs.take i) = pl p (xs.take i) + pl p (ys.take i)) (fun iv _ => n - (intOf iv).toNat)
    case atStart => exact ⟨0, List.replicate n 0, by omega, rfl, hbx, hcp, hown, by simp, by simp only [List.take_zero, pl_nil]; rw [CR.zero_add]⟩
    case round =>
      clear hown hcp hbx
      obtain ⟨i, zs, hi, rfl, hbx, hcp, ho, hzl, hval⟩ := hrel
      have HV := Lib.hid hval; clear hval
      by_cases hlt : i < n
      · obtain ⟨x, ex⟩ : ∃ x, x = xs.getD i 0 := ⟨_, rfl⟩
        obtain ⟨y, ey⟩ : ∃ y, y = ys.getD i 0 := ⟨_, rfl⟩
        obtain ⟨z, ez⟩ : ∃ z, z = (Zp.of p x + Zp.of p y).val := ⟨_, rfl⟩
        have c1 := fp_at _ xs i wr (s0.next hbx.below)
        have c2 := fp_at _ ys i wr (s1.next hbx.below)
        rw [← ex] at c1
        rw [← ey] at c2
        have C1 := Lib.hid c1
        have C2 := Lib.hid c2
        have C3 := Lib.hid (fun w => gfp_Add p x y z w HP.out ez)
        have AR := Lib.hid (both_Add (z := z) (by omega) HV.out ex ey (Zp.fact HP.out ez).2)
        clear c1 c2 ex ey ez
        have i0 : (0 : Int) ≤ (i : Int) := Int.natCast_nonneg _
        have i1 : (i : Int) < (n : Int) := by omega
        go_wp2_with fail
        refine C1.out.mono ?_; rintro e w' ⟨rfl, rfl⟩
        go_wp2_with fail
        refine C2.out.mono ?_; rintro e w' ⟨rfl, rfl⟩
        go_wp2_with fail
        refine (C3.out _).mono ?_; rintro e w3 ⟨rfl, b3⟩
        replace hcp := (b3.cell (p := ⟨g, 0, none⟩) hbx.lt).trans hcp
        replace hbx := hbx.next b3
        replace ho := ho.next b3
        have hc' := ho.cellAt i (by omega)
        have hf' := ho.frozenAt i
        have ho2 := (ho.store i z).1
        have hbx2 : Box w (w3.setCell ⟨gg, i, none⟩ (.int .u64 (z : Int))) g := Box.set hbx hggw _
        have hcp2 : (w3.setCell ⟨gg, i, none⟩ (.int .u64 (z : Int))).cell? ⟨g, 0, none⟩ = some (.int .u64 (p : Int)) := (set_far _ _ _ ⟨g, 0, none⟩ hne).trans hcp
        clear b3 ho hbx hcp
        go_wp2
        go_roundw
        case rel => exact ⟨i + 1, zs.set i z, by omega, by go_num, hbx2, hcp2, ho2, by simpa using hzl, AR.out⟩
        case measure => simp [intOf] <;> omega
      · obtain rfl : i = n := by omega
        have hend : pl p zs = pl p xs + pl p ys := by
          have := HV.out
          rwa [pl_take_all p zs i (by omega), pl_take_all p xs i hnx, pl_take_all p ys i hny] at this
        have HE := Lib.hid hend; clear hend
        have HZL := Lib.hid hzl
        go_wp2_with fail
        refine (fp_Norm p _ zs _ HP.out ho.sl (by omega)).mono ?_; rintro e w2 ⟨r, z2, rfl, o2, m2, v2, l2, b2⟩
        have V2 := Lib.hid v2; clear v2
        go_wp2
        go_ret
        exact ⟨r, z2, rfl, o2.mono hbx.below.size, m2, by rw [V2.out, HE.out], by have h1 := HZL.out; have h2 := EN.out; omega, hbx.below.trans (b2.mono hbx.below.size)⟩

set_option maxHeartbeats 1000000 in
theorem fp_Add (p : Nat) (v u : Value) (xs ys : List Nat) (w : World) (hp : FP p) (hv : Sl .u64 w v xs) (hu : Sl .u64 w u ys) (hm : xs.length ≤ 1000000) (hn : ys.length ≤ 1000000) :
    Calls Try.prog 90 #[.agg #[.int .u64 p], v, u] w (RetP p w (max xs.length ys.length) (pl p xs + pl p ys)) := by
  have B : Below w.heap.size w (w.alloc (.cells #[.int .u64 p] 29)) := (Below.refl _ _).alloc (Nat.le_refl _) _
  have hcp : (w.alloc (.cells #[.int .u64 p] 29)).cell? ⟨w.heap.size, 0, none⟩ = some (.int .u64 p) := (World.ownsRow_lit w #[.int .u64 p] 1 (Nat.le_refl _) (by unfold maxLen; omega) rfl : Own .u64 29 (w.alloc (.cells #[.int .u64 p] 29)) w.heap.size (.slice (some ⟨w.heap.size, 0, none⟩) 1 1) [p]).cellAt 0 (by simp)
  have hg : w.heap.size < (w.alloc (.cells #[.int .u64 p] 29)).heap.size := by simp
  have HP := Lib.hid hp; clear hp
  go_enter Try.func90, Try.ntmps90
  go_wp2_with fail
  generalize w.alloc (.cells #[.int .u64 p] 29) = wb at *
  obtain ⟨g, eg⟩ : ∃ g, g = w.heap.size := ⟨_, rfl⟩
  rw [← eg] at hcp hg ⊢
  have hgw : w.heap.size ≤ g := by omega
  clear eg
  have hbx : Box w wb g := ⟨hg, B⟩
  clear hg B
  refine (fp_bothAdd p v u xs ys _ HP.out (hv.next hbx.below) (hu.next hbx.below) hm hn).mono ?_; rintro e w2 ⟨r, z2, rfl, o2, m2, v2, l2, b2⟩
  have V2 := Lib.hid v2; clear v2
  go_wp2
  go_ret
  exact ⟨r, z2, rfl, o2.mono hbx.below.size, m2, V2.out, l2, hbx.below.trans (b2.mono hbx.below.size)⟩

theorem both_Sub {p i z x y : Nat} {xs ys zs : List Nat} (hi : i < zs.length) (hv : pl p (zs.take i) = pl p (xs.take i) - pl p (ys.take i)) (hx : x = xs.getD i 0) (hy : y = ys.getD i 0) (hz : Zp.of p z = Zp.of p x - Zp.of p y) :
    pl p ((zs.set i z).take (i + 1)) = pl p (xs.take (i + 1)) - pl p (ys.take (i + 1)) := by
  rw [pl_set_take p zs i z hi, hv, hz, pl_take_succ, pl_take_succ, ← hx, ← hy, CR.sub_eq (Zp.of p x), mon_add, mon_neg]
  exact by_ring [pl p (xs.take i), pl p (ys.take i), mon (Zp.of p x) i, mon (Zp.of p y) i] (X0 - X1 + (X2 + -X3)) (X0 + X2 - (X1 + X3)) rfl

set_option maxHeartbeats 1000000 in
theorem fp_bothSub (p : Nat) (v u : Value) (xs ys : List Nat) (w : World) (hp : FP p) (s0 : Sl .u64 w v xs) (s1 : Sl .u64 w u ys) (hm : xs.length ≤ 1000000) (hn : ys.length ≤ 1000000) :
    Calls Try.prog 123 #[.agg #[.int .u64 p], v, u, .func (.func 119) #[.agg #[.int .u64 p]] #[]] w (RetP p w (max xs.length ys.length) (pl p xs - pl p ys)) := by
  obtain ⟨ao, ba, oa, ca, rfl, la, ka⟩ := s0
  have s0 : Sl .u64 w (.slice ao xs.length ca) xs := ⟨ao, ba, oa, ca, rfl, la, ka⟩
  obtain ⟨bo, bb, ob, cb, rfl, lb, kb⟩ := s1
  have s1 : Sl .u64 w (.slice bo ys.length cb) ys := ⟨bo, bb, ob, cb, rfl, lb, kb⟩
  clear ka kb
  have B : Below w.heap.size w (w.alloc (.cells #[.int .u64 p] 29)) := (Below.refl _ _).alloc (Nat.le_refl _) _
  have hcp : (w.alloc (.cells #[.int .u64 p] 29)).cell? ⟨w.heap.size, 0, none⟩ = some (.int .u64 p) := (World.ownsRow_lit w #[.int .u64 p] 1 (Nat.le_refl _) (by unfold maxLen; omega) rfl : Own .u64 29 (w.alloc (.cells #[.int .u64 p] 29)) w.heap.size (.slice (some ⟨w.heap.size, 0, none⟩) 1 1) [p]).cellAt 0 (by simp)
  have hg : w.heap.size < (w.alloc (.cells #[.int .u64 p] 29)).heap.size := by simp
  have HP := Lib.hid hp; clear hp
  go_enter Try.func123, Try.ntmps123
  go_upto_region 1 with (fail)
  generalize w.alloc (.cells #[.int .u64 p] 29) = wb at *
  obtain ⟨g, eg⟩ : ∃ g, g = w.heap.size := ⟨_, rfl⟩
  rw [← eg] at hcp hg ⊢
  have hgw : w.heap.size ≤ g := by omega
  clear eg
  have hbx : Box w wb g := ⟨hg, B⟩
  clear hg B
  obtain ⟨n, en⟩ : ∃ n, n = max xs.length ys.length := ⟨_, rfl⟩
  rw [← en]
  have hnx : xs.length ≤ n := by omega
  have hny : ys.length ≤ n := by omega
  have hnm : n ≤ 1000000 := by omega
  have hnc : n = xs.length ∨ n = ys.length := by omega
  have EN := Lib.hid en; clear en
  go_cut [9] (fun ov wx => ∃ gg, ov = .slice (some ⟨gg, 0, none⟩) n n ∧ g < gg ∧ Own .u64 27 wx w.heap.size ov (List.replicate n 0) ∧ Box w wx g ∧ wx.cell? ⟨g, 0, none⟩ = some (.int .u64 p))
  case first =>
    go_wp2_with (at_make; refine wp_make .u64 33 27 8 Try.underlying33 (by kernel_rfl) (by decide) rfl _ _ rfl .i64 .i64 n (by omega) _ _ _ rfl rfl (by omega) (by omega) ?_; intro w1 hown hbel hsz)
    all_goals go_meet
    all_goals exact ⟨_, rfl, hbx.lt, hown.mono hbx.below.size, hbx.next hbel, (hbel.cell (p := ⟨g, 0, none⟩) hbx.lt).trans hcp⟩
  case rest =>
    clear hbx hcp
    obtain ⟨gg, rfl, hgg, hown, hbx, hcp⟩ := hcut
    have hne : g ≠ gg := by omega
    have hggw : w.heap.size ≤ gg := by omega
    clear hgg hgw hnc
    go_wp2_with fail
    go_loopw [19] (fun iv wr => ∃ (i : Nat) (zs : List Nat), i ≤ n ∧ iv = .int .i64 i ∧ Box w wr g ∧ wr.cell? ⟨g, 0, none⟩ = some (.int .u64 p) ∧ Own .u64 27 wr w.heap.size (.slice (some ⟨gg, 0, none⟩) n n) zs ∧ zs.length = n ∧ pl p (zs.take i) = pl p (xs.take i) - pl p (ys.take i)) (fun iv _ => n - (intOf iv).toNat)
    case atStart => exact ⟨0, List.replicate n 0, by omega, rfl, hbx, hcp, hown, by simp, by simp only [List.take_zero, pl_nil]; rw [CR.sub_zero]⟩
    case round =>
      clear hown hcp hbx
      obtain ⟨i, zs, hi, rfl, hbx, hcp, ho, hzl, hval⟩ := hrel
      have HV := Lib.hid hval; clear hval
      by_cases hlt : i < n
      · obtain ⟨x, ex⟩ : ∃ x, x = xs.getD i 0 := ⟨_, rfl⟩
        obtain ⟨y, ey⟩ : ∃ y, y = ys.getD i 0 := ⟨_, rfl⟩
        obtain ⟨z, ez⟩ : ∃ z, z = (Zp.of p x - Zp.of p y).val := ⟨_, rfl⟩
        have c1 := fp_at _ xs i wr (s0.next hbx.below)
        have c2 := fp_at _ ys i wr (s1.next hbx.below)
        rw [← ex] at c1
        rw [← ey] at c2
        have C1 := Lib.hid c1
        have C2 := Lib.hid c2
        have C3 := Lib.hid (fun w => gfp_Sub p x y z w HP.out ez)
        have AR := Lib.hid (both_Sub (z := z) (by omega) HV.out ex ey (Zp.fact HP.out ez).2)
        clear c1 c2 ex ey ez
        have i0 : (0 : Int) ≤ (i : Int) := Int.natCast_nonneg _
        have i1 : (i : Int) < (n : Int) := by omega
        go_wp2_with fail
        refine C1.out.mono ?_; rintro e w' ⟨rfl, rfl⟩
        go_wp2_with fail
        refine C2.out.mono ?_; rintro e w' ⟨rfl, rfl⟩
        go_wp2_with fail
        refine (C3.out _).mono ?_; rintro e w3 ⟨rfl, b3⟩
        replace hcp := (b3.cell (p := ⟨g, 0, none⟩) hbx.lt).trans hcp
        replace hbx := hbx.next b3
        replace ho := ho.next b3
        have hc' := ho.cellAt i (by omega)
        have hf' := ho.frozenAt i
        have ho2 := (ho.store i z).1
        have hbx2 : Box w (w3.setCell ⟨gg, i, none⟩ (.int .u64 (z : Int))) g := Box.set hbx hggw _
        have hcp2 : (w3.setCell ⟨gg, i, none⟩ (.int .u64 (z : Int))).cell? ⟨g, 0, none⟩ = some (.int .u64 (p : Int)) := (set_far _ _ _ ⟨g, 0, none⟩ hne).trans hcp
        clear b3 ho hbx hcp
        go_wp2
        go_roundw
        case rel => exact ⟨i + 1, zs.set i z, by omega, by go_num, hbx2, hcp2, ho2, by simpa using hzl, AR.out⟩
        case measure => simp [intOf] <;> omega
      · obtain rfl : i = n := by omega
        have hend : pl p zs = pl p xs - pl p ys := by
          have := HV.out
          rwa [pl_take_all p zs i (by omega), pl_take_all p xs i hnx, pl_take_all p ys i hny] at this
        have HE := Lib.hid hend; clear hend
        have HZL := Lib.hid hzl
        go_wp2_with fail
        refine (fp_Norm p _ zs _ HP.out ho.sl (by omega)).mono ?_; rintro e w2 ⟨r, z2, rfl, o2, m2, v2, l2, b2⟩
        have V2 := Lib.hid v2; clear v2
        go_wp2
        go_ret
        exact ⟨r, z2, rfl, o2.mono hbx.below.size, m2, by rw [V2.out, HE.out], by have h1 := HZL.out; have h2 := EN.out; omega, hbx.below.trans (b2.mono hbx.below.size)⟩

set_option maxHeartbeats 1000000 in
theorem fp_Sub (p : Nat) (v u : Value) (xs ys : List Nat) (w : World) (hp : FP p) (hv : Sl .u64 w v xs) (hu : Sl .u64 w u ys) (hm : xs.length ≤ 1000000) (hn : ys.length ≤ 1000000) :
    Calls Try.prog 79 #[.agg #[.int .u64 p], v, u] w (RetP p w (max xs.length ys.length) (pl p xs - pl p ys)) := by
  have B : Below w.heap.size w (w.alloc (.cells #[.int .u64 p] 29)) := (Below.refl _ _).alloc (Nat.le_refl _) _
  have hcp : (w.alloc (.cells #[.int .u64 p] 29)).cell? ⟨w.heap.size, 0, none⟩ = some (.int .u64 p) := (World.ownsRow_lit w #[.int .u64 p] 1 (Nat.le_refl _) (by unfold maxLen; omega) rfl : Own .u64 29 (w.alloc (.cells #[.int .u64 p] 29)) w.heap.size (.slice (some ⟨w.heap.size, 0, none⟩) 1 1) [p]).cellAt 0 (by simp)
  have hg : w.heap.size < (w.alloc (.cells #[.int .u64 p] 29)).heap.size := by simp
  have HP := Lib.hid hp; clear hp
  go_enter Try.func79, Try.ntmps79
  go_wp2_with fail
  generalize w.alloc (.cells #[.int .u64 p] 29) = wb at *
  obtain ⟨g, eg⟩ : ∃ g, g = w.heap.size := ⟨_, rfl⟩
  rw [← eg] at hcp hg ⊢
  have hgw : w.heap.size ≤ g := by omega
  clear eg
  have hbx : Box w wb g := ⟨hg, B⟩
  clear hg B
  refine (fp_bothSub p v u xs ys _ HP.out (hv.next hbx.below) (hu.next hbx.below) hm hn).mono ?_; rintro e w2 ⟨r, z2, rfl, o2, m2, v2, l2, b2⟩
  have V2 := Lib.hid v2; clear v2
  go_wp2
  go_ret
  exact ⟨r, z2, rfl, o2.mono hbx.below.size, m2, V2.out, l2, hbx.below.trans (b2.mono hbx.below.size)⟩

end Go.Proofs.Ythghdjpjbngllaa
