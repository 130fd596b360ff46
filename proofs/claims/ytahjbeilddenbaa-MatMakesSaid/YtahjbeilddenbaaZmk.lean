/- Package zmat: noughts, the identity, some rows, one under and beside another. -/
import Derived.Test.YtahjbeilddenbaaZawake
namespace Go.Proofs.Ytahjbeilddenbaa
open Go.RowKit

theorem IvN.fz (w : World) (L : Nat) : Iv w (.agg #[.bool false, .slice none 0 0]) 0 L := (IvN.zero w L).iv

theorem zmat_New1 (i k : Int) (LL : Nat) (w : World) : Calls Try.prog 66 #[.int .i64 i, .int .i64 k] w (RetJ w LL 0) := by
  obtain ⟨wb, ew, KC, B0, hsz⟩ := boxes1 w 36 [.bool false, .slice none 0 0]
  clear hsz
  go_enter Try.func66, Try.ntmps66
  go_upto_region 1 with (fail)
  rw [← ew]
  obtain ⟨g, eg⟩ : ∃ g, g = w.heap.size := ⟨_, rfl⟩
  rw [← eg] at KC ⊢
  have hgw : w.heap.size ≤ g := by omega
  clear ew eg
  have f0 := KC.free 0; have f1 := KC.free 1
  have c0 := KC.cell 0; have c1 := KC.cell 1
  have KF := (KC.set 0 (.bool false)).set 1 (.slice none 0 0)
  have d0 := KF.cell 0; have d1 := KF.cell 1
  have FR := Lib.hid (show RetJ w LL 0 (.returned (.agg #[.bool false, .slice none 0 0])) ((wb.setCell ⟨g, 0, none⟩ (.bool false)).setCell ⟨g, 1, none⟩ (.slice none 0 0)) from ⟨_, rfl, IvN.fz _ _, (B0.setCell (p := ⟨g, 0, none⟩) hgw (.bool false)).setCell (p := ⟨g, 1, none⟩) hgw (.slice none 0 0)⟩)
  clear KF
  go_wp2
  exact bodyPost_ret (v := .agg #[.bool false, .slice none 0 0]) (by simp [results, Try.results66, go_sem, d0, d1]) rfl FR.out

theorem zmat_Identity1_one (i k : Nat) (hik : i = k) (w : World) : Calls Try.prog 61 #[.int .i64 i, .int .i64 k] w (RetJ w 1 1) := by
  obtain ⟨wb, ew, KC, B0, hsz⟩ := boxes1 w 36 [.bool false, .slice none 0 0]
  clear hsz
  subst hik
  obtain ⟨LL, eL⟩ : ∃ LL, LL = 1 := ⟨_, rfl⟩
  rw [← eL]
  have hLL : 1 ≤ LL := by omega
  clear eL
  obtain ⟨Z, eZ⟩ : ∃ Z : Int, Z = 1 := ⟨_, rfl⟩
  rw [← eZ]
  have EZ := Lib.hid eZ; clear eZ
  have hq : ((i : Int) == (i : Int)) = true := by simp
  go_enter Try.func61, Try.ntmps61
  go_upto_region 1 with (fail)
  rw [← ew]
  obtain ⟨g, eg⟩ : ∃ g, g = w.heap.size := ⟨_, rfl⟩
  rw [← eg] at KC ⊢
  have hgw : w.heap.size ≤ g := by omega
  clear ew eg
  go_wp2_with fail
  refine (zi_Of 1 _ (by omega)).mono ?_; rintro e w2 ⟨v2, rfl, h2, b2, -⟩
  obtain ⟨s2, a2, n2, c2, rfl⟩ := h2.agg
  replace KC := KC.next b2
  replace B0 := B0.trans (b2.mono B0.size)
  have h5 := h2.iv.mono hLL
  rw [← EZ.out] at h5
  have f0 := (KC).free 0; have f1 := (KC).free 1
  have c0 := (KC).cell 0; have c1 := (KC).cell 1
  have KF := ((KC).set 0 (.bool s2)).set 1 (.slice a2 n2 c2)
  have d0 := KF.cell 0; have d1 := KF.cell 1
  have FR := Lib.hid (show RetJ w LL Z (.returned (.agg #[.bool s2, .slice a2 n2 c2])) ((w2.setCell ⟨g, 0, none⟩ (.bool s2)).setCell ⟨g, 1, none⟩ (.slice a2 n2 c2)) from ⟨_, rfl, (h5).put (KC) s2 (.slice a2 n2 c2), ((B0).setCell (p := ⟨g, 0, none⟩) hgw (.bool s2)).setCell (p := ⟨g, 1, none⟩) hgw (.slice a2 n2 c2)⟩)
  clear KF
  go_wp2
  exact bodyPost_ret (v := .agg #[.bool s2, .slice a2 n2 c2]) (by simp [results, Try.results61, go_sem, d0, d1]) rfl FR.out

theorem zmat_Identity1_no (i k : Nat) (hik : i ≠ k) (LL : Nat) (w : World) : Calls Try.prog 61 #[.int .i64 i, .int .i64 k] w (RetJ w LL 0) := by
  obtain ⟨wb, ew, KC, B0, hsz⟩ := boxes1 w 36 [.bool false, .slice none 0 0]
  clear hsz
  have hq : ((i : Int) == (k : Int)) = false := by simp; omega
  go_enter Try.func61, Try.ntmps61
  go_upto_region 1 with (fail)
  rw [← ew]
  obtain ⟨g, eg⟩ : ∃ g, g = w.heap.size := ⟨_, rfl⟩
  rw [← eg] at KC ⊢
  have hgw : w.heap.size ≤ g := by omega
  clear ew eg
  have f0 := KC.free 0; have f1 := KC.free 1
  have c0 := KC.cell 0; have c1 := KC.cell 1
  have KF := (KC.set 0 (.bool false)).set 1 (.slice none 0 0)
  have d0 := KF.cell 0; have d1 := KF.cell 1
  have FR := Lib.hid (show RetJ w LL 0 (.returned (.agg #[.bool false, .slice none 0 0])) ((wb.setCell ⟨g, 0, none⟩ (.bool false)).setCell ⟨g, 1, none⟩ (.slice none 0 0)) from ⟨_, rfl, IvN.fz _ _, (B0.setCell (p := ⟨g, 0, none⟩) hgw (.bool false)).setCell (p := ⟨g, 1, none⟩) hgw (.slice none 0 0)⟩)
  clear KF
  go_wp2
  exact bodyPost_ret (v := .agg #[.bool false, .slice none 0 0]) (by simp [results, Try.results61, go_sem, d0, d1]) rfl FR.out

theorem zmat_New (r c : Nat) (w : World) (hr : r ≤ 64) (hc : c ≤ 64) :
    Calls Try.prog 35 #[.int .i64 r, .int .i64 c] w (RetE w 0 r c (tab c (fun _ _ => 0) (r * c)) 0) := by
  obtain ⟨wb, ew, KR, B0, hsz⟩ := boxes1 w 24 [.int .i64 0, .int .i64 0, .slice none 0 0]
  clear hsz
  obtain ⟨zs, ezs⟩ : ∃ zs, zs = tab c (fun _ _ => 0) (r * c) := ⟨_, rfl⟩
  rw [← ezs]
  have EZ := Lib.hid ezs; clear ezs
  go_enter Try.func35, Try.ntmps35
  go_wp2_with fail
  rw [← ew]
  obtain ⟨g, eg⟩ : ∃ g, g = w.heap.size := ⟨_, rfl⟩
  rw [← eg] at KR ⊢
  have hgw : w.heap.size ≤ g := by omega
  clear ew eg
  refine (zmat_side_yes r _ ⟨by omega, by omega⟩).mono ?_; rintro e wx ⟨rfl, rfl⟩
  go_wp2_with fail
  refine (zmat_side_yes c _ ⟨by omega, by omega⟩).mono ?_; rintro e wx ⟨rfl, rfl⟩
  go_wp2_with fail
  refine (zmat_made r c (by omega) (by omega) 66 (enters_of Try.func66 rfl rfl) [] (fun i k => 0) (0) (by omega) _ (fun i k w' hi hk hb =>
    zmat_New1 i k 0 w')).mono ?_; rintro e w3 ⟨v3, rfl, h3, b3⟩
  rw [← EZ.out] at h3
  obtain ⟨a3, k3, rfl⟩ := h3.agg
  replace KR := KR.next b3
  replace B0 := B0.trans (b3.mono B0.size)
  have f0 := KR.free 0; have f1 := KR.free 1; have f2 := KR.free 2
  have c0 := KR.cell 0; have c1 := KR.cell 1; have c2 := KR.cell 2
  have KF := ((KR.set 0 (.int .i64 (r : Nat))).set 1 (.int .i64 (c : Nat))).set 2 (.slice a3 zs.length k3)
  have d0 := KF.cell 0; have d1 := KF.cell 1; have d2 := KF.cell 2
  have FR := Lib.hid (show RetE w (0) r c zs 0 (.returned (.tuple #[.agg #[.int .i64 (r : Nat), .int .i64 (c : Nat), .slice a3 zs.length k3], .int .i64 0])) (((w3.setCell ⟨g, 0, none⟩ (.int .i64 (r : Nat))).setCell ⟨g, 1, none⟩ (.int .i64 (c : Nat))).setCell ⟨g, 2, none⟩ (.slice a3 zs.length k3)) from ⟨_, rfl, h3.put KR _ _ _, ((B0.setCell (p := ⟨g, 0, none⟩) hgw _).setCell (p := ⟨g, 1, none⟩) hgw _).setCell (p := ⟨g, 2, none⟩) hgw _⟩)
  clear KF KR h3 B0 b3
  go_wp2
  exact bodyPost_ret (v := .tuple #[.agg #[.int .i64 (r : Nat), .int .i64 (c : Nat), .slice a3 zs.length k3], .int .i64 0]) (by simp [results, Try.results35, go_sem, d0, d1, d2]) rfl FR.out

theorem zmat_New_arg (R C : Int) (w : World) (h : ¬ (Sd R ∧ Sd C)) :
    Calls Try.prog 35 #[.int .i64 R, .int .i64 C] w (RetE w 0 0 0 [] 1) := by
  obtain ⟨wb, ew, KR, B0, hsz⟩ := boxes1 w 24 [.int .i64 0, .int .i64 0, .slice none 0 0]
  clear hsz
  by_cases h1 : Sd R
  · have h2 : ¬ Sd C := fun h2 => h ⟨h1, h2⟩
    go_enter Try.func35, Try.ntmps35
    go_wp2_with fail
    rw [← ew]
    obtain ⟨g, eg⟩ : ∃ g, g = w.heap.size := ⟨_, rfl⟩
    rw [← eg] at KR ⊢
    have hgw : w.heap.size ≤ g := by omega
    clear ew eg
    refine (zmat_side_yes R _ h1).mono ?_; rintro e wx ⟨rfl, rfl⟩
    go_wp2_with fail
    refine (zmat_side_no C _ h2).mono ?_; rintro e wx ⟨rfl, rfl⟩
    have f0 := KR.free 0; have f1 := KR.free 1; have f2 := KR.free 2
    have c0 := KR.cell 0; have c1 := KR.cell 1; have c2 := KR.cell 2
    have KF := ((KR.set 0 (.int .i64 0)).set 1 (.int .i64 0)).set 2 (.slice none 0 0)
    have d0 := KF.cell 0; have d1 := KF.cell 1; have d2 := KF.cell 2
    have FR := Lib.hid (show RetE w 0 0 0 [] 1 (.returned (.tuple #[.agg #[.int .i64 0, .int .i64 0, .slice none 0 0], .int .i64 1])) (((wb.setCell ⟨g, 0, none⟩ (.int .i64 0)).setCell ⟨g, 1, none⟩ (.int .i64 0)).setCell ⟨g, 2, none⟩ (.slice none 0 0)) from ⟨_, rfl, MtN.none _ _, ((B0.setCell (p := ⟨g, 0, none⟩) hgw _).setCell (p := ⟨g, 1, none⟩) hgw _).setCell (p := ⟨g, 2, none⟩) hgw _⟩)
    clear KF KR B0
    go_wp2
    exact bodyPost_ret (v := .tuple #[.agg #[.int .i64 0, .int .i64 0, .slice none 0 0], .int .i64 1]) (by simp [results, Try.results35, go_sem, d0, d1, d2]) rfl FR.out
  · go_enter Try.func35, Try.ntmps35
    go_wp2_with fail
    rw [← ew]
    obtain ⟨g, eg⟩ : ∃ g, g = w.heap.size := ⟨_, rfl⟩
    rw [← eg] at KR ⊢
    have hgw : w.heap.size ≤ g := by omega
    clear ew eg
    refine (zmat_side_no R _ h1).mono ?_; rintro e wx ⟨rfl, rfl⟩
    have f0 := KR.free 0; have f1 := KR.free 1; have f2 := KR.free 2
    have c0 := KR.cell 0; have c1 := KR.cell 1; have c2 := KR.cell 2
    have KF := ((KR.set 0 (.int .i64 0)).set 1 (.int .i64 0)).set 2 (.slice none 0 0)
    have d0 := KF.cell 0; have d1 := KF.cell 1; have d2 := KF.cell 2
    have FR := Lib.hid (show RetE w 0 0 0 [] 1 (.returned (.tuple #[.agg #[.int .i64 0, .int .i64 0, .slice none 0 0], .int .i64 1])) (((wb.setCell ⟨g, 0, none⟩ (.int .i64 0)).setCell ⟨g, 1, none⟩ (.int .i64 0)).setCell ⟨g, 2, none⟩ (.slice none 0 0)) from ⟨_, rfl, MtN.none _ _, ((B0.setCell (p := ⟨g, 0, none⟩) hgw _).setCell (p := ⟨g, 1, none⟩) hgw _).setCell (p := ⟨g, 2, none⟩) hgw _⟩)
    clear KF KR B0
    go_wp2
    exact bodyPost_ret (v := .tuple #[.agg #[.int .i64 0, .int .i64 0, .slice none 0 0], .int .i64 1]) (by simp [results, Try.results35, go_sem, d0, d1, d2]) rfl FR.out

/-- The identity's numbers. -/
def idL (n : Nat) : List Int := tab n (fun i k => if i = k then 1 else 0) (n * n)
theorem idL_length (n : Nat) : (idL n).length = n * n := tab_length _ _ _

theorem zmat_Identity1 (i k : Nat) (w : World) : Calls Try.prog 61 #[.int .i64 i, .int .i64 k] w (RetJ w 1 (if i = k then 1 else 0)) := by
  by_cases h : i = k
  · rw [if_pos h]; exact zmat_Identity1_one i k h w
  · rw [if_neg h]; exact zmat_Identity1_no i k h 1 w

theorem zmat_Identity (n : Nat) (w : World) (hn : n ≤ 64) :
    Calls Try.prog 29 #[.int .i64 n] w (RetE w 1 n n (idL n) 0) := by
  obtain ⟨wb, ew, KR, B0, hsz⟩ := boxes1 w 24 [.int .i64 0, .int .i64 0, .slice none 0 0]
  clear hsz
  obtain ⟨zs, ezs⟩ : ∃ zs, zs = idL n := ⟨_, rfl⟩
  rw [← ezs]
  have EZ := Lib.hid ezs; clear ezs
  go_enter Try.func29, Try.ntmps29
  go_wp2_with fail
  rw [← ew]
  obtain ⟨g, eg⟩ : ∃ g, g = w.heap.size := ⟨_, rfl⟩
  rw [← eg] at KR ⊢
  have hgw : w.heap.size ≤ g := by omega
  clear ew eg
  refine (zmat_side_yes n _ ⟨by omega, by omega⟩).mono ?_; rintro e wx ⟨rfl, rfl⟩
  go_wp2_with fail
  refine (zmat_made n n (by omega) (by omega) 61 (enters_of Try.func61 rfl rfl) [] (fun i k => if i = k then 1 else 0) (1) (by omega) _ (fun i k w' hi hk hb =>
    zmat_Identity1 i k w')).mono ?_; rintro e w3 ⟨v3, rfl, h3, b3⟩
  replace h3 : MtN w3 v3 n n (idL n) 1 := h3
  rw [← EZ.out] at h3
  obtain ⟨a3, k3, rfl⟩ := h3.agg
  replace KR := KR.next b3
  replace B0 := B0.trans (b3.mono B0.size)
  have f0 := KR.free 0; have f1 := KR.free 1; have f2 := KR.free 2
  have c0 := KR.cell 0; have c1 := KR.cell 1; have c2 := KR.cell 2
  have KF := ((KR.set 0 (.int .i64 (n : Nat))).set 1 (.int .i64 (n : Nat))).set 2 (.slice a3 zs.length k3)
  have d0 := KF.cell 0; have d1 := KF.cell 1; have d2 := KF.cell 2
  have FR := Lib.hid (show RetE w (1) n n zs 0 (.returned (.tuple #[.agg #[.int .i64 (n : Nat), .int .i64 (n : Nat), .slice a3 zs.length k3], .int .i64 0])) (((w3.setCell ⟨g, 0, none⟩ (.int .i64 (n : Nat))).setCell ⟨g, 1, none⟩ (.int .i64 (n : Nat))).setCell ⟨g, 2, none⟩ (.slice a3 zs.length k3)) from ⟨_, rfl, h3.put KR _ _ _, ((B0.setCell (p := ⟨g, 0, none⟩) hgw _).setCell (p := ⟨g, 1, none⟩) hgw _).setCell (p := ⟨g, 2, none⟩) hgw _⟩)
  clear KF KR h3 B0 b3
  go_wp2
  exact bodyPost_ret (v := .tuple #[.agg #[.int .i64 (n : Nat), .int .i64 (n : Nat), .slice a3 zs.length k3], .int .i64 0]) (by simp [results, Try.results29, go_sem, d0, d1, d2]) rfl FR.out

theorem zmat_Identity_arg (R : Int) (w : World) (h : ¬ Sd R) :
    Calls Try.prog 29 #[.int .i64 R] w (RetE w 0 0 0 [] 1) := by
  obtain ⟨wb, ew, KR, B0, hsz⟩ := boxes1 w 24 [.int .i64 0, .int .i64 0, .slice none 0 0]
  clear hsz
  go_enter Try.func29, Try.ntmps29
  go_wp2_with fail
  rw [← ew]
  obtain ⟨g, eg⟩ : ∃ g, g = w.heap.size := ⟨_, rfl⟩
  rw [← eg] at KR ⊢
  have hgw : w.heap.size ≤ g := by omega
  clear ew eg
  refine (zmat_side_no R _ h).mono ?_; rintro e wx ⟨rfl, rfl⟩
  have f0 := KR.free 0; have f1 := KR.free 1; have f2 := KR.free 2
  have c0 := KR.cell 0; have c1 := KR.cell 1; have c2 := KR.cell 2
  have KF := ((KR.set 0 (.int .i64 0)).set 1 (.int .i64 0)).set 2 (.slice none 0 0)
  have d0 := KF.cell 0; have d1 := KF.cell 1; have d2 := KF.cell 2
  have FR := Lib.hid (show RetE w 0 0 0 [] 1 (.returned (.tuple #[.agg #[.int .i64 0, .int .i64 0, .slice none 0 0], .int .i64 1])) (((wb.setCell ⟨g, 0, none⟩ (.int .i64 0)).setCell ⟨g, 1, none⟩ (.int .i64 0)).setCell ⟨g, 2, none⟩ (.slice none 0 0)) from ⟨_, rfl, MtN.none _ _, ((B0.setCell (p := ⟨g, 0, none⟩) hgw _).setCell (p := ⟨g, 1, none⟩) hgw _).setCell (p := ⟨g, 2, none⟩) hgw _⟩)
  clear KF KR B0
  go_wp2
  exact bodyPost_ret (v := .tuple #[.agg #[.int .i64 0, .int .i64 0, .slice none 0 0], .int .i64 1]) (by simp [results, Try.results29, go_sem, d0, d1, d2]) rfl FR.out

theorem zmat_Rows1 (R1 : Int) (c i k : Nat) (xs : List Int) (L : Nat) (ga : Nat) (ao : Option Addr) (ca : Nat) (fr : Nat) (gf : Nat) (w : World)
    (KA : Blk 24 w ga [.int .i64 R1, .int .i64 c, .slice ao xs.length ca]) (hA : Mt w (.agg #[.int .i64 R1, .int .i64 c, .slice ao xs.length ca]) R1 c xs L)
    (hi : i ≤ 100000) (hc : c ≤ 100000) (hk : k ≤ 100000) (KF0 : Blk 3 w gf [.int .i64 fr]) (hfr : fr ≤ 50000) (hi5 : i ≤ 50000) (hx : (fr + i) * c + k < xs.length) :
    Calls Try.prog 62 #[.int .i64 i, .int .i64 k, .pointer (some ⟨ga, 0, none⟩), .pointer (some ⟨gf, 0, none⟩)] w (RetJ w (L) (xs.getD ((fr + i) * c + k) 0)) := by
  obtain ⟨wb, ew, KC, B0, hsz⟩ := boxes1 w 36 [.bool false, .slice none 0 0]
  clear hsz
  obtain ⟨Z, eZ⟩ : ∃ Z, Z = xs.getD ((fr + i) * c + k) 0 := ⟨_, rfl⟩
  rw [← eZ]
  have EZ := Lib.hid eZ; clear eZ
  obtain ⟨LL, eL⟩ : ∃ LL, LL = L := ⟨_, rfl⟩
  rw [← eL]
  have hLL : L ≤ LL := by omega
  clear eL
  go_enter Try.func62, Try.ntmps62
  go_upto_region 1 with (fail)
  rw [← ew]
  obtain ⟨g, eg⟩ : ∃ g, g = w.heap.size := ⟨_, rfl⟩
  rw [← eg] at KC ⊢
  have hgw : w.heap.size ≤ g := by omega
  clear ew eg
  replace KA := KA.next B0; replace hA := hA.next B0
  have a0 := KA.cell 0; have a1 := KA.cell 1; have a2 := KA.cell 2
  replace KF0 := KF0.next B0; have a3 := KF0.cell 0
  have hw1 : IntKind.i64.wrap ((fr : Int) + (i : Int)) = ((fr + i : Nat) : Int) := by rw [← Int.natCast_add]; exact IntWalk.i64_in _ ⟨by omega, by omega⟩
  go_wp2_with fail
  refine (zmat_get _ R1 c (fr + i) k xs L _ hA (by omega) hc hk hx).mono ?_; rintro e w2 ⟨v2, rfl, h2, b2⟩
  obtain ⟨s2, a2, n2, c2, rfl⟩ := h2.agg
  replace KC := KC.next b2
  replace B0 := B0.trans (b2.mono B0.size)
  have h5 := h2.mono hLL
  rw [← EZ.out] at h5
  have f0 := (KC).free 0; have f1 := (KC).free 1
  have c0 := (KC).cell 0; have c1 := (KC).cell 1
  have KF := ((KC).set 0 (.bool s2)).set 1 (.slice a2 n2 c2)
  have d0 := KF.cell 0; have d1 := KF.cell 1
  have FR := Lib.hid (show RetJ w LL Z (.returned (.agg #[.bool s2, .slice a2 n2 c2])) ((w2.setCell ⟨g, 0, none⟩ (.bool s2)).setCell ⟨g, 1, none⟩ (.slice a2 n2 c2)) from ⟨_, rfl, (h5).put (KC) s2 (.slice a2 n2 c2), ((B0).setCell (p := ⟨g, 0, none⟩) hgw (.bool s2)).setCell (p := ⟨g, 1, none⟩) hgw (.slice a2 n2 c2)⟩)
  clear KF
  go_wp2
  exact bodyPost_ret (v := .agg #[.bool s2, .slice a2 n2 c2]) (by simp [results, Try.results62, go_sem, d0, d1]) rfl FR.out

theorem zmat_Rows (a : Value) (r c fr en : Nat) (xs : List Int) (L : Nat) (w : World) (hA : Mt w a r c xs L) (hr : r ≤ 64) (hc : c ≤ 64) (hx : xs.length = r * c) (h1 : fr ≤ en) (h2 : en ≤ r) (hL : L ≤ 100000) :
    Calls Try.prog 31 #[a, .int .i64 fr, .int .i64 en] w (RetE w L (en - fr) c (tab c (fun i k => xs.getD ((fr + i) * c + k) 0) ((en - fr) * c)) 0) := by
  obtain ⟨ao, ca, rfl⟩ := hA.agg
  obtain ⟨wb, ew, KA, KF, KR, B0, hsz⟩ := boxes2 w 24 3 24 [.int .i64 r, .int .i64 c, .slice ao xs.length ca] [.int .i64 fr] [.int .i64 0, .int .i64 0, .slice none 0 0]
  clear hsz
  replace hA := hA.next B0
  have HX := Lib.hid hx; clear hx
  obtain ⟨zs, ezs⟩ : ∃ zs, zs = tab c (fun i k => xs.getD ((fr + i) * c + k) 0) ((en - fr) * c) := ⟨_, rfl⟩
  rw [← ezs]
  have EZ := Lib.hid ezs; clear ezs
  obtain ⟨d, ed⟩ : ∃ d, d = en - fr := ⟨_, rfl⟩
  rw [← ed] at EZ ⊢
  have hw1 : IntKind.i64.wrap ((en : Int) - (fr : Int)) = (d : Int) := by rw [show (en : Int) - (fr : Int) = (d : Int) by omega]; exact IntWalk.i64_in _ ⟨by omega, by omega⟩
  have t1 : decide ((fr : Int) < 0) = false := decide_eq_false (by omega)
  have t2 : decide ((fr : Int) > (en : Int)) = false := decide_eq_false (by omega)
  have t3 : decide ((en : Int) > (r : Int)) = false := decide_eq_false (by omega)
  have HD := Lib.hid ed; clear ed
  go_enter Try.func31, Try.ntmps31
  go_wp2_with fail
  rw [← ew]
  obtain ⟨g, eg⟩ : ∃ g, g = w.heap.size + 1 + 1 := ⟨_, rfl⟩
  rw [← eg] at KR ⊢
  have hgw : w.heap.size ≤ g := by omega
  clear ew eg
  refine (zmat_Formed_yes _ r c xs L _ hA (Fm.of hr hc HX.out)).mono ?_; rintro e w2 ⟨rfl, b2⟩
  replace hA := hA.next b2; replace KA := KA.next b2; replace KF := KF.next b2; replace KR := KR.next b2
  replace B0 := B0.trans (b2.mono B0.size)
  clear b2
  have fKA0 := KA.cell 0; have fKA1 := KA.cell 1; have fKF0 := KF.cell 0
  go_wp2_with fail
  refine (zmat_made d c (by have := HD.out; omega) (by omega) 62 (enters_of Try.func62 rfl rfl) [.pointer (some ⟨w.heap.size, 0, none⟩), .pointer (some ⟨w.heap.size + 1, 0, none⟩)] (fun i k => xs.getD ((fr + i) * c + k) 0) (L) (by omega) _ (fun i k w' hi hk hb =>
    zmat_Rows1 r c i k xs L _ ao ca fr _ w' (KA.next hb) (hA.next hb) (by have := HD.out; omega) (by omega) (by omega) (KF.next hb) (by omega) (by have := HD.out; omega) (at_lt HX.out (by have := HD.out; omega) hk))).mono ?_; rintro e w3 ⟨v3, rfl, h3, b3⟩
  clear fKA0 fKA1 fKF0
  clear KA KF hA hw1 t1 t2 t3
  rw [← EZ.out] at h3
  obtain ⟨a3, k3, rfl⟩ := h3.agg
  replace KR := KR.next b3
  replace B0 := B0.trans (b3.mono B0.size)
  have f0 := KR.free 0; have f1 := KR.free 1; have f2 := KR.free 2
  have c0 := KR.cell 0; have c1 := KR.cell 1; have c2 := KR.cell 2
  have KF := ((KR.set 0 (.int .i64 (d : Nat))).set 1 (.int .i64 (c : Nat))).set 2 (.slice a3 zs.length k3)
  have d0 := KF.cell 0; have d1 := KF.cell 1; have d2 := KF.cell 2
  have FR := Lib.hid (show RetE w (L) d c zs 0 (.returned (.tuple #[.agg #[.int .i64 (d : Nat), .int .i64 (c : Nat), .slice a3 zs.length k3], .int .i64 0])) (((w3.setCell ⟨g, 0, none⟩ (.int .i64 (d : Nat))).setCell ⟨g, 1, none⟩ (.int .i64 (c : Nat))).setCell ⟨g, 2, none⟩ (.slice a3 zs.length k3)) from ⟨_, rfl, h3.put KR _ _ _, ((B0.setCell (p := ⟨g, 0, none⟩) hgw _).setCell (p := ⟨g, 1, none⟩) hgw _).setCell (p := ⟨g, 2, none⟩) hgw _⟩)
  clear KF KR h3 B0 b3
  go_wp2
  exact bodyPost_ret (v := .tuple #[.agg #[.int .i64 (d : Nat), .int .i64 (c : Nat), .slice a3 zs.length k3], .int .i64 0]) (by simp [results, Try.results31, go_sem, d0, d1, d2]) rfl FR.out

theorem zmat_Rows_arg (a : Value) (r c fr en : Nat) (xs : List Int) (L : Nat) (w : World) (hA : Mt w a r c xs L) (hr : r ≤ 64) (hc : c ≤ 64) (hx : xs.length = r * c) (h : en < fr ∨ r < en) :
    Calls Try.prog 31 #[a, .int .i64 fr, .int .i64 en] w (RetE w 0 0 0 [] 1) := by
  obtain ⟨ao, ca, rfl⟩ := hA.agg
  obtain ⟨wb, ew, KA, KF, KR, B0, hsz⟩ := boxes2 w 24 3 24 [.int .i64 r, .int .i64 c, .slice ao xs.length ca] [.int .i64 fr] [.int .i64 0, .int .i64 0, .slice none 0 0]
  clear hsz
  replace hA := hA.next B0
  have HX := Lib.hid hx; clear hx
  have t1 : decide ((fr : Int) < 0) = false := decide_eq_false (by omega)
  by_cases h1 : en < fr
  · have t2 : decide ((fr : Int) > (en : Int)) = true := decide_eq_true (by omega)
    clear h
    go_enter Try.func31, Try.ntmps31
    go_wp2_with fail
    rw [← ew]
    obtain ⟨g, eg⟩ : ∃ g, g = w.heap.size + 1 + 1 := ⟨_, rfl⟩
    rw [← eg] at KR ⊢
    have hgw : w.heap.size ≤ g := by omega
    clear ew eg
    refine (zmat_Formed_yes _ r c xs L _ hA (Fm.of hr hc HX.out)).mono ?_; rintro e w2 ⟨rfl, b2⟩
    replace KA := KA.next b2; replace KF := KF.next b2; replace KR := KR.next b2
    replace B0 := B0.trans (b2.mono B0.size)
    clear b2
    have fKA0 := KA.cell 0; have fKA1 := KA.cell 1; have fKF0 := KF.cell 0
    have f0 := KR.free 0; have f1 := KR.free 1; have f2 := KR.free 2
    have c0 := KR.cell 0; have c1 := KR.cell 1; have c2 := KR.cell 2
    have KF := ((KR.set 0 (.int .i64 0)).set 1 (.int .i64 0)).set 2 (.slice none 0 0)
    have d0 := KF.cell 0; have d1 := KF.cell 1; have d2 := KF.cell 2
    have FR := Lib.hid (show RetE w 0 0 0 [] 1 (.returned (.tuple #[.agg #[.int .i64 0, .int .i64 0, .slice none 0 0], .int .i64 1])) (((w2.setCell ⟨g, 0, none⟩ (.int .i64 0)).setCell ⟨g, 1, none⟩ (.int .i64 0)).setCell ⟨g, 2, none⟩ (.slice none 0 0)) from ⟨_, rfl, MtN.none _ _, ((B0.setCell (p := ⟨g, 0, none⟩) hgw _).setCell (p := ⟨g, 1, none⟩) hgw _).setCell (p := ⟨g, 2, none⟩) hgw _⟩)
    clear KF KR B0
    go_wp2
    exact bodyPost_ret (v := .tuple #[.agg #[.int .i64 0, .int .i64 0, .slice none 0 0], .int .i64 1]) (by simp [results, Try.results31, go_sem, d0, d1, d2]) rfl FR.out
  · have t2 : decide ((fr : Int) > (en : Int)) = false := decide_eq_false (by omega)
    have t3 : r < en := by omega
    clear h
    go_enter Try.func31, Try.ntmps31
    go_wp2_with fail
    rw [← ew]
    obtain ⟨g, eg⟩ : ∃ g, g = w.heap.size + 1 + 1 := ⟨_, rfl⟩
    rw [← eg] at KR ⊢
    have hgw : w.heap.size ≤ g := by omega
    clear ew eg
    refine (zmat_Formed_yes _ r c xs L _ hA (Fm.of hr hc HX.out)).mono ?_; rintro e w2 ⟨rfl, b2⟩
    replace KA := KA.next b2; replace KF := KF.next b2; replace KR := KR.next b2
    replace B0 := B0.trans (b2.mono B0.size)
    clear b2
    have fKA0 := KA.cell 0; have fKA1 := KA.cell 1; have fKF0 := KF.cell 0
    have f0 := KR.free 0; have f1 := KR.free 1; have f2 := KR.free 2
    have c0 := KR.cell 0; have c1 := KR.cell 1; have c2 := KR.cell 2
    have KF := ((KR.set 0 (.int .i64 0)).set 1 (.int .i64 0)).set 2 (.slice none 0 0)
    have d0 := KF.cell 0; have d1 := KF.cell 1; have d2 := KF.cell 2
    have FR := Lib.hid (show RetE w 0 0 0 [] 1 (.returned (.tuple #[.agg #[.int .i64 0, .int .i64 0, .slice none 0 0], .int .i64 1])) (((w2.setCell ⟨g, 0, none⟩ (.int .i64 0)).setCell ⟨g, 1, none⟩ (.int .i64 0)).setCell ⟨g, 2, none⟩ (.slice none 0 0)) from ⟨_, rfl, MtN.none _ _, ((B0.setCell (p := ⟨g, 0, none⟩) hgw _).setCell (p := ⟨g, 1, none⟩) hgw _).setCell (p := ⟨g, 2, none⟩) hgw _⟩)
    clear KF KR B0
    go_wp2
    exact bodyPost_ret (v := .tuple #[.agg #[.int .i64 0, .int .i64 0, .slice none 0 0], .int .i64 1]) (by simp [results, Try.results31, go_sem, d0, d1, d2]) rfl FR.out

theorem zmat_Stack_a1 (R1 : Int) (c i k : Nat) (xs : List Int) (L : Nat) (ga : Nat) (ao : Option Addr) (ca : Nat) (gb : Nat) (r : Nat) (hRr : R1 = r) (w : World)
    (KA : Blk 24 w ga [.int .i64 R1, .int .i64 c, .slice ao xs.length ca]) (hA : Mt w (.agg #[.int .i64 R1, .int .i64 c, .slice ao xs.length ca]) R1 c xs L)
    (hi : i ≤ 100000) (hc : c ≤ 100000) (hk : k ≤ 100000) (hx : i * c + k < xs.length) (hlt : i < r) :
    Calls Try.prog 63 #[.int .i64 i, .int .i64 k, .pointer (some ⟨ga, 0, none⟩), .pointer (some ⟨gb, 0, none⟩)] w (RetJ w (L) (xs.getD (i * c + k) 0)) := by
  obtain ⟨wb, ew, KC, B0, hsz⟩ := boxes1 w 36 [.bool false, .slice none 0 0]
  clear hsz
  obtain ⟨Z, eZ⟩ : ∃ Z, Z = xs.getD (i * c + k) 0 := ⟨_, rfl⟩
  rw [← eZ]
  have EZ := Lib.hid eZ; clear eZ
  obtain ⟨LL, eL⟩ : ∃ LL, LL = L := ⟨_, rfl⟩
  rw [← eL]
  have hLL : L ≤ LL := by omega
  clear eL
  go_enter Try.func63, Try.ntmps63
  go_upto_region 1 with (fail)
  rw [← ew]
  obtain ⟨g, eg⟩ : ∃ g, g = w.heap.size := ⟨_, rfl⟩
  rw [← eg] at KC ⊢
  have hgw : w.heap.size ≤ g := by omega
  clear ew eg
  replace KA := KA.next B0; replace hA := hA.next B0
  subst hRr
  have a0 := KA.cell 0; have a1 := KA.cell 1; have a2 := KA.cell 2
  have t1 : decide ((i : Int) < (r : Int)) = true := decide_eq_true (by omega)
  go_wp2_with fail
  refine (zmat_get _ r c i k xs L _ hA hi hc hk hx).mono ?_; rintro e w2 ⟨v2, rfl, h2, b2⟩
  obtain ⟨s2, a2, n2, c2, rfl⟩ := h2.agg
  replace KC := KC.next b2
  replace B0 := B0.trans (b2.mono B0.size)
  have h5 := h2.mono hLL
  rw [← EZ.out] at h5
  have f0 := (KC).free 0; have f1 := (KC).free 1
  have c0 := (KC).cell 0; have c1 := (KC).cell 1
  have KF := ((KC).set 0 (.bool s2)).set 1 (.slice a2 n2 c2)
  have d0 := KF.cell 0; have d1 := KF.cell 1
  have FR := Lib.hid (show RetJ w LL Z (.returned (.agg #[.bool s2, .slice a2 n2 c2])) ((w2.setCell ⟨g, 0, none⟩ (.bool s2)).setCell ⟨g, 1, none⟩ (.slice a2 n2 c2)) from ⟨_, rfl, (h5).put (KC) s2 (.slice a2 n2 c2), ((B0).setCell (p := ⟨g, 0, none⟩) hgw (.bool s2)).setCell (p := ⟨g, 1, none⟩) hgw (.slice a2 n2 c2)⟩)
  clear KF
  go_wp2
  exact bodyPost_ret (v := .agg #[.bool s2, .slice a2 n2 c2]) (by simp [results, Try.results63, go_sem, d0, d1]) rfl FR.out

theorem zmat_Stack_b1 (R1 : Int) (c k : Nat) (xs : List Int) (L : Nat) (ga : Nat) (ao : Option Addr) (ca : Nat) (R2 : Int) (c2' : Nat) (ys : List Int) (gb : Nat) (bo : Option Addr) (cb : Nat) (r : Nat) (hRr : R1 = r) (j : Nat) (z : Int) (hz : z = r + j) (w : World)
    (KA : Blk 24 w ga [.int .i64 R1, .int .i64 c, .slice ao xs.length ca]) (hA : Mt w (.agg #[.int .i64 R1, .int .i64 c, .slice ao xs.length ca]) R1 c xs L)
    (hk : k ≤ 100000) (KB : Blk 24 w gb [.int .i64 R2, .int .i64 c2', .slice bo ys.length cb]) (hB : Mt w (.agg #[.int .i64 R2, .int .i64 c2', .slice bo ys.length cb]) R2 c2' ys L) (hj : j ≤ 50000) (hc2 : c2' ≤ 100000) (hx : j * c2' + k < ys.length) :
    Calls Try.prog 63 #[.int .i64 z, .int .i64 k, .pointer (some ⟨ga, 0, none⟩), .pointer (some ⟨gb, 0, none⟩)] w (RetJ w (L) (ys.getD (j * c2' + k) 0)) := by
  obtain ⟨wb, ew, KC, B0, hsz⟩ := boxes1 w 36 [.bool false, .slice none 0 0]
  clear hsz
  obtain ⟨Z, eZ⟩ : ∃ Z, Z = ys.getD (j * c2' + k) 0 := ⟨_, rfl⟩
  rw [← eZ]
  have EZ := Lib.hid eZ; clear eZ
  obtain ⟨LL, eL⟩ : ∃ LL, LL = L := ⟨_, rfl⟩
  rw [← eL]
  have hLL : L ≤ LL := by omega
  clear eL
  go_enter Try.func63, Try.ntmps63
  go_upto_region 1 with (fail)
  rw [← ew]
  obtain ⟨g, eg⟩ : ∃ g, g = w.heap.size := ⟨_, rfl⟩
  rw [← eg] at KC ⊢
  have hgw : w.heap.size ≤ g := by omega
  clear ew eg
  replace KA := KA.next B0; replace hA := hA.next B0
  subst hRr
  have a0 := KA.cell 0; have a1 := KA.cell 1; have a2 := KA.cell 2
  replace KB := KB.next B0; replace hB := hB.next B0
  have e0 := KB.cell 0; have e1 := KB.cell 1; have e2 := KB.cell 2
  have t1 : decide (z < (r : Int)) = false := decide_eq_false (by omega)
  have hw1 : IntKind.i64.wrap (z - (r : Int)) = (j : Int) := by rw [show z - (r : Int) = (j : Int) by omega]; exact IntWalk.i64_in _ ⟨by omega, by omega⟩
  clear hz
  go_wp2_with fail
  refine (zmat_get _ R2 c2' j k ys L _ hB (by omega) (by omega) hk hx).mono ?_; rintro e w2 ⟨v2, rfl, h2, b2⟩
  obtain ⟨s2, a2, n2, c2, rfl⟩ := h2.agg
  replace KC := KC.next b2
  replace B0 := B0.trans (b2.mono B0.size)
  have h5 := h2.mono hLL
  rw [← EZ.out] at h5
  have f0 := (KC).free 0; have f1 := (KC).free 1
  have c0 := (KC).cell 0; have c1 := (KC).cell 1
  have KF := ((KC).set 0 (.bool s2)).set 1 (.slice a2 n2 c2)
  have d0 := KF.cell 0; have d1 := KF.cell 1
  have FR := Lib.hid (show RetJ w LL Z (.returned (.agg #[.bool s2, .slice a2 n2 c2])) ((w2.setCell ⟨g, 0, none⟩ (.bool s2)).setCell ⟨g, 1, none⟩ (.slice a2 n2 c2)) from ⟨_, rfl, (h5).put (KC) s2 (.slice a2 n2 c2), ((B0).setCell (p := ⟨g, 0, none⟩) hgw (.bool s2)).setCell (p := ⟨g, 1, none⟩) hgw (.slice a2 n2 c2)⟩)
  clear KF
  go_wp2
  exact bodyPost_ret (v := .agg #[.bool s2, .slice a2 n2 c2]) (by simp [results, Try.results63, go_sem, d0, d1]) rfl FR.out

theorem zmat_Beside_a1 (R1 : Int) (c i k : Nat) (xs : List Int) (L : Nat) (ga : Nat) (ao : Option Addr) (ca : Nat) (gb : Nat) (r : Nat) (hRr : R1 = r) (w : World)
    (KA : Blk 24 w ga [.int .i64 R1, .int .i64 c, .slice ao xs.length ca]) (hA : Mt w (.agg #[.int .i64 R1, .int .i64 c, .slice ao xs.length ca]) R1 c xs L)
    (hi : i ≤ 100000) (hc : c ≤ 100000) (hk : k ≤ 100000) (hx : i * c + k < xs.length) (hlt : k < c) :
    Calls Try.prog 64 #[.int .i64 i, .int .i64 k, .pointer (some ⟨ga, 0, none⟩), .pointer (some ⟨gb, 0, none⟩)] w (RetJ w (L) (xs.getD (i * c + k) 0)) := by
  obtain ⟨wb, ew, KC, B0, hsz⟩ := boxes1 w 36 [.bool false, .slice none 0 0]
  clear hsz
  obtain ⟨Z, eZ⟩ : ∃ Z, Z = xs.getD (i * c + k) 0 := ⟨_, rfl⟩
  rw [← eZ]
  have EZ := Lib.hid eZ; clear eZ
  obtain ⟨LL, eL⟩ : ∃ LL, LL = L := ⟨_, rfl⟩
  rw [← eL]
  have hLL : L ≤ LL := by omega
  clear eL
  go_enter Try.func64, Try.ntmps64
  go_upto_region 1 with (fail)
  rw [← ew]
  obtain ⟨g, eg⟩ : ∃ g, g = w.heap.size := ⟨_, rfl⟩
  rw [← eg] at KC ⊢
  have hgw : w.heap.size ≤ g := by omega
  clear ew eg
  replace KA := KA.next B0; replace hA := hA.next B0
  subst hRr
  have a0 := KA.cell 0; have a1 := KA.cell 1; have a2 := KA.cell 2
  have t1 : decide ((k : Int) < (c : Int)) = true := decide_eq_true (by omega)
  go_wp2_with fail
  refine (zmat_get _ r c i k xs L _ hA hi hc hk hx).mono ?_; rintro e w2 ⟨v2, rfl, h2, b2⟩
  obtain ⟨s2, a2, n2, c2, rfl⟩ := h2.agg
  replace KC := KC.next b2
  replace B0 := B0.trans (b2.mono B0.size)
  have h5 := h2.mono hLL
  rw [← EZ.out] at h5
  have f0 := (KC).free 0; have f1 := (KC).free 1
  have c0 := (KC).cell 0; have c1 := (KC).cell 1
  have KF := ((KC).set 0 (.bool s2)).set 1 (.slice a2 n2 c2)
  have d0 := KF.cell 0; have d1 := KF.cell 1
  have FR := Lib.hid (show RetJ w LL Z (.returned (.agg #[.bool s2, .slice a2 n2 c2])) ((w2.setCell ⟨g, 0, none⟩ (.bool s2)).setCell ⟨g, 1, none⟩ (.slice a2 n2 c2)) from ⟨_, rfl, (h5).put (KC) s2 (.slice a2 n2 c2), ((B0).setCell (p := ⟨g, 0, none⟩) hgw (.bool s2)).setCell (p := ⟨g, 1, none⟩) hgw (.slice a2 n2 c2)⟩)
  clear KF
  go_wp2
  exact bodyPost_ret (v := .agg #[.bool s2, .slice a2 n2 c2]) (by simp [results, Try.results64, go_sem, d0, d1]) rfl FR.out

theorem zmat_Beside_b1 (R1 : Int) (c i : Nat) (xs : List Int) (L : Nat) (ga : Nat) (ao : Option Addr) (ca : Nat) (R2 : Int) (c2' : Nat) (ys : List Int) (gb : Nat) (bo : Option Addr) (cb : Nat) (r : Nat) (hRr : R1 = r) (j : Nat) (z : Int) (hz : z = c + j) (w : World)
    (KA : Blk 24 w ga [.int .i64 R1, .int .i64 c, .slice ao xs.length ca]) (hA : Mt w (.agg #[.int .i64 R1, .int .i64 c, .slice ao xs.length ca]) R1 c xs L)
    (hi : i ≤ 100000) (KB : Blk 24 w gb [.int .i64 R2, .int .i64 c2', .slice bo ys.length cb]) (hB : Mt w (.agg #[.int .i64 R2, .int .i64 c2', .slice bo ys.length cb]) R2 c2' ys L) (hj : j ≤ 50000) (hc2 : c2' ≤ 100000) (hx : i * c2' + j < ys.length) :
    Calls Try.prog 64 #[.int .i64 i, .int .i64 z, .pointer (some ⟨ga, 0, none⟩), .pointer (some ⟨gb, 0, none⟩)] w (RetJ w (L) (ys.getD (i * c2' + j) 0)) := by
  obtain ⟨wb, ew, KC, B0, hsz⟩ := boxes1 w 36 [.bool false, .slice none 0 0]
  clear hsz
  obtain ⟨Z, eZ⟩ : ∃ Z, Z = ys.getD (i * c2' + j) 0 := ⟨_, rfl⟩
  rw [← eZ]
  have EZ := Lib.hid eZ; clear eZ
  obtain ⟨LL, eL⟩ : ∃ LL, LL = L := ⟨_, rfl⟩
  rw [← eL]
  have hLL : L ≤ LL := by omega
  clear eL
  go_enter Try.func64, Try.ntmps64
  go_upto_region 1 with (fail)
  rw [← ew]
  obtain ⟨g, eg⟩ : ∃ g, g = w.heap.size := ⟨_, rfl⟩
  rw [← eg] at KC ⊢
  have hgw : w.heap.size ≤ g := by omega
  clear ew eg
  replace KA := KA.next B0; replace hA := hA.next B0
  subst hRr
  have a0 := KA.cell 0; have a1 := KA.cell 1; have a2 := KA.cell 2
  replace KB := KB.next B0; replace hB := hB.next B0
  have e0 := KB.cell 0; have e1 := KB.cell 1; have e2 := KB.cell 2
  have t1 : decide (z < (c : Int)) = false := decide_eq_false (by omega)
  have hw1 : IntKind.i64.wrap (z - (c : Int)) = (j : Int) := by rw [show z - (c : Int) = (j : Int) by omega]; exact IntWalk.i64_in _ ⟨by omega, by omega⟩
  clear hz
  go_wp2_with fail
  refine (zmat_get _ R2 c2' i j ys L _ hB hi (by omega) (by omega) hx).mono ?_; rintro e w2 ⟨v2, rfl, h2, b2⟩
  obtain ⟨s2, a2, n2, c2, rfl⟩ := h2.agg
  replace KC := KC.next b2
  replace B0 := B0.trans (b2.mono B0.size)
  have h5 := h2.mono hLL
  rw [← EZ.out] at h5
  have f0 := (KC).free 0; have f1 := (KC).free 1
  have c0 := (KC).cell 0; have c1 := (KC).cell 1
  have KF := ((KC).set 0 (.bool s2)).set 1 (.slice a2 n2 c2)
  have d0 := KF.cell 0; have d1 := KF.cell 1
  have FR := Lib.hid (show RetJ w LL Z (.returned (.agg #[.bool s2, .slice a2 n2 c2])) ((w2.setCell ⟨g, 0, none⟩ (.bool s2)).setCell ⟨g, 1, none⟩ (.slice a2 n2 c2)) from ⟨_, rfl, (h5).put (KC) s2 (.slice a2 n2 c2), ((B0).setCell (p := ⟨g, 0, none⟩) hgw (.bool s2)).setCell (p := ⟨g, 1, none⟩) hgw (.slice a2 n2 c2)⟩)
  clear KF
  go_wp2
  exact bodyPost_ret (v := .agg #[.bool s2, .slice a2 n2 c2]) (by simp [results, Try.results64, go_sem, d0, d1]) rfl FR.out

theorem zmat_Stack (a b : Value) (r1 r2 c : Nat) (xs ys : List Int) (L : Nat) (w : World) (hA : Mt w a r1 c xs L) (hB : Mt w b r2 c ys L) (hr1 : r1 ≤ 64) (hc : c ≤ 64) (hx : xs.length = r1 * c) (hy : ys.length = r2 * c) (hs : r1 + r2 ≤ 64) (hL : L ≤ 100000) :
    Calls Try.prog 32 #[a, b] w (RetE w L (r1 + r2) c (tab c (fun i k => if i < r1 then xs.getD (i * c + k) 0 else ys.getD ((i - r1) * c + k) 0) ((r1 + r2) * c)) 0) := by
  obtain ⟨ao, ca, rfl⟩ := hA.agg
  obtain ⟨bo, cb, rfl⟩ := hB.agg
  obtain ⟨wb, ew, KA, KB, KR, B0, hsz⟩ := boxes2 w 24 24 24 [.int .i64 r1, .int .i64 c, .slice ao xs.length ca] [.int .i64 r2, .int .i64 c, .slice bo ys.length cb] [.int .i64 0, .int .i64 0, .slice none 0 0]
  clear hsz
  replace hA := hA.next B0; replace hB := hB.next B0
  have HX := Lib.hid hx; clear hx
  have HY := Lib.hid hy; clear hy
  obtain ⟨zs, ezs⟩ : ∃ zs, zs = tab c (fun i k => if i < r1 then xs.getD (i * c + k) 0 else ys.getD ((i - r1) * c + k) 0) ((r1 + r2) * c) := ⟨_, rfl⟩
  rw [← ezs]
  have EZ := Lib.hid ezs; clear ezs
  obtain ⟨d, ed⟩ : ∃ d, d = r1 + r2 := ⟨_, rfl⟩
  rw [← ed] at EZ ⊢
  have hw1 : IntKind.i64.wrap ((r1 : Int) + (r2 : Int)) = (d : Int) := by rw [show (r1 : Int) + (r2 : Int) = (d : Int) by omega]; exact IntWalk.i64_in _ ⟨by omega, by omega⟩
  have hd : Sd d := ⟨by omega, by omega⟩
  have t1 : ((c : Int) == (c : Int)) = true := by simp
  have HD := Lib.hid ed; clear ed
  go_enter Try.func32, Try.ntmps32
  go_wp2_with fail
  rw [← ew]
  obtain ⟨g, eg⟩ : ∃ g, g = w.heap.size + 1 + 1 := ⟨_, rfl⟩
  rw [← eg] at KR ⊢
  have hgw : w.heap.size ≤ g := by omega
  clear ew eg
  refine (zmat_Formed_yes _ r1 c xs L _ hA (Fm.of hr1 hc HX.out)).mono ?_; rintro e w2 ⟨rfl, b2⟩
  replace hA := hA.next b2; replace hB := hB.next b2; replace KA := KA.next b2; replace KB := KB.next b2; replace KR := KR.next b2
  replace B0 := B0.trans (b2.mono B0.size)
  clear b2
  have fKB0 := KB.cell 0; have fKB1 := KB.cell 1; have fKB2 := KB.cell 2
  go_wp2_with fail
  refine (zmat_Formed_yes _ r2 c ys L _ hB (Fm.of (by have := HD.out; omega) (by have := HD.out; omega) HY.out)).mono ?_; rintro e w4 ⟨rfl, b4⟩
  replace hA := hA.next b4; replace hB := hB.next b4; replace KA := KA.next b4; replace KB := KB.next b4; replace KR := KR.next b4
  replace B0 := B0.trans (b4.mono B0.size)
  clear b4
  clear fKB0 fKB1 fKB2
  have fKA0 := KA.cell 0; have fKA1 := KA.cell 1; have fKB0 := KB.cell 0; have fKB1 := KB.cell 1
  go_wp2_with fail
  refine (zmat_side_yes d _ hd).mono ?_; rintro e wx ⟨rfl, rfl⟩
  go_wp2_with fail
  refine (zmat_made d c (by have := HD.out; omega) (by have := HD.out; omega) 63 (enters_of Try.func63 rfl rfl) [.pointer (some ⟨w.heap.size, 0, none⟩), .pointer (some ⟨w.heap.size + 1, 0, none⟩)] (fun i k => if i < r1 then xs.getD (i * c + k) 0 else ys.getD ((i - r1) * c + k) 0) (L) (by omega) _ (fun i k w' hi hk hb =>
    by
      by_cases h : i < r1
      · rw [if_pos h]
        exact zmat_Stack_a1 r1 c i k xs L _ ao ca _ r1 rfl w' (KA.next hb) (hA.next hb) (by omega) (by omega) (by omega) (at_lt HX.out h hk) h
      · obtain ⟨j, rfl⟩ : ∃ j, i = r1 + j := ⟨i - r1, by omega⟩
        rw [if_neg h, show r1 + j - r1 = j by omega]
        exact zmat_Stack_b1 r1 c k xs L _ ao ca r2 c ys _ bo cb r1 rfl j _ (by omega) w' (KA.next hb) (hA.next hb) (by omega) (KB.next hb) (hB.next hb) (by have := HD.out; omega) (by omega) (at_lt HY.out (by have := HD.out; omega) hk))).mono ?_; rintro e w3 ⟨v3, rfl, h3, b3⟩
  clear fKA0 fKA1 fKB0 fKB1
  clear KA KB hA hB hw1 t1
  rw [← EZ.out] at h3
  obtain ⟨a3, k3, rfl⟩ := h3.agg
  replace KR := KR.next b3
  replace B0 := B0.trans (b3.mono B0.size)
  have f0 := KR.free 0; have f1 := KR.free 1; have f2 := KR.free 2
  have c0 := KR.cell 0; have c1 := KR.cell 1; have c2 := KR.cell 2
  have KF := ((KR.set 0 (.int .i64 (d : Nat))).set 1 (.int .i64 (c : Nat))).set 2 (.slice a3 zs.length k3)
  have d0 := KF.cell 0; have d1 := KF.cell 1; have d2 := KF.cell 2
  have FR := Lib.hid (show RetE w (L) d c zs 0 (.returned (.tuple #[.agg #[.int .i64 (d : Nat), .int .i64 (c : Nat), .slice a3 zs.length k3], .int .i64 0])) (((w3.setCell ⟨g, 0, none⟩ (.int .i64 (d : Nat))).setCell ⟨g, 1, none⟩ (.int .i64 (c : Nat))).setCell ⟨g, 2, none⟩ (.slice a3 zs.length k3)) from ⟨_, rfl, h3.put KR _ _ _, ((B0.setCell (p := ⟨g, 0, none⟩) hgw _).setCell (p := ⟨g, 1, none⟩) hgw _).setCell (p := ⟨g, 2, none⟩) hgw _⟩)
  clear KF KR h3 B0 b3
  go_wp2
  exact bodyPost_ret (v := .tuple #[.agg #[.int .i64 (d : Nat), .int .i64 (c : Nat), .slice a3 zs.length k3], .int .i64 0]) (by simp [results, Try.results32, go_sem, d0, d1, d2]) rfl FR.out

theorem zmat_Beside (a b : Value) (r c1 c2 : Nat) (xs ys : List Int) (L : Nat) (w : World) (hA : Mt w a r c1 xs L) (hB : Mt w b r c2 ys L) (hr : r ≤ 64) (hc1 : c1 ≤ 64) (hx : xs.length = r * c1) (hy : ys.length = r * c2) (hs : c1 + c2 ≤ 64) (hL : L ≤ 100000) :
    Calls Try.prog 33 #[a, b] w (RetE w L r (c1 + c2) (tab (c1 + c2) (fun i k => if k < c1 then xs.getD (i * c1 + k) 0 else ys.getD (i * c2 + (k - c1)) 0) (r * (c1 + c2))) 0) := by
  obtain ⟨ao, ca, rfl⟩ := hA.agg
  obtain ⟨bo, cb, rfl⟩ := hB.agg
  obtain ⟨wb, ew, KA, KB, KR, B0, hsz⟩ := boxes2 w 24 24 24 [.int .i64 r, .int .i64 c1, .slice ao xs.length ca] [.int .i64 r, .int .i64 c2, .slice bo ys.length cb] [.int .i64 0, .int .i64 0, .slice none 0 0]
  clear hsz
  replace hA := hA.next B0; replace hB := hB.next B0
  have HX := Lib.hid hx; clear hx
  have HY := Lib.hid hy; clear hy
  obtain ⟨zs, ezs⟩ : ∃ zs, zs = tab (c1 + c2) (fun i k => if k < c1 then xs.getD (i * c1 + k) 0 else ys.getD (i * c2 + (k - c1)) 0) (r * (c1 + c2)) := ⟨_, rfl⟩
  rw [← ezs]
  have EZ := Lib.hid ezs; clear ezs
  obtain ⟨d, ed⟩ : ∃ d, d = c1 + c2 := ⟨_, rfl⟩
  rw [← ed] at EZ ⊢
  have hw1 : IntKind.i64.wrap ((c1 : Int) + (c2 : Int)) = (d : Int) := by rw [show (c1 : Int) + (c2 : Int) = (d : Int) by omega]; exact IntWalk.i64_in _ ⟨by omega, by omega⟩
  have hd : Sd d := ⟨by omega, by omega⟩
  have t1 : ((r : Int) == (r : Int)) = true := by simp
  have HD := Lib.hid ed; clear ed
  go_enter Try.func33, Try.ntmps33
  go_wp2_with fail
  rw [← ew]
  obtain ⟨g, eg⟩ : ∃ g, g = w.heap.size + 1 + 1 := ⟨_, rfl⟩
  rw [← eg] at KR ⊢
  have hgw : w.heap.size ≤ g := by omega
  clear ew eg
  refine (zmat_Formed_yes _ r c1 xs L _ hA (Fm.of hr hc1 HX.out)).mono ?_; rintro e w2 ⟨rfl, b2⟩
  replace hA := hA.next b2; replace hB := hB.next b2; replace KA := KA.next b2; replace KB := KB.next b2; replace KR := KR.next b2
  replace B0 := B0.trans (b2.mono B0.size)
  clear b2
  have fKB0 := KB.cell 0; have fKB1 := KB.cell 1; have fKB2 := KB.cell 2
  go_wp2_with fail
  refine (zmat_Formed_yes _ r c2 ys L _ hB (Fm.of (by have := HD.out; omega) (by have := HD.out; omega) HY.out)).mono ?_; rintro e w4 ⟨rfl, b4⟩
  replace hA := hA.next b4; replace hB := hB.next b4; replace KA := KA.next b4; replace KB := KB.next b4; replace KR := KR.next b4
  replace B0 := B0.trans (b4.mono B0.size)
  clear b4
  clear fKB0 fKB1 fKB2
  have fKA0 := KA.cell 0; have fKA1 := KA.cell 1; have fKB0 := KB.cell 0; have fKB1 := KB.cell 1
  go_wp2_with fail
  refine (zmat_side_yes d _ hd).mono ?_; rintro e wx ⟨rfl, rfl⟩
  go_wp2_with fail
  refine (zmat_made r d (by have := HD.out; omega) (by have := HD.out; omega) 64 (enters_of Try.func64 rfl rfl) [.pointer (some ⟨w.heap.size, 0, none⟩), .pointer (some ⟨w.heap.size + 1, 0, none⟩)] (fun i k => if k < c1 then xs.getD (i * c1 + k) 0 else ys.getD (i * c2 + (k - c1)) 0) (L) (by omega) _ (fun i k w' hi hk hb =>
    by
      by_cases h : k < c1
      · rw [if_pos h]
        exact zmat_Beside_a1 r c1 i k xs L _ ao ca _ r rfl w' (KA.next hb) (hA.next hb) (by omega) (by omega) (by omega) (at_lt HX.out hi h) h
      · obtain ⟨j, rfl⟩ : ∃ j, k = c1 + j := ⟨k - c1, by omega⟩
        rw [if_neg h, show c1 + j - c1 = j by omega]
        exact zmat_Beside_b1 r c1 i xs L _ ao ca r c2 ys _ bo cb r rfl j _ (by omega) w' (KA.next hb) (hA.next hb) (by omega) (KB.next hb) (hB.next hb) (by have := HD.out; omega) (by omega) (at_lt HY.out hi (by have := HD.out; omega)))).mono ?_; rintro e w3 ⟨v3, rfl, h3, b3⟩
  clear fKA0 fKA1 fKB0 fKB1
  clear KA KB hA hB hw1 t1
  rw [← EZ.out] at h3
  obtain ⟨a3, k3, rfl⟩ := h3.agg
  replace KR := KR.next b3
  replace B0 := B0.trans (b3.mono B0.size)
  have f0 := KR.free 0; have f1 := KR.free 1; have f2 := KR.free 2
  have c0 := KR.cell 0; have c1 := KR.cell 1; have c2 := KR.cell 2
  have KF := ((KR.set 0 (.int .i64 (r : Nat))).set 1 (.int .i64 (d : Nat))).set 2 (.slice a3 zs.length k3)
  have d0 := KF.cell 0; have d1 := KF.cell 1; have d2 := KF.cell 2
  have FR := Lib.hid (show RetE w (L) r d zs 0 (.returned (.tuple #[.agg #[.int .i64 (r : Nat), .int .i64 (d : Nat), .slice a3 zs.length k3], .int .i64 0])) (((w3.setCell ⟨g, 0, none⟩ (.int .i64 (r : Nat))).setCell ⟨g, 1, none⟩ (.int .i64 (d : Nat))).setCell ⟨g, 2, none⟩ (.slice a3 zs.length k3)) from ⟨_, rfl, h3.put KR _ _ _, ((B0.setCell (p := ⟨g, 0, none⟩) hgw _).setCell (p := ⟨g, 1, none⟩) hgw _).setCell (p := ⟨g, 2, none⟩) hgw _⟩)
  clear KF KR h3 B0 b3
  go_wp2
  exact bodyPost_ret (v := .tuple #[.agg #[.int .i64 (r : Nat), .int .i64 (d : Nat), .slice a3 zs.length k3], .int .i64 0]) (by simp [results, Try.results33, go_sem, d0, d1, d2]) rfl FR.out

theorem zmat_Beside_shape (a b : Value) (r1 c1 r2 c2 : Nat) (xs ys : List Int) (L : Nat) (w : World) (hA : Mt w a r1 c1 xs L) (hB : Mt w b r2 c2 ys L) (hr1 : r1 ≤ 64) (hc1 : c1 ≤ 64) (hr2 : r2 ≤ 64) (hc2 : c2 ≤ 64) (hx : xs.length = r1 * c1) (hy : ys.length = r2 * c2) (hne : r1 ≠ r2) :
    Calls Try.prog 33 #[a, b] w (RetE w 0 0 0 [] 2) := by
  obtain ⟨ao, ca, rfl⟩ := hA.agg
  obtain ⟨bo, cb, rfl⟩ := hB.agg
  obtain ⟨wb, ew, KA, KB, KR, B0, hsz⟩ := boxes2 w 24 24 24 [.int .i64 r1, .int .i64 c1, .slice ao xs.length ca] [.int .i64 r2, .int .i64 c2, .slice bo ys.length cb] [.int .i64 0, .int .i64 0, .slice none 0 0]
  clear hsz
  replace hA := hA.next B0; replace hB := hB.next B0
  have HX := Lib.hid hx; clear hx
  have HY := Lib.hid hy; clear hy
  have t1 : ((r1 : Int) == (r2 : Int)) = false := by simp; omega
  go_enter Try.func33, Try.ntmps33
  go_wp2_with fail
  rw [← ew]
  obtain ⟨g, eg⟩ : ∃ g, g = w.heap.size + 1 + 1 := ⟨_, rfl⟩
  rw [← eg] at KR ⊢
  have hgw : w.heap.size ≤ g := by omega
  clear ew eg
  refine (zmat_Formed_yes _ r1 c1 xs L _ hA (Fm.of hr1 hc1 HX.out)).mono ?_; rintro e w2 ⟨rfl, b2⟩
  replace hB := hB.next b2; replace KA := KA.next b2; replace KB := KB.next b2; replace KR := KR.next b2
  replace B0 := B0.trans (b2.mono B0.size)
  clear b2
  have fKB0 := KB.cell 0; have fKB1 := KB.cell 1; have fKB2 := KB.cell 2
  go_wp2_with fail
  refine (zmat_Formed_yes _ r2 c2 ys L _ hB (Fm.of hr2 hc2 HY.out)).mono ?_; rintro e w4 ⟨rfl, b4⟩
  replace KA := KA.next b4; replace KB := KB.next b4; replace KR := KR.next b4
  replace B0 := B0.trans (b4.mono B0.size)
  clear b4
  clear fKB0 fKB1 fKB2
  have fKA0 := KA.cell 0; have fKA1 := KA.cell 1; have fKB0 := KB.cell 0; have fKB1 := KB.cell 1
  have f0 := KR.free 0; have f1 := KR.free 1; have f2 := KR.free 2
  have c0 := KR.cell 0; have c1 := KR.cell 1; have c2 := KR.cell 2
  have KF := ((KR.set 0 (.int .i64 0)).set 1 (.int .i64 0)).set 2 (.slice none 0 0)
  have d0 := KF.cell 0; have d1 := KF.cell 1; have d2 := KF.cell 2
  have FR := Lib.hid (show RetE w 0 0 0 [] 2 (.returned (.tuple #[.agg #[.int .i64 0, .int .i64 0, .slice none 0 0], .int .i64 2])) (((w4.setCell ⟨g, 0, none⟩ (.int .i64 0)).setCell ⟨g, 1, none⟩ (.int .i64 0)).setCell ⟨g, 2, none⟩ (.slice none 0 0)) from ⟨_, rfl, MtN.none _ _, ((B0.setCell (p := ⟨g, 0, none⟩) hgw _).setCell (p := ⟨g, 1, none⟩) hgw _).setCell (p := ⟨g, 2, none⟩) hgw _⟩)
  clear KF KR B0
  go_wp2
  exact bodyPost_ret (v := .tuple #[.agg #[.int .i64 0, .int .i64 0, .slice none 0 0], .int .i64 2]) (by simp [results, Try.results33, go_sem, d0, d1, d2]) rfl FR.out

end Go.Proofs.Ytahjbeilddenbaa
