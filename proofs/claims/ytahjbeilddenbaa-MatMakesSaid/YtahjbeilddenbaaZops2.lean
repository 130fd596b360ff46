/- Package zmat: multiples, products, transposes. -/
import Derived.Test.YtahjbeilddenbaaZops
namespace Go.Proofs.Ytahjbeilddenbaa
open Go.RowKit

theorem zmat_Scale (a b : Value) (r c : Nat) (xs : List Int) (y : Int) (L M : Nat) (w : World) (hA : Mt w a r c xs L) (hB : Iv w b y M) (hr : r ≤ 64) (hc : c ≤ 64) (hx : xs.length = r * c) (hL : L ≤ 500) (hM : M ≤ 500) :
    Calls Try.prog 22 #[a, b] w (RetE w (L + M) r c (tab c (fun i k => xs.getD (i * c + k) 0 * y) (r * c)) 0) := by
  obtain ⟨ao, ca, rfl⟩ := hA.agg
  obtain ⟨t, q, m, d, rfl⟩ := hB.agg
  obtain ⟨wb, ew, KA, KB, KR, B0, hsz⟩ := boxes2 w 24 36 24 [.int .i64 r, .int .i64 c, .slice ao xs.length ca] [.bool t, .slice q m d] [.int .i64 0, .int .i64 0, .slice none 0 0]
  clear hsz
  replace hA := hA.next B0; replace hB := hB.next B0
  have HX := Lib.hid hx; clear hx
  obtain ⟨zs, ezs⟩ : ∃ zs, zs = tab c (fun i k => xs.getD (i * c + k) 0 * y) (r * c) := ⟨_, rfl⟩
  rw [← ezs]
  have EZ := Lib.hid ezs; clear ezs
  go_enter Try.func22, Try.ntmps22
  go_wp2_with fail
  rw [← ew]
  obtain ⟨g, eg⟩ : ∃ g, g = w.heap.size + 1 + 1 := ⟨_, rfl⟩
  rw [← eg] at KR ⊢
  have hgw : w.heap.size ≤ g := by omega
  clear ew eg
  refine (zmat_Formed_yes _ r c xs L _ hA (Fm.of hr hc HX.out)).mono ?_; rintro e w2 ⟨rfl, b2⟩
  replace hA := hA.next b2; replace hB := hB.next b2; replace KA := KA.next b2; replace KB := KB.next b2; replace KR := KR.next b2
  replace B0 := B0.trans (b2.mono B0.size)
  clear b2
  have fKA0 := KA.cell 0; have fKA1 := KA.cell 1
  go_wp2_with fail
  refine (zmat_made r c (by omega) (by omega) 49 (enters_of Try.func49 rfl rfl) [.pointer (some ⟨w.heap.size, 0, none⟩), .pointer (some ⟨w.heap.size + 1, 0, none⟩)] (fun i k => xs.getD (i * c + k) 0 * y) (L + M) (by omega) _ (fun i k w' hi hk hb =>
    zmat_Scale1 r c i k xs L _ ao ca y M _ t q m d w' (KA.next hb) (hA.next hb) (by omega) (by omega) (by omega) (at_lt HX.out hi hk) (KB.next hb) (hB.next hb) (by omega) (by omega))).mono ?_; rintro e w3 ⟨v3, rfl, h3, b3⟩
  clear fKA0 fKA1
  clear KA KB hA hB
  rw [← EZ.out] at h3
  obtain ⟨a3, k3, rfl⟩ := h3.agg
  replace KR := KR.next b3
  replace B0 := B0.trans (b3.mono B0.size)
  have f0 := KR.free 0; have f1 := KR.free 1; have f2 := KR.free 2
  have c0 := KR.cell 0; have c1 := KR.cell 1; have c2 := KR.cell 2
  have KF := ((KR.set 0 (.int .i64 (r : Nat))).set 1 (.int .i64 (c : Nat))).set 2 (.slice a3 zs.length k3)
  have d0 := KF.cell 0; have d1 := KF.cell 1; have d2 := KF.cell 2
  have FR := Lib.hid (show RetE w (L + M) r c zs 0 (.returned (.tuple #[.agg #[.int .i64 (r : Nat), .int .i64 (c : Nat), .slice a3 zs.length k3], .int .i64 0])) (((w3.setCell ⟨g, 0, none⟩ (.int .i64 (r : Nat))).setCell ⟨g, 1, none⟩ (.int .i64 (c : Nat))).setCell ⟨g, 2, none⟩ (.slice a3 zs.length k3)) from ⟨_, rfl, h3.put KR _ _ _, ((B0.setCell (p := ⟨g, 0, none⟩) hgw _).setCell (p := ⟨g, 1, none⟩) hgw _).setCell (p := ⟨g, 2, none⟩) hgw _⟩)
  clear KF KR h3 B0 b3
  go_wp2
  exact bodyPost_ret (v := .tuple #[.agg #[.int .i64 (r : Nat), .int .i64 (c : Nat), .slice a3 zs.length k3], .int .i64 0]) (by simp [results, Try.results22, go_sem, d0, d1, d2]) rfl FR.out

theorem zmat_Scale_bad (a b : Value) (R C : Int) (xs : List Int) (y : Int) (L M : Nat) (w : World) (hA : Mt w a R C xs L) (hB : Iv w b y M) (h : ¬ Fm R C xs.length) :
    Calls Try.prog 22 #[a, b] w (RetE w 0 0 0 [] 2) := by
  obtain ⟨ao, ca, rfl⟩ := hA.agg
  obtain ⟨t, q, m, d, rfl⟩ := hB.agg
  obtain ⟨wb, ew, KA, KB, KR, B0, hsz⟩ := boxes2 w 24 36 24 [.int .i64 R, .int .i64 C, .slice ao xs.length ca] [.bool t, .slice q m d] [.int .i64 0, .int .i64 0, .slice none 0 0]
  clear hsz
  replace hA := hA.next B0
  go_enter Try.func22, Try.ntmps22
  go_wp2_with fail
  rw [← ew]
  obtain ⟨g, eg⟩ : ∃ g, g = w.heap.size + 1 + 1 := ⟨_, rfl⟩
  rw [← eg] at KR ⊢
  have hgw : w.heap.size ≤ g := by omega
  clear ew eg
  refine (zmat_Formed_no _ R C xs L _ hA h).mono ?_; rintro e w2 ⟨rfl, b2⟩
  replace KR := KR.next b2
  replace B0 := B0.trans (b2.mono B0.size)
  clear b2
  clear hA hB KA KB
  have f0 := KR.free 0; have f1 := KR.free 1; have f2 := KR.free 2
  have c0 := KR.cell 0; have c1 := KR.cell 1; have c2 := KR.cell 2
  have KF := ((KR.set 0 (.int .i64 0)).set 1 (.int .i64 0)).set 2 (.slice none 0 0)
  have d0 := KF.cell 0; have d1 := KF.cell 1; have d2 := KF.cell 2
  have FR := Lib.hid (show RetE w 0 0 0 [] 2 (.returned (.tuple #[.agg #[.int .i64 0, .int .i64 0, .slice none 0 0], .int .i64 2])) (((w2.setCell ⟨g, 0, none⟩ (.int .i64 0)).setCell ⟨g, 1, none⟩ (.int .i64 0)).setCell ⟨g, 2, none⟩ (.slice none 0 0)) from ⟨_, rfl, MtN.none _ _, ((B0.setCell (p := ⟨g, 0, none⟩) hgw _).setCell (p := ⟨g, 1, none⟩) hgw _).setCell (p := ⟨g, 2, none⟩) hgw _⟩)
  clear KF KR B0
  go_wp2
  exact bodyPost_ret (v := .tuple #[.agg #[.int .i64 0, .int .i64 0, .slice none 0 0], .int .i64 2]) (by simp [results, Try.results22, go_sem, d0, d1, d2]) rfl FR.out

theorem zmat_Transpose (a : Value) (r c : Nat) (xs : List Int) (L : Nat) (w : World) (hA : Mt w a r c xs L) (hr : r ≤ 64) (hc : c ≤ 64) (hx : xs.length = r * c) (hL : L ≤ 100000) :
    Calls Try.prog 12 #[a] w (RetE w L c r (tab r (fun i k => xs.getD (k * c + i) 0) (c * r)) 0) := by
  obtain ⟨ao, ca, rfl⟩ := hA.agg
  obtain ⟨wb, ew, KA, KR, B0, hsz⟩ := boxes1' w 24 24 [.int .i64 r, .int .i64 c, .slice ao xs.length ca] [.int .i64 0, .int .i64 0, .slice none 0 0]
  clear hsz
  replace hA := hA.next B0
  have HX := Lib.hid hx; clear hx
  obtain ⟨zs, ezs⟩ : ∃ zs, zs = tab r (fun i k => xs.getD (k * c + i) 0) (c * r) := ⟨_, rfl⟩
  rw [← ezs]
  have EZ := Lib.hid ezs; clear ezs
  go_enter Try.func12, Try.ntmps12
  go_wp2_with fail
  rw [← ew]
  obtain ⟨g, eg⟩ : ∃ g, g = w.heap.size + 1 := ⟨_, rfl⟩
  rw [← eg] at KR ⊢
  have hgw : w.heap.size ≤ g := by omega
  clear ew eg
  refine (zmat_Formed_yes _ r c xs L _ hA (Fm.of hr hc HX.out)).mono ?_; rintro e w2 ⟨rfl, b2⟩
  replace hA := hA.next b2; replace KA := KA.next b2; replace KR := KR.next b2
  replace B0 := B0.trans (b2.mono B0.size)
  clear b2
  have fKA0 := KA.cell 0; have fKA1 := KA.cell 1
  go_wp2_with fail
  refine (zmat_made c r (by omega) (by omega) 44 (enters_of Try.func44 rfl rfl) [.pointer (some ⟨w.heap.size, 0, none⟩)] (fun i k => xs.getD (k * c + i) 0) (L) (by omega) _ (fun i k w' hi hk hb =>
    zmat_Transpose1 r c i k xs L _ ao ca w' (KA.next hb) (hA.next hb) (by omega) (by omega) (by omega) (at_lt HX.out hk hi))).mono ?_; rintro e w3 ⟨v3, rfl, h3, b3⟩
  clear fKA0 fKA1
  clear KA hA
  rw [← EZ.out] at h3
  obtain ⟨a3, k3, rfl⟩ := h3.agg
  replace KR := KR.next b3
  replace B0 := B0.trans (b3.mono B0.size)
  have f0 := KR.free 0; have f1 := KR.free 1; have f2 := KR.free 2
  have c0 := KR.cell 0; have c1 := KR.cell 1; have c2 := KR.cell 2
  have KF := ((KR.set 0 (.int .i64 (c : Nat))).set 1 (.int .i64 (r : Nat))).set 2 (.slice a3 zs.length k3)
  have d0 := KF.cell 0; have d1 := KF.cell 1; have d2 := KF.cell 2
  have FR := Lib.hid (show RetE w (L) c r zs 0 (.returned (.tuple #[.agg #[.int .i64 (c : Nat), .int .i64 (r : Nat), .slice a3 zs.length k3], .int .i64 0])) (((w3.setCell ⟨g, 0, none⟩ (.int .i64 (c : Nat))).setCell ⟨g, 1, none⟩ (.int .i64 (r : Nat))).setCell ⟨g, 2, none⟩ (.slice a3 zs.length k3)) from ⟨_, rfl, h3.put KR _ _ _, ((B0.setCell (p := ⟨g, 0, none⟩) hgw _).setCell (p := ⟨g, 1, none⟩) hgw _).setCell (p := ⟨g, 2, none⟩) hgw _⟩)
  clear KF KR h3 B0 b3
  go_wp2
  exact bodyPost_ret (v := .tuple #[.agg #[.int .i64 (c : Nat), .int .i64 (r : Nat), .slice a3 zs.length k3], .int .i64 0]) (by simp [results, Try.results12, go_sem, d0, d1, d2]) rfl FR.out

theorem zmat_Transpose_bad (a : Value) (R C : Int) (xs : List Int) (L : Nat) (w : World) (hA : Mt w a R C xs L) (h : ¬ Fm R C xs.length) :
    Calls Try.prog 12 #[a] w (RetE w 0 0 0 [] 2) := by
  obtain ⟨ao, ca, rfl⟩ := hA.agg
  obtain ⟨wb, ew, KA, KR, B0, hsz⟩ := boxes1' w 24 24 [.int .i64 R, .int .i64 C, .slice ao xs.length ca] [.int .i64 0, .int .i64 0, .slice none 0 0]
  clear hsz
  replace hA := hA.next B0
  go_enter Try.func12, Try.ntmps12
  go_wp2_with fail
  rw [← ew]
  obtain ⟨g, eg⟩ : ∃ g, g = w.heap.size + 1 := ⟨_, rfl⟩
  rw [← eg] at KR ⊢
  have hgw : w.heap.size ≤ g := by omega
  clear ew eg
  refine (zmat_Formed_no _ R C xs L _ hA h).mono ?_; rintro e w2 ⟨rfl, b2⟩
  replace KR := KR.next b2
  replace B0 := B0.trans (b2.mono B0.size)
  clear b2
  clear hA KA
  have f0 := KR.free 0; have f1 := KR.free 1; have f2 := KR.free 2
  have c0 := KR.cell 0; have c1 := KR.cell 1; have c2 := KR.cell 2
  have KF := ((KR.set 0 (.int .i64 0)).set 1 (.int .i64 0)).set 2 (.slice none 0 0)
  have d0 := KF.cell 0; have d1 := KF.cell 1; have d2 := KF.cell 2
  have FR := Lib.hid (show RetE w 0 0 0 [] 2 (.returned (.tuple #[.agg #[.int .i64 0, .int .i64 0, .slice none 0 0], .int .i64 2])) (((w2.setCell ⟨g, 0, none⟩ (.int .i64 0)).setCell ⟨g, 1, none⟩ (.int .i64 0)).setCell ⟨g, 2, none⟩ (.slice none 0 0)) from ⟨_, rfl, MtN.none _ _, ((B0.setCell (p := ⟨g, 0, none⟩) hgw _).setCell (p := ⟨g, 1, none⟩) hgw _).setCell (p := ⟨g, 2, none⟩) hgw _⟩)
  clear KF KR B0
  go_wp2
  exact bodyPost_ret (v := .tuple #[.agg #[.int .i64 0, .int .i64 0, .slice none 0 0], .int .i64 2]) (by simp [results, Try.results12, go_sem, d0, d1, d2]) rfl FR.out

theorem zmat_Mul (a b : Value) (r m c : Nat) (xs ys : List Int) (L M : Nat) (w : World) (hA : Mt w a r m xs L) (hB : Mt w b m c ys M) (hr : r ≤ 64) (hm : m ≤ 64) (hc : c ≤ 64) (hx : xs.length = r * m) (hy : ys.length = m * c) (hL : L ≤ 500) (hM : M ≤ 500) :
    Calls Try.prog 11 #[a, b] w (RetE w (m * (L + M + 1)) r c (tab c (fun i k => dotp xs ys m c i k m) (r * c)) 0) := by
  obtain ⟨ao, ca, rfl⟩ := hA.agg
  obtain ⟨bo, cb, rfl⟩ := hB.agg
  obtain ⟨wb, ew, KA, KB, KR, B0, hsz⟩ := boxes2 w 24 24 24 [.int .i64 r, .int .i64 m, .slice ao xs.length ca] [.int .i64 m, .int .i64 c, .slice bo ys.length cb] [.int .i64 0, .int .i64 0, .slice none 0 0]
  clear hsz
  replace hA := hA.next B0; replace hB := hB.next B0
  have HX := Lib.hid hx; have HY := Lib.hid hy; clear hx hy
  have hLL : m * (L + M + 1) ≤ 64 * 1001 := Nat.mul_le_mul hm (by omega)
  have HLL := Lib.hid hLL; clear hLL
  obtain ⟨zs, ezs⟩ : ∃ zs, zs = tab c (fun i k => dotp xs ys m c i k m) (r * c) := ⟨_, rfl⟩
  rw [← ezs]
  have EZ := Lib.hid ezs; clear ezs
  go_enter Try.func11, Try.ntmps11
  go_wp2_with fail
  rw [← ew]
  obtain ⟨g, eg⟩ : ∃ g, g = w.heap.size + 1 + 1 := ⟨_, rfl⟩
  rw [← eg] at KR ⊢
  have hgw : w.heap.size ≤ g := by omega
  clear ew eg
  refine (zmat_Formed_yes _ r m xs L _ hA (Fm.of hr hm HX.out)).mono ?_; rintro e w2 ⟨rfl, b2⟩
  replace hA := hA.next b2; replace hB := hB.next b2; replace KA := KA.next b2; replace KB := KB.next b2; replace KR := KR.next b2
  replace B0 := B0.trans (b2.mono B0.size)
  clear b2
  have fKB0 := KB.cell 0; have fKB1 := KB.cell 1; have fKB2 := KB.cell 2
  go_wp2_with fail
  refine (zmat_Formed_yes _ m c ys M _ hB (Fm.of hm hc HY.out)).mono ?_; rintro e w4 ⟨rfl, b4⟩
  replace hA := hA.next b4; replace hB := hB.next b4; replace KA := KA.next b4; replace KB := KB.next b4; replace KR := KR.next b4
  replace B0 := B0.trans (b4.mono B0.size)
  clear b4
  clear fKB0 fKB1 fKB2
  have fKA0 := KA.cell 0; have fKA1 := KA.cell 1; have fKB0 := KB.cell 0; have fKB1 := KB.cell 1
  go_wp2_with fail
  refine (zmat_made r c (by omega) (by omega) 42 (enters_of Try.func42 rfl rfl) [.pointer (some ⟨w.heap.size, 0, none⟩), .pointer (some ⟨w.heap.size + 1, 0, none⟩)] (fun i k => dotp xs ys m c i k m) (m * (L + M + 1)) (by have := HLL.out; omega) _ (fun i k w' hi hk hb =>
    zmat_Mul1 r m m c i k xs ys L M _ _ ao bo ca cb w' (KA.next hb) (KB.next hb) (hA.next hb) (hB.next hb) (by omega) (by omega) (by omega) (by omega) (fun j hj => at_lt HX.out hi hj) (fun j hj => at_lt HY.out hj hk) (by omega) (by omega))).mono ?_; rintro e w3 ⟨v3, rfl, h3, b3⟩
  clear fKA0 fKA1 fKB0 fKB1
  clear KA KB hA hB
  rw [← EZ.out] at h3
  obtain ⟨a3, k3, rfl⟩ := h3.agg
  replace KR := KR.next b3
  replace B0 := B0.trans (b3.mono B0.size)
  have f0 := KR.free 0; have f1 := KR.free 1; have f2 := KR.free 2
  have c0 := KR.cell 0; have c1 := KR.cell 1; have c2 := KR.cell 2
  have KF := ((KR.set 0 (.int .i64 (r : Nat))).set 1 (.int .i64 (c : Nat))).set 2 (.slice a3 zs.length k3)
  have d0 := KF.cell 0; have d1 := KF.cell 1; have d2 := KF.cell 2
  have FR := Lib.hid (show RetE w (m * (L + M + 1)) r c zs 0 (.returned (.tuple #[.agg #[.int .i64 (r : Nat), .int .i64 (c : Nat), .slice a3 zs.length k3], .int .i64 0])) (((w3.setCell ⟨g, 0, none⟩ (.int .i64 (r : Nat))).setCell ⟨g, 1, none⟩ (.int .i64 (c : Nat))).setCell ⟨g, 2, none⟩ (.slice a3 zs.length k3)) from ⟨_, rfl, h3.put KR _ _ _, ((B0.setCell (p := ⟨g, 0, none⟩) hgw _).setCell (p := ⟨g, 1, none⟩) hgw _).setCell (p := ⟨g, 2, none⟩) hgw _⟩)
  clear KF KR h3 B0 b3
  go_wp2
  exact bodyPost_ret (v := .tuple #[.agg #[.int .i64 (r : Nat), .int .i64 (c : Nat), .slice a3 zs.length k3], .int .i64 0]) (by simp [results, Try.results11, go_sem, d0, d1, d2]) rfl FR.out

theorem zmat_Mul_bad (a b : Value) (R1 C1 R2 C2 : Int) (xs ys : List Int) (L M : Nat) (w : World) (hA : Mt w a R1 C1 xs L) (hB : Mt w b R2 C2 ys M) (h : ¬ (Fm R1 C1 xs.length ∧ Fm R2 C2 ys.length ∧ C1 = R2)) :
    Calls Try.prog 11 #[a, b] w (RetE w 0 0 0 [] 2) := by
  obtain ⟨ao, ca, rfl⟩ := hA.agg
  obtain ⟨bo, cb, rfl⟩ := hB.agg
  obtain ⟨wb, ew, KA, KB, KR, B0, hsz⟩ := boxes2 w 24 24 24 [.int .i64 R1, .int .i64 C1, .slice ao xs.length ca] [.int .i64 R2, .int .i64 C2, .slice bo ys.length cb] [.int .i64 0, .int .i64 0, .slice none 0 0]
  clear hsz
  replace hA := hA.next B0; replace hB := hB.next B0
  by_cases h1 : Fm R1 C1 xs.length
  · by_cases h2 : Fm R2 C2 ys.length
    · have h3 : (C1 == R2) = false := by simpa using fun h3 => h ⟨h1, h2, h3⟩
      go_enter Try.func11, Try.ntmps11
      go_wp2_with fail
      rw [← ew]
      obtain ⟨g, eg⟩ : ∃ g, g = w.heap.size + 1 + 1 := ⟨_, rfl⟩
      rw [← eg] at KR ⊢
      have hgw : w.heap.size ≤ g := by omega
      clear ew eg
      refine (zmat_Formed_yes _ R1 C1 xs L _ hA h1).mono ?_; rintro e w2 ⟨rfl, b2⟩
      replace hB := hB.next b2; replace KA := KA.next b2; replace KB := KB.next b2; replace KR := KR.next b2
      replace B0 := B0.trans (b2.mono B0.size)
      clear b2
      have fKB0 := KB.cell 0; have fKB1 := KB.cell 1; have fKB2 := KB.cell 2
      go_wp2_with fail
      refine (zmat_Formed_yes _ R2 C2 ys M _ hB h2).mono ?_; rintro e w4 ⟨rfl, b4⟩
      replace KA := KA.next b4; replace KB := KB.next b4; replace KR := KR.next b4
      replace B0 := B0.trans (b4.mono B0.size)
      clear b4
      clear fKB0 fKB1 fKB2
      have fKA0 := KA.cell 0; have fKA1 := KA.cell 1; have fKB0 := KB.cell 0; have fKB1 := KB.cell 1
      have f0 := KR.free 0; have f1 := KR.free 1; have f2 := KR.free 2
      have c0 := KR.cell 0; have c1 := KR.cell 1; have c2 := KR.cell 2
      have KF := ((KR.set 0 (.int .i64 0)).set 1 (.int .i64 0)).set 2 (.slice none 0 0)
      have d0 := KF.cell 0; have d1 := KF.cell 1; have d2 := KF.cell 2
      have FR := Lib.hid (show RetE w 0 0 0 [] 2 (.returned (.tuple #[.agg #[.int .i64 0, .int .i64 0, .slice none 0 0], .int .i64 2])) (((w4.setCell ⟨g, 0, none⟩ (.int .i64 0)).setCell ⟨g, 1, none⟩ (.int .i64 0)).setCell ⟨g, 2, none⟩ (.slice none 0 0)) from ⟨_, rfl, MtN.none _ _, ((B0.setCell (p := ⟨g, 0, none⟩) hgw _).setCell (p := ⟨g, 1, none⟩) hgw _).setCell (p := ⟨g, 2, none⟩) hgw _⟩)
      clear KF KR B0
      go_wp2
      exact bodyPost_ret (v := .tuple #[.agg #[.int .i64 0, .int .i64 0, .slice none 0 0], .int .i64 2]) (by simp [results, Try.results11, go_sem, d0, d1, d2]) rfl FR.out
    · go_enter Try.func11, Try.ntmps11
      go_wp2_with fail
      rw [← ew]
      obtain ⟨g, eg⟩ : ∃ g, g = w.heap.size + 1 + 1 := ⟨_, rfl⟩
      rw [← eg] at KR ⊢
      have hgw : w.heap.size ≤ g := by omega
      clear ew eg
      refine (zmat_Formed_yes _ R1 C1 xs L _ hA h1).mono ?_; rintro e w2 ⟨rfl, b2⟩
      replace hB := hB.next b2; replace KA := KA.next b2; replace KB := KB.next b2; replace KR := KR.next b2
      replace B0 := B0.trans (b2.mono B0.size)
      clear b2
      have fKB0 := KB.cell 0; have fKB1 := KB.cell 1; have fKB2 := KB.cell 2
      go_wp2_with fail
      refine (zmat_Formed_no _ R2 C2 ys M _ hB h2).mono ?_; rintro e w4 ⟨rfl, b4⟩
      replace KR := KR.next b4
      replace B0 := B0.trans (b4.mono B0.size)
      clear b4
      clear fKB0 fKB1 fKB2
      have f0 := KR.free 0; have f1 := KR.free 1; have f2 := KR.free 2
      have c0 := KR.cell 0; have c1 := KR.cell 1; have c2 := KR.cell 2
      have KF := ((KR.set 0 (.int .i64 0)).set 1 (.int .i64 0)).set 2 (.slice none 0 0)
      have d0 := KF.cell 0; have d1 := KF.cell 1; have d2 := KF.cell 2
      have FR := Lib.hid (show RetE w 0 0 0 [] 2 (.returned (.tuple #[.agg #[.int .i64 0, .int .i64 0, .slice none 0 0], .int .i64 2])) (((w4.setCell ⟨g, 0, none⟩ (.int .i64 0)).setCell ⟨g, 1, none⟩ (.int .i64 0)).setCell ⟨g, 2, none⟩ (.slice none 0 0)) from ⟨_, rfl, MtN.none _ _, ((B0.setCell (p := ⟨g, 0, none⟩) hgw _).setCell (p := ⟨g, 1, none⟩) hgw _).setCell (p := ⟨g, 2, none⟩) hgw _⟩)
      clear KF KR B0
      go_wp2
      exact bodyPost_ret (v := .tuple #[.agg #[.int .i64 0, .int .i64 0, .slice none 0 0], .int .i64 2]) (by simp [results, Try.results11, go_sem, d0, d1, d2]) rfl FR.out
  · go_enter Try.func11, Try.ntmps11
    go_wp2_with fail
    rw [← ew]
    obtain ⟨g, eg⟩ : ∃ g, g = w.heap.size + 1 + 1 := ⟨_, rfl⟩
    rw [← eg] at KR ⊢
    have hgw : w.heap.size ≤ g := by omega
    clear ew eg
    refine (zmat_Formed_no _ R1 C1 xs L _ hA h1).mono ?_; rintro e w2 ⟨rfl, b2⟩
    replace KR := KR.next b2
    replace B0 := B0.trans (b2.mono B0.size)
    clear b2
    have f0 := KR.free 0; have f1 := KR.free 1; have f2 := KR.free 2
    have c0 := KR.cell 0; have c1 := KR.cell 1; have c2 := KR.cell 2
    have KF := ((KR.set 0 (.int .i64 0)).set 1 (.int .i64 0)).set 2 (.slice none 0 0)
    have d0 := KF.cell 0; have d1 := KF.cell 1; have d2 := KF.cell 2
    have FR := Lib.hid (show RetE w 0 0 0 [] 2 (.returned (.tuple #[.agg #[.int .i64 0, .int .i64 0, .slice none 0 0], .int .i64 2])) (((w2.setCell ⟨g, 0, none⟩ (.int .i64 0)).setCell ⟨g, 1, none⟩ (.int .i64 0)).setCell ⟨g, 2, none⟩ (.slice none 0 0)) from ⟨_, rfl, MtN.none _ _, ((B0.setCell (p := ⟨g, 0, none⟩) hgw _).setCell (p := ⟨g, 1, none⟩) hgw _).setCell (p := ⟨g, 2, none⟩) hgw _⟩)
    clear KF KR B0
    go_wp2
    exact bodyPost_ret (v := .tuple #[.agg #[.int .i64 0, .int .i64 0, .slice none 0 0], .int .i64 2]) (by simp [results, Try.results11, go_sem, d0, d1, d2]) rfl FR.out

end Go.Proofs.Ytahjbeilddenbaa
