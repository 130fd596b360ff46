/- Package zmat: the matrix of some numbers; the number at a place, or none. -/
import Derived.Test.YtahjbeilddenbaaZrmul
namespace Go.Proofs.Ytahjbeilddenbaa
open Go.RowKit

/-- The cells of whole numbers of one word. -/
structure Ci (w : World) (ao : Option Addr) (b off : Nat) (ns : List Int) : Prop where
  ao : ns ≠ [] → ao = some ⟨b, off, none⟩
  cell : ∀ j, j < ns.length → w.cell? ⟨b, off + j, none⟩ = some (.int .i64 (ns.getD j 0))
/-- A slice value reads as a list of whole numbers of one word. -/
def Si (w : World) (v : Value) (ns : List Int) : Prop := ∃ ao b off cap, v = .slice ao ns.length cap ∧ ns.length ≤ cap ∧ Ci w ao b off ns
theorem Si.next {w w' : World} {v : Value} {ns : List Int} (h : Si w v ns) (hb : Below w.heap.size w w') : Si w' v ns := by
  obtain ⟨ao, b, off, cap, e, hl, hc⟩ := h
  exact ⟨ao, b, off, cap, e, hl, hc.ao, fun j hj => (hb.cell (World.block_lt_of_cell? w _ (hc.cell j hj))).trans (hc.cell j hj)⟩
theorem boxes3 (w : World) (e1 e2 e3 e4 : TypeId) (A B C D : List Value) : ∃ wb, wb = (((w.alloc (.cells A.toArray e1)).alloc (.cells B.toArray e2)).alloc (.cells C.toArray e3)).alloc (.cells D.toArray e4) ∧
    Blk e1 wb w.heap.size A ∧ Blk e2 wb (w.heap.size + 1) B ∧ Blk e3 wb (w.heap.size + 1 + 1) C ∧ Blk e4 wb (w.heap.size + 1 + 1 + 1) D ∧ Below w.heap.size w wb := by
  obtain ⟨wa, ea, K1, K2, K3, B0, hsz⟩ := boxes2 w e1 e2 e3 A B C
  rw [← ea]
  have b4 := Blk.lit wa e4 D
  rw [hsz] at b4
  exact ⟨_, rfl, K1.alloc _, K2.alloc _, K3.alloc _, b4, B0.alloc B0.size _⟩

theorem zmat_Of1 (ns : List Int) (c i k : Nat) (gl gc : Nat) (ao : Option Addr) (ca : Nat) (w : World)
    (KL : Blk 53 w gl [.slice ao ns.length ca]) (KC0 : Blk 3 w gc [.int .i64 c]) (hL : Si w (.slice ao ns.length ca) ns) (hn : ∀ x ∈ ns, -9223372036854775808 ≤ x ∧ x < 9223372036854775808)
    (hi : i ≤ 100000) (hc : c ≤ 100000) (hk : k ≤ 100000) (hx : i * c + k < ns.length) :
    Calls Try.prog 65 #[.int .i64 i, .int .i64 k, .pointer (some ⟨gl, 0, none⟩), .pointer (some ⟨gc, 0, none⟩)] w (RetJ w 1 (ns.getD (i * c + k) 0)) := by
  obtain ⟨wb, ew, KC, B0, hsz⟩ := boxes1 w 36 [.bool false, .slice none 0 0]
  clear hsz
  have hw : i * c ≤ 100000 * 100000 := Nat.mul_le_mul hi hc
  have h1 : IntKind.i64.wrap ((i : Int) * (c : Int)) = ((i * c : Nat) : Int) := by rw [← Int.natCast_mul]; exact IntWalk.i64_in _ ⟨by omega, by omega⟩
  have h2 : IntKind.i64.wrap ((k : Int) + ((i * c : Nat) : Int)) = ((i * c + k : Nat) : Int) := by rw [← Int.natCast_add, Nat.add_comm]; exact IntWalk.i64_in _ ⟨by omega, by omega⟩
  have h2' : IntKind.i64.wrap (((i * c : Nat) : Int) + (k : Int)) = ((i * c + k : Nat) : Int) := by rw [← Int.natCast_add]; exact IntWalk.i64_in _ ⟨by omega, by omega⟩
  obtain ⟨ao', b, off, cap, e, hcap, hcs⟩ := hL.next B0
  simp only [Value.slice.injEq, true_and] at e
  obtain ⟨rfl, rfl⟩ := e
  have hne : ns ≠ [] := by intro h; subst h; simp at hx
  have ha := hcs.ao hne
  subst ha
  have hcell := hcs.cell _ hx
  have hb := hn (ns.getD (i * c + k) 0) (by
    have e : ns.getD (i * c + k) 0 = ns[i * c + k] := by simp [List.getD, List.getElem?_eq_getElem hx]
    rw [e]; exact List.getElem_mem hx)
  obtain ⟨Z, eZ⟩ : ∃ Z, Z = ns.getD (i * c + k) 0 := ⟨_, rfl⟩
  rw [← eZ] at hcell hb ⊢
  clear eZ hcs hn hL
  replace KL := KL.next B0; replace KC0 := KC0.next B0
  obtain ⟨LL, eL⟩ : ∃ LL, LL = 1 := ⟨_, rfl⟩
  rw [← eL]
  have hLL : 1 ≤ LL := by omega
  clear eL
  have HBB := Lib.hid hb; clear hb
  go_enter Try.func65, Try.ntmps65
  go_upto_region 1 with (fail)
  rw [← ew]
  obtain ⟨g, eg⟩ : ∃ g, g = w.heap.size := ⟨_, rfl⟩
  rw [← eg] at KC ⊢
  have hgw : w.heap.size ≤ g := by omega
  clear ew eg
  have q0 := KL.cell 0; have q1 := KC0.cell 0
  go_wp2_with fail
  refine (zi_Of Z _ HBB.out).mono ?_; rintro e w2 ⟨v2, rfl, h2, b2, -⟩
  obtain ⟨s2, a2, n2, c2, rfl⟩ := h2.agg
  replace KC := KC.next b2
  replace B0 := B0.trans (b2.mono B0.size)
  have h5 := h2.iv.mono hLL
  clear q0 q1 KL KC0 hcell
  have f0 := (KC).free 0; have f1 := (KC).free 1
  have c0 := (KC).cell 0; have c1 := (KC).cell 1
  have KF := ((KC).set 0 (.bool s2)).set 1 (.slice a2 n2 c2)
  have d0 := KF.cell 0; have d1 := KF.cell 1
  have FR := Lib.hid (show RetJ w LL Z (.returned (.agg #[.bool s2, .slice a2 n2 c2])) ((w2.setCell ⟨g, 0, none⟩ (.bool s2)).setCell ⟨g, 1, none⟩ (.slice a2 n2 c2)) from ⟨_, rfl, (h5).put (KC) s2 (.slice a2 n2 c2), ((B0).setCell (p := ⟨g, 0, none⟩) hgw (.bool s2)).setCell (p := ⟨g, 1, none⟩) hgw (.slice a2 n2 c2)⟩)
  clear KF
  go_wp2
  exact bodyPost_ret (v := .agg #[.bool s2, .slice a2 n2 c2]) (by simp [results, Try.results65, go_sem, d0, d1]) rfl FR.out

theorem zmat_Of (v : Value) (r c : Nat) (ns : List Int) (w : World) (hN : Si w v ns) (hn : ∀ x ∈ ns, -9223372036854775808 ≤ x ∧ x < 9223372036854775808) (hr : r ≤ 64) (hc : c ≤ 64) (hx : ns.length = r * c) :
    Calls Try.prog 34 #[.int .i64 r, .int .i64 c, v] w (RetE w 1 r c (tab c (fun i k => ns.getD (i * c + k) 0) (r * c)) 0) := by
  obtain ⟨ao, b, off, ca, rfl, hcap, hcs⟩ := hN
  have hN : Si w (.slice ao ns.length ca) ns := ⟨ao, b, off, ca, rfl, hcap, hcs⟩
  clear hcap hcs
  obtain ⟨wb, ew, KC, KL, KR, B0, hsz⟩ := boxes2 w 3 53 24 [.int .i64 c] [.slice ao ns.length ca] [.int .i64 0, .int .i64 0, .slice none 0 0]
  clear hsz
  replace hN := hN.next B0
  have hw : IntKind.i64.wrap ((r : Int) * (c : Int)) = ((ns.length : Nat) : Int) := by
    have : r * c ≤ 64 * 64 := Nat.mul_le_mul hr hc
    rw [← Int.natCast_mul, hx]; exact IntWalk.i64_in _ ⟨by omega, by omega⟩
  have HX := Lib.hid hx; clear hx
  have HN := Lib.hid hn; clear hn
  obtain ⟨zs, ezs⟩ : ∃ zs, zs = tab c (fun i k => ns.getD (i * c + k) 0) (r * c) := ⟨_, rfl⟩
  rw [← ezs]
  have EZ := Lib.hid ezs; clear ezs
  go_enter Try.func34, Try.ntmps34
  go_wp2_with fail
  rw [← ew]
  obtain ⟨g, eg⟩ : ∃ g, g = w.heap.size + 1 + 1 := ⟨_, rfl⟩
  rw [← eg] at KR ⊢
  have hgw : w.heap.size ≤ g := by omega
  clear ew eg
  have q0 := KC.cell 0; have q1 := KL.cell 0
  refine (zmat_side_yes r _ ⟨by omega, by omega⟩).mono ?_; rintro e wx ⟨rfl, rfl⟩
  go_wp2_with fail
  refine (zmat_side_yes c _ ⟨by omega, by omega⟩).mono ?_; rintro e wx ⟨rfl, rfl⟩
  go_wp2_with fail
  refine (zmat_made r c (by omega) (by omega) 65 (enters_of Try.func65 rfl rfl) [.pointer (some ⟨w.heap.size + 1, 0, none⟩), .pointer (some ⟨w.heap.size, 0, none⟩)] (fun i k => ns.getD (i * c + k) 0) (1) (by omega) _ (fun i k w' hi hk hb =>
    zmat_Of1 ns c i k _ _ ao ca w' (KL.next hb) (KC.next hb) (hN.next hb) HN.out (by omega) (by omega) (by omega) (at_lt HX.out hi hk))).mono ?_; rintro e w3 ⟨v3, rfl, h3, b3⟩
  clear KC KL hN q0 q1 hw
  rw [← EZ.out] at h3
  obtain ⟨a3, k3, rfl⟩ := h3.agg
  replace KR := KR.next b3
  replace B0 := B0.trans (b3.mono B0.size)
  have f0 := KR.free 0; have f1 := KR.free 1; have f2 := KR.free 2
  have c0 := KR.cell 0; have c1 := KR.cell 1; have c2 := KR.cell 2
  have KF := ((KR.set 0 (.int .i64 (r : Nat))).set 1 (.int .i64 (c : Nat))).set 2 (.slice a3 zs.length k3)
  have d0 := KF.cell 0; have d1 := KF.cell 1; have d2 := KF.cell 2
  have FR := Lib.hid (show RetE w (1) r c zs 0 (.returned (.tuple #[.agg #[.int .i64 (r : Nat), .int .i64 (c : Nat), .slice a3 zs.length k3], .int .i64 0])) (((w3.setCell ⟨g, 0, none⟩ (.int .i64 (r : Nat))).setCell ⟨g, 1, none⟩ (.int .i64 (c : Nat))).setCell ⟨g, 2, none⟩ (.slice a3 zs.length k3)) from ⟨_, rfl, h3.put KR _ _ _, ((B0.setCell (p := ⟨g, 0, none⟩) hgw _).setCell (p := ⟨g, 1, none⟩) hgw _).setCell (p := ⟨g, 2, none⟩) hgw _⟩)
  clear KF KR h3 B0 b3
  go_wp2
  exact bodyPost_ret (v := .tuple #[.agg #[.int .i64 (r : Nat), .int .i64 (c : Nat), .slice a3 zs.length k3], .int .i64 0]) (by simp [results, Try.results34, go_sem, d0, d1, d2]) rfl FR.out

theorem zmat_Of_arg (v : Value) (R C : Int) (ns : List Int) (w : World) (hN : Si w v ns) (h : ¬ (Sd R ∧ Sd C)) :
    Calls Try.prog 34 #[.int .i64 R, .int .i64 C, v] w (RetE w 0 0 0 [] 1) := by
  obtain ⟨ao, b, off, ca, rfl, hcap, hcs⟩ := hN
  have hN : Si w (.slice ao ns.length ca) ns := ⟨ao, b, off, ca, rfl, hcap, hcs⟩
  clear hcap hcs
  obtain ⟨wb, ew, KC, KL, KR, B0, hsz⟩ := boxes2 w 3 53 24 [.int .i64 C] [.slice ao ns.length ca] [.int .i64 0, .int .i64 0, .slice none 0 0]
  clear hsz
  clear hN
  by_cases h1 : Sd R
  · have h2 : ¬ Sd C := fun h2 => h ⟨h1, h2⟩
    go_enter Try.func34, Try.ntmps34
    go_wp2_with fail
    rw [← ew]
    obtain ⟨g, eg⟩ : ∃ g, g = w.heap.size + 1 + 1 := ⟨_, rfl⟩
    rw [← eg] at KR ⊢
    have hgw : w.heap.size ≤ g := by omega
    clear ew eg
    have q0 := KC.cell 0
    refine (zmat_side_yes R _ h1).mono ?_; rintro e wx ⟨rfl, rfl⟩
    go_wp2_with fail
    refine (zmat_side_no C _ h2).mono ?_; rintro e wx ⟨rfl, rfl⟩
    clear q0
    have f0 := KR.free 0; have f1 := KR.free 1; have f2 := KR.free 2
    have c0 := KR.cell 0; have c1 := KR.cell 1; have c2 := KR.cell 2
    have KF := ((KR.set 0 (.int .i64 0)).set 1 (.int .i64 0)).set 2 (.slice none 0 0)
    have d0 := KF.cell 0; have d1 := KF.cell 1; have d2 := KF.cell 2
    have FR := Lib.hid (show RetE w 0 0 0 [] 1 (.returned (.tuple #[.agg #[.int .i64 0, .int .i64 0, .slice none 0 0], .int .i64 1])) (((wb.setCell ⟨g, 0, none⟩ (.int .i64 0)).setCell ⟨g, 1, none⟩ (.int .i64 0)).setCell ⟨g, 2, none⟩ (.slice none 0 0)) from ⟨_, rfl, MtN.none _ _, ((B0.setCell (p := ⟨g, 0, none⟩) hgw _).setCell (p := ⟨g, 1, none⟩) hgw _).setCell (p := ⟨g, 2, none⟩) hgw _⟩)
    clear KF KR B0
    go_wp2
    exact bodyPost_ret (v := .tuple #[.agg #[.int .i64 0, .int .i64 0, .slice none 0 0], .int .i64 1]) (by simp [results, Try.results34, go_sem, d0, d1, d2]) rfl FR.out
  · go_enter Try.func34, Try.ntmps34
    go_wp2_with fail
    rw [← ew]
    obtain ⟨g, eg⟩ : ∃ g, g = w.heap.size + 1 + 1 := ⟨_, rfl⟩
    rw [← eg] at KR ⊢
    have hgw : w.heap.size ≤ g := by omega
    clear ew eg
    refine (zmat_side_no R _ h1).mono ?_; rintro e wx ⟨rfl, rfl⟩
    have f0 := KR.free 0; have f1 := KR.free 1; have f2 := KR.free 2
    have c0 := KR.cell 0; have c1 := KR.cell 1; have c2 := KR.cell 2
    have KF := ((KR.set 0 (.int .i64 0)).set 1 (.int .i64 0)).set 2 (.slice none 0 0)
    have d0 := KF.cell 0; have d1 := KF.cell 1; have d2 := KF.cell 2
    have FR := Lib.hid (show RetE w 0 0 0 [] 1 (.returned (.tuple #[.agg #[.int .i64 0, .int .i64 0, .slice none 0 0], .int .i64 1])) (((wb.setCell ⟨g, 0, none⟩ (.int .i64 0)).setCell ⟨g, 1, none⟩ (.int .i64 0)).setCell ⟨g, 2, none⟩ (.slice none 0 0)) from ⟨_, rfl, MtN.none _ _, ((B0.setCell (p := ⟨g, 0, none⟩) hgw _).setCell (p := ⟨g, 1, none⟩) hgw _).setCell (p := ⟨g, 2, none⟩) hgw _⟩)
    clear KF KR B0
    go_wp2
    exact bodyPost_ret (v := .tuple #[.agg #[.int .i64 0, .int .i64 0, .slice none 0 0], .int .i64 1]) (by simp [results, Try.results34, go_sem, d0, d1, d2]) rfl FR.out

theorem zmat_Of_shape (v : Value) (r c : Nat) (ns : List Int) (w : World) (hN : Si w v ns) (hr : r ≤ 64) (hc : c ≤ 64) (hx : ns.length ≠ r * c) :
    Calls Try.prog 34 #[.int .i64 r, .int .i64 c, v] w (RetE w 0 0 0 [] 2) := by
  obtain ⟨ao, b, off, ca, rfl, hcap, hcs⟩ := hN
  have hN : Si w (.slice ao ns.length ca) ns := ⟨ao, b, off, ca, rfl, hcap, hcs⟩
  clear hcap hcs
  obtain ⟨wb, ew, KC, KL, KR, B0, hsz⟩ := boxes2 w 3 53 24 [.int .i64 c] [.slice ao ns.length ca] [.int .i64 0, .int .i64 0, .slice none 0 0]
  clear hsz
  clear hN
  have hw : IntKind.i64.wrap ((r : Int) * (c : Int)) = ((r * c : Nat) : Int) := by
    have : r * c ≤ 64 * 64 := Nat.mul_le_mul hr hc
    rw [← Int.natCast_mul]; exact IntWalk.i64_in _ ⟨by omega, by omega⟩
  have hne : (((ns.length : Nat) : Int) == ((r * c : Nat) : Int)) = false := by simp; omega
  generalize r * c = rc at *
  generalize ns.length = n at *
  clear hx
  go_enter Try.func34, Try.ntmps34
  go_wp2_with fail
  rw [← ew]
  obtain ⟨g, eg⟩ : ∃ g, g = w.heap.size + 1 + 1 := ⟨_, rfl⟩
  rw [← eg] at KR ⊢
  have hgw : w.heap.size ≤ g := by omega
  clear ew eg
  have q0 := KC.cell 0; have q1 := KL.cell 0
  refine (zmat_side_yes r _ ⟨by omega, by omega⟩).mono ?_; rintro e wx ⟨rfl, rfl⟩
  go_wp2_with fail
  refine (zmat_side_yes c _ ⟨by omega, by omega⟩).mono ?_; rintro e wx ⟨rfl, rfl⟩
  have f0 := KR.free 0; have f1 := KR.free 1; have f2 := KR.free 2
  have c0 := KR.cell 0; have c1 := KR.cell 1; have c2 := KR.cell 2
  have KF := ((KR.set 0 (.int .i64 0)).set 1 (.int .i64 0)).set 2 (.slice none 0 0)
  have d0 := KF.cell 0; have d1 := KF.cell 1; have d2 := KF.cell 2
  have FR := Lib.hid (show RetE w 0 0 0 [] 2 (.returned (.tuple #[.agg #[.int .i64 0, .int .i64 0, .slice none 0 0], .int .i64 2])) (((wb.setCell ⟨g, 0, none⟩ (.int .i64 0)).setCell ⟨g, 1, none⟩ (.int .i64 0)).setCell ⟨g, 2, none⟩ (.slice none 0 0)) from ⟨_, rfl, MtN.none _ _, ((B0.setCell (p := ⟨g, 0, none⟩) hgw _).setCell (p := ⟨g, 1, none⟩) hgw _).setCell (p := ⟨g, 2, none⟩) hgw _⟩)
  clear KF KR B0
  go_wp2
  exact bodyPost_ret (v := .tuple #[.agg #[.int .i64 0, .int .i64 0, .slice none 0 0], .int .i64 2]) (by simp [results, Try.results34, go_sem, d0, d1, d2]) rfl FR.out

theorem zmat_has (R C : Int) (u : Value) (ao : Option Addr) (n k : Nat) (hu : u = .slice ao n k) (i : Int) (β : Bool) (hβ : β = decide (0 ≤ i ∧ i < R)) (w : World) :
    Calls Try.prog 69 #[.agg #[.int .i64 R, .int .i64 C, u], .int .i64 i] w (RetW w (.bool β)) := by
  subst hu
  obtain ⟨wb, ew, KA, B0, hsz⟩ := boxes1 w 24 [.int .i64 R, .int .i64 C, .slice ao n k]
  clear hsz
  by_cases h1 : 0 ≤ i
  · by_cases h2 : i < R
    · have : β = true := by rw [hβ]; exact decide_eq_true ⟨h1, h2⟩
      subst this
      clear hβ
      have d1 : decide (i ≥ 0) = true := decide_eq_true h1
      go_enter Try.func69, Try.ntmps69
      go_wp2
      rw [← ew]
      go_ret
      exact ⟨rfl, B0⟩
    · have : β = false := by rw [hβ]; exact decide_eq_false fun h => h2 h.2
      subst this
      clear hβ
      have d1 : decide (i ≥ 0) = true := decide_eq_true h1
      go_enter Try.func69, Try.ntmps69
      go_wp2
      rw [← ew]
      go_ret
      exact ⟨rfl, B0⟩
  · have : β = false := by rw [hβ]; exact decide_eq_false fun h => h1 h.1
    subst this
    clear hβ
    go_enter Try.func69, Try.ntmps69
    go_wp2
    rw [← ew]
    go_ret
    exact ⟨rfl, B0⟩

theorem zmat_At (v : Value) (r c i k : Nat) (xs : List Int) (L : Nat) (w : World) (hA : Mt w v r c xs L) (hr : r ≤ 64) (hc : c ≤ 64) (hx : xs.length = r * c) (hi : i < r) (hk : k < c) (hL : L ≤ 100000) :
    Calls Try.prog 37 #[v, .int .i64 i, .int .i64 k] w (RetI w L (xs.getD (i * c + k) 0)) := by
  obtain ⟨ao, ca, rfl⟩ := hA.agg
  obtain ⟨wb, ew, KA, KR, B0, hsz⟩ := boxes1' w 24 36 [.int .i64 r, .int .i64 c, .slice ao xs.length ca] [.bool false, .slice none 0 0]
  clear hsz
  replace hA := hA.next B0
  have HX := Lib.hid hx; clear hx
  obtain ⟨z, ez⟩ : ∃ z, z = xs.getD (i * c + k) 0 := ⟨_, rfl⟩
  rw [← ez]
  have EZ := Lib.hid ez; clear ez
  go_enter Try.func37, Try.ntmps37
  go_wp2_with fail
  rw [← ew]
  obtain ⟨g, eg⟩ : ∃ g, g = w.heap.size + 1 := ⟨_, rfl⟩
  rw [← eg] at KR ⊢
  have hgw : w.heap.size ≤ g := by omega
  clear ew eg
  refine (zmat_Formed_yes _ r c xs L _ hA (Fm.of hr hc HX.out)).mono ?_; rintro e w2 ⟨rfl, b2⟩
  replace hA := hA.next b2; replace KA := KA.next b2; replace KR := KR.next b2
  replace B0 := B0.trans (b2.mono B0.size)
  clear b2
  have fKA0 := KA.cell 0; have fKA1 := KA.cell 1; have fKA2 := KA.cell 2
  go_wp2_with fail
  refine (zmat_has r c _ ao xs.length ca rfl i true (by simp; omega) _).mono ?_; rintro e w3 ⟨rfl, b3⟩
  replace hA := hA.next b3; replace KA := KA.next b3; replace KR := KR.next b3
  replace B0 := B0.trans (b3.mono B0.size)
  clear b3
  clear fKA0 fKA1 fKA2
  have fKA0 := KA.cell 0; have fKA1 := KA.cell 1; have fKA2 := KA.cell 2
  go_wp2_with fail
  refine (zmat_get _ r c i k xs L _ hA (by omega) (by omega) (by omega) (at_lt HX.out hi hk)).mono ?_; rintro e w4 ⟨v4, rfl, h4, b4⟩
  rw [← EZ.out] at h4
  replace KR := KR.next b4
  replace B0 := B0.trans (b4.mono B0.size)
  obtain ⟨s4, u4, ys, rfl, hs4, hy4, hl4, hz4⟩ := h4
  obtain ⟨a4, g4, o4, c4, rfl, -, -⟩ := id hs4
  obtain ⟨wx, ewx, KX, BX, hsx⟩ := boxes1 w4 36 [.bool s4, .slice a4 ys.length c4]
  clear hsx KA hA fKA0 fKA1 fKA2
  have HZ4 := Lib.hid hz4; clear hz4
  go_wp2_with fail
  rw [← ewx]
  clear ewx
  replace KR := KR.next BX
  replace B0 := B0.trans (BX.mono B0.size)
  refine (zi_From s4 _ ys _ z L (hs4.next BX) (by omega) hy4 HZ4.out.symm hl4).mono ?_; rintro e w5 ⟨v5, rfl, h5, b5, q5⟩
  obtain ⟨s2, a2, n2, c2, rfl⟩ := h5.agg
  replace KR := KR.next b5
  replace q5 := q5.mono B0.size
  replace B0 := B0.trans (b5.mono B0.size)
  clear KX HZ4 EZ
  have f0 := (KR).free 0; have f1 := (KR).free 1
  have c0 := (KR).cell 0; have c1 := (KR).cell 1
  have KF := ((KR).set 0 (.bool s2)).set 1 (.slice a2 n2 c2)
  have d0 := KF.cell 0; have d1 := KF.cell 1
  have FR := Lib.hid (show RetI w L z (.returned (.agg #[.bool s2, .slice a2 n2 c2])) ((w5.setCell ⟨g, 0, none⟩ (.bool s2)).setCell ⟨g, 1, none⟩ (.slice a2 n2 c2)) from RetI.mono ⟨_, rfl, (h5).put (KR) s2 (.slice a2 n2 c2), ((B0).setCell (p := ⟨g, 0, none⟩) hgw (.bool s2)).setCell (p := ⟨g, 1, none⟩) hgw (.slice a2 n2 c2), q5⟩ (by omega) rfl)
  clear KF
  go_wp2
  exact bodyPost_ret (v := .agg #[.bool s2, .slice a2 n2 c2]) (by simp [results, Try.results37, go_sem, d0, d1]) rfl FR.out

theorem zmat_At_none (v : Value) (r c : Nat) (i k : Int) (xs : List Int) (L : Nat) (w : World) (hA : Mt w v r c xs L) (hr : r ≤ 64) (hc : c ≤ 64) (hx : xs.length = r * c) (h : ¬ (0 ≤ i ∧ i < r ∧ 0 ≤ k ∧ k < c)) :
    Calls Try.prog 37 #[v, .int .i64 i, .int .i64 k] w (RetI w 0 0) := by
  obtain ⟨ao, ca, rfl⟩ := hA.agg
  obtain ⟨wb, ew, KA, KR, B0, hsz⟩ := boxes1' w 24 36 [.int .i64 r, .int .i64 c, .slice ao xs.length ca] [.bool false, .slice none 0 0]
  clear hsz
  replace hA := hA.next B0
  have HX := Lib.hid hx; clear hx
  by_cases h1 : 0 ≤ i ∧ i < r
  · have h2 : ¬ (0 ≤ k ∧ k < c) := fun h2 => h ⟨h1.1, h1.2, h2⟩
    have h1' : (true : Bool) = decide (0 ≤ i ∧ i < (r : Int)) := (decide_eq_true h1).symm
    have H1 := Lib.hid h1'; clear h1 h h1'
    go_enter Try.func37, Try.ntmps37
    go_wp2_with fail
    rw [← ew]
    obtain ⟨g, eg⟩ : ∃ g, g = w.heap.size + 1 := ⟨_, rfl⟩
    rw [← eg] at KR ⊢
    have hgw : w.heap.size ≤ g := by omega
    clear ew eg
    refine (zmat_Formed_yes _ r c xs L _ hA (Fm.of hr hc HX.out)).mono ?_; rintro e w2 ⟨rfl, b2⟩
    replace KA := KA.next b2; replace KR := KR.next b2
    replace B0 := B0.trans (b2.mono B0.size)
    clear b2
    have fKA0 := KA.cell 0; have fKA1 := KA.cell 1; have fKA2 := KA.cell 2
    go_wp2_with fail
    refine (zmat_has r c _ ao xs.length ca rfl i true H1.out _).mono ?_; rintro e w3 ⟨rfl, b3⟩
    replace KA := KA.next b3; replace KR := KR.next b3
    replace B0 := B0.trans (b3.mono B0.size)
    clear b3
    clear fKA0 fKA1 fKA2
    have fKA0 := KA.cell 0; have fKA1 := KA.cell 1; have fKA2 := KA.cell 2
    by_cases h3 : k < 0
    · clear h2
      have f0 := KR.free 0; have f1 := KR.free 1
      have c0 := KR.cell 0; have c1 := KR.cell 1
      have KF := (KR.set 0 (.bool false)).set 1 (.slice none 0 0)
      have d0 := KF.cell 0; have d1 := KF.cell 1
      have FR := Lib.hid (show RetI w 0 0 (.returned (.agg #[.bool false, .slice none 0 0])) ((w3.setCell ⟨g, 0, none⟩ (.bool false)).setCell ⟨g, 1, none⟩ (.slice none 0 0)) from ⟨_, rfl, IvN.zero _ _, (B0.setCell (p := ⟨g, 0, none⟩) hgw (.bool false)).setCell (p := ⟨g, 1, none⟩) hgw (.slice none 0 0), fun s a n c e hn => by simp at e⟩)
      clear KF
      go_wp2
      exact bodyPost_ret (v := .agg #[.bool false, .slice none 0 0]) (by simp [results, Try.results37, go_sem, d0, d1]) rfl FR.out
    · have h4 : ¬ k < c := fun h4 => h2 ⟨by omega, h4⟩
      have h5 : decide (k ≥ (c : Int)) = true := decide_eq_true (by omega)
      clear h2
      have f0 := KR.free 0; have f1 := KR.free 1
      have c0 := KR.cell 0; have c1 := KR.cell 1
      have KF := (KR.set 0 (.bool false)).set 1 (.slice none 0 0)
      have d0 := KF.cell 0; have d1 := KF.cell 1
      have FR := Lib.hid (show RetI w 0 0 (.returned (.agg #[.bool false, .slice none 0 0])) ((w3.setCell ⟨g, 0, none⟩ (.bool false)).setCell ⟨g, 1, none⟩ (.slice none 0 0)) from ⟨_, rfl, IvN.zero _ _, (B0.setCell (p := ⟨g, 0, none⟩) hgw (.bool false)).setCell (p := ⟨g, 1, none⟩) hgw (.slice none 0 0), fun s a n c e hn => by simp at e⟩)
      clear KF
      go_wp2
      exact bodyPost_ret (v := .agg #[.bool false, .slice none 0 0]) (by simp [results, Try.results37, go_sem, d0, d1]) rfl FR.out
  · have h1' : (false : Bool) = decide (0 ≤ i ∧ i < (r : Int)) := (decide_eq_false h1).symm
    have H1 := Lib.hid h1'; clear h1 h h1'
    go_enter Try.func37, Try.ntmps37
    go_wp2_with fail
    rw [← ew]
    obtain ⟨g, eg⟩ : ∃ g, g = w.heap.size + 1 := ⟨_, rfl⟩
    rw [← eg] at KR ⊢
    have hgw : w.heap.size ≤ g := by omega
    clear ew eg
    refine (zmat_Formed_yes _ r c xs L _ hA (Fm.of hr hc HX.out)).mono ?_; rintro e w2 ⟨rfl, b2⟩
    replace KA := KA.next b2; replace KR := KR.next b2
    replace B0 := B0.trans (b2.mono B0.size)
    clear b2
    have fKA0 := KA.cell 0; have fKA1 := KA.cell 1; have fKA2 := KA.cell 2
    go_wp2_with fail
    refine (zmat_has r c _ ao xs.length ca rfl i false H1.out _).mono ?_; rintro e w3 ⟨rfl, b3⟩
    replace KR := KR.next b3
    replace B0 := B0.trans (b3.mono B0.size)
    clear b3
    clear fKA0 fKA1 fKA2
    have f0 := KR.free 0; have f1 := KR.free 1
    have c0 := KR.cell 0; have c1 := KR.cell 1
    have KF := (KR.set 0 (.bool false)).set 1 (.slice none 0 0)
    have d0 := KF.cell 0; have d1 := KF.cell 1
    have FR := Lib.hid (show RetI w 0 0 (.returned (.agg #[.bool false, .slice none 0 0])) ((w3.setCell ⟨g, 0, none⟩ (.bool false)).setCell ⟨g, 1, none⟩ (.slice none 0 0)) from ⟨_, rfl, IvN.zero _ _, (B0.setCell (p := ⟨g, 0, none⟩) hgw (.bool false)).setCell (p := ⟨g, 1, none⟩) hgw (.slice none 0 0), fun s a n c e hn => by simp at e⟩)
    clear KF
    go_wp2
    exact bodyPost_ret (v := .agg #[.bool false, .slice none 0 0]) (by simp [results, Try.results37, go_sem, d0, d1]) rfl FR.out

end Go.Proofs.Ytahjbeilddenbaa
