/- Package zmat: sums, multiples, products. -/
import Derived.Test.YtahjbeilddenbaaZalike
namespace Go.Proofs.Ytahjbeilddenbaa
open Go.RowKit

theorem zint_ne_zmat : (24 : TypeId) ≠ 36 := by decide

theorem ZO.put {w : World} {base : Nat} {v : Value} {zs : List Int} {L : Nat} {es : List (Bool × Value)} (h : ZO w base v zs L es) {e : TypeId} {g : Nat} {vs : List Value} (K : Blk e w g vs) (he : e ≠ 36)
    (hv : ∀ (j : Nat) (x : Int), vs[j]? ≠ some (Value.int .u64 x)) (j : Nat) (y : Value) : ZO (w.setCell ⟨g, j, none⟩ y) base v zs L es := by
  refine ⟨h.len, ⟨h.own.1, ?_⟩, fun i hi => ?_, h.off⟩
  · rcases h.own.2 with h | ⟨g', cap, cur, a, b, c, d⟩
    · exact .inl h
    · refine .inr ⟨g', cap, cur, a, b, ?_, d⟩
      rw [Below.heap_setCell w ⟨g, j, none⟩ y g' (by
        intro hgg
        simp only at hgg
        subst hgg
        have := K.symm.trans c
        simp at this
        exact he this.2)]
      exact c
  · obtain ⟨s, u, xs, e, hs, r⟩ := h.num i hi
    exact ⟨s, u, xs, e, hs.offB K hv j y, r⟩

theorem MtN.agg {w : World} {v : Value} {r c : Nat} {zs : List Int} {L : Nat} (h : MtN w v r c zs L) : ∃ ao k, v = .agg #[.int .i64 r, .int .i64 c, .slice ao zs.length k] := h.mt.agg

/-- A matrix may be stored in a block that holds a matrix. -/
theorem MtN.put {w : World} {v : Value} {r c : Nat} {zs : List Int} {L : Nat} (h : MtN w v r c zs L) {g : Nat} {a b : Int} {ao : Option Addr} {n k : Nat} (K : Blk 24 w g [.int .i64 a, .int .i64 b, .slice ao n k]) (a' b' : Int) (y : Value) :
    MtN (((w.setCell ⟨g, 0, none⟩ (.int .i64 a')).setCell ⟨g, 1, none⟩ (.int .i64 b')).setCell ⟨g, 2, none⟩ y) v r c zs L := by
  obtain ⟨u, es, base, rfl, hz⟩ := h
  exact ⟨u, es, base, rfl, ((hz.put K zint_ne_zmat (noint3 _ _ _ _ _) 0 _).put (K.set 0 (.int .i64 a')) zint_ne_zmat (noint3 _ _ _ _ _) 1 _).put ((K.set 0 (.int .i64 a')).set 1 (.int .i64 b')) zint_ne_zmat (noint3 _ _ _ _ _) 2 _⟩

theorem MtN.none (w : World) (L : Nat) : MtN w (.agg #[.int .i64 0, .int .i64 0, .slice .none 0 0]) 0 0 [] L := ⟨_, [], 0, rfl, ZO.nil _ _ _⟩

/-- A matrix and a word on how it went are returned. -/
def RetE (w : World) (L : Nat) (r c : Nat) (zs : List Int) (ec : Int) (e : Ending) (w' : World) : Prop := ∃ v, e = .returned (.tuple #[v, .int .i64 ec]) ∧ MtN w' v r c zs L ∧ Below w.heap.size w w'

theorem zmat_alike_yes (a b : Value) (R1 C1 R2 C2 : Int) (xs ys : List Int) (L M : Nat) (w : World) (hA : Mt w a R1 C1 xs L) (hB : Mt w b R2 C2 ys M) (h : Al R1 C1 R2 C2 xs.length ys.length) :
    Calls Try.prog 46 #[a, b] w (RetW w (.bool true)) := by
  have := zmat_alike a b R1 C1 R2 C2 xs ys L M w hA hB
  rwa [decide_eq_true h] at this
theorem zmat_alike_no (a b : Value) (R1 C1 R2 C2 : Int) (xs ys : List Int) (L M : Nat) (w : World) (hA : Mt w a R1 C1 xs L) (hB : Mt w b R2 C2 ys M) (h : ¬ Al R1 C1 R2 C2 xs.length ys.length) :
    Calls Try.prog 46 #[a, b] w (RetW w (.bool false)) := by
  have := zmat_alike a b R1 C1 R2 C2 xs ys L M w hA hB
  rwa [decide_eq_false h] at this
theorem Fm.of {r c n : Nat} (hr : r ≤ 64) (hc : c ≤ 64) (hn : n = r * c) : Fm r c n := ⟨⟨by omega, by omega⟩, ⟨by omega, by omega⟩, by rw [hn, Int.natCast_mul]⟩
theorem at_lt {i k r c n : Nat} (hn : n = r * c) (hi : i < r) (hk : k < c) : i * c + k < n := by
  have : (i + 1) * c ≤ r * c := Nat.mul_le_mul_right _ hi
  rw [Nat.succ_mul] at this; omega

theorem zmat_Add (a b : Value) (r c : Nat) (xs ys : List Int) (L M : Nat) (w : World) (hA : Mt w a r c xs L) (hB : Mt w b r c ys M) (hr : r ≤ 64) (hc : c ≤ 64) (hx : xs.length = r * c) (hy : ys.length = r * c) (hL : L ≤ 500) (hM : M ≤ 500) :
    Calls Try.prog 20 #[a, b] w (RetE w (L + M + 1) r c (tab c (fun i k => xs.getD (i * c + k) 0 + ys.getD (i * c + k) 0) (r * c)) 0) := by
  obtain ⟨ao, ca, rfl⟩ := hA.agg
  obtain ⟨bo, cb, rfl⟩ := hB.agg
  obtain ⟨wb, ew, KA, KB, KR, B0, hsz⟩ := boxes2 w 24 24 24 [.int .i64 r, .int .i64 c, .slice ao xs.length ca] [.int .i64 r, .int .i64 c, .slice bo ys.length cb] [.int .i64 0, .int .i64 0, .slice none 0 0]
  clear hsz
  replace hA := hA.next B0; replace hB := hB.next B0
  have HX := Lib.hid hx; have HY := Lib.hid hy; clear hx hy
  obtain ⟨zs, ezs⟩ : ∃ zs, zs = tab c (fun i k => xs.getD (i * c + k) 0 + ys.getD (i * c + k) 0) (r * c) := ⟨_, rfl⟩
  rw [← ezs]
  have EZ := Lib.hid ezs; clear ezs
  go_enter Try.func20, Try.ntmps20
  go_wp2_with fail
  rw [← ew]
  obtain ⟨g, eg⟩ : ∃ g, g = w.heap.size + 1 + 1 := ⟨_, rfl⟩
  rw [← eg] at KR ⊢
  have hgw : w.heap.size ≤ g := by omega
  clear ew eg
  refine (zmat_alike_yes _ _ r c r c xs ys L M _ hA hB ⟨Fm.of hr hc HX.out, Fm.of hr hc HY.out, rfl, rfl⟩).mono ?_; rintro e w2 ⟨rfl, b2⟩
  replace hA := hA.next b2; replace hB := hB.next b2; replace KA := KA.next b2; replace KB := KB.next b2; replace KR := KR.next b2
  replace B0 := B0.trans (b2.mono B0.size)
  clear b2
  have f0 := KA.cell 0; have f1 := KA.cell 1
  go_wp2_with fail
  refine (zmat_made r c (by omega) (by omega) 47 (enters_of Try.func47 rfl rfl) [.pointer (some ⟨w.heap.size, 0, none⟩), .pointer (some ⟨w.heap.size + 1, 0, none⟩)] (fun i k => xs.getD (i * c + k) 0 + ys.getD (i * c + k) 0) (L + M + 1) (by omega) _ (fun i k w' hi hk hb =>
    zmat_Add1 r r c i k xs ys L M w' _ _ ao bo ca cb (KA.next hb) (KB.next hb) (hA.next hb) (hB.next hb) (by omega) (by omega) (by omega) (at_lt HX.out hi hk) (at_lt HY.out hi hk) (by omega) (by omega))).mono ?_; rintro e w3 ⟨v3, rfl, h3, b3⟩
  clear f0 f1 KA KB hA hB
  rw [← EZ.out] at h3
  obtain ⟨a3, k3, rfl⟩ := h3.agg
  replace KR := KR.next b3
  replace B0 := B0.trans (b3.mono B0.size)
  have f0 := KR.free 0; have f1 := KR.free 1; have f2 := KR.free 2
  have c0 := KR.cell 0; have c1 := KR.cell 1; have c2 := KR.cell 2
  have KF := ((KR.set 0 (.int .i64 (r : Nat))).set 1 (.int .i64 (c : Nat))).set 2 (.slice a3 zs.length k3)
  have d0 := KF.cell 0; have d1 := KF.cell 1; have d2 := KF.cell 2
  have FR := Lib.hid (show RetE w (L + M + 1) r c zs 0 (.returned (.tuple #[.agg #[.int .i64 (r : Nat), .int .i64 (c : Nat), .slice a3 zs.length k3], .int .i64 0])) (((w3.setCell ⟨g, 0, none⟩ (.int .i64 (r : Nat))).setCell ⟨g, 1, none⟩ (.int .i64 (c : Nat))).setCell ⟨g, 2, none⟩ (.slice a3 zs.length k3)) from ⟨_, rfl, h3.put KR _ _ _, ((B0.setCell (p := ⟨g, 0, none⟩) hgw _).setCell (p := ⟨g, 1, none⟩) hgw _).setCell (p := ⟨g, 2, none⟩) hgw _⟩)
  clear KF KR h3 B0 b3
  go_wp2
  exact bodyPost_ret (v := .tuple #[.agg #[.int .i64 (r : Nat), .int .i64 (c : Nat), .slice a3 zs.length k3], .int .i64 0]) (by simp [results, Try.results20, go_sem, d0, d1, d2]) rfl FR.out

theorem zmat_Add_bad (a b : Value) (R1 C1 R2 C2 : Int) (xs ys : List Int) (L M : Nat) (w : World) (hA : Mt w a R1 C1 xs L) (hB : Mt w b R2 C2 ys M) (h : ¬ Al R1 C1 R2 C2 xs.length ys.length) :
    Calls Try.prog 20 #[a, b] w (RetE w 0 0 0 [] 2) := by
  obtain ⟨ao, ca, rfl⟩ := hA.agg
  obtain ⟨bo, cb, rfl⟩ := hB.agg
  obtain ⟨wb, ew, KA, KB, KR, B0, hsz⟩ := boxes2 w 24 24 24 [.int .i64 R1, .int .i64 C1, .slice ao xs.length ca] [.int .i64 R2, .int .i64 C2, .slice bo ys.length cb] [.int .i64 0, .int .i64 0, .slice none 0 0]
  clear hsz
  replace hA := hA.next B0; replace hB := hB.next B0
  go_enter Try.func20, Try.ntmps20
  go_wp2_with fail
  rw [← ew]
  obtain ⟨g, eg⟩ : ∃ g, g = w.heap.size + 1 + 1 := ⟨_, rfl⟩
  rw [← eg] at KR ⊢
  have hgw : w.heap.size ≤ g := by omega
  clear ew eg
  refine (zmat_alike_no _ _ R1 C1 R2 C2 xs ys L M _ hA hB h).mono ?_; rintro e w2 ⟨rfl, b2⟩
  replace KR := KR.next b2
  replace B0 := B0.trans (b2.mono B0.size)
  clear b2 hA hB KA KB
  have f0 := KR.free 0; have f1 := KR.free 1; have f2 := KR.free 2
  have c0 := KR.cell 0; have c1 := KR.cell 1; have c2 := KR.cell 2
  have KF := ((KR.set 0 (.int .i64 0)).set 1 (.int .i64 0)).set 2 (.slice none 0 0)
  have d0 := KF.cell 0; have d1 := KF.cell 1; have d2 := KF.cell 2
  have FR := Lib.hid (show RetE w 0 0 0 [] 2 (.returned (.tuple #[.agg #[.int .i64 0, .int .i64 0, .slice none 0 0], .int .i64 2])) (((w2.setCell ⟨g, 0, none⟩ (.int .i64 0)).setCell ⟨g, 1, none⟩ (.int .i64 0)).setCell ⟨g, 2, none⟩ (.slice none 0 0)) from ⟨_, rfl, MtN.none _ _, ((B0.setCell (p := ⟨g, 0, none⟩) hgw _).setCell (p := ⟨g, 1, none⟩) hgw _).setCell (p := ⟨g, 2, none⟩) hgw _⟩)
  clear KF KR B0
  go_wp2
  exact bodyPost_ret (v := .tuple #[.agg #[.int .i64 0, .int .i64 0, .slice none 0 0], .int .i64 2]) (by simp [results, Try.results20, go_sem, d0, d1, d2]) rfl FR.out

theorem zmat_Sub (a b : Value) (r c : Nat) (xs ys : List Int) (L M : Nat) (w : World) (hA : Mt w a r c xs L) (hB : Mt w b r c ys M) (hr : r ≤ 64) (hc : c ≤ 64) (hx : xs.length = r * c) (hy : ys.length = r * c) (hL : L ≤ 500) (hM : M ≤ 500) :
    Calls Try.prog 21 #[a, b] w (RetE w (L + M + 1) r c (tab c (fun i k => xs.getD (i * c + k) 0 - ys.getD (i * c + k) 0) (r * c)) 0) := by
  obtain ⟨ao, ca, rfl⟩ := hA.agg
  obtain ⟨bo, cb, rfl⟩ := hB.agg
  obtain ⟨wb, ew, KA, KB, KR, B0, hsz⟩ := boxes2 w 24 24 24 [.int .i64 r, .int .i64 c, .slice ao xs.length ca] [.int .i64 r, .int .i64 c, .slice bo ys.length cb] [.int .i64 0, .int .i64 0, .slice none 0 0]
  clear hsz
  replace hA := hA.next B0; replace hB := hB.next B0
  have HX := Lib.hid hx; have HY := Lib.hid hy; clear hx hy
  obtain ⟨zs, ezs⟩ : ∃ zs, zs = tab c (fun i k => xs.getD (i * c + k) 0 - ys.getD (i * c + k) 0) (r * c) := ⟨_, rfl⟩
  rw [← ezs]
  have EZ := Lib.hid ezs; clear ezs
  go_enter Try.func21, Try.ntmps21
  go_wp2_with fail
  rw [← ew]
  obtain ⟨g, eg⟩ : ∃ g, g = w.heap.size + 1 + 1 := ⟨_, rfl⟩
  rw [← eg] at KR ⊢
  have hgw : w.heap.size ≤ g := by omega
  clear ew eg
  refine (zmat_alike_yes _ _ r c r c xs ys L M _ hA hB ⟨Fm.of hr hc HX.out, Fm.of hr hc HY.out, rfl, rfl⟩).mono ?_; rintro e w2 ⟨rfl, b2⟩
  replace hA := hA.next b2; replace hB := hB.next b2; replace KA := KA.next b2; replace KB := KB.next b2; replace KR := KR.next b2
  replace B0 := B0.trans (b2.mono B0.size)
  clear b2
  have f0 := KA.cell 0; have f1 := KA.cell 1
  go_wp2_with fail
  refine (zmat_made r c (by omega) (by omega) 48 (enters_of Try.func48 rfl rfl) [.pointer (some ⟨w.heap.size, 0, none⟩), .pointer (some ⟨w.heap.size + 1, 0, none⟩)] (fun i k => xs.getD (i * c + k) 0 - ys.getD (i * c + k) 0) (L + M + 1) (by omega) _ (fun i k w' hi hk hb =>
    zmat_Sub1 r r c i k xs ys L M w' _ _ ao bo ca cb (KA.next hb) (KB.next hb) (hA.next hb) (hB.next hb) (by omega) (by omega) (by omega) (at_lt HX.out hi hk) (at_lt HY.out hi hk) (by omega) (by omega))).mono ?_; rintro e w3 ⟨v3, rfl, h3, b3⟩
  clear f0 f1 KA KB hA hB
  rw [← EZ.out] at h3
  obtain ⟨a3, k3, rfl⟩ := h3.agg
  replace KR := KR.next b3
  replace B0 := B0.trans (b3.mono B0.size)
  have f0 := KR.free 0; have f1 := KR.free 1; have f2 := KR.free 2
  have c0 := KR.cell 0; have c1 := KR.cell 1; have c2 := KR.cell 2
  have KF := ((KR.set 0 (.int .i64 (r : Nat))).set 1 (.int .i64 (c : Nat))).set 2 (.slice a3 zs.length k3)
  have d0 := KF.cell 0; have d1 := KF.cell 1; have d2 := KF.cell 2
  have FR := Lib.hid (show RetE w (L + M + 1) r c zs 0 (.returned (.tuple #[.agg #[.int .i64 (r : Nat), .int .i64 (c : Nat), .slice a3 zs.length k3], .int .i64 0])) (((w3.setCell ⟨g, 0, none⟩ (.int .i64 (r : Nat))).setCell ⟨g, 1, none⟩ (.int .i64 (c : Nat))).setCell ⟨g, 2, none⟩ (.slice a3 zs.length k3)) from ⟨_, rfl, h3.put KR _ _ _, ((B0.setCell (p := ⟨g, 0, none⟩) hgw _).setCell (p := ⟨g, 1, none⟩) hgw _).setCell (p := ⟨g, 2, none⟩) hgw _⟩)
  clear KF KR h3 B0 b3
  go_wp2
  exact bodyPost_ret (v := .tuple #[.agg #[.int .i64 (r : Nat), .int .i64 (c : Nat), .slice a3 zs.length k3], .int .i64 0]) (by simp [results, Try.results21, go_sem, d0, d1, d2]) rfl FR.out

theorem zmat_Sub_bad (a b : Value) (R1 C1 R2 C2 : Int) (xs ys : List Int) (L M : Nat) (w : World) (hA : Mt w a R1 C1 xs L) (hB : Mt w b R2 C2 ys M) (h : ¬ Al R1 C1 R2 C2 xs.length ys.length) :
    Calls Try.prog 21 #[a, b] w (RetE w 0 0 0 [] 2) := by
  obtain ⟨ao, ca, rfl⟩ := hA.agg
  obtain ⟨bo, cb, rfl⟩ := hB.agg
  obtain ⟨wb, ew, KA, KB, KR, B0, hsz⟩ := boxes2 w 24 24 24 [.int .i64 R1, .int .i64 C1, .slice ao xs.length ca] [.int .i64 R2, .int .i64 C2, .slice bo ys.length cb] [.int .i64 0, .int .i64 0, .slice none 0 0]
  clear hsz
  replace hA := hA.next B0; replace hB := hB.next B0
  go_enter Try.func21, Try.ntmps21
  go_wp2_with fail
  rw [← ew]
  obtain ⟨g, eg⟩ : ∃ g, g = w.heap.size + 1 + 1 := ⟨_, rfl⟩
  rw [← eg] at KR ⊢
  have hgw : w.heap.size ≤ g := by omega
  clear ew eg
  refine (zmat_alike_no _ _ R1 C1 R2 C2 xs ys L M _ hA hB h).mono ?_; rintro e w2 ⟨rfl, b2⟩
  replace KR := KR.next b2
  replace B0 := B0.trans (b2.mono B0.size)
  clear b2 hA hB KA KB
  have f0 := KR.free 0; have f1 := KR.free 1; have f2 := KR.free 2
  have c0 := KR.cell 0; have c1 := KR.cell 1; have c2 := KR.cell 2
  have KF := ((KR.set 0 (.int .i64 0)).set 1 (.int .i64 0)).set 2 (.slice none 0 0)
  have d0 := KF.cell 0; have d1 := KF.cell 1; have d2 := KF.cell 2
  have FR := Lib.hid (show RetE w 0 0 0 [] 2 (.returned (.tuple #[.agg #[.int .i64 0, .int .i64 0, .slice none 0 0], .int .i64 2])) (((w2.setCell ⟨g, 0, none⟩ (.int .i64 0)).setCell ⟨g, 1, none⟩ (.int .i64 0)).setCell ⟨g, 2, none⟩ (.slice none 0 0)) from ⟨_, rfl, MtN.none _ _, ((B0.setCell (p := ⟨g, 0, none⟩) hgw _).setCell (p := ⟨g, 1, none⟩) hgw _).setCell (p := ⟨g, 2, none⟩) hgw _⟩)
  clear KF KR B0
  go_wp2
  exact bodyPost_ret (v := .tuple #[.agg #[.int .i64 0, .int .i64 0, .slice none 0 0], .int .i64 2]) (by simp [results, Try.results21, go_sem, d0, d1, d2]) rfl FR.out

end Go.Proofs.Ytahjbeilddenbaa
