/- Package zmat: a matrix with one row made anew; rows change places, a multiple of a row is added to another, a row's signs turn. -/
import Derived.Test.YtahjbeilddenbaaZmk
namespace Go.Proofs.Ytahjbeilddenbaa
open Go.RowKit

/-- A matrix with one row made anew. -/
def turnL (r c i : Nat) (T : Nat → Int) (xs : List Int) : List Int := tab c (fun p q => if p = i then T q else xs.getD (p * c + q) 0) (r * c)
theorem turnL_length (r c i : Nat) (T : Nat → Int) (xs : List Int) : (turnL r c i T xs).length = r * c := tab_length _ _ _

theorem boxes4 (w : World) (e1 e2 e3 e4 e5 : TypeId) (A B C D E : List Value) : ∃ wb, wb = ((((w.alloc (.cells A.toArray e1)).alloc (.cells B.toArray e2)).alloc (.cells C.toArray e3)).alloc (.cells D.toArray e4)).alloc (.cells E.toArray e5) ∧
    Blk e1 wb w.heap.size A ∧ Blk e2 wb (w.heap.size + 1) B ∧ Blk e3 wb (w.heap.size + 1 + 1) C ∧ Blk e4 wb (w.heap.size + 1 + 1 + 1) D ∧ Blk e5 wb (w.heap.size + 1 + 1 + 1 + 1) E ∧ Below w.heap.size w wb := by
  obtain ⟨wa, ea, K1, K2, K3, B0, hsz⟩ := boxes2 w e1 e2 e3 A B C
  rw [← ea]
  have b4 := Blk.lit wa e4 D
  have b5 := Blk.lit (wa.alloc (.cells D.toArray e4)) e5 E
  have hs2 : (wa.alloc (.cells D.toArray e4)).heap.size = w.heap.size + 1 + 1 + 1 + 1 := by simp [hsz]
  rw [hs2] at b5
  rw [hsz] at b4
  exact ⟨_, rfl, (K1.alloc _).alloc _, (K2.alloc _).alloc _, (K3.alloc _).alloc _, b4.alloc _, b5, (B0.alloc B0.size _).alloc (B0.alloc B0.size _).size _⟩

theorem zmat_turned1_by (i k : Nat) (L : Nat) (gi gf ga : Nat) (fn : Nat) (hE : Enters Try.prog fn) (caps : List Value) (z : Int) (w : World)
    (KI : Blk 3 w gi [.int .i64 i]) (KF0 : Blk 84 w gf [.func (.func fn) #[] caps.toArray])
    (hf : ∀ (w' : World), Below w.heap.size w w' → Calls Try.prog fn (.int .i64 k :: caps).toArray w' (RetJ w' L z)) :
    Calls Try.prog 93 #[.int .i64 i, .int .i64 k, .pointer (some ⟨gi, 0, none⟩), .pointer (some ⟨gf, 0, none⟩), .pointer (some ⟨ga, 0, none⟩)] w (RetJ w L z) := by
  obtain ⟨wb, ew, KC, B0, hsz⟩ := boxes1 w 36 [.bool false, .slice none 0 0]
  clear hsz
  have HF := Lib.hid (hf wb B0); clear hf
  replace KI := KI.next B0; replace KF0 := KF0.next B0
  have hq : ((i : Int) == (i : Int)) = true := by simp
  go_enter Try.func93, Try.ntmps93
  go_upto_region 1 with (fail)
  rw [← ew]
  obtain ⟨g, eg⟩ : ∃ g, g = w.heap.size := ⟨_, rfl⟩
  rw [← eg] at KC ⊢
  have hgw : w.heap.size ≤ g := by omega
  clear ew eg
  have q0 := KI.cell 0; have q1 := KF0.cell 0
  go_wp2_with fail
  rw [hE]
  refine HF.out.mono ?_; rintro e w2 ⟨v2, rfl, h2, b2⟩
  obtain ⟨s2, a2, n2, c2, rfl⟩ := h2.agg
  replace KC := KC.next b2
  replace B0 := B0.trans (b2.mono B0.size)
  clear q0 q1 KI KF0
  have h5 := h2
  have f0 := (KC).free 0; have f1 := (KC).free 1
  have c0 := (KC).cell 0; have c1 := (KC).cell 1
  have KF := ((KC).set 0 (.bool s2)).set 1 (.slice a2 n2 c2)
  have d0 := KF.cell 0; have d1 := KF.cell 1
  have FR := Lib.hid (show RetJ w L z (.returned (.agg #[.bool s2, .slice a2 n2 c2])) ((w2.setCell ⟨g, 0, none⟩ (.bool s2)).setCell ⟨g, 1, none⟩ (.slice a2 n2 c2)) from ⟨_, rfl, (h5).put (KC) s2 (.slice a2 n2 c2), ((B0).setCell (p := ⟨g, 0, none⟩) hgw (.bool s2)).setCell (p := ⟨g, 1, none⟩) hgw (.slice a2 n2 c2)⟩)
  clear KF
  go_wp2
  exact bodyPost_ret (v := .agg #[.bool s2, .slice a2 n2 c2]) (by simp [results, Try.results93, go_sem, d0, d1]) rfl FR.out

theorem zmat_turned1_get (R1 : Int) (c i k : Nat) (xs : List Int) (L : Nat) (ga : Nat) (ao : Option Addr) (ca : Nat) (p : Nat) (hp : i ≠ p) (gi gf : Nat) (w : World)
    (KA : Blk 24 w ga [.int .i64 R1, .int .i64 c, .slice ao xs.length ca]) (hA : Mt w (.agg #[.int .i64 R1, .int .i64 c, .slice ao xs.length ca]) R1 c xs L)
    (hi : i ≤ 100000) (hc : c ≤ 100000) (hk : k ≤ 100000) (KI : Blk 3 w gi [.int .i64 p]) (hx : i * c + k < xs.length) :
    Calls Try.prog 93 #[.int .i64 i, .int .i64 k, .pointer (some ⟨gi, 0, none⟩), .pointer (some ⟨gf, 0, none⟩), .pointer (some ⟨ga, 0, none⟩)] w (RetJ w (L) (xs.getD (i * c + k) 0)) := by
  obtain ⟨wb, ew, KC, B0, hsz⟩ := boxes1 w 36 [.bool false, .slice none 0 0]
  clear hsz
  obtain ⟨Z, eZ⟩ : ∃ Z, Z = xs.getD (i * c + k) 0 := ⟨_, rfl⟩
  rw [← eZ]
  have EZ := Lib.hid eZ; clear eZ
  obtain ⟨LL, eL⟩ : ∃ LL, LL = L := ⟨_, rfl⟩
  rw [← eL]
  have hLL : L ≤ LL := by omega
  clear eL
  go_enter Try.func93, Try.ntmps93
  go_upto_region 1 with (fail)
  rw [← ew]
  obtain ⟨g, eg⟩ : ∃ g, g = w.heap.size := ⟨_, rfl⟩
  rw [← eg] at KC ⊢
  have hgw : w.heap.size ≤ g := by omega
  clear ew eg
  replace KA := KA.next B0; replace hA := hA.next B0
  have a0 := KA.cell 0; have a1 := KA.cell 1; have a2 := KA.cell 2
  have q0 := (KI.next B0).cell 0
  have hq : ((i : Int) == (p : Int)) = false := by simp; omega
  go_wp2_with fail
  refine (zmat_get _ R1 c i k xs L _ hA hi hc hk hx).mono ?_; rintro e w2 ⟨v2, rfl, h2, b2⟩
  obtain ⟨s2, a2, n2, c2, rfl⟩ := h2.agg
  replace KC := KC.next b2
  replace B0 := B0.trans (b2.mono B0.size)
  have h5 := h2.mono hLL
  rw [← EZ.out] at h5
  have f0 := (KC).free 0; have f1 := (KC).free 1
  have c0 := (KC).cell 0; have c1 := (KC).cell 1
  have KF := ((KC).set 0 (.bool s2)).set 1 (.slice a2 n2 c2)
  have d0 := KF.cell 0; have d1 := KF.cell 1
  have FR := Lib.hid (show RetJ w LL Z (.returned (.agg #[.bool s2, .slice a2 n2 c2])) ((w2.setCell ⟨g, 0, none⟩ (.bool s2)).setCell ⟨g, 1, none⟩ (.slice a2 n2 c2)) from ⟨_, rfl, (h5).put (KC) s2 (.slice a2 n2 c2), ((B0).setCell (p := ⟨g, 0, none⟩) hgw (.bool s2)).setCell (p := ⟨g, 1, none⟩) hgw (.slice a2 n2 c2)⟩)
  clear KF
  go_wp2
  exact bodyPost_ret (v := .agg #[.bool s2, .slice a2 n2 c2]) (by simp [results, Try.results93, go_sem, d0, d1]) rfl FR.out

theorem zmat_turned (a : Value) (r c p k0 : Nat) (xs : List Int) (L : Nat) (fn : Nat) (hE : Enters Try.prog fn) (caps : List Value) (T : Nat → Int) (w : World) (hA : Mt w a r c xs L) (hr : r ≤ 64) (hc : c ≤ 64) (hx : xs.length = r * c) (hp : p < r) (hk0 : k0 < r) (M : Nat) (hLM : L ≤ M) (hM : M ≤ 100000)
    (hf : ∀ (k : Nat) (w' : World), k < c → Below w.heap.size w w' → Calls Try.prog fn (.int .i64 k :: caps).toArray w' (RetJ w' M (T k))) :
    Calls Try.prog 83 #[a, .int .i64 p, .int .i64 k0, .func (.func fn) #[] caps.toArray] w (RetE w M r c (turnL r c p T xs) 0) := by
  obtain ⟨ao, ca, rfl⟩ := hA.agg
  obtain ⟨wb, ew, KA, KI, KF, KR, B0⟩ := boxes3 w 24 3 84 24 [.int .i64 r, .int .i64 c, .slice ao xs.length ca] [.int .i64 p] [.func (.func fn) #[] caps.toArray] [.int .i64 0, .int .i64 0, .slice none 0 0]
  replace hA := hA.next B0
  have HX := Lib.hid hx; clear hx
  have HF := Lib.hid hf; clear hf
  obtain ⟨B, eB⟩ : ∃ B : World → Prop, B = fun w' => Below w.heap.size w w' := ⟨_, rfl⟩
  have hB0 : B wb := by rw [eB]; exact B0
  have hBT : ∀ w1 w2, B w1 → Below w1.heap.size w1 w2 → B w2 := by rw [eB]; exact fun w1 w2 h1 h2 => Below.trans h1 (h2.mono h1.size)
  have HB := Lib.hid eB; clear eB
  obtain ⟨zs, ezs⟩ : ∃ zs, zs = turnL r c p T xs := ⟨_, rfl⟩
  rw [← ezs]
  have EZ := Lib.hid ezs; clear ezs
  go_enter Try.func83, Try.ntmps83
  go_wp2_with fail
  rw [← ew]
  obtain ⟨g, eg⟩ : ∃ g, g = w.heap.size + 1 + 1 + 1 := ⟨_, rfl⟩
  rw [← eg] at KR ⊢
  have hgw : w.heap.size ≤ g := by omega
  clear ew eg
  refine (zmat_Formed_yes _ r c xs L _ hA (Fm.of hr hc HX.out)).mono ?_; rintro e w2 ⟨rfl, b2⟩
  replace hA := hA.next b2; replace KA := KA.next b2; replace KI := KI.next b2; replace KF := KF.next b2; replace KR := KR.next b2
  replace B0 := B0.trans (b2.mono B0.size)
  replace hB0 := hBT _ _ hB0 b2
  clear b2
  have fKA0 := KA.cell 0; have fKA1 := KA.cell 1; have fKA2 := KA.cell 2; have fKI0 := KI.cell 0
  go_wp2_with fail
  refine (zmat_has r c _ ao xs.length ca rfl p true (by simp; omega) _).mono ?_; rintro e w3 ⟨rfl, b3⟩
  replace hA := hA.next b3; replace KA := KA.next b3; replace KI := KI.next b3; replace KF := KF.next b3; replace KR := KR.next b3
  replace B0 := B0.trans (b3.mono B0.size)
  replace hB0 := hBT _ _ hB0 b3
  clear b3
  clear fKA0 fKA1 fKA2 fKI0
  have fKA0 := KA.cell 0; have fKA1 := KA.cell 1; have fKA2 := KA.cell 2
  go_wp2_with fail
  refine (zmat_has r c _ ao xs.length ca rfl k0 true (by simp; omega) _).mono ?_; rintro e w4 ⟨rfl, b4⟩
  replace hA := hA.next b4; replace KA := KA.next b4; replace KI := KI.next b4; replace KF := KF.next b4; replace KR := KR.next b4
  replace B0 := B0.trans (b4.mono B0.size)
  replace hB0 := hBT _ _ hB0 b4
  clear b4
  clear fKA0 fKA1 fKA2
  have fKA0 := KA.cell 0; have fKA1 := KA.cell 1
  go_wp2_with fail
  refine (zmat_made r c (by omega) (by omega) 93 (enters_of Try.func93 rfl rfl) [.pointer (some ⟨w.heap.size + 1, 0, none⟩), .pointer (some ⟨w.heap.size + 1 + 1, 0, none⟩), .pointer (some ⟨w.heap.size, 0, none⟩)] (fun i k => if i = p then T k else xs.getD (i * c + k) 0) (M) (by omega) _ (fun i k w' hi hk hb =>
    by
      by_cases h : i = p
      · rw [if_pos h]; subst h
        exact zmat_turned1_by i k M _ _ _ fn hE caps (T k) w' (KI.next hb) (KF.next hb) (fun w'' hb2 => HF.out k w'' hk (by have := hBT _ _ hB0 (hb.trans (hb2.mono hb.size)); rw [HB.out] at this; exact this))
      · rw [if_neg h]
        exact (zmat_turned1_get r c i k xs L _ ao ca p h _ _ w' (KA.next hb) (hA.next hb) (by omega) (by omega) (by omega) (KI.next hb) (at_lt HX.out hi hk)).mono fun e w2 h => h.mono hLM rfl)).mono ?_; rintro e w3 ⟨v3, rfl, h3, b3⟩
  clear fKA0 fKA1
  clear KA KI KF hA hB0 hBT HB HF
  replace h3 : MtN w3 v3 r c (turnL r c p T xs) M := h3
  rw [← EZ.out] at h3
  obtain ⟨a3, k3, rfl⟩ := h3.agg
  replace KR := KR.next b3
  replace B0 := B0.trans (b3.mono B0.size)
  have f0 := KR.free 0; have f1 := KR.free 1; have f2 := KR.free 2
  have c0 := KR.cell 0; have c1 := KR.cell 1; have c2 := KR.cell 2
  have KF := ((KR.set 0 (.int .i64 (r : Nat))).set 1 (.int .i64 (c : Nat))).set 2 (.slice a3 zs.length k3)
  have d0 := KF.cell 0; have d1 := KF.cell 1; have d2 := KF.cell 2
  have FR := Lib.hid (show RetE w (M) r c zs 0 (.returned (.tuple #[.agg #[.int .i64 (r : Nat), .int .i64 (c : Nat), .slice a3 zs.length k3], .int .i64 0])) (((w3.setCell ⟨g, 0, none⟩ (.int .i64 (r : Nat))).setCell ⟨g, 1, none⟩ (.int .i64 (c : Nat))).setCell ⟨g, 2, none⟩ (.slice a3 zs.length k3)) from ⟨_, rfl, h3.put KR _ _ _, ((B0.setCell (p := ⟨g, 0, none⟩) hgw _).setCell (p := ⟨g, 1, none⟩) hgw _).setCell (p := ⟨g, 2, none⟩) hgw _⟩)
  clear KF KR h3 B0 b3
  go_wp2
  exact bodyPost_ret (v := .tuple #[.agg #[.int .i64 (r : Nat), .int .i64 (c : Nat), .slice a3 zs.length k3], .int .i64 0]) (by simp [results, Try.results83, go_sem, d0, d1, d2]) rfl FR.out

theorem zmat_turned_shape (a : Value) (R C i k : Int) (xs : List Int) (L : Nat) (fn : Nat) (caps : List Value) (w : World) (hA : Mt w a R C xs L) (h : ¬ Fm R C xs.length) :
    Calls Try.prog 83 #[a, .int .i64 i, .int .i64 k, .func (.func fn) #[] caps.toArray] w (RetE w 0 0 0 [] 2) := by
  obtain ⟨ao, ca, rfl⟩ := hA.agg
  obtain ⟨wb, ew, KA, KI, KF, KR, B0⟩ := boxes3 w 24 3 84 24 [.int .i64 R, .int .i64 C, .slice ao xs.length ca] [.int .i64 i] [.func (.func fn) #[] caps.toArray] [.int .i64 0, .int .i64 0, .slice none 0 0]
  replace hA := hA.next B0
  go_enter Try.func83, Try.ntmps83
  go_wp2_with fail
  rw [← ew]
  obtain ⟨g, eg⟩ : ∃ g, g = w.heap.size + 1 + 1 + 1 := ⟨_, rfl⟩
  rw [← eg] at KR ⊢
  have hgw : w.heap.size ≤ g := by omega
  clear ew eg
  refine (zmat_Formed_no _ R C xs L _ hA h).mono ?_; rintro e w2 ⟨rfl, b2⟩
  replace KR := KR.next b2
  replace B0 := B0.trans (b2.mono B0.size)
  clear b2
  clear hA KA KI KF
  have f0 := KR.free 0; have f1 := KR.free 1; have f2 := KR.free 2
  have c0 := KR.cell 0; have c1 := KR.cell 1; have c2 := KR.cell 2
  have KF := ((KR.set 0 (.int .i64 0)).set 1 (.int .i64 0)).set 2 (.slice none 0 0)
  have d0 := KF.cell 0; have d1 := KF.cell 1; have d2 := KF.cell 2
  have FR := Lib.hid (show RetE w 0 0 0 [] 2 (.returned (.tuple #[.agg #[.int .i64 0, .int .i64 0, .slice none 0 0], .int .i64 2])) (((w2.setCell ⟨g, 0, none⟩ (.int .i64 0)).setCell ⟨g, 1, none⟩ (.int .i64 0)).setCell ⟨g, 2, none⟩ (.slice none 0 0)) from ⟨_, rfl, MtN.none _ _, ((B0.setCell (p := ⟨g, 0, none⟩) hgw _).setCell (p := ⟨g, 1, none⟩) hgw _).setCell (p := ⟨g, 2, none⟩) hgw _⟩)
  clear KF KR B0
  go_wp2
  exact bodyPost_ret (v := .tuple #[.agg #[.int .i64 0, .int .i64 0, .slice none 0 0], .int .i64 2]) (by simp [results, Try.results83, go_sem, d0, d1, d2]) rfl FR.out

theorem zmat_turned_arg (a : Value) (r c : Nat) (i k : Int) (xs : List Int) (L : Nat) (fn : Nat) (caps : List Value) (w : World) (hA : Mt w a r c xs L) (hr : r ≤ 64) (hc : c ≤ 64) (hx : xs.length = r * c) (h : ¬ ((0 ≤ i ∧ i < r) ∧ (0 ≤ k ∧ k < r))) :
    Calls Try.prog 83 #[a, .int .i64 i, .int .i64 k, .func (.func fn) #[] caps.toArray] w (RetE w 0 0 0 [] 1) := by
  obtain ⟨ao, ca, rfl⟩ := hA.agg
  obtain ⟨wb, ew, KA, KI, KF, KR, B0⟩ := boxes3 w 24 3 84 24 [.int .i64 r, .int .i64 c, .slice ao xs.length ca] [.int .i64 i] [.func (.func fn) #[] caps.toArray] [.int .i64 0, .int .i64 0, .slice none 0 0]
  replace hA := hA.next B0
  have HX := Lib.hid hx; clear hx
  by_cases h1 : 0 ≤ i ∧ i < r
  · have h2 : ¬ (0 ≤ k ∧ k < r) := fun h2 => h ⟨h1, h2⟩
    have H1 := Lib.hid (decide_eq_true h1).symm
    have H2 := Lib.hid (decide_eq_false h2).symm
    clear h h1 h2
    go_enter Try.func83, Try.ntmps83
    go_wp2_with fail
    rw [← ew]
    obtain ⟨g, eg⟩ : ∃ g, g = w.heap.size + 1 + 1 + 1 := ⟨_, rfl⟩
    rw [← eg] at KR ⊢
    have hgw : w.heap.size ≤ g := by omega
    clear ew eg
    refine (zmat_Formed_yes _ r c xs L _ hA (Fm.of hr hc HX.out)).mono ?_; rintro e w2 ⟨rfl, b2⟩
    replace hA := hA.next b2; replace KA := KA.next b2; replace KI := KI.next b2; replace KR := KR.next b2
    replace B0 := B0.trans (b2.mono B0.size)
    clear b2
    have fKA0 := KA.cell 0; have fKA1 := KA.cell 1; have fKA2 := KA.cell 2; have fKI0 := KI.cell 0
    go_wp2_with fail
    refine (zmat_has r c _ ao xs.length ca rfl i true H1.out _).mono ?_; rintro e w3 ⟨rfl, b3⟩
    replace KA := KA.next b3; replace KR := KR.next b3
    replace B0 := B0.trans (b3.mono B0.size)
    clear b3
    clear fKA0 fKA1 fKA2 fKI0
    have fKA0 := KA.cell 0; have fKA1 := KA.cell 1; have fKA2 := KA.cell 2
    go_wp2_with fail
    refine (zmat_has r c _ ao xs.length ca rfl k false H2.out _).mono ?_; rintro e w4 ⟨rfl, b4⟩
    replace KR := KR.next b4
    replace B0 := B0.trans (b4.mono B0.size)
    clear b4
    clear fKA0 fKA1 fKA2
    have f0 := KR.free 0; have f1 := KR.free 1; have f2 := KR.free 2
    have c0 := KR.cell 0; have c1 := KR.cell 1; have c2 := KR.cell 2
    have KF := ((KR.set 0 (.int .i64 0)).set 1 (.int .i64 0)).set 2 (.slice none 0 0)
    have d0 := KF.cell 0; have d1 := KF.cell 1; have d2 := KF.cell 2
    have FR := Lib.hid (show RetE w 0 0 0 [] 1 (.returned (.tuple #[.agg #[.int .i64 0, .int .i64 0, .slice none 0 0], .int .i64 1])) (((w4.setCell ⟨g, 0, none⟩ (.int .i64 0)).setCell ⟨g, 1, none⟩ (.int .i64 0)).setCell ⟨g, 2, none⟩ (.slice none 0 0)) from ⟨_, rfl, MtN.none _ _, ((B0.setCell (p := ⟨g, 0, none⟩) hgw _).setCell (p := ⟨g, 1, none⟩) hgw _).setCell (p := ⟨g, 2, none⟩) hgw _⟩)
    clear KF KR B0
    go_wp2
    exact bodyPost_ret (v := .tuple #[.agg #[.int .i64 0, .int .i64 0, .slice none 0 0], .int .i64 1]) (by simp [results, Try.results83, go_sem, d0, d1, d2]) rfl FR.out
  · have H1 := Lib.hid (decide_eq_false h1).symm
    clear h h1
    go_enter Try.func83, Try.ntmps83
    go_wp2_with fail
    rw [← ew]
    obtain ⟨g, eg⟩ : ∃ g, g = w.heap.size + 1 + 1 + 1 := ⟨_, rfl⟩
    rw [← eg] at KR ⊢
    have hgw : w.heap.size ≤ g := by omega
    clear ew eg
    refine (zmat_Formed_yes _ r c xs L _ hA (Fm.of hr hc HX.out)).mono ?_; rintro e w2 ⟨rfl, b2⟩
    replace hA := hA.next b2; replace KA := KA.next b2; replace KI := KI.next b2; replace KR := KR.next b2
    replace B0 := B0.trans (b2.mono B0.size)
    clear b2
    have fKA0 := KA.cell 0; have fKA1 := KA.cell 1; have fKA2 := KA.cell 2; have fKI0 := KI.cell 0
    go_wp2_with fail
    refine (zmat_has r c _ ao xs.length ca rfl i false H1.out _).mono ?_; rintro e w3 ⟨rfl, b3⟩
    replace KR := KR.next b3
    replace B0 := B0.trans (b3.mono B0.size)
    clear b3
    clear fKA0 fKA1 fKA2 fKI0
    have f0 := KR.free 0; have f1 := KR.free 1; have f2 := KR.free 2
    have c0 := KR.cell 0; have c1 := KR.cell 1; have c2 := KR.cell 2
    have KF := ((KR.set 0 (.int .i64 0)).set 1 (.int .i64 0)).set 2 (.slice none 0 0)
    have d0 := KF.cell 0; have d1 := KF.cell 1; have d2 := KF.cell 2
    have FR := Lib.hid (show RetE w 0 0 0 [] 1 (.returned (.tuple #[.agg #[.int .i64 0, .int .i64 0, .slice none 0 0], .int .i64 1])) (((w3.setCell ⟨g, 0, none⟩ (.int .i64 0)).setCell ⟨g, 1, none⟩ (.int .i64 0)).setCell ⟨g, 2, none⟩ (.slice none 0 0)) from ⟨_, rfl, MtN.none _ _, ((B0.setCell (p := ⟨g, 0, none⟩) hgw _).setCell (p := ⟨g, 1, none⟩) hgw _).setCell (p := ⟨g, 2, none⟩) hgw _⟩)
    clear KF KR B0
    go_wp2
    exact bodyPost_ret (v := .tuple #[.agg #[.int .i64 0, .int .i64 0, .slice none 0 0], .int .i64 1]) (by simp [results, Try.results83, go_sem, d0, d1, d2]) rfl FR.out

theorem zmat_SwapRows_1 (R1 : Int) (c i k : Nat) (xs : List Int) (L : Nat) (ga : Nat) (ao : Option Addr) (ca : Nat) (gi : Nat) (w : World)
    (KA : Blk 24 w ga [.int .i64 R1, .int .i64 c, .slice ao xs.length ca]) (hA : Mt w (.agg #[.int .i64 R1, .int .i64 c, .slice ao xs.length ca]) R1 c xs L)
    (hi : i ≤ 100000) (hc : c ≤ 100000) (hk : k ≤ 100000) (KI : Blk 3 w gi [.int .i64 i]) (hx : i * c + k < xs.length) :
    Calls Try.prog 84 #[.int .i64 k, .pointer (some ⟨ga, 0, none⟩), .pointer (some ⟨gi, 0, none⟩)] w (RetJ w (L) (xs.getD (i * c + k) 0)) := by
  obtain ⟨wb, ew, KC, B0, hsz⟩ := boxes1 w 36 [.bool false, .slice none 0 0]
  clear hsz
  obtain ⟨Z, eZ⟩ : ∃ Z, Z = xs.getD (i * c + k) 0 := ⟨_, rfl⟩
  rw [← eZ]
  have EZ := Lib.hid eZ; clear eZ
  obtain ⟨LL, eL⟩ : ∃ LL, LL = L := ⟨_, rfl⟩
  rw [← eL]
  have hLL : L ≤ LL := by omega
  clear eL
  go_enter Try.func84, Try.ntmps84
  go_upto_region 1 with (fail)
  rw [← ew]
  obtain ⟨g, eg⟩ : ∃ g, g = w.heap.size := ⟨_, rfl⟩
  rw [← eg] at KC ⊢
  have hgw : w.heap.size ≤ g := by omega
  clear ew eg
  replace KA := KA.next B0; replace hA := hA.next B0
  have a0 := KA.cell 0; have a1 := KA.cell 1; have a2 := KA.cell 2
  have q0 := (KI.next B0).cell 0
  go_wp2_with fail
  refine (zmat_get _ R1 c i k xs L _ hA hi hc hk hx).mono ?_; rintro e w2 ⟨v2, rfl, h2, b2⟩
  obtain ⟨s2, a2, n2, c2, rfl⟩ := h2.agg
  replace KC := KC.next b2
  replace B0 := B0.trans (b2.mono B0.size)
  have h5 := h2.mono hLL
  rw [← EZ.out] at h5
  have f0 := (KC).free 0; have f1 := (KC).free 1
  have c0 := (KC).cell 0; have c1 := (KC).cell 1
  have KF := ((KC).set 0 (.bool s2)).set 1 (.slice a2 n2 c2)
  have d0 := KF.cell 0; have d1 := KF.cell 1
  have FR := Lib.hid (show RetJ w LL Z (.returned (.agg #[.bool s2, .slice a2 n2 c2])) ((w2.setCell ⟨g, 0, none⟩ (.bool s2)).setCell ⟨g, 1, none⟩ (.slice a2 n2 c2)) from ⟨_, rfl, (h5).put (KC) s2 (.slice a2 n2 c2), ((B0).setCell (p := ⟨g, 0, none⟩) hgw (.bool s2)).setCell (p := ⟨g, 1, none⟩) hgw (.slice a2 n2 c2)⟩)
  clear KF
  go_wp2
  exact bodyPost_ret (v := .agg #[.bool s2, .slice a2 n2 c2]) (by simp [results, Try.results84, go_sem, d0, d1]) rfl FR.out

theorem zmat_SwapRows_2 (R1 : Int) (c i k : Nat) (xs : List Int) (L : Nat) (ga : Nat) (ao : Option Addr) (ca : Nat) (gi : Nat) (w : World)
    (KA : Blk 24 w ga [.int .i64 R1, .int .i64 c, .slice ao xs.length ca]) (hA : Mt w (.agg #[.int .i64 R1, .int .i64 c, .slice ao xs.length ca]) R1 c xs L)
    (hi : i ≤ 100000) (hc : c ≤ 100000) (hk : k ≤ 100000) (KI : Blk 3 w gi [.int .i64 i]) (hx : i * c + k < xs.length) :
    Calls Try.prog 85 #[.int .i64 k, .pointer (some ⟨ga, 0, none⟩), .pointer (some ⟨gi, 0, none⟩)] w (RetJ w (L) (xs.getD (i * c + k) 0)) := by
  obtain ⟨wb, ew, KC, B0, hsz⟩ := boxes1 w 36 [.bool false, .slice none 0 0]
  clear hsz
  obtain ⟨Z, eZ⟩ : ∃ Z, Z = xs.getD (i * c + k) 0 := ⟨_, rfl⟩
  rw [← eZ]
  have EZ := Lib.hid eZ; clear eZ
  obtain ⟨LL, eL⟩ : ∃ LL, LL = L := ⟨_, rfl⟩
  rw [← eL]
  have hLL : L ≤ LL := by omega
  clear eL
  go_enter Try.func85, Try.ntmps85
  go_upto_region 1 with (fail)
  rw [← ew]
  obtain ⟨g, eg⟩ : ∃ g, g = w.heap.size := ⟨_, rfl⟩
  rw [← eg] at KC ⊢
  have hgw : w.heap.size ≤ g := by omega
  clear ew eg
  replace KA := KA.next B0; replace hA := hA.next B0
  have a0 := KA.cell 0; have a1 := KA.cell 1; have a2 := KA.cell 2
  have q0 := (KI.next B0).cell 0
  go_wp2_with fail
  refine (zmat_get _ R1 c i k xs L _ hA hi hc hk hx).mono ?_; rintro e w2 ⟨v2, rfl, h2, b2⟩
  obtain ⟨s2, a2, n2, c2, rfl⟩ := h2.agg
  replace KC := KC.next b2
  replace B0 := B0.trans (b2.mono B0.size)
  have h5 := h2.mono hLL
  rw [← EZ.out] at h5
  have f0 := (KC).free 0; have f1 := (KC).free 1
  have c0 := (KC).cell 0; have c1 := (KC).cell 1
  have KF := ((KC).set 0 (.bool s2)).set 1 (.slice a2 n2 c2)
  have d0 := KF.cell 0; have d1 := KF.cell 1
  have FR := Lib.hid (show RetJ w LL Z (.returned (.agg #[.bool s2, .slice a2 n2 c2])) ((w2.setCell ⟨g, 0, none⟩ (.bool s2)).setCell ⟨g, 1, none⟩ (.slice a2 n2 c2)) from ⟨_, rfl, (h5).put (KC) s2 (.slice a2 n2 c2), ((B0).setCell (p := ⟨g, 0, none⟩) hgw (.bool s2)).setCell (p := ⟨g, 1, none⟩) hgw (.slice a2 n2 c2)⟩)
  clear KF
  go_wp2
  exact bodyPost_ret (v := .agg #[.bool s2, .slice a2 n2 c2]) (by simp [results, Try.results85, go_sem, d0, d1]) rfl FR.out

theorem zmat_NegRow1 (R1 : Int) (c i k : Nat) (xs : List Int) (L : Nat) (ga : Nat) (ao : Option Addr) (ca : Nat) (gi : Nat) (w : World)
    (KA : Blk 24 w ga [.int .i64 R1, .int .i64 c, .slice ao xs.length ca]) (hA : Mt w (.agg #[.int .i64 R1, .int .i64 c, .slice ao xs.length ca]) R1 c xs L)
    (hi : i ≤ 100000) (hc : c ≤ 100000) (hk : k ≤ 100000) (KI : Blk 3 w gi [.int .i64 i]) (hx : i * c + k < xs.length) (hL : L ≤ 1000000) :
    Calls Try.prog 87 #[.int .i64 k, .pointer (some ⟨ga, 0, none⟩), .pointer (some ⟨gi, 0, none⟩)] w (RetJ w (L) (-xs.getD (i * c + k) 0)) := by
  obtain ⟨wb, ew, KC, B0, hsz⟩ := boxes1 w 36 [.bool false, .slice none 0 0]
  clear hsz
  obtain ⟨Z, eZ⟩ : ∃ Z, Z = -xs.getD (i * c + k) 0 := ⟨_, rfl⟩
  rw [← eZ]
  have EZ := Lib.hid eZ; clear eZ
  obtain ⟨LL, eL⟩ : ∃ LL, LL = L := ⟨_, rfl⟩
  rw [← eL]
  have hLL : L ≤ LL := by omega
  clear eL
  go_enter Try.func87, Try.ntmps87
  go_upto_region 1 with (fail)
  rw [← ew]
  obtain ⟨g, eg⟩ : ∃ g, g = w.heap.size := ⟨_, rfl⟩
  rw [← eg] at KC ⊢
  have hgw : w.heap.size ≤ g := by omega
  clear ew eg
  replace KA := KA.next B0; replace hA := hA.next B0
  have a0 := KA.cell 0; have a1 := KA.cell 1; have a2 := KA.cell 2
  have q0 := (KI.next B0).cell 0
  go_wp2_with fail
  refine (zmat_get _ R1 c i k xs L _ hA hi hc hk hx).mono ?_; rintro e w3 ⟨v3, rfl, h3, b3⟩
  replace KC := KC.next b3
  replace B0 := B0.trans (b3.mono B0.size)
  clear q0 a0 a1 a2
  go_wp2_with fail
  refine (zi_Neg v3 _ L _ h3 (by omega)).mono ?_; rintro e w2 ⟨v2, rfl, h2, b2, -⟩
  obtain ⟨s2, a2, n2, c2, rfl⟩ := h2.agg
  replace KC := KC.next b2
  replace B0 := B0.trans (b2.mono B0.size)
  have h5 := h2.iv.mono hLL
  rw [← EZ.out] at h5
  have f0 := (KC).free 0; have f1 := (KC).free 1
  have c0 := (KC).cell 0; have c1 := (KC).cell 1
  have KF := ((KC).set 0 (.bool s2)).set 1 (.slice a2 n2 c2)
  have d0 := KF.cell 0; have d1 := KF.cell 1
  have FR := Lib.hid (show RetJ w LL Z (.returned (.agg #[.bool s2, .slice a2 n2 c2])) ((w2.setCell ⟨g, 0, none⟩ (.bool s2)).setCell ⟨g, 1, none⟩ (.slice a2 n2 c2)) from ⟨_, rfl, (h5).put (KC) s2 (.slice a2 n2 c2), ((B0).setCell (p := ⟨g, 0, none⟩) hgw (.bool s2)).setCell (p := ⟨g, 1, none⟩) hgw (.slice a2 n2 c2)⟩)
  clear KF
  go_wp2
  exact bodyPost_ret (v := .agg #[.bool s2, .slice a2 n2 c2]) (by simp [results, Try.results87, go_sem, d0, d1]) rfl FR.out

theorem zmat_AddRow1 (R1 : Int) (c i k : Nat) (xs : List Int) (L : Nat) (ga : Nat) (ao : Option Addr) (ca : Nat) (y : Int) (M : Nat) (gi gk gb : Nat) (p : Nat) (s0 : Bool) (q : Option Addr) (m d : Nat) (w : World)
    (KA : Blk 24 w ga [.int .i64 R1, .int .i64 c, .slice ao xs.length ca]) (hA : Mt w (.agg #[.int .i64 R1, .int .i64 c, .slice ao xs.length ca]) R1 c xs L)
    (hi : i ≤ 100000) (hc : c ≤ 100000) (hk : k ≤ 100000) (KI : Blk 3 w gi [.int .i64 i]) (KK : Blk 3 w gk [.int .i64 p]) (hp : p ≤ 100000)
    (KB : Blk 36 w gb [.bool s0, .slice q m d]) (hB : Iv w (.agg #[.bool s0, .slice q m d]) y M) (hx : i * c + k < xs.length) (hy : p * c + k < xs.length) (hL : L ≤ 10000) (hM : M ≤ 10000) :
    Calls Try.prog 86 #[.int .i64 k, .pointer (some ⟨ga, 0, none⟩), .pointer (some ⟨gi, 0, none⟩), .pointer (some ⟨gb, 0, none⟩), .pointer (some ⟨gk, 0, none⟩)] w (RetJ w (L + (M + L) + 1) (xs.getD (i * c + k) 0 + y * xs.getD (p * c + k) 0)) := by
  obtain ⟨wb, ew, KC, B0, hsz⟩ := boxes1 w 36 [.bool false, .slice none 0 0]
  clear hsz
  obtain ⟨Z, eZ⟩ : ∃ Z, Z = xs.getD (i * c + k) 0 + y * xs.getD (p * c + k) 0 := ⟨_, rfl⟩
  rw [← eZ]
  have EZ := Lib.hid eZ; clear eZ
  obtain ⟨LL, eL⟩ : ∃ LL, LL = L + (M + L) + 1 := ⟨_, rfl⟩
  rw [← eL]
  have hLL : L + (M + L) + 1 ≤ LL := by omega
  clear eL
  go_enter Try.func86, Try.ntmps86
  go_upto_region 1 with (fail)
  rw [← ew]
  obtain ⟨g, eg⟩ : ∃ g, g = w.heap.size := ⟨_, rfl⟩
  rw [← eg] at KC ⊢
  have hgw : w.heap.size ≤ g := by omega
  clear ew eg
  replace B0 := B0.trans (Drawn.below (w' := wb.drew) ⟨1, rfl⟩ _)
  replace KA := KA.next B0; replace KB := KB.next B0; replace KI := KI.next B0; replace KK := KK.next B0; replace KC := KC.drew
  replace hA := hA.next B0; replace hB := hB.next B0
  refine startP (S := (fun w' => Below (wb.drew).heap.size (wb.drew) w')) (by kernel_rfl) _ rfl rfl rfl (by kernel_rfl) (Below.refl _ _) (fun hHeld => ?_)
  refine takeL 0 (v := ?_) rfl (by kernel_rfl) (by kernel_rfl) (by kernel_rfl) (fun _ _ _ h => h) ⟨by rfl, ?_⟩ (by assumption) ?_
  rotate_left
  · intro w hS; have fa := KA.at hS; have fb := KB.at hS; have fi := KI.at hS; have fk := KK.at hS; have f1 := fa 0; have f2 := fa 1; have f3 := fa 2; have f4 := fb 0; have f5 := fb 1; have f6 := fi 0; have f7 := fk 0; clear fa fb fi fk; go_simp <;> with_reducible rfl
  simp only [Act.put, List.setIfInBounds_toArray, List.set_cons_zero, List.set_cons_succ]
  refine takeL 1 (v := ?_) rfl (by kernel_rfl) (by kernel_rfl) (by kernel_rfl) (fun _ _ _ h => h) ⟨by rfl, ?_⟩ (by assumption) ?_
  rotate_left
  · intro w hS; have fa := KA.at hS; have fb := KB.at hS; have fi := KI.at hS; have fk := KK.at hS; have f1 := fa 0; have f2 := fa 1; have f3 := fa 2; have f4 := fb 0; have f5 := fb 1; have f6 := fi 0; have f7 := fk 0; clear fa fb fi fk; go_simp <;> with_reducible rfl
  simp only [Act.put, List.setIfInBounds_toArray, List.set_cons_zero, List.set_cons_succ]
  refine takeL 2 (v := ?_) rfl (by kernel_rfl) (by kernel_rfl) (by kernel_rfl) (fun _ _ _ h => h) ⟨by rfl, ?_⟩ (by assumption) ?_
  rotate_left
  · intro w hS; go_simp <;> with_reducible rfl
  simp only [Act.put, List.setIfInBounds_toArray, List.set_cons_zero, List.set_cons_succ]
  refine takeL 4 (v := ?_) rfl (by kernel_rfl) (by kernel_rfl) (by kernel_rfl) (fun _ _ _ h => h) ⟨by rfl, ?_⟩ (by assumption) ?_
  rotate_left
  · intro w hS; have fa := KA.at hS; have fb := KB.at hS; have fi := KI.at hS; have fk := KK.at hS; have f1 := fa 0; have f2 := fa 1; have f3 := fa 2; have f4 := fb 0; have f5 := fb 1; have f6 := fi 0; have f7 := fk 0; clear fa fb fi fk; go_simp <;> with_reducible rfl
  simp only [Act.put, List.setIfInBounds_toArray, List.set_cons_zero, List.set_cons_succ]
  refine takeL 5 (v := ?_) rfl (by kernel_rfl) (by kernel_rfl) (by kernel_rfl) (fun _ _ _ h => h) ⟨by rfl, ?_⟩ (by assumption) ?_
  rotate_left
  · intro w hS; have fa := KA.at hS; have fb := KB.at hS; have fi := KI.at hS; have fk := KK.at hS; have f1 := fa 0; have f2 := fa 1; have f3 := fa 2; have f4 := fb 0; have f5 := fb 1; have f6 := fi 0; have f7 := fk 0; clear fa fb fi fk; go_simp <;> with_reducible rfl
  simp only [Act.put, List.setIfInBounds_toArray, List.set_cons_zero, List.set_cons_succ]
  refine takeL 6 (v := ?_) rfl (by kernel_rfl) (by kernel_rfl) (by kernel_rfl) (fun _ _ _ h => h) ⟨by rfl, ?_⟩ (by assumption) ?_
  rotate_left
  · intro w hS; have fa := KA.at hS; have fb := KB.at hS; have fi := KI.at hS; have fk := KK.at hS; have f1 := fa 0; have f2 := fa 1; have f3 := fa 2; have f4 := fb 0; have f5 := fb 1; have f6 := fi 0; have f7 := fk 0; clear fa fb fi fk; go_simp <;> with_reducible rfl
  simp only [Act.put, List.setIfInBounds_toArray, List.set_cons_zero, List.set_cons_succ]
  refine takeL 7 (v := ?_) rfl (by kernel_rfl) (by kernel_rfl) (by kernel_rfl) (fun _ _ _ h => h) ⟨by rfl, ?_⟩ (by assumption) ?_
  rotate_left
  · intro w hS; go_simp <;> with_reducible rfl
  simp only [Act.put, List.setIfInBounds_toArray, List.set_cons_zero, List.set_cons_succ]
  refine oneL 3 rfl (by kernel_rfl) (by rfl) (fun K hK => ?_)
  go_simp
  go_at_call 43
  (with_reducible refine (zmat_get _ R1 c i k xs L _ (hA.next hHeld) hi hc hk hx).mono ?_); rintro e w2 ⟨v2, rfl, h2, b2⟩
  refine hK.out _ _ (hHeld.trans (b2.mono hHeld.size)) (fun hHeld => ?_)
  clear hK K
  try simp only [Act.put, List.setIfInBounds_toArray, List.set_cons_zero, List.set_cons_succ]
  refine oneL 8 rfl (by kernel_rfl) (by rfl) (fun K hK => ?_)
  go_simp
  go_at_call 43
  (with_reducible refine (zmat_get _ R1 c p k xs L _ (hA.next hHeld) hp hc hk hy).mono ?_); rintro e w3 ⟨v3, rfl, h3, b3⟩
  refine hK.out _ _ (hHeld.trans (b3.mono hHeld.size)) (fun hHeld => ?_)
  clear hK K
  try simp only [Act.put, List.setIfInBounds_toArray, List.set_cons_zero, List.set_cons_succ]
  refine oneL 9 rfl (by kernel_rfl) (by rfl) (fun K hK => ?_)
  go_simp
  go_at_call 23
  (with_reducible refine (zi_Mul _ v3 y _ M L _ (hB.next hHeld) h3 (by omega) (by omega)).mono ?_); rintro e w4 ⟨v4, rfl, h4, b4, -⟩
  refine hK.out _ _ (hHeld.trans (b4.mono hHeld.size)) (fun hHeld => ?_)
  clear hK K
  try simp only [Act.put, List.setIfInBounds_toArray, List.set_cons_zero, List.set_cons_succ]
  refine oneL 10 rfl (by kernel_rfl) (by rfl) (fun K hK => ?_)
  go_simp
  go_at_call 24
  (with_reducible refine (zi_Add v2 v4 _ _ L (M + L) _ (h2.next (b3.trans (b4.mono b3.size))) h4.iv (by omega) (by omega)).mono ?_); rintro e w5 ⟨v5, rfl, h5, b5, -⟩
  obtain ⟨s2, a2, n2, c2, rfl⟩ := h5.agg
  refine hK.out _ _ (hHeld.trans (b5.mono hHeld.size)) (fun hHeld => ?_)
  clear hK K
  try simp only [Act.put, List.setIfInBounds_toArray, List.set_cons_zero, List.set_cons_succ]
  refine doneL (by kernel_rfl) ?_ _
  refine lastL rfl (by rfl) ?_
  replace KC := KC.next hHeld
  replace B0 := B0.trans (hHeld.mono B0.size)
  have h6 := h5.iv.mono hLL
  rw [← EZ.out] at h6
  have f0 := (KC).free 0; have f1 := (KC).free 1
  have c0 := (KC).cell 0; have c1 := (KC).cell 1
  have KF := ((KC).set 0 (.bool s2)).set 1 (.slice a2 n2 c2)
  have d0 := KF.cell 0; have d1 := KF.cell 1
  have FR := Lib.hid (show RetJ w LL Z (.returned (.agg #[.bool s2, .slice a2 n2 c2])) ((w5.setCell ⟨g, 0, none⟩ (.bool s2)).setCell ⟨g, 1, none⟩ (.slice a2 n2 c2)) from ⟨_, rfl, (h6).put (KC) s2 (.slice a2 n2 c2), ((B0).setCell (p := ⟨g, 0, none⟩) hgw (.bool s2)).setCell (p := ⟨g, 1, none⟩) hgw (.slice a2 n2 c2)⟩)
  clear KF
  go_wp2
  exact bodyPost_ret (v := .agg #[.bool s2, .slice a2 n2 c2]) (by simp [results, Try.results86, go_sem, d0, d1]) rfl FR.out

theorem zmat_NegRow (a : Value) (r c i : Nat) (xs : List Int) (L : Nat) (w : World) (hA : Mt w a r c xs L) (hr : r ≤ 64) (hc : c ≤ 64) (hx : xs.length = r * c) (hi : i < r) (hL : L ≤ 100000) :
    Calls Try.prog 59 #[a, .int .i64 i] w (RetE w L r c (turnL r c i (fun k => -xs.getD (i * c + k) 0) xs) 0) := by
  obtain ⟨ao, ca, rfl⟩ := hA.agg
  obtain ⟨wb, ew, KA, KI, KR, B0, hsz⟩ := boxes2 w 24 3 24 [.int .i64 r, .int .i64 c, .slice ao xs.length ca] [.int .i64 i] [.int .i64 0, .int .i64 0, .slice none 0 0]
  clear hsz
  replace hA := hA.next B0
  have HX := Lib.hid hx; clear hx
  obtain ⟨zs, ezs⟩ : ∃ zs, zs = turnL r c i (fun k => -xs.getD (i * c + k) 0) xs := ⟨_, rfl⟩
  rw [← ezs]
  have EZ := Lib.hid ezs; clear ezs
  go_enter Try.func59, Try.ntmps59
  go_upto_region 1 with (fail)
  rw [← ew]
  obtain ⟨g, eg⟩ : ∃ g, g = w.heap.size + 1 + 1 := ⟨_, rfl⟩
  rw [← eg] at KR ⊢
  have hgw : w.heap.size ≤ g := by omega
  clear ew eg
  have fKA0 := KA.cell 0; have fKA1 := KA.cell 1; have fKA2 := KA.cell 2; have fKI0 := KI.cell 0
  go_wp2_with fail
  refine (zmat_turned _ r c i i xs L 87 (enters_of Try.func87 rfl rfl) [.pointer (some ⟨w.heap.size, 0, none⟩), .pointer (some ⟨w.heap.size + 1, 0, none⟩)] (fun k => -xs.getD (i * c + k) 0) _ hA hr hc HX.out hi hi L (Nat.le_refl _) hL (fun k w' hk hb =>
    zmat_NegRow1 r c i k xs L _ ao ca _ w' (KA.next hb) (hA.next hb) (by omega) (by omega) (by omega) (KI.next hb) (at_lt HX.out hi hk) (by omega))).mono ?_; rintro e w3 ⟨v3, rfl, h3, b3⟩
  clear fKA0 fKA1 fKA2 fKI0
  clear KA KI hA
  rw [← EZ.out] at h3
  obtain ⟨a3, k3, rfl⟩ := h3.agg
  replace KR := KR.next b3
  replace B0 := B0.trans (b3.mono B0.size)
  have f0 := KR.free 0; have f1 := KR.free 1; have f2 := KR.free 2
  have c0 := KR.cell 0; have c1 := KR.cell 1; have c2 := KR.cell 2
  have KF := ((KR.set 0 (.int .i64 (r : Nat))).set 1 (.int .i64 (c : Nat))).set 2 (.slice a3 zs.length k3)
  have d0 := KF.cell 0; have d1 := KF.cell 1; have d2 := KF.cell 2
  have FR := Lib.hid (show RetE w (L) r c zs 0 (.returned (.tuple #[.agg #[.int .i64 (r : Nat), .int .i64 (c : Nat), .slice a3 zs.length k3], .int .i64 0])) (((w3.setCell ⟨g, 0, none⟩ (.int .i64 (r : Nat))).setCell ⟨g, 1, none⟩ (.int .i64 (c : Nat))).setCell ⟨g, 2, none⟩ (.slice a3 zs.length k3)) from ⟨_, rfl, h3.put KR _ _ _, ((B0.setCell (p := ⟨g, 0, none⟩) hgw _).setCell (p := ⟨g, 1, none⟩) hgw _).setCell (p := ⟨g, 2, none⟩) hgw _⟩)
  clear KF KR h3 B0 b3
  go_wp2
  exact bodyPost_ret (v := .tuple #[.agg #[.int .i64 (r : Nat), .int .i64 (c : Nat), .slice a3 zs.length k3], .int .i64 0]) (by simp [results, Try.results59, go_sem, d0, d1, d2]) rfl FR.out

theorem zmat_NegRow_shape (a : Value) (R C i : Int) (xs : List Int) (L : Nat) (w : World) (hA : Mt w a R C xs L) (h : ¬ Fm R C xs.length) :
    Calls Try.prog 59 #[a, .int .i64 i] w (RetE w 0 0 0 [] 2) := by
  obtain ⟨ao, ca, rfl⟩ := hA.agg
  obtain ⟨wb, ew, KA, KI, KR, B0, hsz⟩ := boxes2 w 24 3 24 [.int .i64 R, .int .i64 C, .slice ao xs.length ca] [.int .i64 i] [.int .i64 0, .int .i64 0, .slice none 0 0]
  clear hsz
  replace hA := hA.next B0
  go_enter Try.func59, Try.ntmps59
  go_upto_region 1 with (fail)
  rw [← ew]
  obtain ⟨g, eg⟩ : ∃ g, g = w.heap.size + 1 + 1 := ⟨_, rfl⟩
  rw [← eg] at KR ⊢
  have hgw : w.heap.size ≤ g := by omega
  clear ew eg
  have fKA0 := KA.cell 0; have fKA1 := KA.cell 1; have fKA2 := KA.cell 2; have fKI0 := KI.cell 0
  go_wp2_with fail
  refine (zmat_turned_shape _ R C i i xs L 87 [.pointer (some ⟨w.heap.size, 0, none⟩), .pointer (some ⟨w.heap.size + 1, 0, none⟩)] _ hA h).mono ?_; rintro e w3 ⟨v3, rfl, h3, b3⟩
  clear fKA0 fKA1 fKA2 fKI0
  clear KA KI hA
  obtain ⟨a3, k3, rfl⟩ := h3.agg
  replace KR := KR.next b3
  replace B0 := B0.trans (b3.mono B0.size)
  have f0 := KR.free 0; have f1 := KR.free 1; have f2 := KR.free 2
  have c0 := KR.cell 0; have c1 := KR.cell 1; have c2 := KR.cell 2
  have KF := ((KR.set 0 (.int .i64 0)).set 1 (.int .i64 0)).set 2 (.slice a3 0 k3)
  have d0 := KF.cell 0; have d1 := KF.cell 1; have d2 := KF.cell 2
  have FR := Lib.hid (show RetE w 0 0 0 [] 2 (.returned (.tuple #[.agg #[.int .i64 0, .int .i64 0, .slice a3 0 k3], .int .i64 2])) (((w3.setCell ⟨g, 0, none⟩ (.int .i64 0)).setCell ⟨g, 1, none⟩ (.int .i64 0)).setCell ⟨g, 2, none⟩ (.slice a3 0 k3)) from ⟨_, rfl, h3.put KR _ _ _, ((B0.setCell (p := ⟨g, 0, none⟩) hgw _).setCell (p := ⟨g, 1, none⟩) hgw _).setCell (p := ⟨g, 2, none⟩) hgw _⟩)
  clear KF KR h3 B0 b3
  go_wp2
  exact bodyPost_ret (v := .tuple #[.agg #[.int .i64 0, .int .i64 0, .slice a3 0 k3], .int .i64 2]) (by simp [results, Try.results59, go_sem, d0, d1, d2]) rfl FR.out

theorem zmat_NegRow_arg (a : Value) (r c : Nat) (i : Int) (xs : List Int) (L : Nat) (w : World) (hA : Mt w a r c xs L) (hr : r ≤ 64) (hc : c ≤ 64) (hx : xs.length = r * c) (h : ¬ (0 ≤ i ∧ i < r)) :
    Calls Try.prog 59 #[a, .int .i64 i] w (RetE w 0 0 0 [] 1) := by
  obtain ⟨ao, ca, rfl⟩ := hA.agg
  obtain ⟨wb, ew, KA, KI, KR, B0, hsz⟩ := boxes2 w 24 3 24 [.int .i64 r, .int .i64 c, .slice ao xs.length ca] [.int .i64 i] [.int .i64 0, .int .i64 0, .slice none 0 0]
  clear hsz
  replace hA := hA.next B0
  have HX := Lib.hid hx; have HH := Lib.hid h; clear hx h
  go_enter Try.func59, Try.ntmps59
  go_upto_region 1 with (fail)
  rw [← ew]
  obtain ⟨g, eg⟩ : ∃ g, g = w.heap.size + 1 + 1 := ⟨_, rfl⟩
  rw [← eg] at KR ⊢
  have hgw : w.heap.size ≤ g := by omega
  clear ew eg
  have fKA0 := KA.cell 0; have fKA1 := KA.cell 1; have fKA2 := KA.cell 2; have fKI0 := KI.cell 0
  go_wp2_with fail
  refine (zmat_turned_arg _ r c i i xs L 87 [.pointer (some ⟨w.heap.size, 0, none⟩), .pointer (some ⟨w.heap.size + 1, 0, none⟩)] _ hA hr hc HX.out (fun h2 => HH.out h2.1)).mono ?_; rintro e w3 ⟨v3, rfl, h3, b3⟩
  clear fKA0 fKA1 fKA2 fKI0
  clear KA KI hA
  obtain ⟨a3, k3, rfl⟩ := h3.agg
  replace KR := KR.next b3
  replace B0 := B0.trans (b3.mono B0.size)
  have f0 := KR.free 0; have f1 := KR.free 1; have f2 := KR.free 2
  have c0 := KR.cell 0; have c1 := KR.cell 1; have c2 := KR.cell 2
  have KF := ((KR.set 0 (.int .i64 0)).set 1 (.int .i64 0)).set 2 (.slice a3 0 k3)
  have d0 := KF.cell 0; have d1 := KF.cell 1; have d2 := KF.cell 2
  have FR := Lib.hid (show RetE w 0 0 0 [] 1 (.returned (.tuple #[.agg #[.int .i64 0, .int .i64 0, .slice a3 0 k3], .int .i64 1])) (((w3.setCell ⟨g, 0, none⟩ (.int .i64 0)).setCell ⟨g, 1, none⟩ (.int .i64 0)).setCell ⟨g, 2, none⟩ (.slice a3 0 k3)) from ⟨_, rfl, h3.put KR _ _ _, ((B0.setCell (p := ⟨g, 0, none⟩) hgw _).setCell (p := ⟨g, 1, none⟩) hgw _).setCell (p := ⟨g, 2, none⟩) hgw _⟩)
  clear KF KR h3 B0 b3
  go_wp2
  exact bodyPost_ret (v := .tuple #[.agg #[.int .i64 0, .int .i64 0, .slice a3 0 k3], .int .i64 1]) (by simp [results, Try.results59, go_sem, d0, d1, d2]) rfl FR.out

theorem zmat_AddRow (a b : Value) (r c i k : Nat) (xs : List Int) (y : Int) (L M : Nat) (w : World) (hA : Mt w a r c xs L) (hB : Iv w b y M) (hr : r ≤ 64) (hc : c ≤ 64) (hx : xs.length = r * c) (hi : i < r) (hk : k < r) (hik : i ≠ k) (hL : L ≤ 10000) (hM : M ≤ 10000) :
    Calls Try.prog 58 #[a, .int .i64 i, .int .i64 k, b] w (RetE w (L + (M + L) + 1) r c (turnL r c i (fun q => xs.getD (i * c + q) 0 + y * xs.getD (k * c + q) 0) xs) 0) := by
  obtain ⟨ao, ca, rfl⟩ := hA.agg
  obtain ⟨s0, q, m, d, rfl⟩ := hB.agg
  obtain ⟨wb, ew, KA, KI, KK, KB, KR, B0⟩ := boxes4 w 24 3 3 36 24 [.int .i64 r, .int .i64 c, .slice ao xs.length ca] [.int .i64 i] [.int .i64 k] [.bool s0, .slice q m d] [.int .i64 0, .int .i64 0, .slice none 0 0]
  replace hA := hA.next B0; replace hB := hB.next B0
  have HX := Lib.hid hx; clear hx
  obtain ⟨zs, ezs⟩ : ∃ zs, zs = turnL r c i (fun q => xs.getD (i * c + q) 0 + y * xs.getD (k * c + q) 0) xs := ⟨_, rfl⟩
  rw [← ezs]
  have EZ := Lib.hid ezs; clear ezs
  have hq : ((i : Int) == (k : Int)) = false := by simp; omega
  go_enter Try.func58, Try.ntmps58
  go_wp2_with fail
  rw [← ew]
  obtain ⟨g, eg⟩ : ∃ g, g = w.heap.size + 1 + 1 + 1 + 1 := ⟨_, rfl⟩
  rw [← eg] at KR ⊢
  have hgw : w.heap.size ≤ g := by omega
  clear ew eg
  refine (zmat_Formed_yes _ r c xs L _ hA (Fm.of hr hc HX.out)).mono ?_; rintro e w2 ⟨rfl, b2⟩
  replace hA := hA.next b2; replace hB := hB.next b2; replace KA := KA.next b2; replace KI := KI.next b2; replace KK := KK.next b2; replace KB := KB.next b2; replace KR := KR.next b2
  replace B0 := B0.trans (b2.mono B0.size)
  clear b2
  have fKA0 := KA.cell 0; have fKA1 := KA.cell 1; have fKA2 := KA.cell 2; have fKI0 := KI.cell 0; have fKK0 := KK.cell 0
  go_wp2_with fail
  refine (zmat_turned _ r c i k xs L 86 (enters_of Try.func86 rfl rfl) [.pointer (some ⟨w.heap.size, 0, none⟩), .pointer (some ⟨w.heap.size + 1, 0, none⟩), .pointer (some ⟨w.heap.size + 1 + 1 + 1, 0, none⟩), .pointer (some ⟨w.heap.size + 1 + 1, 0, none⟩)] (fun q => xs.getD (i * c + q) 0 + y * xs.getD (k * c + q) 0) _ hA hr hc HX.out hi hk (L + (M + L) + 1) (by omega) (by omega) (fun k' w' hk' hb =>
    zmat_AddRow1 r c i k' xs L _ ao ca y M _ _ _ k s0 q m d w' (KA.next hb) (hA.next hb) (by omega) (by omega) (by omega) (KI.next hb) (KK.next hb) (by omega) (KB.next hb) (hB.next hb) (at_lt HX.out hi hk') (at_lt HX.out hk hk') hL hM)).mono ?_; rintro e w3 ⟨v3, rfl, h3, b3⟩
  clear fKA0 fKA1 fKA2 fKI0 fKK0
  clear KA KI KK KB hA hB hq
  rw [← EZ.out] at h3
  obtain ⟨a3, k3, rfl⟩ := h3.agg
  replace KR := KR.next b3
  replace B0 := B0.trans (b3.mono B0.size)
  have f0 := KR.free 0; have f1 := KR.free 1; have f2 := KR.free 2
  have c0 := KR.cell 0; have c1 := KR.cell 1; have c2 := KR.cell 2
  have KF := ((KR.set 0 (.int .i64 (r : Nat))).set 1 (.int .i64 (c : Nat))).set 2 (.slice a3 zs.length k3)
  have d0 := KF.cell 0; have d1 := KF.cell 1; have d2 := KF.cell 2
  have FR := Lib.hid (show RetE w (L + (M + L) + 1) r c zs 0 (.returned (.tuple #[.agg #[.int .i64 (r : Nat), .int .i64 (c : Nat), .slice a3 zs.length k3], .int .i64 0])) (((w3.setCell ⟨g, 0, none⟩ (.int .i64 (r : Nat))).setCell ⟨g, 1, none⟩ (.int .i64 (c : Nat))).setCell ⟨g, 2, none⟩ (.slice a3 zs.length k3)) from ⟨_, rfl, h3.put KR _ _ _, ((B0.setCell (p := ⟨g, 0, none⟩) hgw _).setCell (p := ⟨g, 1, none⟩) hgw _).setCell (p := ⟨g, 2, none⟩) hgw _⟩)
  clear KF KR h3 B0 b3
  go_wp2
  exact bodyPost_ret (v := .tuple #[.agg #[.int .i64 (r : Nat), .int .i64 (c : Nat), .slice a3 zs.length k3], .int .i64 0]) (by simp [results, Try.results58, go_sem, d0, d1, d2]) rfl FR.out

theorem zmat_AddRow_shape (a b : Value) (R C i k : Int) (xs : List Int) (y : Int) (L M : Nat) (w : World) (hA : Mt w a R C xs L) (hB : Iv w b y M) (h : ¬ Fm R C xs.length) :
    Calls Try.prog 58 #[a, .int .i64 i, .int .i64 k, b] w (RetE w 0 0 0 [] 2) := by
  obtain ⟨ao, ca, rfl⟩ := hA.agg
  obtain ⟨s0, q, m, d, rfl⟩ := hB.agg
  obtain ⟨wb, ew, KA, KI, KK, KB, KR, B0⟩ := boxes4 w 24 3 3 36 24 [.int .i64 R, .int .i64 C, .slice ao xs.length ca] [.int .i64 i] [.int .i64 k] [.bool s0, .slice q m d] [.int .i64 0, .int .i64 0, .slice none 0 0]
  replace hA := hA.next B0; replace hB := hB.next B0
  have HX := Lib.hid h; clear h hB
  go_enter Try.func58, Try.ntmps58
  go_wp2_with fail
  rw [← ew]
  obtain ⟨g, eg⟩ : ∃ g, g = w.heap.size + 1 + 1 + 1 + 1 := ⟨_, rfl⟩
  rw [← eg] at KR ⊢
  have hgw : w.heap.size ≤ g := by omega
  clear ew eg
  refine (zmat_Formed_no _ R C xs L _ hA HX.out).mono ?_; rintro e w2 ⟨rfl, b2⟩
  replace hA := hA.next b2; replace KA := KA.next b2; replace KI := KI.next b2; replace KK := KK.next b2; replace KR := KR.next b2
  replace B0 := B0.trans (b2.mono B0.size)
  clear b2
  have fKA0 := KA.cell 0; have fKA1 := KA.cell 1; have fKA2 := KA.cell 2; have fKI0 := KI.cell 0; have fKK0 := KK.cell 0
  go_wp2_with fail
  refine (zmat_turned_shape _ R C i k xs L 86 [.pointer (some ⟨w.heap.size, 0, none⟩), .pointer (some ⟨w.heap.size + 1, 0, none⟩), .pointer (some ⟨w.heap.size + 1 + 1 + 1, 0, none⟩), .pointer (some ⟨w.heap.size + 1 + 1, 0, none⟩)] _ hA HX.out).mono ?_; rintro e w3 ⟨v3, rfl, h3, b3⟩
  clear fKA0 fKA1 fKA2 fKI0 fKK0
  clear KA KI KK KB hA
  obtain ⟨a3, k3, rfl⟩ := h3.agg
  replace KR := KR.next b3
  replace B0 := B0.trans (b3.mono B0.size)
  have f0 := KR.free 0; have f1 := KR.free 1; have f2 := KR.free 2
  have c0 := KR.cell 0; have c1 := KR.cell 1; have c2 := KR.cell 2
  have KF := ((KR.set 0 (.int .i64 0)).set 1 (.int .i64 0)).set 2 (.slice a3 0 k3)
  have d0 := KF.cell 0; have d1 := KF.cell 1; have d2 := KF.cell 2
  have FR := Lib.hid (show RetE w 0 0 0 [] 2 (.returned (.tuple #[.agg #[.int .i64 0, .int .i64 0, .slice a3 0 k3], .int .i64 2])) (((w3.setCell ⟨g, 0, none⟩ (.int .i64 0)).setCell ⟨g, 1, none⟩ (.int .i64 0)).setCell ⟨g, 2, none⟩ (.slice a3 0 k3)) from ⟨_, rfl, h3.put KR _ _ _, ((B0.setCell (p := ⟨g, 0, none⟩) hgw _).setCell (p := ⟨g, 1, none⟩) hgw _).setCell (p := ⟨g, 2, none⟩) hgw _⟩)
  clear KF KR h3 B0 b3
  go_wp2
  exact bodyPost_ret (v := .tuple #[.agg #[.int .i64 0, .int .i64 0, .slice a3 0 k3], .int .i64 2]) (by simp [results, Try.results58, go_sem, d0, d1, d2]) rfl FR.out

theorem zmat_AddRow_arg (a b : Value) (r c : Nat) (i k : Int) (xs : List Int) (y : Int) (L M : Nat) (w : World) (hA : Mt w a r c xs L) (hB : Iv w b y M) (hr : r ≤ 64) (hc : c ≤ 64) (hx : xs.length = r * c) (h : ¬ ((0 ≤ i ∧ i < r) ∧ (0 ≤ k ∧ k < r) ∧ i ≠ k)) :
    Calls Try.prog 58 #[a, .int .i64 i, .int .i64 k, b] w (RetE w 0 0 0 [] 1) := by
  obtain ⟨ao, ca, rfl⟩ := hA.agg
  obtain ⟨s0, q, m, d, rfl⟩ := hB.agg
  obtain ⟨wb, ew, KA, KI, KK, KB, KR, B0⟩ := boxes4 w 24 3 3 36 24 [.int .i64 r, .int .i64 c, .slice ao xs.length ca] [.int .i64 i] [.int .i64 k] [.bool s0, .slice q m d] [.int .i64 0, .int .i64 0, .slice none 0 0]
  replace hA := hA.next B0; replace hB := hB.next B0
  have HX := Lib.hid hx; clear hx hB
  by_cases hik : i = k
  · subst hik
    clear h
    have hq : (i == i) = true := by simp
    go_enter Try.func58, Try.ntmps58
    go_wp2_with fail
    rw [← ew]
    obtain ⟨g, eg⟩ : ∃ g, g = w.heap.size + 1 + 1 + 1 + 1 := ⟨_, rfl⟩
    rw [← eg] at KR ⊢
    have hgw : w.heap.size ≤ g := by omega
    clear ew eg
    refine (zmat_Formed_yes _ r c xs L _ hA (Fm.of hr hc HX.out)).mono ?_; rintro e w2 ⟨rfl, b2⟩
    replace KI := KI.next b2; replace KK := KK.next b2; replace KR := KR.next b2
    replace B0 := B0.trans (b2.mono B0.size)
    clear b2
    have fKI0 := KI.cell 0; have fKK0 := KK.cell 0
    clear hA KA KB
    have f0 := KR.free 0; have f1 := KR.free 1; have f2 := KR.free 2
    have c0 := KR.cell 0; have c1 := KR.cell 1; have c2 := KR.cell 2
    have KF := ((KR.set 0 (.int .i64 0)).set 1 (.int .i64 0)).set 2 (.slice none 0 0)
    have d0 := KF.cell 0; have d1 := KF.cell 1; have d2 := KF.cell 2
    have FR := Lib.hid (show RetE w 0 0 0 [] 1 (.returned (.tuple #[.agg #[.int .i64 0, .int .i64 0, .slice none 0 0], .int .i64 1])) (((w2.setCell ⟨g, 0, none⟩ (.int .i64 0)).setCell ⟨g, 1, none⟩ (.int .i64 0)).setCell ⟨g, 2, none⟩ (.slice none 0 0)) from ⟨_, rfl, MtN.none _ _, ((B0.setCell (p := ⟨g, 0, none⟩) hgw _).setCell (p := ⟨g, 1, none⟩) hgw _).setCell (p := ⟨g, 2, none⟩) hgw _⟩)
    clear KF KR B0
    go_wp2
    exact bodyPost_ret (v := .tuple #[.agg #[.int .i64 0, .int .i64 0, .slice none 0 0], .int .i64 1]) (by simp [results, Try.results58, go_sem, d0, d1, d2]) rfl FR.out
  · have hq : (i == k) = false := by simpa using hik
    have h2 : ¬ ((0 ≤ i ∧ i < r) ∧ (0 ≤ k ∧ k < r)) := fun h2 => h ⟨h2.1, h2.2, hik⟩
    have H2 := Lib.hid h2
    clear h h2 hik
    go_enter Try.func58, Try.ntmps58
    go_wp2_with fail
    rw [← ew]
    obtain ⟨g, eg⟩ : ∃ g, g = w.heap.size + 1 + 1 + 1 + 1 := ⟨_, rfl⟩
    rw [← eg] at KR ⊢
    have hgw : w.heap.size ≤ g := by omega
    clear ew eg
    refine (zmat_Formed_yes _ r c xs L _ hA (Fm.of hr hc HX.out)).mono ?_; rintro e w2 ⟨rfl, b2⟩
    replace hA := hA.next b2; replace KA := KA.next b2; replace KI := KI.next b2; replace KK := KK.next b2; replace KR := KR.next b2
    replace B0 := B0.trans (b2.mono B0.size)
    clear b2
    have fKA0 := KA.cell 0; have fKA1 := KA.cell 1; have fKA2 := KA.cell 2; have fKI0 := KI.cell 0; have fKK0 := KK.cell 0
    go_wp2_with fail
    refine (zmat_turned_arg _ r c i k xs L 86 [.pointer (some ⟨w.heap.size, 0, none⟩), .pointer (some ⟨w.heap.size + 1, 0, none⟩), .pointer (some ⟨w.heap.size + 1 + 1 + 1, 0, none⟩), .pointer (some ⟨w.heap.size + 1 + 1, 0, none⟩)] _ hA hr hc HX.out H2.out).mono ?_; rintro e w3 ⟨v3, rfl, h3, b3⟩
    clear fKA0 fKA1 fKA2 fKI0 fKK0
    clear KA KI KK KB hA hq
    obtain ⟨a3, k3, rfl⟩ := h3.agg
    replace KR := KR.next b3
    replace B0 := B0.trans (b3.mono B0.size)
    have f0 := KR.free 0; have f1 := KR.free 1; have f2 := KR.free 2
    have c0 := KR.cell 0; have c1 := KR.cell 1; have c2 := KR.cell 2
    have KF := ((KR.set 0 (.int .i64 0)).set 1 (.int .i64 0)).set 2 (.slice a3 0 k3)
    have d0 := KF.cell 0; have d1 := KF.cell 1; have d2 := KF.cell 2
    have FR := Lib.hid (show RetE w 0 0 0 [] 1 (.returned (.tuple #[.agg #[.int .i64 0, .int .i64 0, .slice a3 0 k3], .int .i64 1])) (((w3.setCell ⟨g, 0, none⟩ (.int .i64 0)).setCell ⟨g, 1, none⟩ (.int .i64 0)).setCell ⟨g, 2, none⟩ (.slice a3 0 k3)) from ⟨_, rfl, h3.put KR _ _ _, ((B0.setCell (p := ⟨g, 0, none⟩) hgw _).setCell (p := ⟨g, 1, none⟩) hgw _).setCell (p := ⟨g, 2, none⟩) hgw _⟩)
    clear KF KR h3 B0 b3
    go_wp2
    exact bodyPost_ret (v := .tuple #[.agg #[.int .i64 0, .int .i64 0, .slice a3 0 k3], .int .i64 1]) (by simp [results, Try.results58, go_sem, d0, d1, d2]) rfl FR.out

theorem zmat_SwapRows (a : Value) (r c i k : Nat) (xs : List Int) (L : Nat) (w : World) (hA : Mt w a r c xs L) (hr : r ≤ 64) (hc : c ≤ 64) (hx : xs.length = r * c) (hi : i < r) (hk : k < r) (hL : L ≤ 100000) :
    Calls Try.prog 57 #[a, .int .i64 i, .int .i64 k] w (RetE w L r c (turnL r c k (fun q => xs.getD (i * c + q) 0) (turnL r c i (fun q => xs.getD (k * c + q) 0) xs)) 0) := by
  obtain ⟨ao, ca, rfl⟩ := hA.agg
  obtain ⟨wb, ew, KA, KI, KK, KR, B0⟩ := boxes3 w 24 3 3 24 [.int .i64 r, .int .i64 c, .slice ao xs.length ca] [.int .i64 i] [.int .i64 k] [.int .i64 0, .int .i64 0, .slice none 0 0]
  replace hA := hA.next B0
  have HX := Lib.hid hx; clear hx
  obtain ⟨ys, eys⟩ : ∃ ys, ys = turnL r c i (fun q => xs.getD (k * c + q) 0) xs := ⟨_, rfl⟩
  rw [← eys]
  have HY := Lib.hid (show ys.length = r * c by rw [eys]; exact turnL_length _ _ _ _ _)
  have EY := Lib.hid eys; clear eys
  obtain ⟨zs, ezs⟩ : ∃ zs, zs = turnL r c k (fun q => xs.getD (i * c + q) 0) ys := ⟨_, rfl⟩
  rw [← ezs]
  have EZ := Lib.hid ezs; clear ezs
  go_enter Try.func57, Try.ntmps57
  go_upto_region 1 with (fail)
  rw [← ew]
  obtain ⟨g, eg⟩ : ∃ g, g = w.heap.size + 1 + 1 + 1 := ⟨_, rfl⟩
  rw [← eg] at KR ⊢
  have hgw : w.heap.size ≤ g := by omega
  clear ew eg
  have fKA0 := KA.cell 0; have fKA1 := KA.cell 1; have fKA2 := KA.cell 2; have fKI0 := KI.cell 0; have fKK0 := KK.cell 0
  go_wp2_with fail
  refine (zmat_turned _ r c i k xs L 84 (enters_of Try.func84 rfl rfl) [.pointer (some ⟨w.heap.size, 0, none⟩), .pointer (some ⟨w.heap.size + 1 + 1, 0, none⟩)] (fun q => xs.getD (k * c + q) 0) _ hA hr hc HX.out hi hk L (Nat.le_refl _) hL (fun k' w' hk' hb =>
    zmat_SwapRows_1 r c k k' xs L _ ao ca _ w' (KA.next hb) (hA.next hb) (by omega) (by omega) (by omega) (KK.next hb) (at_lt HX.out hk hk'))).mono ?_; rintro e w2 ⟨v2, rfl, h2, b2⟩
  rw [← EY.out] at h2
  clear fKA0 fKA1 fKA2 fKI0 fKK0
  obtain ⟨a2, k2, rfl⟩ := h2.agg
  replace hA := hA.next b2; replace KA := KA.next b2; replace KI := KI.next b2; replace KK := KK.next b2; replace KR := KR.next b2
  replace B0 := B0.trans (b2.mono B0.size)
  clear b2
  obtain ⟨wm, em, K2, b2, hs2⟩ := boxes1 w2 24 [.int .i64 r, .int .i64 c, .slice a2 ys.length k2]
  clear hs2
  go_upto_region 2 with (fail)
  rw [← em]
  clear em
  replace h2 := h2.next b2
  replace hA := hA.next b2; replace KA := KA.next b2; replace KI := KI.next b2; replace KK := KK.next b2; replace KR := KR.next b2
  replace B0 := B0.trans (b2.mono B0.size)
  clear b2
  have fK20 := K2.cell 0; have fK21 := K2.cell 1; have fK22 := K2.cell 2; have fKI0 := KI.cell 0; have fKK0 := KK.cell 0
  go_wp2_with fail
  refine (zmat_turned _ r c k i ys L 85 (enters_of Try.func85 rfl rfl) [.pointer (some ⟨w.heap.size, 0, none⟩), .pointer (some ⟨w.heap.size + 1, 0, none⟩)] (fun q => xs.getD (i * c + q) 0) _ h2.mt hr hc HY.out hk hi L (Nat.le_refl _) hL (fun k' w' hk' hb =>
    zmat_SwapRows_2 r c i k' xs L _ ao ca _ w' (KA.next hb) (hA.next hb) (by omega) (by omega) (by omega) (KI.next hb) (at_lt HX.out hi hk'))).mono ?_; rintro e w3 ⟨v3, rfl, h3, b3⟩
  clear fK20 fK21 fK22 fKI0 fKK0
  clear KA KI KK K2 hA h2
  rw [← EZ.out] at h3
  obtain ⟨a3, k3, rfl⟩ := h3.agg
  replace KR := KR.next b3
  replace B0 := B0.trans (b3.mono B0.size)
  have f0 := KR.free 0; have f1 := KR.free 1; have f2 := KR.free 2
  have c0 := KR.cell 0; have c1 := KR.cell 1; have c2 := KR.cell 2
  have KF := ((KR.set 0 (.int .i64 (r : Nat))).set 1 (.int .i64 (c : Nat))).set 2 (.slice a3 zs.length k3)
  have d0 := KF.cell 0; have d1 := KF.cell 1; have d2 := KF.cell 2
  have FR := Lib.hid (show RetE w (L) r c zs 0 (.returned (.tuple #[.agg #[.int .i64 (r : Nat), .int .i64 (c : Nat), .slice a3 zs.length k3], .int .i64 0])) (((w3.setCell ⟨g, 0, none⟩ (.int .i64 (r : Nat))).setCell ⟨g, 1, none⟩ (.int .i64 (c : Nat))).setCell ⟨g, 2, none⟩ (.slice a3 zs.length k3)) from ⟨_, rfl, h3.put KR _ _ _, ((B0.setCell (p := ⟨g, 0, none⟩) hgw _).setCell (p := ⟨g, 1, none⟩) hgw _).setCell (p := ⟨g, 2, none⟩) hgw _⟩)
  clear KF KR h3 B0 b3
  go_wp2
  exact bodyPost_ret (v := .tuple #[.agg #[.int .i64 (r : Nat), .int .i64 (c : Nat), .slice a3 zs.length k3], .int .i64 0]) (by simp [results, Try.results57, go_sem, d0, d1, d2]) rfl FR.out

theorem zmat_SwapRows_shape (a : Value) (R C i k : Int) (xs : List Int) (L : Nat) (w : World) (hA : Mt w a R C xs L) (h : ¬ Fm R C xs.length) :
    Calls Try.prog 57 #[a, .int .i64 i, .int .i64 k] w (RetE w 0 0 0 [] 2) := by
  obtain ⟨ao, ca, rfl⟩ := hA.agg
  obtain ⟨wb, ew, KA, KI, KK, KR, B0⟩ := boxes3 w 24 3 3 24 [.int .i64 R, .int .i64 C, .slice ao xs.length ca] [.int .i64 i] [.int .i64 k] [.int .i64 0, .int .i64 0, .slice none 0 0]
  replace hA := hA.next B0
  go_enter Try.func57, Try.ntmps57
  go_upto_region 1 with (fail)
  rw [← ew]
  obtain ⟨g, eg⟩ : ∃ g, g = w.heap.size + 1 + 1 + 1 := ⟨_, rfl⟩
  rw [← eg] at KR ⊢
  have hgw : w.heap.size ≤ g := by omega
  clear ew eg
  have fKA0 := KA.cell 0; have fKA1 := KA.cell 1; have fKA2 := KA.cell 2; have fKI0 := KI.cell 0; have fKK0 := KK.cell 0
  go_wp2_with fail
  refine (zmat_turned_shape _ R C i k xs L 84 [.pointer (some ⟨w.heap.size, 0, none⟩), .pointer (some ⟨w.heap.size + 1 + 1, 0, none⟩)] _ hA h).mono ?_; rintro e w2 ⟨v2, rfl, h2, b2⟩
  clear fKA0 fKA1 fKA2 fKI0 fKK0
  clear KA KI KK hA
  obtain ⟨a2, k2, rfl⟩ := h2.agg
  replace KR := KR.next b2
  replace B0 := B0.trans (b2.mono B0.size)
  clear b2 h2
  obtain ⟨wm, em, K2, b2, hs2⟩ := boxes1 w2 24 [.int .i64 0, .int .i64 0, .slice a2 0 k2]
  clear hs2
  go_upto_region 2 with (fail)
  rw [← em]
  clear em
  replace KR := KR.next b2
  replace B0 := B0.trans (b2.mono B0.size)
  clear b2 K2
  have f0 := KR.free 0; have f1 := KR.free 1; have f2 := KR.free 2
  have c0 := KR.cell 0; have c1 := KR.cell 1; have c2 := KR.cell 2
  have KF := ((KR.set 0 (.int .i64 0)).set 1 (.int .i64 0)).set 2 (.slice none 0 0)
  have d0 := KF.cell 0; have d1 := KF.cell 1; have d2 := KF.cell 2
  have FR := Lib.hid (show RetE w 0 0 0 [] 2 (.returned (.tuple #[.agg #[.int .i64 0, .int .i64 0, .slice none 0 0], .int .i64 2])) (((wm.setCell ⟨g, 0, none⟩ (.int .i64 0)).setCell ⟨g, 1, none⟩ (.int .i64 0)).setCell ⟨g, 2, none⟩ (.slice none 0 0)) from ⟨_, rfl, MtN.none _ _, ((B0.setCell (p := ⟨g, 0, none⟩) hgw _).setCell (p := ⟨g, 1, none⟩) hgw _).setCell (p := ⟨g, 2, none⟩) hgw _⟩)
  clear KF KR B0
  go_wp2
  exact bodyPost_ret (v := .tuple #[.agg #[.int .i64 0, .int .i64 0, .slice none 0 0], .int .i64 2]) (by simp [results, Try.results57, go_sem, d0, d1, d2]) rfl FR.out

theorem zmat_SwapRows_arg (a : Value) (r c : Nat) (i k : Int) (xs : List Int) (L : Nat) (w : World) (hA : Mt w a r c xs L) (hr : r ≤ 64) (hc : c ≤ 64) (hx : xs.length = r * c) (h : ¬ ((0 ≤ i ∧ i < r) ∧ (0 ≤ k ∧ k < r))) :
    Calls Try.prog 57 #[a, .int .i64 i, .int .i64 k] w (RetE w 0 0 0 [] 1) := by
  obtain ⟨ao, ca, rfl⟩ := hA.agg
  obtain ⟨wb, ew, KA, KI, KK, KR, B0⟩ := boxes3 w 24 3 3 24 [.int .i64 r, .int .i64 c, .slice ao xs.length ca] [.int .i64 i] [.int .i64 k] [.int .i64 0, .int .i64 0, .slice none 0 0]
  replace hA := hA.next B0
  have HX := Lib.hid hx; have HH := Lib.hid h; clear hx h
  go_enter Try.func57, Try.ntmps57
  go_upto_region 1 with (fail)
  rw [← ew]
  obtain ⟨g, eg⟩ : ∃ g, g = w.heap.size + 1 + 1 + 1 := ⟨_, rfl⟩
  rw [← eg] at KR ⊢
  have hgw : w.heap.size ≤ g := by omega
  clear ew eg
  have fKA0 := KA.cell 0; have fKA1 := KA.cell 1; have fKA2 := KA.cell 2; have fKI0 := KI.cell 0; have fKK0 := KK.cell 0
  go_wp2_with fail
  refine (zmat_turned_arg _ r c i k xs L 84 [.pointer (some ⟨w.heap.size, 0, none⟩), .pointer (some ⟨w.heap.size + 1 + 1, 0, none⟩)] _ hA hr hc HX.out HH.out).mono ?_; rintro e w2 ⟨v2, rfl, h2, b2⟩
  clear fKA0 fKA1 fKA2 fKI0 fKK0
  clear KA KI KK hA
  obtain ⟨a2, k2, rfl⟩ := h2.agg
  replace KR := KR.next b2
  replace B0 := B0.trans (b2.mono B0.size)
  clear b2 h2
  obtain ⟨wm, em, K2, b2, hs2⟩ := boxes1 w2 24 [.int .i64 0, .int .i64 0, .slice a2 0 k2]
  clear hs2
  go_upto_region 2 with (fail)
  rw [← em]
  clear em
  replace KR := KR.next b2
  replace B0 := B0.trans (b2.mono B0.size)
  clear b2 K2
  have f0 := KR.free 0; have f1 := KR.free 1; have f2 := KR.free 2
  have c0 := KR.cell 0; have c1 := KR.cell 1; have c2 := KR.cell 2
  have KF := ((KR.set 0 (.int .i64 0)).set 1 (.int .i64 0)).set 2 (.slice none 0 0)
  have d0 := KF.cell 0; have d1 := KF.cell 1; have d2 := KF.cell 2
  have FR := Lib.hid (show RetE w 0 0 0 [] 1 (.returned (.tuple #[.agg #[.int .i64 0, .int .i64 0, .slice none 0 0], .int .i64 1])) (((wm.setCell ⟨g, 0, none⟩ (.int .i64 0)).setCell ⟨g, 1, none⟩ (.int .i64 0)).setCell ⟨g, 2, none⟩ (.slice none 0 0)) from ⟨_, rfl, MtN.none _ _, ((B0.setCell (p := ⟨g, 0, none⟩) hgw _).setCell (p := ⟨g, 1, none⟩) hgw _).setCell (p := ⟨g, 2, none⟩) hgw _⟩)
  clear KF KR B0
  go_wp2
  exact bodyPost_ret (v := .tuple #[.agg #[.int .i64 0, .int .i64 0, .slice none 0 0], .int .i64 1]) (by simp [results, Try.results57, go_sem, d0, d1, d2]) rfl FR.out

end Go.Proofs.Ytahjbeilddenbaa
