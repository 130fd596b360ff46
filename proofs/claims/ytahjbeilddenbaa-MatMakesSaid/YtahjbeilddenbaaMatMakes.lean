/- MatMakes: whatever the sides and the numbers, the law returns true: the matrix is made, or refused; each number is told, none beside; the same are the same. No condition. -/
import Derived.Test.YtahjbeilddenbaaRows
import Derived.Test.YtahjbeilddenbaaZone
import Derived.Test.YtahjbeilddenbaaZdo
import Derived.Test.YtahjbeilddenbaaZany
namespace Go.Proofs.Ytahjbeilddenbaa.matMakes
open Go.ChangeShapes Go.WideShapes Go.ChangeAt Go.RowKit
open Go.ChangeMaps (open_string shut_string)

theorem own : ownKnob Try.prog.godebug = none := by kernel_rfl
theorem laidOut : laidOutB Try.prog = true := by kernel_rfl


section
variable {H : Type} {enc : TypeId × Value → H} {P : Program} {w : World} {base : Nat} {spare : Nat → Bool} {held : Bool}
theorem trod_i64s {t e : TypeId} {fuel : Nat} {v : Value} {x : DataW H × List MemPlace} (ht : P.underlying t = some (.slice e)) (he : P.underlying e = some (.int .i64)) (hc : P.cellsOf e = 1)
    (hf : DataW.trod enc P w base spare held fuel t [v] = some x) : ∃ ns, Si w v ns ∧ ∀ y ∈ ns, -9223372036854775808 ≤ y ∧ y < 9223372036854775808 := by
  rcases open_ints ht he hc hf with ⟨hcs, _⟩ | ⟨x, l, c, zs, hcs, _, hl, hm, hz, _, hcell, hwz⟩
  · simp at hcs
    subst hcs
    exact ⟨[], ⟨none, 0, 0, 0, rfl, Nat.le_refl _, ⟨fun h => absurd rfl h, fun j hj => absurd hj (Nat.not_lt_zero _)⟩⟩, fun y hy => absurd hy (by simp)⟩
  · simp at hcs
    subst hcs
    have hlz : l ≤ zs.length := by rw [hz]; split <;> omega
    have hlen : (zs.take l).length = l := by simp; omega
    have hget : ∀ j, j < l → (zs.take l).getD j 0 = zs.getD j 0 := by
      intro j hj
      simp [List.getD, hj]
    have hx : zs ≠ [] → x = ⟨x.block, x.off, none⟩ := by
      intro h
      have h0 : 0 < zs.length := List.length_pos_iff.2 h
      have := World.cell?_spot (hcell 0 h0)
      simp [Addr.add] at this
      obtain ⟨b, o, s⟩ := x
      simp at this; rw [this]
    refine ⟨zs.take l, ⟨some x, x.block, x.off, c, by rw [hlen], by rw [hlen]; exact hl, ⟨?_, ?_⟩⟩, ?_⟩
    · intro hne
      rw [← hx (fun h => hne (by subst h; simp))]
    · intro j hj
      rw [hlen] at hj
      have hjz : j < zs.length := by omega
      have h1 := hcell j hjz
      rw [hget j hj, ← h1]
      congr 1
      have e := hx (fun h => by subst h; simp at hjz)
      rw [e]
      unfold Addr.add
      split
      · rename_i h; subst h; rfl
      · rfl
    · intro y hy
      have := wf_i64_bounds (hwz y (List.mem_of_mem_take hy))
      omega
theorem open_i64s {r : Reach} {b0 : Nat} {t e : TypeId} {v : Value} {d : DataW H} {p : List MemPlace} (ht : P.underlying t = some (.slice e)) (he : P.underlying e = some (.int .i64)) (hc : P.cellsOf e = 1)
    (hv : Value.okWide P w r b0 t v) (h : DataW.Trod enc P w base spare held t v d p) : ∃ ns, Si w v ns ∧ ∀ y ∈ ns, -9223372036854775808 ≤ y ∧ y < 9223372036854775808 := by
  obtain ⟨a, len, cap, rfl⟩ := okWide_slice ht hv
  obtain ⟨fuel, hf⟩ := h
  exact trod_i64s ht he hc hf
end

theorem at_ok (v : Value) (r c i k : Nat) (I K : Int) (hI : I = i) (hK : K = k) (xs : List Int) (L : Nat) (w : World) (hA : Mt w v r c xs L) (hr : r ≤ 64) (hc : c ≤ 64) (hx : xs.length = r * c) (hi : i < r) (hk : k < c) (hL : L ≤ 100000) :
    Calls Try.prog 37 #[v, .int .i64 I, .int .i64 K] w (RetI w L (xs.getD (i * c + k) 0)) := by
  subst hI hK; exact zmat_At v r c i k xs L w hA hr hc hx hi hk hL
theorem sign0 (a : Value) (L : Nat) (w : World) (ha : Iv w a 0 L) (hL : L ≤ 1000000) : Calls Try.prog 39 #[a] w (RetW w (.int .i64 0)) := zi_Sign a 0 L w ha hL
theorem same_yes (a b : Value) (x : Int) (L M : Nat) (w : World) (ha : Iv w a x L) (hb : Iv w b x M) (hL : L ≤ 1000000) (hM : M ≤ 1000000) : Calls Try.prog 16 #[a, b] w (RetW w (.bool true)) := by
  have := zi_Same a b x x L M w ha hb hL hM
  rwa [decide_eq_true rfl] at this

/-- Noughts. -/
def nulL (r c : Nat) : List Int := tab c (fun _ _ => 0) (r * c)
theorem nulL_length (r c : Nat) : (nulL r c).length = r * c := tab_length _ _ _
theorem nulL_get (r c j : Nat) : (nulL r c).getD j 0 = 0 := by
  unfold nulL tab
  by_cases h : j < r * c
  · simp [List.getD, h]
  · simp [List.getD, h]
theorem idL_zero (n : Nat) (β : Bool) (hβ : β = decide (n = 0)) : β = true ↔ ∀ j, j < (idL n).length → (idL n).getD j 0 = 0 := by
  rw [hβ, decide_eq_true_iff]
  constructor
  · intro h j hj
    subst h
    simp [idL_length] at hj
  · intro h
    refine Classical.byContradiction fun hn => ?_
    have h1 := h (0 * n + 0) (by rw [idL_length]; have := Nat.mul_pos (Nat.pos_of_ne_zero hn) (Nat.pos_of_ne_zero hn); omega)
    rw [idL_get (Nat.pos_of_ne_zero hn) (Nat.pos_of_ne_zero hn)] at h1
    simp at h1
theorem null_eq {r c : Nat} {ns : List Int} (hn : ns.length = r * c) : (∀ j, j < ns.length → ns.getD j 0 = 0) ↔ ns = nulL r c := by
  constructor
  · intro h
    refine List.ext_getElem (by rw [hn, nulL_length]) fun j h1 h2 => ?_
    have e1 := h j h1
    have e2 := nulL_get r c j
    simp only [List.getD, List.getElem?_eq_getElem h1, List.getElem?_eq_getElem h2, Option.getD_some] at e1 e2
    rw [e1, e2]
  · intro h j _
    rw [h]; exact nulL_get r c j

set_option maxRecDepth 20000 in
set_option maxHeartbeats 4000000 in
theorem long (R C : Int) (v : Value) (ns : List Int) (w : World) (hN : Si w v ns) (hl : 36 < ns.length) :
    Calls Try.prog 8 #[.int .i64 R, .int .i64 C, v] w (LawOk w) := by
  obtain ⟨ao, b, off, ca, rfl, hcap, hcs⟩ := hN
  have hN : Si w (.slice ao ns.length ca) ns := ⟨ao, b, off, ca, rfl, hcap, hcs⟩
  clear hcap
  have B0 : Below w.heap.size w w := Below.refl _ _
  have hl2 : decide (((ns.length : Nat) : Int) > 36) = true := decide_eq_true (by omega)
  clear hcs hN
  go_enter Try.func8, Try.ntmps8
  go_wp2_with fail
  refine (law11_awake _).mono ?_; rintro e w1 ⟨rfl, b1⟩
  replace B0 := B0.trans (b1.mono B0.size)
  clear b1
  go_wp2_with fail
  refine (law11_awake _).mono ?_; rintro e w2 ⟨rfl, b2⟩
  replace B0 := B0.trans (b2.mono B0.size)
  clear b2
  go_wp2
  go_ret
  exact ⟨rfl, B0⟩

set_option maxRecDepth 20000 in
set_option maxHeartbeats 4000000 in
theorem may_no (R C : Int) (v : Value) (ns : List Int) (w : World) (hN : Si w v ns) (hn : ∀ y ∈ ns, -9223372036854775808 ≤ y ∧ y < 9223372036854775808) (hl : ns.length ≤ 36) (h : ¬ (Sd R ∧ Sd C)) :
    Calls Try.prog 8 #[.int .i64 R, .int .i64 C, v] w (LawOk w) := by
  obtain ⟨ao, b, off, ca, rfl, hcap, hcs⟩ := hN
  have hN : Si w (.slice ao ns.length ca) ns := ⟨ao, b, off, ca, rfl, hcap, hcs⟩
  clear hcap
  have HN := Lib.hid hn; clear hn
  have B0 : Below w.heap.size w w := Below.refl _ _
  have hl2 : decide (((ns.length : Nat) : Int) > 36) = false := decide_eq_false (by omega)
  have hl3 : ¬ 36 < ns.length := by omega
  clear hcs hl
  by_cases h1 : 0 ≤ R
  rotate_left
  · have H := Lib.hid h; clear h
    have HR := Lib.hid (show ¬ Sd R from fun h => h1 h.1)
    have d1 : decide (R ≥ 0) = false := decide_eq_false (by omega)
    go_enter Try.func8, Try.ntmps8
    go_wp2_with fail
    refine (law11_awake _).mono ?_; rintro e w1 ⟨rfl, b1⟩
    replace hN := hN.next b1
    replace B0 := B0.trans (b1.mono B0.size)
    clear b1
    go_wp2_with fail
    refine (zmat_Of_arg _ R C ns _ hN H.out).mono ?_; rintro e w2 ⟨v2, rfl, h2, b2⟩
    replace hN := hN.next b2
    replace B0 := B0.trans (b2.mono B0.size)
    clear b2
    obtain ⟨a2, k2, rfl⟩ := h2.agg
    obtain ⟨w3, e3, K2, b3, hs3⟩ := boxes1 w2 24 [.int .i64 0, .int .i64 0, .slice a2 0 k2]
    clear hs3
    replace hN := hN.next b3
    replace h2 := h2.next b3
    replace B0 := B0.trans (b3.mono B0.size)
    clear b3
    go_upto_region 5 with (fail)
    rw [← e3]
    clear e3
    go_wp2_with fail
    refine (zmat_New_arg R C _ H.out).mono ?_; rintro e w4 ⟨v4, rfl, h4, b4⟩
    replace hN := hN.next b4
    replace h2 := h2.next b4
    replace K2 := K2.next b4
    replace B0 := B0.trans (b4.mono B0.size)
    clear b4
    obtain ⟨a4, k4, rfl⟩ := h4.agg
    obtain ⟨w5, e5, K4, b5, hs5⟩ := boxes1 w4 24 [.int .i64 0, .int .i64 0, .slice a4 0 k4]
    clear hs5
    replace hN := hN.next b5
    replace h2 := h2.next b5
    replace K2 := K2.next b5
    replace h4 := h4.next b5
    replace B0 := B0.trans (b5.mono B0.size)
    clear b5
    go_upto_region 6 with (fail)
    rw [← e5]
    clear e5
    go_wp2_with fail
    refine (zmat_Identity_arg R _ HR.out).mono ?_; rintro e w6 ⟨v6, rfl, h6, b6⟩
    replace hN := hN.next b6
    replace h2 := h2.next b6
    replace K2 := K2.next b6
    replace h4 := h4.next b6
    replace K4 := K4.next b6
    replace B0 := B0.trans (b6.mono B0.size)
    clear b6
    obtain ⟨a6, k6, rfl⟩ := h6.agg
    obtain ⟨w7, e7, K6, b7, hs7⟩ := boxes1 w6 24 [.int .i64 0, .int .i64 0, .slice a6 0 k6]
    clear hs7
    replace hN := hN.next b7
    replace h2 := h2.next b7
    replace K2 := K2.next b7
    replace h4 := h4.next b7
    replace K4 := K4.next b7
    replace h6 := h6.next b7
    replace B0 := B0.trans (b7.mono B0.size)
    clear b7
    go_upto_region 7 with (fail)
    rw [← e7]
    clear e7
    have qK20 := K2.cell 0
    have qK21 := K2.cell 1
    have qK22 := K2.cell 2
    go_wp2_with fail
    refine (ref11_None a2 k2 _).mono ?_; rintro e w8 ⟨rfl, b8⟩
    clear qK20 qK21 qK22
    replace hN := hN.next b8
    replace h2 := h2.next b8
    replace K2 := K2.next b8
    replace h4 := h4.next b8
    replace K4 := K4.next b8
    replace h6 := h6.next b8
    replace K6 := K6.next b8
    replace B0 := B0.trans (b8.mono B0.size)
    clear b8
    have qK40 := K4.cell 0
    have qK41 := K4.cell 1
    have qK42 := K4.cell 2
    go_wp2_with fail
    refine (ref11_None a4 k4 _).mono ?_; rintro e w9 ⟨rfl, b9⟩
    clear qK40 qK41 qK42
    replace hN := hN.next b9
    replace h2 := h2.next b9
    replace K2 := K2.next b9
    replace h4 := h4.next b9
    replace K4 := K4.next b9
    replace h6 := h6.next b9
    replace K6 := K6.next b9
    replace B0 := B0.trans (b9.mono B0.size)
    clear b9
    go_wp2
    go_ret
    exact ⟨rfl, B0⟩
  by_cases h2 : R ≤ 64
  rotate_left
  · have H := Lib.hid h; clear h
    have HR := Lib.hid (show ¬ Sd R from fun h => h2 h.2)
    have d1 : decide (R ≥ 0) = true := decide_eq_true (by omega)
    have d2 : decide (R ≤ 64) = false := decide_eq_false (by omega)
    go_enter Try.func8, Try.ntmps8
    go_wp2_with fail
    refine (law11_awake _).mono ?_; rintro e w1 ⟨rfl, b1⟩
    replace hN := hN.next b1
    replace B0 := B0.trans (b1.mono B0.size)
    clear b1
    go_wp2_with fail
    refine (zmat_Of_arg _ R C ns _ hN H.out).mono ?_; rintro e w2 ⟨v2, rfl, h2, b2⟩
    replace hN := hN.next b2
    replace B0 := B0.trans (b2.mono B0.size)
    clear b2
    obtain ⟨a2, k2, rfl⟩ := h2.agg
    obtain ⟨w3, e3, K2, b3, hs3⟩ := boxes1 w2 24 [.int .i64 0, .int .i64 0, .slice a2 0 k2]
    clear hs3
    replace hN := hN.next b3
    replace h2 := h2.next b3
    replace B0 := B0.trans (b3.mono B0.size)
    clear b3
    go_upto_region 5 with (fail)
    rw [← e3]
    clear e3
    go_wp2_with fail
    refine (zmat_New_arg R C _ H.out).mono ?_; rintro e w4 ⟨v4, rfl, h4, b4⟩
    replace hN := hN.next b4
    replace h2 := h2.next b4
    replace K2 := K2.next b4
    replace B0 := B0.trans (b4.mono B0.size)
    clear b4
    obtain ⟨a4, k4, rfl⟩ := h4.agg
    obtain ⟨w5, e5, K4, b5, hs5⟩ := boxes1 w4 24 [.int .i64 0, .int .i64 0, .slice a4 0 k4]
    clear hs5
    replace hN := hN.next b5
    replace h2 := h2.next b5
    replace K2 := K2.next b5
    replace h4 := h4.next b5
    replace B0 := B0.trans (b5.mono B0.size)
    clear b5
    go_upto_region 6 with (fail)
    rw [← e5]
    clear e5
    go_wp2_with fail
    refine (zmat_Identity_arg R _ HR.out).mono ?_; rintro e w6 ⟨v6, rfl, h6, b6⟩
    replace hN := hN.next b6
    replace h2 := h2.next b6
    replace K2 := K2.next b6
    replace h4 := h4.next b6
    replace K4 := K4.next b6
    replace B0 := B0.trans (b6.mono B0.size)
    clear b6
    obtain ⟨a6, k6, rfl⟩ := h6.agg
    obtain ⟨w7, e7, K6, b7, hs7⟩ := boxes1 w6 24 [.int .i64 0, .int .i64 0, .slice a6 0 k6]
    clear hs7
    replace hN := hN.next b7
    replace h2 := h2.next b7
    replace K2 := K2.next b7
    replace h4 := h4.next b7
    replace K4 := K4.next b7
    replace h6 := h6.next b7
    replace B0 := B0.trans (b7.mono B0.size)
    clear b7
    go_upto_region 7 with (fail)
    rw [← e7]
    clear e7
    have qK20 := K2.cell 0
    have qK21 := K2.cell 1
    have qK22 := K2.cell 2
    go_wp2_with fail
    refine (ref11_None a2 k2 _).mono ?_; rintro e w8 ⟨rfl, b8⟩
    clear qK20 qK21 qK22
    replace hN := hN.next b8
    replace h2 := h2.next b8
    replace K2 := K2.next b8
    replace h4 := h4.next b8
    replace K4 := K4.next b8
    replace h6 := h6.next b8
    replace K6 := K6.next b8
    replace B0 := B0.trans (b8.mono B0.size)
    clear b8
    have qK40 := K4.cell 0
    have qK41 := K4.cell 1
    have qK42 := K4.cell 2
    go_wp2_with fail
    refine (ref11_None a4 k4 _).mono ?_; rintro e w9 ⟨rfl, b9⟩
    clear qK40 qK41 qK42
    replace hN := hN.next b9
    replace h2 := h2.next b9
    replace K2 := K2.next b9
    replace h4 := h4.next b9
    replace K4 := K4.next b9
    replace h6 := h6.next b9
    replace K6 := K6.next b9
    replace B0 := B0.trans (b9.mono B0.size)
    clear b9
    go_wp2
    go_ret
    exact ⟨rfl, B0⟩
  obtain ⟨r, rfl⟩ := Int.eq_ofNat_of_zero_le h1
  by_cases h3 : 0 ≤ C
  rotate_left
  · have H := Lib.hid h; clear h
    have HR := Lib.hid (show r ≤ 64 by omega)
    have d1 : decide ((r : Int) ≥ 0) = true := decide_eq_true (by omega)
    have d2 : decide ((r : Int) ≤ 64) = true := decide_eq_true (by omega)
    have d5 : r ≤ 64 := by omega
    have d3 : decide (C ≥ 0) = false := decide_eq_false (by omega)
    go_enter Try.func8, Try.ntmps8
    go_wp2_with fail
    refine (law11_awake _).mono ?_; rintro e w1 ⟨rfl, b1⟩
    replace hN := hN.next b1
    replace B0 := B0.trans (b1.mono B0.size)
    clear b1
    go_wp2_with fail
    refine (zmat_Of_arg _ r C ns _ hN H.out).mono ?_; rintro e w2 ⟨v2, rfl, h2, b2⟩
    replace hN := hN.next b2
    replace B0 := B0.trans (b2.mono B0.size)
    clear b2
    obtain ⟨a2, k2, rfl⟩ := h2.agg
    obtain ⟨w3, e3, K2, b3, hs3⟩ := boxes1 w2 24 [.int .i64 0, .int .i64 0, .slice a2 0 k2]
    clear hs3
    replace hN := hN.next b3
    replace h2 := h2.next b3
    replace B0 := B0.trans (b3.mono B0.size)
    clear b3
    go_upto_region 5 with (fail)
    rw [← e3]
    clear e3
    go_wp2_with fail
    refine (zmat_New_arg r C _ H.out).mono ?_; rintro e w4 ⟨v4, rfl, h4, b4⟩
    replace hN := hN.next b4
    replace h2 := h2.next b4
    replace K2 := K2.next b4
    replace B0 := B0.trans (b4.mono B0.size)
    clear b4
    obtain ⟨a4, k4, rfl⟩ := h4.agg
    obtain ⟨w5, e5, K4, b5, hs5⟩ := boxes1 w4 24 [.int .i64 0, .int .i64 0, .slice a4 0 k4]
    clear hs5
    replace hN := hN.next b5
    replace h2 := h2.next b5
    replace K2 := K2.next b5
    replace h4 := h4.next b5
    replace B0 := B0.trans (b5.mono B0.size)
    clear b5
    go_upto_region 6 with (fail)
    rw [← e5]
    clear e5
    go_wp2_with fail
    refine (zmat_Identity r _ HR.out).mono ?_; rintro e w6 ⟨v6, rfl, h6, b6⟩
    replace hN := hN.next b6
    replace h2 := h2.next b6
    replace K2 := K2.next b6
    replace h4 := h4.next b6
    replace K4 := K4.next b6
    replace B0 := B0.trans (b6.mono B0.size)
    clear b6
    obtain ⟨es, ees⟩ : ∃ es, es = idL r := ⟨_, rfl⟩
    rw [← ees] at h6; clear ees
    obtain ⟨a6, k6, rfl⟩ := h6.agg
    obtain ⟨w7, e7, K6, b7, hs7⟩ := boxes1 w6 24 [.int .i64 r, .int .i64 r, .slice a6 es.length k6]
    clear hs7
    replace hN := hN.next b7
    replace h2 := h2.next b7
    replace K2 := K2.next b7
    replace h4 := h4.next b7
    replace K4 := K4.next b7
    replace h6 := h6.next b7
    replace B0 := B0.trans (b7.mono B0.size)
    clear b7
    go_upto_region 7 with (fail)
    rw [← e7]
    clear e7
    have qK20 := K2.cell 0
    have qK21 := K2.cell 1
    have qK22 := K2.cell 2
    go_wp2_with fail
    refine (ref11_None a2 k2 _).mono ?_; rintro e w8 ⟨rfl, b8⟩
    clear qK20 qK21 qK22
    replace hN := hN.next b8
    replace h2 := h2.next b8
    replace K2 := K2.next b8
    replace h4 := h4.next b8
    replace K4 := K4.next b8
    replace h6 := h6.next b8
    replace K6 := K6.next b8
    replace B0 := B0.trans (b8.mono B0.size)
    clear b8
    have qK40 := K4.cell 0
    have qK41 := K4.cell 1
    have qK42 := K4.cell 2
    go_wp2_with fail
    refine (ref11_None a4 k4 _).mono ?_; rintro e w9 ⟨rfl, b9⟩
    clear qK40 qK41 qK42
    replace hN := hN.next b9
    replace h2 := h2.next b9
    replace K2 := K2.next b9
    replace h4 := h4.next b9
    replace K4 := K4.next b9
    replace h6 := h6.next b9
    replace K6 := K6.next b9
    replace B0 := B0.trans (b9.mono B0.size)
    clear b9
    go_wp2
    go_ret
    exact ⟨rfl, B0⟩
  have h4 : ¬ C ≤ 64 := fun h4 => h ⟨⟨h1, h2⟩, ⟨h3, h4⟩⟩
  have H := Lib.hid h; clear h
  have HR := Lib.hid (show r ≤ 64 by omega)
  have d1 : decide ((r : Int) ≥ 0) = true := decide_eq_true (by omega)
  have d2 : decide ((r : Int) ≤ 64) = true := decide_eq_true (by omega)
  have d5 : r ≤ 64 := by omega
  have d3 : decide (C ≥ 0) = true := decide_eq_true (by omega)
  have d4 : decide (C ≤ 64) = false := decide_eq_false (by omega)
  go_enter Try.func8, Try.ntmps8
  go_wp2_with fail
  refine (law11_awake _).mono ?_; rintro e w1 ⟨rfl, b1⟩
  replace hN := hN.next b1
  replace B0 := B0.trans (b1.mono B0.size)
  clear b1
  go_wp2_with fail
  refine (zmat_Of_arg _ r C ns _ hN H.out).mono ?_; rintro e w2 ⟨v2, rfl, h2, b2⟩
  replace hN := hN.next b2
  replace B0 := B0.trans (b2.mono B0.size)
  clear b2
  obtain ⟨a2, k2, rfl⟩ := h2.agg
  obtain ⟨w3, e3, K2, b3, hs3⟩ := boxes1 w2 24 [.int .i64 0, .int .i64 0, .slice a2 0 k2]
  clear hs3
  replace hN := hN.next b3
  replace h2 := h2.next b3
  replace B0 := B0.trans (b3.mono B0.size)
  clear b3
  go_upto_region 5 with (fail)
  rw [← e3]
  clear e3
  go_wp2_with fail
  refine (zmat_New_arg r C _ H.out).mono ?_; rintro e w4 ⟨v4, rfl, h4, b4⟩
  replace hN := hN.next b4
  replace h2 := h2.next b4
  replace K2 := K2.next b4
  replace B0 := B0.trans (b4.mono B0.size)
  clear b4
  obtain ⟨a4, k4, rfl⟩ := h4.agg
  obtain ⟨w5, e5, K4, b5, hs5⟩ := boxes1 w4 24 [.int .i64 0, .int .i64 0, .slice a4 0 k4]
  clear hs5
  replace hN := hN.next b5
  replace h2 := h2.next b5
  replace K2 := K2.next b5
  replace h4 := h4.next b5
  replace B0 := B0.trans (b5.mono B0.size)
  clear b5
  go_upto_region 6 with (fail)
  rw [← e5]
  clear e5
  go_wp2_with fail
  refine (zmat_Identity r _ HR.out).mono ?_; rintro e w6 ⟨v6, rfl, h6, b6⟩
  replace hN := hN.next b6
  replace h2 := h2.next b6
  replace K2 := K2.next b6
  replace h4 := h4.next b6
  replace K4 := K4.next b6
  replace B0 := B0.trans (b6.mono B0.size)
  clear b6
  obtain ⟨es, ees⟩ : ∃ es, es = idL r := ⟨_, rfl⟩
  rw [← ees] at h6; clear ees
  obtain ⟨a6, k6, rfl⟩ := h6.agg
  obtain ⟨w7, e7, K6, b7, hs7⟩ := boxes1 w6 24 [.int .i64 r, .int .i64 r, .slice a6 es.length k6]
  clear hs7
  replace hN := hN.next b7
  replace h2 := h2.next b7
  replace K2 := K2.next b7
  replace h4 := h4.next b7
  replace K4 := K4.next b7
  replace h6 := h6.next b7
  replace B0 := B0.trans (b7.mono B0.size)
  clear b7
  go_upto_region 7 with (fail)
  rw [← e7]
  clear e7
  have qK20 := K2.cell 0
  have qK21 := K2.cell 1
  have qK22 := K2.cell 2
  go_wp2_with fail
  refine (ref11_None a2 k2 _).mono ?_; rintro e w8 ⟨rfl, b8⟩
  clear qK20 qK21 qK22
  replace hN := hN.next b8
  replace h2 := h2.next b8
  replace K2 := K2.next b8
  replace h4 := h4.next b8
  replace K4 := K4.next b8
  replace h6 := h6.next b8
  replace K6 := K6.next b8
  replace B0 := B0.trans (b8.mono B0.size)
  clear b8
  have qK40 := K4.cell 0
  have qK41 := K4.cell 1
  have qK42 := K4.cell 2
  go_wp2_with fail
  refine (ref11_None a4 k4 _).mono ?_; rintro e w9 ⟨rfl, b9⟩
  clear qK40 qK41 qK42
  replace hN := hN.next b9
  replace h2 := h2.next b9
  replace K2 := K2.next b9
  replace h4 := h4.next b9
  replace K4 := K4.next b9
  replace h6 := h6.next b9
  replace K6 := K6.next b9
  replace B0 := B0.trans (b9.mono B0.size)
  clear b9
  go_wp2
  go_ret
  exact ⟨rfl, B0⟩

set_option maxRecDepth 20000 in
set_option maxHeartbeats 4000000 in
theorem may_nz (r c : Nat) (v : Value) (ns : List Int) (w : World) (hN : Si w v ns) (hn : ∀ y ∈ ns, -9223372036854775808 ≤ y ∧ y < 9223372036854775808) (hl : ns.length ≤ 36) (hr : r ≤ 64) (hc : c ≤ 64) (hx : ns.length ≠ r * c) (hz : r = 0) :
    Calls Try.prog 8 #[.int .i64 r, .int .i64 c, v] w (LawOk w) := by
  obtain ⟨ao, b, off, ca, rfl, hcap, hcs⟩ := hN
  have hN : Si w (.slice ao ns.length ca) ns := ⟨ao, b, off, ca, rfl, hcap, hcs⟩
  clear hcap
  have HN := Lib.hid hn; clear hn
  have B0 : Below w.heap.size w w := Below.refl _ _
  have hl2 : decide (((ns.length : Nat) : Int) > 36) = false := decide_eq_false (by omega)
  have hl3 : ¬ 36 < ns.length := by omega
  clear hl
  clear hcs
  have hx2 : (((ns.length : Nat) : Int) == ((r * c : Nat) : Int)) = false := by simp; omega
  have hx3 : (((ns.length : Nat) : Int) != ((r * c : Nat) : Int)) = true := by simp; omega
  have hrc : r * c ≤ 64 * 64 := Nat.mul_le_mul hr hc
  have hw : IntKind.i64.wrap ((r : Int) * (c : Int)) = ((r * c : Nat) : Int) := by rw [← Int.natCast_mul]; exact IntWalk.i64_in _ ⟨by omega, by omega⟩
  have HX := Lib.hid hx; clear hx
  obtain ⟨rc, erc⟩ : ∃ rc, rc = r * c := ⟨_, rfl⟩
  rw [← erc] at hx2 hx3 hw hrc
  have ERC := Lib.hid erc; clear erc
  have HX2 := Lib.hid hx2; have HX3 := Lib.hid hx3; have HW := Lib.hid hw; clear hx2 hx3 hw
  have d1 : decide ((r : Int) ≥ 0) = true := decide_eq_true (by omega)
  have d2 : decide ((r : Int) ≤ 64) = true := decide_eq_true (by omega)
  have d3 : decide ((c : Int) ≥ 0) = true := decide_eq_true (by omega)
  have d4 : decide ((c : Int) ≤ 64) = true := decide_eq_true (by omega)
  have hz2 : ((r : Int) == 0) = true := by simp; omega
  have HZ := Lib.hid hz; clear hz
  go_enter Try.func8, Try.ntmps8
  go_wp2_with fail
  refine (law11_awake _).mono ?_; rintro e w1 ⟨rfl, b1⟩
  replace hN := hN.next b1
  replace B0 := B0.trans (b1.mono B0.size)
  clear b1
  go_wp2_with fail
  refine (zmat_Of_shape _ r c ns _ hN hr hc HX.out).mono ?_; rintro e w2 ⟨v2, rfl, h2, b2⟩
  replace hN := hN.next b2
  replace B0 := B0.trans (b2.mono B0.size)
  clear b2
  obtain ⟨a2, k2, rfl⟩ := h2.agg
  obtain ⟨w3, e3, K2, b3, hs3⟩ := boxes1 w2 24 [.int .i64 0, .int .i64 0, .slice a2 0 k2]
  clear hs3
  replace hN := hN.next b3
  replace h2 := h2.next b3
  replace B0 := B0.trans (b3.mono B0.size)
  clear b3
  go_upto_region 5 with (fail)
  rw [← e3]
  clear e3
  go_wp2_with fail
  refine (zmat_New r c _ hr hc).mono ?_; rintro e w4 ⟨v4, rfl, h4, b4⟩
  replace hN := hN.next b4
  replace h2 := h2.next b4
  replace K2 := K2.next b4
  replace B0 := B0.trans (b4.mono B0.size)
  clear b4
  obtain ⟨zs, ezs⟩ : ∃ zs, zs = nulL r c := ⟨_, rfl⟩
  replace h4 : MtN w4 v4 r c (nulL r c) 0 := h4
  rw [← ezs] at h4
  have lzs : zs.length = r * c := by rw [ezs]; exact nulL_length _ _
  have nzs : ∀ j, j < zs.length → zs.getD j 0 = 0 := fun j _ => by rw [ezs]; exact nulL_get _ _ _
  have EZS := Lib.hid ezs; have LZS := Lib.hid lzs; have NZS := Lib.hid nzs; clear ezs lzs nzs
  obtain ⟨a4, k4, rfl⟩ := h4.agg
  obtain ⟨w5, e5, K4, b5, hs5⟩ := boxes1 w4 24 [.int .i64 r, .int .i64 c, .slice a4 zs.length k4]
  clear hs5
  replace hN := hN.next b5
  replace h2 := h2.next b5
  replace K2 := K2.next b5
  replace h4 := h4.next b5
  replace B0 := B0.trans (b5.mono B0.size)
  clear b5
  go_upto_region 6 with (fail)
  rw [← e5]
  clear e5
  go_wp2_with fail
  refine (zmat_Identity r _ hr).mono ?_; rintro e w6 ⟨v6, rfl, h6, b6⟩
  replace hN := hN.next b6
  replace h2 := h2.next b6
  replace K2 := K2.next b6
  replace h4 := h4.next b6
  replace K4 := K4.next b6
  replace B0 := B0.trans (b6.mono B0.size)
  clear b6
  obtain ⟨es, ees⟩ : ∃ es, es = idL r := ⟨_, rfl⟩
  rw [← ees] at h6
  have les : es.length = r * r := by rw [ees]; exact idL_length _
  have nes : ∀ j, j < es.length → es.getD j 0 = 0 := by rw [ees]; exact (idL_zero r true (decide_eq_true HZ.out).symm).1 rfl
  have LES := Lib.hid les; have NES := Lib.hid nes; clear ees les nes
  obtain ⟨a6, k6, rfl⟩ := h6.agg
  obtain ⟨w7, e7, K6, b7, hs7⟩ := boxes1 w6 24 [.int .i64 r, .int .i64 r, .slice a6 es.length k6]
  clear hs7
  replace hN := hN.next b7
  replace h2 := h2.next b7
  replace K2 := K2.next b7
  replace h4 := h4.next b7
  replace K4 := K4.next b7
  replace h6 := h6.next b7
  replace B0 := B0.trans (b7.mono B0.size)
  clear b7
  go_upto_region 7 with (fail)
  rw [← e7]
  clear e7
  have qK40 := K4.cell 0
  have qK41 := K4.cell 1
  have qK42 := K4.cell 2
  go_wp2_with fail
  refine (zmat_Zero _ r c zs 0 _ h4.mt hr hc LZS.out (by omega) true ⟨fun _ => NZS.out, fun _ => rfl⟩).mono ?_; rintro e w8 ⟨rfl, b8⟩
  clear qK40 qK41 qK42
  replace hN := hN.next b8
  replace h2 := h2.next b8
  replace K2 := K2.next b8
  replace h4 := h4.next b8
  replace K4 := K4.next b8
  replace h6 := h6.next b8
  replace K6 := K6.next b8
  replace B0 := B0.trans (b8.mono B0.size)
  clear b8
  have qK40 := K4.cell 0
  have qK41 := K4.cell 1
  have qK42 := K4.cell 2
  go_wp2_with fail
  refine (ref11_Normal _ r c zs 0 _ h4 hr hc LZS.out (by omega)).mono ?_; rintro e w9 ⟨rfl, b9⟩
  clear qK40 qK41 qK42
  replace hN := hN.next b9
  replace h2 := h2.next b9
  replace K2 := K2.next b9
  replace h4 := h4.next b9
  replace K4 := K4.next b9
  replace h6 := h6.next b9
  replace K6 := K6.next b9
  replace B0 := B0.trans (b9.mono B0.size)
  clear b9
  have qK40 := K4.cell 0
  have qK41 := K4.cell 1
  have qK60 := K6.cell 0
  have qK61 := K6.cell 1
  have qK62 := K6.cell 2
  have e1 : ((r : Int) == (r : Int)) = true := by simp
  have e2 : ((c : Int) == (c : Int)) = true := by simp
  go_wp2_with fail
  refine (zmat_Zero _ r r es 1 _ h6.mt hr hr LES.out (by omega) true ⟨fun _ => NES.out, fun _ => rfl⟩).mono ?_; rintro e w10 ⟨rfl, b10⟩
  clear qK40 qK41 qK60 qK61 qK62
  replace hN := hN.next b10
  replace h2 := h2.next b10
  replace K2 := K2.next b10
  replace h4 := h4.next b10
  replace K4 := K4.next b10
  replace h6 := h6.next b10
  replace K6 := K6.next b10
  replace B0 := B0.trans (b10.mono B0.size)
  clear b10
  go_upto_region 11 with (fail)
  have hw := HW.out; have hx2 := HX2.out; have hx3 := HX3.out
  have qK20 := K2.cell 0
  have qK21 := K2.cell 1
  have qK22 := K2.cell 2
  go_wp2_with fail
  refine (ref11_None a2 k2 _).mono ?_; rintro e w11 ⟨rfl, b11⟩
  clear qK20 qK21 qK22
  replace hN := hN.next b11
  replace h2 := h2.next b11
  replace K2 := K2.next b11
  replace h4 := h4.next b11
  replace K4 := K4.next b11
  replace h6 := h6.next b11
  replace K6 := K6.next b11
  replace B0 := B0.trans (b11.mono B0.size)
  clear b11
  go_wp2
  go_ret
  exact ⟨rfl, B0⟩

set_option maxRecDepth 20000 in
set_option maxHeartbeats 4000000 in
theorem may_np (r c : Nat) (v : Value) (ns : List Int) (w : World) (hN : Si w v ns) (hn : ∀ y ∈ ns, -9223372036854775808 ≤ y ∧ y < 9223372036854775808) (hl : ns.length ≤ 36) (hr : r ≤ 64) (hc : c ≤ 64) (hx : ns.length ≠ r * c) (hz : r ≠ 0) :
    Calls Try.prog 8 #[.int .i64 r, .int .i64 c, v] w (LawOk w) := by
  obtain ⟨ao, b, off, ca, rfl, hcap, hcs⟩ := hN
  have hN : Si w (.slice ao ns.length ca) ns := ⟨ao, b, off, ca, rfl, hcap, hcs⟩
  clear hcap
  have HN := Lib.hid hn; clear hn
  have B0 : Below w.heap.size w w := Below.refl _ _
  have hl2 : decide (((ns.length : Nat) : Int) > 36) = false := decide_eq_false (by omega)
  have hl3 : ¬ 36 < ns.length := by omega
  clear hl
  clear hcs
  have hx2 : (((ns.length : Nat) : Int) == ((r * c : Nat) : Int)) = false := by simp; omega
  have hx3 : (((ns.length : Nat) : Int) != ((r * c : Nat) : Int)) = true := by simp; omega
  have hrc : r * c ≤ 64 * 64 := Nat.mul_le_mul hr hc
  have hw : IntKind.i64.wrap ((r : Int) * (c : Int)) = ((r * c : Nat) : Int) := by rw [← Int.natCast_mul]; exact IntWalk.i64_in _ ⟨by omega, by omega⟩
  have HX := Lib.hid hx; clear hx
  obtain ⟨rc, erc⟩ : ∃ rc, rc = r * c := ⟨_, rfl⟩
  rw [← erc] at hx2 hx3 hw hrc
  have ERC := Lib.hid erc; clear erc
  have HX2 := Lib.hid hx2; have HX3 := Lib.hid hx3; have HW := Lib.hid hw; clear hx2 hx3 hw
  have d1 : decide ((r : Int) ≥ 0) = true := decide_eq_true (by omega)
  have d2 : decide ((r : Int) ≤ 64) = true := decide_eq_true (by omega)
  have d3 : decide ((c : Int) ≥ 0) = true := decide_eq_true (by omega)
  have d4 : decide ((c : Int) ≤ 64) = true := decide_eq_true (by omega)
  have hz2 : ((r : Int) == 0) = false := by simp; omega
  have HZ := Lib.hid hz; clear hz
  go_enter Try.func8, Try.ntmps8
  go_wp2_with fail
  refine (law11_awake _).mono ?_; rintro e w1 ⟨rfl, b1⟩
  replace hN := hN.next b1
  replace B0 := B0.trans (b1.mono B0.size)
  clear b1
  go_wp2_with fail
  refine (zmat_Of_shape _ r c ns _ hN hr hc HX.out).mono ?_; rintro e w2 ⟨v2, rfl, h2, b2⟩
  replace hN := hN.next b2
  replace B0 := B0.trans (b2.mono B0.size)
  clear b2
  obtain ⟨a2, k2, rfl⟩ := h2.agg
  obtain ⟨w3, e3, K2, b3, hs3⟩ := boxes1 w2 24 [.int .i64 0, .int .i64 0, .slice a2 0 k2]
  clear hs3
  replace hN := hN.next b3
  replace h2 := h2.next b3
  replace B0 := B0.trans (b3.mono B0.size)
  clear b3
  go_upto_region 5 with (fail)
  rw [← e3]
  clear e3
  go_wp2_with fail
  refine (zmat_New r c _ hr hc).mono ?_; rintro e w4 ⟨v4, rfl, h4, b4⟩
  replace hN := hN.next b4
  replace h2 := h2.next b4
  replace K2 := K2.next b4
  replace B0 := B0.trans (b4.mono B0.size)
  clear b4
  obtain ⟨zs, ezs⟩ : ∃ zs, zs = nulL r c := ⟨_, rfl⟩
  replace h4 : MtN w4 v4 r c (nulL r c) 0 := h4
  rw [← ezs] at h4
  have lzs : zs.length = r * c := by rw [ezs]; exact nulL_length _ _
  have nzs : ∀ j, j < zs.length → zs.getD j 0 = 0 := fun j _ => by rw [ezs]; exact nulL_get _ _ _
  have EZS := Lib.hid ezs; have LZS := Lib.hid lzs; have NZS := Lib.hid nzs; clear ezs lzs nzs
  obtain ⟨a4, k4, rfl⟩ := h4.agg
  obtain ⟨w5, e5, K4, b5, hs5⟩ := boxes1 w4 24 [.int .i64 r, .int .i64 c, .slice a4 zs.length k4]
  clear hs5
  replace hN := hN.next b5
  replace h2 := h2.next b5
  replace K2 := K2.next b5
  replace h4 := h4.next b5
  replace B0 := B0.trans (b5.mono B0.size)
  clear b5
  go_upto_region 6 with (fail)
  rw [← e5]
  clear e5
  go_wp2_with fail
  refine (zmat_Identity r _ hr).mono ?_; rintro e w6 ⟨v6, rfl, h6, b6⟩
  replace hN := hN.next b6
  replace h2 := h2.next b6
  replace K2 := K2.next b6
  replace h4 := h4.next b6
  replace K4 := K4.next b6
  replace B0 := B0.trans (b6.mono B0.size)
  clear b6
  obtain ⟨es, ees⟩ : ∃ es, es = idL r := ⟨_, rfl⟩
  rw [← ees] at h6
  have les : es.length = r * r := by rw [ees]; exact idL_length _
  have nes : false = true ↔ ∀ j, j < es.length → es.getD j 0 = 0 := by rw [ees]; exact idL_zero r false (decide_eq_false HZ.out).symm
  have LES := Lib.hid les; have NES := Lib.hid nes; clear ees les nes
  obtain ⟨a6, k6, rfl⟩ := h6.agg
  obtain ⟨w7, e7, K6, b7, hs7⟩ := boxes1 w6 24 [.int .i64 r, .int .i64 r, .slice a6 es.length k6]
  clear hs7
  replace hN := hN.next b7
  replace h2 := h2.next b7
  replace K2 := K2.next b7
  replace h4 := h4.next b7
  replace K4 := K4.next b7
  replace h6 := h6.next b7
  replace B0 := B0.trans (b7.mono B0.size)
  clear b7
  go_upto_region 7 with (fail)
  rw [← e7]
  clear e7
  have qK40 := K4.cell 0
  have qK41 := K4.cell 1
  have qK42 := K4.cell 2
  go_wp2_with fail
  refine (zmat_Zero _ r c zs 0 _ h4.mt hr hc LZS.out (by omega) true ⟨fun _ => NZS.out, fun _ => rfl⟩).mono ?_; rintro e w8 ⟨rfl, b8⟩
  clear qK40 qK41 qK42
  replace hN := hN.next b8
  replace h2 := h2.next b8
  replace K2 := K2.next b8
  replace h4 := h4.next b8
  replace K4 := K4.next b8
  replace h6 := h6.next b8
  replace K6 := K6.next b8
  replace B0 := B0.trans (b8.mono B0.size)
  clear b8
  have qK40 := K4.cell 0
  have qK41 := K4.cell 1
  have qK42 := K4.cell 2
  go_wp2_with fail
  refine (ref11_Normal _ r c zs 0 _ h4 hr hc LZS.out (by omega)).mono ?_; rintro e w9 ⟨rfl, b9⟩
  clear qK40 qK41 qK42
  replace hN := hN.next b9
  replace h2 := h2.next b9
  replace K2 := K2.next b9
  replace h4 := h4.next b9
  replace K4 := K4.next b9
  replace h6 := h6.next b9
  replace K6 := K6.next b9
  replace B0 := B0.trans (b9.mono B0.size)
  clear b9
  have qK40 := K4.cell 0
  have qK41 := K4.cell 1
  have qK60 := K6.cell 0
  have qK61 := K6.cell 1
  have qK62 := K6.cell 2
  have e1 : ((r : Int) == (r : Int)) = true := by simp
  have e2 : ((c : Int) == (c : Int)) = true := by simp
  go_wp2_with fail
  refine (zmat_Zero _ r r es 1 _ h6.mt hr hr LES.out (by omega) false NES.out).mono ?_; rintro e w10 ⟨rfl, b10⟩
  clear qK40 qK41 qK60 qK61 qK62
  replace hN := hN.next b10
  replace h2 := h2.next b10
  replace K2 := K2.next b10
  replace h4 := h4.next b10
  replace K4 := K4.next b10
  replace h6 := h6.next b10
  replace K6 := K6.next b10
  replace B0 := B0.trans (b10.mono B0.size)
  clear b10
  go_upto_region 11 with (fail)
  have hw := HW.out; have hx2 := HX2.out; have hx3 := HX3.out
  have qK20 := K2.cell 0
  have qK21 := K2.cell 1
  have qK22 := K2.cell 2
  go_wp2_with fail
  refine (ref11_None a2 k2 _).mono ?_; rintro e w11 ⟨rfl, b11⟩
  clear qK20 qK21 qK22
  replace hN := hN.next b11
  replace h2 := h2.next b11
  replace K2 := K2.next b11
  replace h4 := h4.next b11
  replace K4 := K4.next b11
  replace h6 := h6.next b11
  replace K6 := K6.next b11
  replace B0 := B0.trans (b11.mono B0.size)
  clear b11
  go_wp2
  go_ret
  exact ⟨rfl, B0⟩

set_option maxRecDepth 20000 in
set_option maxHeartbeats 4000000 in
theorem may_yz (r c : Nat) (v : Value) (ns : List Int) (w : World) (hN : Si w v ns) (hn : ∀ y ∈ ns, -9223372036854775808 ≤ y ∧ y < 9223372036854775808) (hl : ns.length ≤ 36) (hr : r ≤ 64) (hc : c ≤ 64) (hx : ns.length = r * c) (hz : r = 0) :
    Calls Try.prog 8 #[.int .i64 r, .int .i64 c, v] w (LawOk w) := by
  obtain ⟨ao, b, off, ca, rfl, hcap, hcs⟩ := hN
  have hN : Si w (.slice ao ns.length ca) ns := ⟨ao, b, off, ca, rfl, hcap, hcs⟩
  clear hcap
  have HN := Lib.hid hn; clear hn
  have B0 : Below w.heap.size w w := Below.refl _ _
  have hl2 : decide (((ns.length : Nat) : Int) > 36) = false := decide_eq_false (by omega)
  have hl3 : ¬ 36 < ns.length := by omega
  clear hl
  have hcs := Lib.hid hcs
  have hx2 : (((ns.length : Nat) : Int) == ((r * c : Nat) : Int)) = true := by simp [hx]
  have hx3 : (((ns.length : Nat) : Int) != ((r * c : Nat) : Int)) = false := by simp [hx]
  have hrc : r * c ≤ 64 * 64 := Nat.mul_le_mul hr hc
  have hw : IntKind.i64.wrap ((r : Int) * (c : Int)) = ((r * c : Nat) : Int) := by rw [← Int.natCast_mul]; exact IntWalk.i64_in _ ⟨by omega, by omega⟩
  have HX := Lib.hid hx; clear hx
  obtain ⟨rc, erc⟩ : ∃ rc, rc = r * c := ⟨_, rfl⟩
  rw [← erc] at hx2 hx3 hw hrc
  have ERC := Lib.hid erc; clear erc
  have HX2 := Lib.hid hx2; have HX3 := Lib.hid hx3; have HW := Lib.hid hw; clear hx2 hx3 hw
  have d1 : decide ((r : Int) ≥ 0) = true := decide_eq_true (by omega)
  have d2 : decide ((r : Int) ≤ 64) = true := decide_eq_true (by omega)
  have d3 : decide ((c : Int) ≥ 0) = true := decide_eq_true (by omega)
  have d4 : decide ((c : Int) ≤ 64) = true := decide_eq_true (by omega)
  have hz2 : ((r : Int) == 0) = true := by simp; omega
  have HZ := Lib.hid hz; clear hz
  go_enter Try.func8, Try.ntmps8
  go_wp2_with fail
  refine (law11_awake _).mono ?_; rintro e w1 ⟨rfl, b1⟩
  replace hN := hN.next b1
  replace B0 := B0.trans (b1.mono B0.size)
  clear b1
  go_wp2_with fail
  refine (zmat_Of _ r c ns _ hN HN.out hr hc HX.out).mono ?_; rintro e w2 ⟨v2, rfl, h2, b2⟩
  replace hN := hN.next b2
  replace B0 := B0.trans (b2.mono B0.size)
  clear b2
  rw [tab_self HX.out] at h2
  obtain ⟨a2, k2, rfl⟩ := h2.agg
  obtain ⟨w3, e3, K2, b3, hs3⟩ := boxes1 w2 24 [.int .i64 r, .int .i64 c, .slice a2 ns.length k2]
  clear hs3
  replace hN := hN.next b3
  replace h2 := h2.next b3
  replace B0 := B0.trans (b3.mono B0.size)
  clear b3
  go_upto_region 5 with (fail)
  rw [← e3]
  clear e3
  go_wp2_with fail
  refine (zmat_New r c _ hr hc).mono ?_; rintro e w4 ⟨v4, rfl, h4, b4⟩
  replace hN := hN.next b4
  replace h2 := h2.next b4
  replace K2 := K2.next b4
  replace B0 := B0.trans (b4.mono B0.size)
  clear b4
  obtain ⟨zs, ezs⟩ : ∃ zs, zs = nulL r c := ⟨_, rfl⟩
  replace h4 : MtN w4 v4 r c (nulL r c) 0 := h4
  rw [← ezs] at h4
  have lzs : zs.length = r * c := by rw [ezs]; exact nulL_length _ _
  have nzs : ∀ j, j < zs.length → zs.getD j 0 = 0 := fun j _ => by rw [ezs]; exact nulL_get _ _ _
  have EZS := Lib.hid ezs; have LZS := Lib.hid lzs; have NZS := Lib.hid nzs; clear ezs lzs nzs
  obtain ⟨a4, k4, rfl⟩ := h4.agg
  obtain ⟨w5, e5, K4, b5, hs5⟩ := boxes1 w4 24 [.int .i64 r, .int .i64 c, .slice a4 zs.length k4]
  clear hs5
  replace hN := hN.next b5
  replace h2 := h2.next b5
  replace K2 := K2.next b5
  replace h4 := h4.next b5
  replace B0 := B0.trans (b5.mono B0.size)
  clear b5
  go_upto_region 6 with (fail)
  rw [← e5]
  clear e5
  go_wp2_with fail
  refine (zmat_Identity r _ hr).mono ?_; rintro e w6 ⟨v6, rfl, h6, b6⟩
  replace hN := hN.next b6
  replace h2 := h2.next b6
  replace K2 := K2.next b6
  replace h4 := h4.next b6
  replace K4 := K4.next b6
  replace B0 := B0.trans (b6.mono B0.size)
  clear b6
  obtain ⟨es, ees⟩ : ∃ es, es = idL r := ⟨_, rfl⟩
  rw [← ees] at h6
  have les : es.length = r * r := by rw [ees]; exact idL_length _
  have nes : ∀ j, j < es.length → es.getD j 0 = 0 := by rw [ees]; exact (idL_zero r true (decide_eq_true HZ.out).symm).1 rfl
  have LES := Lib.hid les; have NES := Lib.hid nes; clear ees les nes
  obtain ⟨a6, k6, rfl⟩ := h6.agg
  obtain ⟨w7, e7, K6, b7, hs7⟩ := boxes1 w6 24 [.int .i64 r, .int .i64 r, .slice a6 es.length k6]
  clear hs7
  replace hN := hN.next b7
  replace h2 := h2.next b7
  replace K2 := K2.next b7
  replace h4 := h4.next b7
  replace K4 := K4.next b7
  replace h6 := h6.next b7
  replace B0 := B0.trans (b7.mono B0.size)
  clear b7
  go_upto_region 7 with (fail)
  rw [← e7]
  clear e7
  have qK40 := K4.cell 0
  have qK41 := K4.cell 1
  have qK42 := K4.cell 2
  go_wp2_with fail
  refine (zmat_Zero _ r c zs 0 _ h4.mt hr hc LZS.out (by omega) true ⟨fun _ => NZS.out, fun _ => rfl⟩).mono ?_; rintro e w8 ⟨rfl, b8⟩
  clear qK40 qK41 qK42
  replace hN := hN.next b8
  replace h2 := h2.next b8
  replace K2 := K2.next b8
  replace h4 := h4.next b8
  replace K4 := K4.next b8
  replace h6 := h6.next b8
  replace K6 := K6.next b8
  replace B0 := B0.trans (b8.mono B0.size)
  clear b8
  have qK40 := K4.cell 0
  have qK41 := K4.cell 1
  have qK42 := K4.cell 2
  go_wp2_with fail
  refine (ref11_Normal _ r c zs 0 _ h4 hr hc LZS.out (by omega)).mono ?_; rintro e w9 ⟨rfl, b9⟩
  clear qK40 qK41 qK42
  replace hN := hN.next b9
  replace h2 := h2.next b9
  replace K2 := K2.next b9
  replace h4 := h4.next b9
  replace K4 := K4.next b9
  replace h6 := h6.next b9
  replace K6 := K6.next b9
  replace B0 := B0.trans (b9.mono B0.size)
  clear b9
  have qK40 := K4.cell 0
  have qK41 := K4.cell 1
  have qK60 := K6.cell 0
  have qK61 := K6.cell 1
  have qK62 := K6.cell 2
  have e1 : ((r : Int) == (r : Int)) = true := by simp
  have e2 : ((c : Int) == (c : Int)) = true := by simp
  go_wp2_with fail
  refine (zmat_Zero _ r r es 1 _ h6.mt hr hr LES.out (by omega) true ⟨fun _ => NES.out, fun _ => rfl⟩).mono ?_; rintro e w10 ⟨rfl, b10⟩
  clear qK40 qK41 qK60 qK61 qK62
  replace hN := hN.next b10
  replace h2 := h2.next b10
  replace K2 := K2.next b10
  replace h4 := h4.next b10
  replace K4 := K4.next b10
  replace h6 := h6.next b10
  replace K6 := K6.next b10
  replace B0 := B0.trans (b10.mono B0.size)
  clear b10
  go_upto_region 11 with (fail)
  have hw := HW.out; have hx2 := HX2.out; have hx3 := HX3.out
  go_upto_region 13 with (fail)
  have hl5 : ns.length ≤ 36 := by omega
  clear hw hx2 hx3 e1 e2 hz2 hl2 hl3 d1 d2 d3 d4
  have w0s := B0.size
  go_wp2
  go_loopw [14] (fun iv wr => ∃ j : Nat, j ≤ ns.length ∧ iv = .int .i64 j ∧ Below w10.heap.size w10 wr) (fun iv _ => ns.length - (intOf iv).toNat)
  case atStart => exact ⟨0, by omega, rfl, Below.refl _ _⟩
  case round =>
    obtain ⟨j, hj, rfl, hb0⟩ := hrel
    by_cases hjl : j < ns.length
    · have hc0 : 0 < c := Nat.pos_of_ne_zero fun h => by have := HX.out; rw [h, Nat.mul_zero] at this; omega
      obtain ⟨q, eq⟩ : ∃ q, q = j / c := ⟨_, rfl⟩
      obtain ⟨k, ek⟩ : ∃ k, k = j % c := ⟨_, rfl⟩
      have hqk : q * c + k = j := by rw [eq, ek, Nat.mul_comm]; exact Nat.div_add_mod _ _
      have hk : k < c := by rw [ek]; exact Nat.mod_lt _ hc0
      have hq : q < r := by rw [eq]; exact (Nat.div_lt_iff_lt_mul hc0).2 (by have := HX.out; omega)
      have EQ := Lib.hid (show (j : Int) / (c : Int) = (q : Int) by rw [eq]; rfl)
      have EM := Lib.hid (show (j : Int).tmod (c : Int) = (k : Int) by rw [ek]; rfl)
      have EM2 := Lib.hid (show (j : Int) % (c : Int) = (k : Int) by rw [ek]; rfl)
      have EW := Lib.hid (show IntKind.i64.wrap (q : Int) = (q : Int) from IntWalk.i64_in _ ⟨by omega, by omega⟩)
      have HQK := Lib.hid hqk
      clear eq ek hqk
      have hcz : ((c : Int) == 0) = false := by simp; omega
      have hcz2 : ¬ c = 0 := by omega
      have hne : ns ≠ [] := by intro h; subst h; simp at hjl
      have hao := hcs.out.ao hne
      have q1 := hcs.out.cell j hjl
      have hbd : -9223372036854775808 ≤ ns.getD j 0 ∧ ns.getD j 0 < 9223372036854775808 := HN.out _ (by
        have e : ns.getD j 0 = ns[j] := by simp [List.getD, List.getElem?_eq_getElem hjl]
        rw [e]; exact List.getElem_mem hjl)
      obtain ⟨x, ex⟩ : ∃ x, x = ns.getD j 0 := ⟨_, rfl⟩
      rw [← ex] at hbd q1
      have EX := Lib.hid ex; clear ex
      have HBD := Lib.hid hbd; clear hbd
      subst hao
      go_upto_region 16 with (fail)
      replace hb0 := hb0.trans (Drawn.below (w' := wr.drew) ⟨1, rfl⟩ _)
      have kN := K2.next hb0
      have hN' := h2.next hb0
      have bw := B0.trans (hb0.mono B0.size)
      have q1 := (bw.cell (p := ⟨b, off + j, none⟩) (World.block_lt_of_cell? _ _ q1)).trans q1
      refine startL (S := (fun w' => Below (wr.drew).heap.size (wr.drew) w')) (by kernel_rfl) (Below.refl _ _) (fun hHeld => ?_)
      refine takeL 0 (v := ?_) rfl (by kernel_rfl) (by kernel_rfl) (by kernel_rfl) (fun _ _ _ h => h) ⟨by rfl, ?_⟩ (by assumption) ?_
      rotate_left
      · intro w hS; have fa := kN.at hS; have f1 := fa 0; have f2 := fa 1; have f3 := fa 2; clear fa; have f4 := (hS.cell (p := ⟨b, off + j, none⟩) (World.block_lt_of_cell? _ _ q1)).trans q1; go_simp <;> with_reducible rfl
      simp only [Act.put, List.setIfInBounds_toArray, List.set_cons_zero, List.set_cons_succ]
      refine takeL 1 (v := ?_) rfl (by kernel_rfl) (by kernel_rfl) (by kernel_rfl) (fun _ _ _ h => h) ⟨by rfl, ?_⟩ (by assumption) ?_
      rotate_left
      · intro w hS; go_simp <;> with_reducible rfl
      simp only [Act.put, List.setIfInBounds_toArray, List.set_cons_zero, List.set_cons_succ]
      refine takeL 2 (v := ?_) rfl (by kernel_rfl) (by kernel_rfl) (by kernel_rfl) (fun _ _ _ h => h) ⟨by rfl, ?_⟩ (by assumption) ?_
      rotate_left
      · intro w hS; go_simp <;> with_reducible rfl
      simp only [Act.put, List.setIfInBounds_toArray, List.set_cons_zero, List.set_cons_succ]
      refine takeL 3 (v := ?_) rfl (by kernel_rfl) (by kernel_rfl) (by kernel_rfl) (fun _ _ _ h => h) ⟨by rfl, ?_⟩ (by assumption) ?_
      rotate_left
      · intro w hS; go_simp <;> with_reducible rfl
      simp only [Act.put, List.setIfInBounds_toArray, List.set_cons_zero, List.set_cons_succ]
      refine takeL 4 (v := ?_) rfl (by kernel_rfl) (by kernel_rfl) (by kernel_rfl) (fun _ _ _ h => h) ⟨by rfl, ?_⟩ (by assumption) ?_
      rotate_left
      · intro w hS; go_simp <;> with_reducible rfl
      simp only [Act.put, List.setIfInBounds_toArray, List.set_cons_zero, List.set_cons_succ]
      refine takeL 5 (v := ?_) rfl (by kernel_rfl) (by kernel_rfl) (by kernel_rfl) (fun _ _ _ h => h) ⟨by rfl, ?_⟩ (by assumption) ?_
      rotate_left
      · intro w hS; go_simp <;> with_reducible rfl
      simp only [Act.put, List.setIfInBounds_toArray, List.set_cons_zero, List.set_cons_succ]
      refine takeL 6 (v := ?_) rfl (by kernel_rfl) (by kernel_rfl) (by kernel_rfl) (fun _ _ _ h => h) ⟨by rfl, ?_⟩ (by assumption) ?_
      rotate_left
      · intro w hS; go_simp <;> with_reducible rfl
      simp only [Act.put, List.setIfInBounds_toArray, List.set_cons_zero, List.set_cons_succ]
      refine takeL 8 (v := ?_) rfl (by kernel_rfl) (by kernel_rfl) (by kernel_rfl) (fun _ _ _ h => h) ⟨by rfl, ?_⟩ (by assumption) ?_
      rotate_left
      · intro w hS; go_simp <;> with_reducible rfl
      simp only [Act.put, List.setIfInBounds_toArray, List.set_cons_zero, List.set_cons_succ]
      refine takeL 9 (v := ?_) rfl (by kernel_rfl) (by kernel_rfl) (by kernel_rfl) (fun _ _ _ h => h) ⟨by rfl, ?_⟩ (by assumption) ?_
      rotate_left
      · intro w hS; go_simp <;> with_reducible rfl
      simp only [Act.put, List.setIfInBounds_toArray, List.set_cons_zero, List.set_cons_succ]
      refine takeL 10 (v := ?_) rfl (by kernel_rfl) (by kernel_rfl) (by kernel_rfl) (fun _ _ _ h => h) ⟨by rfl, ?_⟩ (by assumption) ?_
      rotate_left
      · intro w hS; go_simp <;> with_reducible rfl
      simp only [Act.put, List.setIfInBounds_toArray, List.set_cons_zero, List.set_cons_succ]
      refine takeL 11 (v := ?_) rfl (by kernel_rfl) (by kernel_rfl) (by kernel_rfl) (fun _ _ _ h => h) ⟨by rfl, ?_⟩ (by assumption) ?_
      rotate_left
      · intro w hS; have fa := kN.at hS; have f1 := fa 0; have f2 := fa 1; have f3 := fa 2; clear fa; have f4 := (hS.cell (p := ⟨b, off + j, none⟩) (World.block_lt_of_cell? _ _ q1)).trans q1; go_simp <;> with_reducible rfl
      simp only [Act.put, List.setIfInBounds_toArray, List.set_cons_zero, List.set_cons_succ]
      refine oneL 7 rfl (by kernel_rfl) (by rfl) (fun K hK => ?_)
      go_simp
      go_at_call 37
      (with_reducible refine (at_ok _ r c q k _ _ (by rw [EQ.out]; exact EW.out) (by first | exact EM.out | exact EM2.out) ns 1 _ (hN'.mt.next hHeld) hr hc HX.out hq hk (by omega)).mono ?_); rintro e wx2 ⟨vx2, rfl, hx2, bx2, -⟩
      rw [HQK.out, ← EX.out] at hx2
      refine hK.out _ _ (hHeld.trans (bx2.mono hHeld.size)) (fun hHeld => ?_)
      clear hK K
      try simp only [Act.put, List.setIfInBounds_toArray, List.set_cons_zero, List.set_cons_succ]
      refine oneL 12 rfl (by kernel_rfl) (by rfl) (fun K hK => ?_)
      go_simp
      go_at_call 38
      (with_reducible refine (zi_Of x _ HBD.out).mono ?_); rintro e wx3 ⟨vx3, rfl, hx3, bx3, -⟩
      replace hx2 := hx2.next bx3
      refine hK.out _ _ (hHeld.trans (bx3.mono hHeld.size)) (fun hHeld => ?_)
      clear hK K
      try simp only [Act.put, List.setIfInBounds_toArray, List.set_cons_zero, List.set_cons_succ]
      refine oneL 13 rfl (by kernel_rfl) (by rfl) (fun K hK => ?_)
      go_simp
      go_at_call 16
      (with_reducible refine (same_yes _ _ x 1 1 _ hx2.iv hx3.iv (by omega) (by omega)).mono ?_); rintro e wx4 ⟨rfl, bx4⟩
      refine hK.out _ _ (hHeld.trans (bx4.mono hHeld.size)) (fun hHeld => ?_)
      clear hK K
      try simp only [Act.put, List.setIfInBounds_toArray, List.set_cons_zero, List.set_cons_succ]
      refine takeL 14 (v := ?_) rfl (by kernel_rfl) (by kernel_rfl) (by kernel_rfl) (fun _ _ _ h => h) ⟨by rfl, ?_⟩ (by assumption) ?_
      rotate_left
      · intro w hS; go_simp <;> with_reducible rfl
      simp only [Act.put, List.setIfInBounds_toArray, List.set_cons_zero, List.set_cons_succ]
      refine doneL (by kernel_rfl) ?_ _
      replace hb0 := hb0.trans (hHeld.mono hb0.size)
      clear hHeld bx2 bx3 bx4 hx2 hx3 kN hN' q1 hcz hcz2
      go_wp2
      go_roundw
      case rel => exact ⟨j + 1, by omega, by go_num, hb0⟩
      case measure => simp [intOf] <;> omega
    · obtain rfl : j = ns.length := by omega
      replace B0 := B0.trans (hb0.mono B0.size)
      replace hN := hN.next hb0
      replace h2 := h2.next hb0
      replace K2 := K2.next hb0
      replace h4 := h4.next hb0
      replace K4 := K4.next hb0
      replace h6 := h6.next hb0
      replace K6 := K6.next hb0
      clear hb0
      go_upto_region 18 with (fail)
      have hdr := Drawn.below (w' := wr.drew) ⟨1, rfl⟩ wr.heap.size
      replace hN := hN.next hdr
      replace h2 := h2.next hdr
      replace K2 := K2.next hdr
      replace h4 := h4.next hdr
      replace K4 := K4.next hdr
      replace h6 := h6.next hdr
      replace K6 := K6.next hdr
      replace B0 := B0.trans (hdr.mono B0.size)
      clear hdr
      obtain ⟨β, eβ⟩ : ∃ β : Bool, β = decide (∀ j, j < ns.length → ns.getD j 0 = 0) := ⟨_, rfl⟩
      have hβ : β = true ↔ ∀ j, j < ns.length → ns.getD j 0 = 0 := by rw [eβ]; exact decide_eq_true_iff
      have hγ : β = true ↔ (Al r c r c ns.length zs.length ∧ ns = zs) := by
        rw [hβ, EZS.out, null_eq HX.out]
        exact ⟨fun h => ⟨⟨Fm.of hr hc HX.out, Fm.of hr hc (nulL_length _ _), rfl, rfl⟩, h⟩, fun h => h.2⟩
      have hal : Al r c r c ns.length ns.length := ⟨Fm.of hr hc HX.out, Fm.of hr hc HX.out, rfl, rfl⟩
      have HAL := Lib.hid hal; clear hal
      have HB := Lib.hid hβ; have HG := Lib.hid hγ; clear eβ hβ hγ
      refine startL (S := (fun w' => Below ((wr.drew)).heap.size ((wr.drew)) w')) (by kernel_rfl) (Below.refl _ _) (fun hHeld => ?_)
      refine takeL 0 (v := ?_) rfl (by kernel_rfl) (by kernel_rfl) (by kernel_rfl) (fun _ _ _ h => h) ⟨by rfl, ?_⟩ (by assumption) ?_
      rotate_left
      · intro w hS; go_simp <;> with_reducible rfl
      simp only [Act.put, List.setIfInBounds_toArray, List.set_cons_zero, List.set_cons_succ]
      refine takeL 1 (v := ?_) rfl (by kernel_rfl) (by kernel_rfl) (by kernel_rfl) (fun _ _ _ h => h) ⟨by rfl, ?_⟩ (by assumption) ?_
      rotate_left
      · intro w hS; go_simp <;> with_reducible rfl
      simp only [Act.put, List.setIfInBounds_toArray, List.set_cons_zero, List.set_cons_succ]
      refine takeL 2 (v := ?_) rfl (by kernel_rfl) (by kernel_rfl) (by kernel_rfl) (fun _ _ _ h => h) ⟨by rfl, ?_⟩ (by assumption) ?_
      rotate_left
      · intro w hS; go_simp <;> with_reducible rfl
      simp only [Act.put, List.setIfInBounds_toArray, List.set_cons_zero, List.set_cons_succ]
      refine takeL 3 (v := ?_) rfl (by kernel_rfl) (by kernel_rfl) (by kernel_rfl) (fun _ _ _ h => h) ⟨by rfl, ?_⟩ (by assumption) ?_
      rotate_left
      · intro w hS; have fa := K2.at hS; have fb := K4.at hS; have f1 := fa 0; have f2 := fa 1; have f3 := fa 2; have f4 := fb 0; have f5 := fb 1; have f6 := fb 2; clear fa fb; go_simp <;> with_reducible rfl
      simp only [Act.put, List.setIfInBounds_toArray, List.set_cons_zero, List.set_cons_succ]
      refine oneL 4 rfl (by kernel_rfl) (by rfl) (fun K hK => ?_)
      go_simp
      go_at_call 15
      (with_reducible refine (ref11_Normal _ r c ns 1 _ (h2.next hHeld) hr hc HX.out (by omega)).mono ?_); rintro e wx1 ⟨rfl, bx1⟩
      refine hK.out _ _ (hHeld.trans (bx1.mono hHeld.size)) (fun hHeld => ?_)
      clear hK K
      try simp only [Act.put, List.setIfInBounds_toArray, List.set_cons_zero, List.set_cons_succ]
      refine takeL 5 (v := ?_) rfl (by kernel_rfl) (by kernel_rfl) (by kernel_rfl) (fun _ _ _ h => h) ⟨by rfl, ?_⟩ (by assumption) ?_
      rotate_left
      · intro w hS; go_simp <;> with_reducible rfl
      simp only [Act.put, List.setIfInBounds_toArray, List.set_cons_zero, List.set_cons_succ]
      refine takeL 6 (v := ?_) rfl (by kernel_rfl) (by kernel_rfl) (by kernel_rfl) (fun _ _ _ h => h) ⟨by rfl, ?_⟩ (by assumption) ?_
      rotate_left
      · intro w hS; go_simp <;> with_reducible rfl
      simp only [Act.put, List.setIfInBounds_toArray, List.set_cons_zero, List.set_cons_succ]
      refine takeL 7 (v := ?_) rfl (by kernel_rfl) (by kernel_rfl) (by kernel_rfl) (fun _ _ _ h => h) ⟨by rfl, ?_⟩ (by assumption) ?_
      rotate_left
      · intro w hS; have fa := K2.at hS; have fb := K4.at hS; have f1 := fa 0; have f2 := fa 1; have f3 := fa 2; have f4 := fb 0; have f5 := fb 1; have f6 := fb 2; clear fa fb; go_simp <;> with_reducible rfl
      simp only [Act.put, List.setIfInBounds_toArray, List.set_cons_zero, List.set_cons_succ]
      refine takeL 8 (v := ?_) rfl (by kernel_rfl) (by kernel_rfl) (by kernel_rfl) (fun _ _ _ h => h) ⟨by rfl, ?_⟩ (by assumption) ?_
      rotate_left
      · intro w hS; have fa := K2.at hS; have fb := K4.at hS; have f1 := fa 0; have f2 := fa 1; have f3 := fa 2; have f4 := fb 0; have f5 := fb 1; have f6 := fb 2; clear fa fb; go_simp <;> with_reducible rfl
      simp only [Act.put, List.setIfInBounds_toArray, List.set_cons_zero, List.set_cons_succ]
      refine oneL 9 rfl (by kernel_rfl) (by rfl) (fun K hK => ?_)
      go_simp
      go_at_call 27
      (with_reducible refine (zmat_Same _ _ r c r c ns ns 1 1 _ (h2.mt.next hHeld) (h2.mt.next hHeld) (by omega) (by omega) true ⟨fun _ => ⟨HAL.out, rfl⟩, fun _ => rfl⟩).mono ?_); rintro e wx2 ⟨rfl, bx2⟩
      refine hK.out _ _ (hHeld.trans (bx2.mono hHeld.size)) (fun hHeld => ?_)
      clear hK K
      try simp only [Act.put, List.setIfInBounds_toArray, List.set_cons_zero, List.set_cons_succ]
      refine takeL 10 (v := ?_) rfl (by kernel_rfl) (by kernel_rfl) (by kernel_rfl) (fun _ _ _ h => h) ⟨by rfl, ?_⟩ (by assumption) ?_
      rotate_left
      · intro w hS; go_simp <;> with_reducible rfl
      simp only [Act.put, List.setIfInBounds_toArray, List.set_cons_zero, List.set_cons_succ]
      refine takeL 11 (v := ?_) rfl (by kernel_rfl) (by kernel_rfl) (by kernel_rfl) (fun _ _ _ h => h) ⟨by rfl, ?_⟩ (by assumption) ?_
      rotate_left
      · intro w hS; go_simp <;> with_reducible rfl
      simp only [Act.put, List.setIfInBounds_toArray, List.set_cons_zero, List.set_cons_succ]
      refine takeL 12 (v := ?_) rfl (by kernel_rfl) (by kernel_rfl) (by kernel_rfl) (fun _ _ _ h => h) ⟨by rfl, ?_⟩ (by assumption) ?_
      rotate_left
      · intro w hS; have fa := K2.at hS; have fb := K4.at hS; have f1 := fa 0; have f2 := fa 1; have f3 := fa 2; have f4 := fb 0; have f5 := fb 1; have f6 := fb 2; clear fa fb; go_simp <;> with_reducible rfl
      simp only [Act.put, List.setIfInBounds_toArray, List.set_cons_zero, List.set_cons_succ]
      refine takeL 13 (v := ?_) rfl (by kernel_rfl) (by kernel_rfl) (by kernel_rfl) (fun _ _ _ h => h) ⟨by rfl, ?_⟩ (by assumption) ?_
      rotate_left
      · intro w hS; go_simp <;> with_reducible rfl
      simp only [Act.put, List.setIfInBounds_toArray, List.set_cons_zero, List.set_cons_succ]
      refine oneL 14 rfl (by kernel_rfl) (by rfl) (fun K hK => ?_)
      go_simp
      go_at_call 37
      (with_reducible refine (zmat_At_none _ r c r 0 ns 1 _ (h2.mt.next hHeld) hr hc HX.out (fun h => by omega)).mono ?_); rintro e wx3 ⟨vx3, rfl, hx3, bx3, -⟩
      refine hK.out _ _ (hHeld.trans (bx3.mono hHeld.size)) (fun hHeld => ?_)
      clear hK K
      try simp only [Act.put, List.setIfInBounds_toArray, List.set_cons_zero, List.set_cons_succ]
      refine oneL 15 rfl (by kernel_rfl) (by rfl) (fun K hK => ?_)
      go_simp
      go_at_call 39
      (with_reducible refine (sign0 _ 0 _ hx3.iv (by omega)).mono ?_); rintro e wx4 ⟨rfl, bx4⟩
      refine hK.out _ _ (hHeld.trans (bx4.mono hHeld.size)) (fun hHeld => ?_)
      clear hK K
      try simp only [Act.put, List.setIfInBounds_toArray, List.set_cons_zero, List.set_cons_succ]
      refine takeL 16 (v := ?_) rfl (by kernel_rfl) (by kernel_rfl) (by kernel_rfl) (fun _ _ _ h => h) ⟨by rfl, ?_⟩ (by assumption) ?_
      rotate_left
      · intro w hS; go_simp <;> with_reducible rfl
      simp only [Act.put, List.setIfInBounds_toArray, List.set_cons_zero, List.set_cons_succ]
      refine takeL 17 (v := ?_) rfl (by kernel_rfl) (by kernel_rfl) (by kernel_rfl) (fun _ _ _ h => h) ⟨by rfl, ?_⟩ (by assumption) ?_
      rotate_left
      · intro w hS; go_simp <;> with_reducible rfl
      simp only [Act.put, List.setIfInBounds_toArray, List.set_cons_zero, List.set_cons_succ]
      refine takeL 18 (v := ?_) rfl (by kernel_rfl) (by kernel_rfl) (by kernel_rfl) (fun _ _ _ h => h) ⟨by rfl, ?_⟩ (by assumption) ?_
      rotate_left
      · intro w hS; go_simp <;> with_reducible rfl
      simp only [Act.put, List.setIfInBounds_toArray, List.set_cons_zero, List.set_cons_succ]
      refine takeL 19 (v := ?_) rfl (by kernel_rfl) (by kernel_rfl) (by kernel_rfl) (fun _ _ _ h => h) ⟨by rfl, ?_⟩ (by assumption) ?_
      rotate_left
      · intro w hS; have fa := K2.at hS; have fb := K4.at hS; have f1 := fa 0; have f2 := fa 1; have f3 := fa 2; have f4 := fb 0; have f5 := fb 1; have f6 := fb 2; clear fa fb; go_simp <;> with_reducible rfl
      simp only [Act.put, List.setIfInBounds_toArray, List.set_cons_zero, List.set_cons_succ]
      refine takeL 20 (v := ?_) rfl (by kernel_rfl) (by kernel_rfl) (by kernel_rfl) (fun _ _ _ h => h) ⟨by rfl, ?_⟩ (by assumption) ?_
      rotate_left
      · intro w hS; go_simp <;> with_reducible rfl
      simp only [Act.put, List.setIfInBounds_toArray, List.set_cons_zero, List.set_cons_succ]
      refine oneL 21 rfl (by kernel_rfl) (by rfl) (fun K hK => ?_)
      go_simp
      go_at_call 37
      (with_reducible refine (zmat_At_none _ r c 0 c ns 1 _ (h2.mt.next hHeld) hr hc HX.out (fun h => by omega)).mono ?_); rintro e wx5 ⟨vx5, rfl, hx5, bx5, -⟩
      refine hK.out _ _ (hHeld.trans (bx5.mono hHeld.size)) (fun hHeld => ?_)
      clear hK K
      try simp only [Act.put, List.setIfInBounds_toArray, List.set_cons_zero, List.set_cons_succ]
      refine oneL 22 rfl (by kernel_rfl) (by rfl) (fun K hK => ?_)
      go_simp
      go_at_call 39
      (with_reducible refine (sign0 _ 0 _ hx5.iv (by omega)).mono ?_); rintro e wx6 ⟨rfl, bx6⟩
      refine hK.out _ _ (hHeld.trans (bx6.mono hHeld.size)) (fun hHeld => ?_)
      clear hK K
      try simp only [Act.put, List.setIfInBounds_toArray, List.set_cons_zero, List.set_cons_succ]
      refine takeL 23 (v := ?_) rfl (by kernel_rfl) (by kernel_rfl) (by kernel_rfl) (fun _ _ _ h => h) ⟨by rfl, ?_⟩ (by assumption) ?_
      rotate_left
      · intro w hS; go_simp <;> with_reducible rfl
      simp only [Act.put, List.setIfInBounds_toArray, List.set_cons_zero, List.set_cons_succ]
      refine takeL 24 (v := ?_) rfl (by kernel_rfl) (by kernel_rfl) (by kernel_rfl) (fun _ _ _ h => h) ⟨by rfl, ?_⟩ (by assumption) ?_
      rotate_left
      · intro w hS; go_simp <;> with_reducible rfl
      simp only [Act.put, List.setIfInBounds_toArray, List.set_cons_zero, List.set_cons_succ]
      refine takeL 25 (v := ?_) rfl (by kernel_rfl) (by kernel_rfl) (by kernel_rfl) (fun _ _ _ h => h) ⟨by rfl, ?_⟩ (by assumption) ?_
      rotate_left
      · intro w hS; go_simp <;> with_reducible rfl
      simp only [Act.put, List.setIfInBounds_toArray, List.set_cons_zero, List.set_cons_succ]
      refine takeL 26 (v := ?_) rfl (by kernel_rfl) (by kernel_rfl) (by kernel_rfl) (fun _ _ _ h => h) ⟨by rfl, ?_⟩ (by assumption) ?_
      rotate_left
      · intro w hS; have fa := K2.at hS; have fb := K4.at hS; have f1 := fa 0; have f2 := fa 1; have f3 := fa 2; have f4 := fb 0; have f5 := fb 1; have f6 := fb 2; clear fa fb; go_simp <;> with_reducible rfl
      simp only [Act.put, List.setIfInBounds_toArray, List.set_cons_zero, List.set_cons_succ]
      refine oneL 27 rfl (by kernel_rfl) (by rfl) (fun K hK => ?_)
      go_simp
      go_at_call 37
      (with_reducible refine (zmat_At_none _ r c (-1) 0 ns 1 _ (h2.mt.next hHeld) hr hc HX.out (fun h => by omega)).mono ?_); rintro e wx7 ⟨vx7, rfl, hx7, bx7, -⟩
      refine hK.out _ _ (hHeld.trans (bx7.mono hHeld.size)) (fun hHeld => ?_)
      clear hK K
      try simp only [Act.put, List.setIfInBounds_toArray, List.set_cons_zero, List.set_cons_succ]
      refine oneL 28 rfl (by kernel_rfl) (by rfl) (fun K hK => ?_)
      go_simp
      go_at_call 39
      (with_reducible refine (sign0 _ 0 _ hx7.iv (by omega)).mono ?_); rintro e wx8 ⟨rfl, bx8⟩
      refine hK.out _ _ (hHeld.trans (bx8.mono hHeld.size)) (fun hHeld => ?_)
      clear hK K
      try simp only [Act.put, List.setIfInBounds_toArray, List.set_cons_zero, List.set_cons_succ]
      refine takeL 29 (v := ?_) rfl (by kernel_rfl) (by kernel_rfl) (by kernel_rfl) (fun _ _ _ h => h) ⟨by rfl, ?_⟩ (by assumption) ?_
      rotate_left
      · intro w hS; go_simp <;> with_reducible rfl
      simp only [Act.put, List.setIfInBounds_toArray, List.set_cons_zero, List.set_cons_succ]
      refine takeL 30 (v := ?_) rfl (by kernel_rfl) (by kernel_rfl) (by kernel_rfl) (fun _ _ _ h => h) ⟨by rfl, ?_⟩ (by assumption) ?_
      rotate_left
      · intro w hS; go_simp <;> with_reducible rfl
      simp only [Act.put, List.setIfInBounds_toArray, List.set_cons_zero, List.set_cons_succ]
      refine takeL 31 (v := ?_) rfl (by kernel_rfl) (by kernel_rfl) (by kernel_rfl) (fun _ _ _ h => h) ⟨by rfl, ?_⟩ (by assumption) ?_
      rotate_left
      · intro w hS; go_simp <;> with_reducible rfl
      simp only [Act.put, List.setIfInBounds_toArray, List.set_cons_zero, List.set_cons_succ]
      refine takeL 32 (v := ?_) rfl (by kernel_rfl) (by kernel_rfl) (by kernel_rfl) (fun _ _ _ h => h) ⟨by rfl, ?_⟩ (by assumption) ?_
      rotate_left
      · intro w hS; have fa := K2.at hS; have fb := K4.at hS; have f1 := fa 0; have f2 := fa 1; have f3 := fa 2; have f4 := fb 0; have f5 := fb 1; have f6 := fb 2; clear fa fb; go_simp <;> with_reducible rfl
      simp only [Act.put, List.setIfInBounds_toArray, List.set_cons_zero, List.set_cons_succ]
      refine takeL 33 (v := ?_) rfl (by kernel_rfl) (by kernel_rfl) (by kernel_rfl) (fun _ _ _ h => h) ⟨by rfl, ?_⟩ (by assumption) ?_
      rotate_left
      · intro w hS; have fa := K2.at hS; have fb := K4.at hS; have f1 := fa 0; have f2 := fa 1; have f3 := fa 2; have f4 := fb 0; have f5 := fb 1; have f6 := fb 2; clear fa fb; go_simp <;> with_reducible rfl
      simp only [Act.put, List.setIfInBounds_toArray, List.set_cons_zero, List.set_cons_succ]
      refine takeL 35 (v := ?_) rfl (by kernel_rfl) (by kernel_rfl) (by kernel_rfl) (fun _ _ _ h => h) ⟨by rfl, ?_⟩ (by assumption) ?_
      rotate_left
      · intro w hS; have fa := K2.at hS; have fb := K4.at hS; have f1 := fa 0; have f2 := fa 1; have f3 := fa 2; have f4 := fb 0; have f5 := fb 1; have f6 := fb 2; clear fa fb; go_simp <;> with_reducible rfl
      simp only [Act.put, List.setIfInBounds_toArray, List.set_cons_zero, List.set_cons_succ]
      refine oneL 34 rfl (by kernel_rfl) (by rfl) (fun K hK => ?_)
      go_simp
      go_at_call 27
      (with_reducible refine (zmat_Same _ _ r c r c ns zs 1 0 _ (h2.mt.next hHeld) (h4.mt.next hHeld) (by omega) (by omega) β HG.out).mono ?_); rintro e wx9 ⟨rfl, bx9⟩
      refine hK.out _ _ (hHeld.trans (bx9.mono hHeld.size)) (fun hHeld => ?_)
      clear hK K
      try simp only [Act.put, List.setIfInBounds_toArray, List.set_cons_zero, List.set_cons_succ]
      refine oneL 36 rfl (by kernel_rfl) (by rfl) (fun K hK => ?_)
      go_simp
      go_at_call 36
      (with_reducible refine (zmat_Zero _ r c ns 1 _ (h2.mt.next hHeld) hr hc HX.out (by omega) β HB.out).mono ?_); rintro e wx10 ⟨rfl, bx10⟩
      refine hK.out _ _ (hHeld.trans (bx10.mono hHeld.size)) (fun hHeld => ?_)
      clear hK K
      try simp only [Act.put, List.setIfInBounds_toArray, List.set_cons_zero, List.set_cons_succ]
      refine takeL 37 (v := ?_) rfl (by kernel_rfl) (by kernel_rfl) (by kernel_rfl) (fun _ _ _ h => h) ⟨by rfl, ?_⟩ (by assumption) ?_
      rotate_left
      · intro w hS; go_simp <;> with_reducible rfl
      simp only [Act.put, List.setIfInBounds_toArray, List.set_cons_zero, List.set_cons_succ]
      refine takeL 38 (v := ?_) rfl (by kernel_rfl) (by kernel_rfl) (by kernel_rfl) (fun _ _ _ h => h) ⟨by rfl, ?_⟩ (by assumption) ?_
      rotate_left
      · intro w hS; go_simp <;> with_reducible rfl
      simp only [Act.put, List.setIfInBounds_toArray, List.set_cons_zero, List.set_cons_succ]
      refine takeL 39 (v := ?_) rfl (by kernel_rfl) (by kernel_rfl) (by kernel_rfl) (fun _ _ _ h => h) ⟨by rfl, ?_⟩ (by assumption) ?_
      rotate_left
      · intro w hS; go_simp <;> with_reducible rfl
      simp only [Act.put, List.setIfInBounds_toArray, List.set_cons_zero, List.set_cons_succ]
      refine doneL (by kernel_rfl) ?_ _
      replace B0 := B0.trans (hHeld.mono B0.size)
      have hββ : (β == β) = true := by cases β <;> rfl
      go_wp2
      go_ret
      exact ⟨by simp, B0⟩

set_option maxRecDepth 20000 in
set_option maxHeartbeats 4000000 in
theorem may_yp (r c : Nat) (v : Value) (ns : List Int) (w : World) (hN : Si w v ns) (hn : ∀ y ∈ ns, -9223372036854775808 ≤ y ∧ y < 9223372036854775808) (hl : ns.length ≤ 36) (hr : r ≤ 64) (hc : c ≤ 64) (hx : ns.length = r * c) (hz : r ≠ 0) :
    Calls Try.prog 8 #[.int .i64 r, .int .i64 c, v] w (LawOk w) := by
  obtain ⟨ao, b, off, ca, rfl, hcap, hcs⟩ := hN
  have hN : Si w (.slice ao ns.length ca) ns := ⟨ao, b, off, ca, rfl, hcap, hcs⟩
  clear hcap
  have HN := Lib.hid hn; clear hn
  have B0 : Below w.heap.size w w := Below.refl _ _
  have hl2 : decide (((ns.length : Nat) : Int) > 36) = false := decide_eq_false (by omega)
  have hl3 : ¬ 36 < ns.length := by omega
  clear hl
  have hcs := Lib.hid hcs
  have hx2 : (((ns.length : Nat) : Int) == ((r * c : Nat) : Int)) = true := by simp [hx]
  have hx3 : (((ns.length : Nat) : Int) != ((r * c : Nat) : Int)) = false := by simp [hx]
  have hrc : r * c ≤ 64 * 64 := Nat.mul_le_mul hr hc
  have hw : IntKind.i64.wrap ((r : Int) * (c : Int)) = ((r * c : Nat) : Int) := by rw [← Int.natCast_mul]; exact IntWalk.i64_in _ ⟨by omega, by omega⟩
  have HX := Lib.hid hx; clear hx
  obtain ⟨rc, erc⟩ : ∃ rc, rc = r * c := ⟨_, rfl⟩
  rw [← erc] at hx2 hx3 hw hrc
  have ERC := Lib.hid erc; clear erc
  have HX2 := Lib.hid hx2; have HX3 := Lib.hid hx3; have HW := Lib.hid hw; clear hx2 hx3 hw
  have d1 : decide ((r : Int) ≥ 0) = true := decide_eq_true (by omega)
  have d2 : decide ((r : Int) ≤ 64) = true := decide_eq_true (by omega)
  have d3 : decide ((c : Int) ≥ 0) = true := decide_eq_true (by omega)
  have d4 : decide ((c : Int) ≤ 64) = true := decide_eq_true (by omega)
  have hz2 : ((r : Int) == 0) = false := by simp; omega
  have HZ := Lib.hid hz; clear hz
  go_enter Try.func8, Try.ntmps8
  go_wp2_with fail
  refine (law11_awake _).mono ?_; rintro e w1 ⟨rfl, b1⟩
  replace hN := hN.next b1
  replace B0 := B0.trans (b1.mono B0.size)
  clear b1
  go_wp2_with fail
  refine (zmat_Of _ r c ns _ hN HN.out hr hc HX.out).mono ?_; rintro e w2 ⟨v2, rfl, h2, b2⟩
  replace hN := hN.next b2
  replace B0 := B0.trans (b2.mono B0.size)
  clear b2
  rw [tab_self HX.out] at h2
  obtain ⟨a2, k2, rfl⟩ := h2.agg
  obtain ⟨w3, e3, K2, b3, hs3⟩ := boxes1 w2 24 [.int .i64 r, .int .i64 c, .slice a2 ns.length k2]
  clear hs3
  replace hN := hN.next b3
  replace h2 := h2.next b3
  replace B0 := B0.trans (b3.mono B0.size)
  clear b3
  go_upto_region 5 with (fail)
  rw [← e3]
  clear e3
  go_wp2_with fail
  refine (zmat_New r c _ hr hc).mono ?_; rintro e w4 ⟨v4, rfl, h4, b4⟩
  replace hN := hN.next b4
  replace h2 := h2.next b4
  replace K2 := K2.next b4
  replace B0 := B0.trans (b4.mono B0.size)
  clear b4
  obtain ⟨zs, ezs⟩ : ∃ zs, zs = nulL r c := ⟨_, rfl⟩
  replace h4 : MtN w4 v4 r c (nulL r c) 0 := h4
  rw [← ezs] at h4
  have lzs : zs.length = r * c := by rw [ezs]; exact nulL_length _ _
  have nzs : ∀ j, j < zs.length → zs.getD j 0 = 0 := fun j _ => by rw [ezs]; exact nulL_get _ _ _
  have EZS := Lib.hid ezs; have LZS := Lib.hid lzs; have NZS := Lib.hid nzs; clear ezs lzs nzs
  obtain ⟨a4, k4, rfl⟩ := h4.agg
  obtain ⟨w5, e5, K4, b5, hs5⟩ := boxes1 w4 24 [.int .i64 r, .int .i64 c, .slice a4 zs.length k4]
  clear hs5
  replace hN := hN.next b5
  replace h2 := h2.next b5
  replace K2 := K2.next b5
  replace h4 := h4.next b5
  replace B0 := B0.trans (b5.mono B0.size)
  clear b5
  go_upto_region 6 with (fail)
  rw [← e5]
  clear e5
  go_wp2_with fail
  refine (zmat_Identity r _ hr).mono ?_; rintro e w6 ⟨v6, rfl, h6, b6⟩
  replace hN := hN.next b6
  replace h2 := h2.next b6
  replace K2 := K2.next b6
  replace h4 := h4.next b6
  replace K4 := K4.next b6
  replace B0 := B0.trans (b6.mono B0.size)
  clear b6
  obtain ⟨es, ees⟩ : ∃ es, es = idL r := ⟨_, rfl⟩
  rw [← ees] at h6
  have les : es.length = r * r := by rw [ees]; exact idL_length _
  have nes : false = true ↔ ∀ j, j < es.length → es.getD j 0 = 0 := by rw [ees]; exact idL_zero r false (decide_eq_false HZ.out).symm
  have LES := Lib.hid les; have NES := Lib.hid nes; clear ees les nes
  obtain ⟨a6, k6, rfl⟩ := h6.agg
  obtain ⟨w7, e7, K6, b7, hs7⟩ := boxes1 w6 24 [.int .i64 r, .int .i64 r, .slice a6 es.length k6]
  clear hs7
  replace hN := hN.next b7
  replace h2 := h2.next b7
  replace K2 := K2.next b7
  replace h4 := h4.next b7
  replace K4 := K4.next b7
  replace h6 := h6.next b7
  replace B0 := B0.trans (b7.mono B0.size)
  clear b7
  go_upto_region 7 with (fail)
  rw [← e7]
  clear e7
  have qK40 := K4.cell 0
  have qK41 := K4.cell 1
  have qK42 := K4.cell 2
  go_wp2_with fail
  refine (zmat_Zero _ r c zs 0 _ h4.mt hr hc LZS.out (by omega) true ⟨fun _ => NZS.out, fun _ => rfl⟩).mono ?_; rintro e w8 ⟨rfl, b8⟩
  clear qK40 qK41 qK42
  replace hN := hN.next b8
  replace h2 := h2.next b8
  replace K2 := K2.next b8
  replace h4 := h4.next b8
  replace K4 := K4.next b8
  replace h6 := h6.next b8
  replace K6 := K6.next b8
  replace B0 := B0.trans (b8.mono B0.size)
  clear b8
  have qK40 := K4.cell 0
  have qK41 := K4.cell 1
  have qK42 := K4.cell 2
  go_wp2_with fail
  refine (ref11_Normal _ r c zs 0 _ h4 hr hc LZS.out (by omega)).mono ?_; rintro e w9 ⟨rfl, b9⟩
  clear qK40 qK41 qK42
  replace hN := hN.next b9
  replace h2 := h2.next b9
  replace K2 := K2.next b9
  replace h4 := h4.next b9
  replace K4 := K4.next b9
  replace h6 := h6.next b9
  replace K6 := K6.next b9
  replace B0 := B0.trans (b9.mono B0.size)
  clear b9
  have qK40 := K4.cell 0
  have qK41 := K4.cell 1
  have qK60 := K6.cell 0
  have qK61 := K6.cell 1
  have qK62 := K6.cell 2
  have e1 : ((r : Int) == (r : Int)) = true := by simp
  have e2 : ((c : Int) == (c : Int)) = true := by simp
  go_wp2_with fail
  refine (zmat_Zero _ r r es 1 _ h6.mt hr hr LES.out (by omega) false NES.out).mono ?_; rintro e w10 ⟨rfl, b10⟩
  clear qK40 qK41 qK60 qK61 qK62
  replace hN := hN.next b10
  replace h2 := h2.next b10
  replace K2 := K2.next b10
  replace h4 := h4.next b10
  replace K4 := K4.next b10
  replace h6 := h6.next b10
  replace K6 := K6.next b10
  replace B0 := B0.trans (b10.mono B0.size)
  clear b10
  go_upto_region 11 with (fail)
  have hw := HW.out; have hx2 := HX2.out; have hx3 := HX3.out
  go_upto_region 13 with (fail)
  have hl5 : ns.length ≤ 36 := by omega
  clear hw hx2 hx3 e1 e2 hz2 hl2 hl3 d1 d2 d3 d4
  have w0s := B0.size
  go_wp2
  go_loopw [14] (fun iv wr => ∃ j : Nat, j ≤ ns.length ∧ iv = .int .i64 j ∧ Below w10.heap.size w10 wr) (fun iv _ => ns.length - (intOf iv).toNat)
  case atStart => exact ⟨0, by omega, rfl, Below.refl _ _⟩
  case round =>
    obtain ⟨j, hj, rfl, hb0⟩ := hrel
    by_cases hjl : j < ns.length
    · have hc0 : 0 < c := Nat.pos_of_ne_zero fun h => by have := HX.out; rw [h, Nat.mul_zero] at this; omega
      obtain ⟨q, eq⟩ : ∃ q, q = j / c := ⟨_, rfl⟩
      obtain ⟨k, ek⟩ : ∃ k, k = j % c := ⟨_, rfl⟩
      have hqk : q * c + k = j := by rw [eq, ek, Nat.mul_comm]; exact Nat.div_add_mod _ _
      have hk : k < c := by rw [ek]; exact Nat.mod_lt _ hc0
      have hq : q < r := by rw [eq]; exact (Nat.div_lt_iff_lt_mul hc0).2 (by have := HX.out; omega)
      have EQ := Lib.hid (show (j : Int) / (c : Int) = (q : Int) by rw [eq]; rfl)
      have EM := Lib.hid (show (j : Int).tmod (c : Int) = (k : Int) by rw [ek]; rfl)
      have EM2 := Lib.hid (show (j : Int) % (c : Int) = (k : Int) by rw [ek]; rfl)
      have EW := Lib.hid (show IntKind.i64.wrap (q : Int) = (q : Int) from IntWalk.i64_in _ ⟨by omega, by omega⟩)
      have HQK := Lib.hid hqk
      clear eq ek hqk
      have hcz : ((c : Int) == 0) = false := by simp; omega
      have hcz2 : ¬ c = 0 := by omega
      have hne : ns ≠ [] := by intro h; subst h; simp at hjl
      have hao := hcs.out.ao hne
      have q1 := hcs.out.cell j hjl
      have hbd : -9223372036854775808 ≤ ns.getD j 0 ∧ ns.getD j 0 < 9223372036854775808 := HN.out _ (by
        have e : ns.getD j 0 = ns[j] := by simp [List.getD, List.getElem?_eq_getElem hjl]
        rw [e]; exact List.getElem_mem hjl)
      obtain ⟨x, ex⟩ : ∃ x, x = ns.getD j 0 := ⟨_, rfl⟩
      rw [← ex] at hbd q1
      have EX := Lib.hid ex; clear ex
      have HBD := Lib.hid hbd; clear hbd
      subst hao
      go_upto_region 16 with (fail)
      replace hb0 := hb0.trans (Drawn.below (w' := wr.drew) ⟨1, rfl⟩ _)
      have kN := K2.next hb0
      have hN' := h2.next hb0
      have bw := B0.trans (hb0.mono B0.size)
      have q1 := (bw.cell (p := ⟨b, off + j, none⟩) (World.block_lt_of_cell? _ _ q1)).trans q1
      refine startL (S := (fun w' => Below (wr.drew).heap.size (wr.drew) w')) (by kernel_rfl) (Below.refl _ _) (fun hHeld => ?_)
      refine takeL 0 (v := ?_) rfl (by kernel_rfl) (by kernel_rfl) (by kernel_rfl) (fun _ _ _ h => h) ⟨by rfl, ?_⟩ (by assumption) ?_
      rotate_left
      · intro w hS; have fa := kN.at hS; have f1 := fa 0; have f2 := fa 1; have f3 := fa 2; clear fa; have f4 := (hS.cell (p := ⟨b, off + j, none⟩) (World.block_lt_of_cell? _ _ q1)).trans q1; go_simp <;> with_reducible rfl
      simp only [Act.put, List.setIfInBounds_toArray, List.set_cons_zero, List.set_cons_succ]
      refine takeL 1 (v := ?_) rfl (by kernel_rfl) (by kernel_rfl) (by kernel_rfl) (fun _ _ _ h => h) ⟨by rfl, ?_⟩ (by assumption) ?_
      rotate_left
      · intro w hS; go_simp <;> with_reducible rfl
      simp only [Act.put, List.setIfInBounds_toArray, List.set_cons_zero, List.set_cons_succ]
      refine takeL 2 (v := ?_) rfl (by kernel_rfl) (by kernel_rfl) (by kernel_rfl) (fun _ _ _ h => h) ⟨by rfl, ?_⟩ (by assumption) ?_
      rotate_left
      · intro w hS; go_simp <;> with_reducible rfl
      simp only [Act.put, List.setIfInBounds_toArray, List.set_cons_zero, List.set_cons_succ]
      refine takeL 3 (v := ?_) rfl (by kernel_rfl) (by kernel_rfl) (by kernel_rfl) (fun _ _ _ h => h) ⟨by rfl, ?_⟩ (by assumption) ?_
      rotate_left
      · intro w hS; go_simp <;> with_reducible rfl
      simp only [Act.put, List.setIfInBounds_toArray, List.set_cons_zero, List.set_cons_succ]
      refine takeL 4 (v := ?_) rfl (by kernel_rfl) (by kernel_rfl) (by kernel_rfl) (fun _ _ _ h => h) ⟨by rfl, ?_⟩ (by assumption) ?_
      rotate_left
      · intro w hS; go_simp <;> with_reducible rfl
      simp only [Act.put, List.setIfInBounds_toArray, List.set_cons_zero, List.set_cons_succ]
      refine takeL 5 (v := ?_) rfl (by kernel_rfl) (by kernel_rfl) (by kernel_rfl) (fun _ _ _ h => h) ⟨by rfl, ?_⟩ (by assumption) ?_
      rotate_left
      · intro w hS; go_simp <;> with_reducible rfl
      simp only [Act.put, List.setIfInBounds_toArray, List.set_cons_zero, List.set_cons_succ]
      refine takeL 6 (v := ?_) rfl (by kernel_rfl) (by kernel_rfl) (by kernel_rfl) (fun _ _ _ h => h) ⟨by rfl, ?_⟩ (by assumption) ?_
      rotate_left
      · intro w hS; go_simp <;> with_reducible rfl
      simp only [Act.put, List.setIfInBounds_toArray, List.set_cons_zero, List.set_cons_succ]
      refine takeL 8 (v := ?_) rfl (by kernel_rfl) (by kernel_rfl) (by kernel_rfl) (fun _ _ _ h => h) ⟨by rfl, ?_⟩ (by assumption) ?_
      rotate_left
      · intro w hS; go_simp <;> with_reducible rfl
      simp only [Act.put, List.setIfInBounds_toArray, List.set_cons_zero, List.set_cons_succ]
      refine takeL 9 (v := ?_) rfl (by kernel_rfl) (by kernel_rfl) (by kernel_rfl) (fun _ _ _ h => h) ⟨by rfl, ?_⟩ (by assumption) ?_
      rotate_left
      · intro w hS; go_simp <;> with_reducible rfl
      simp only [Act.put, List.setIfInBounds_toArray, List.set_cons_zero, List.set_cons_succ]
      refine takeL 10 (v := ?_) rfl (by kernel_rfl) (by kernel_rfl) (by kernel_rfl) (fun _ _ _ h => h) ⟨by rfl, ?_⟩ (by assumption) ?_
      rotate_left
      · intro w hS; go_simp <;> with_reducible rfl
      simp only [Act.put, List.setIfInBounds_toArray, List.set_cons_zero, List.set_cons_succ]
      refine takeL 11 (v := ?_) rfl (by kernel_rfl) (by kernel_rfl) (by kernel_rfl) (fun _ _ _ h => h) ⟨by rfl, ?_⟩ (by assumption) ?_
      rotate_left
      · intro w hS; have fa := kN.at hS; have f1 := fa 0; have f2 := fa 1; have f3 := fa 2; clear fa; have f4 := (hS.cell (p := ⟨b, off + j, none⟩) (World.block_lt_of_cell? _ _ q1)).trans q1; go_simp <;> with_reducible rfl
      simp only [Act.put, List.setIfInBounds_toArray, List.set_cons_zero, List.set_cons_succ]
      refine oneL 7 rfl (by kernel_rfl) (by rfl) (fun K hK => ?_)
      go_simp
      go_at_call 37
      (with_reducible refine (at_ok _ r c q k _ _ (by rw [EQ.out]; exact EW.out) (by first | exact EM.out | exact EM2.out) ns 1 _ (hN'.mt.next hHeld) hr hc HX.out hq hk (by omega)).mono ?_); rintro e wx2 ⟨vx2, rfl, hx2, bx2, -⟩
      rw [HQK.out, ← EX.out] at hx2
      refine hK.out _ _ (hHeld.trans (bx2.mono hHeld.size)) (fun hHeld => ?_)
      clear hK K
      try simp only [Act.put, List.setIfInBounds_toArray, List.set_cons_zero, List.set_cons_succ]
      refine oneL 12 rfl (by kernel_rfl) (by rfl) (fun K hK => ?_)
      go_simp
      go_at_call 38
      (with_reducible refine (zi_Of x _ HBD.out).mono ?_); rintro e wx3 ⟨vx3, rfl, hx3, bx3, -⟩
      replace hx2 := hx2.next bx3
      refine hK.out _ _ (hHeld.trans (bx3.mono hHeld.size)) (fun hHeld => ?_)
      clear hK K
      try simp only [Act.put, List.setIfInBounds_toArray, List.set_cons_zero, List.set_cons_succ]
      refine oneL 13 rfl (by kernel_rfl) (by rfl) (fun K hK => ?_)
      go_simp
      go_at_call 16
      (with_reducible refine (same_yes _ _ x 1 1 _ hx2.iv hx3.iv (by omega) (by omega)).mono ?_); rintro e wx4 ⟨rfl, bx4⟩
      refine hK.out _ _ (hHeld.trans (bx4.mono hHeld.size)) (fun hHeld => ?_)
      clear hK K
      try simp only [Act.put, List.setIfInBounds_toArray, List.set_cons_zero, List.set_cons_succ]
      refine takeL 14 (v := ?_) rfl (by kernel_rfl) (by kernel_rfl) (by kernel_rfl) (fun _ _ _ h => h) ⟨by rfl, ?_⟩ (by assumption) ?_
      rotate_left
      · intro w hS; go_simp <;> with_reducible rfl
      simp only [Act.put, List.setIfInBounds_toArray, List.set_cons_zero, List.set_cons_succ]
      refine doneL (by kernel_rfl) ?_ _
      replace hb0 := hb0.trans (hHeld.mono hb0.size)
      clear hHeld bx2 bx3 bx4 hx2 hx3 kN hN' q1 hcz hcz2
      go_wp2
      go_roundw
      case rel => exact ⟨j + 1, by omega, by go_num, hb0⟩
      case measure => simp [intOf] <;> omega
    · obtain rfl : j = ns.length := by omega
      replace B0 := B0.trans (hb0.mono B0.size)
      replace hN := hN.next hb0
      replace h2 := h2.next hb0
      replace K2 := K2.next hb0
      replace h4 := h4.next hb0
      replace K4 := K4.next hb0
      replace h6 := h6.next hb0
      replace K6 := K6.next hb0
      clear hb0
      go_upto_region 18 with (fail)
      have hdr := Drawn.below (w' := wr.drew) ⟨1, rfl⟩ wr.heap.size
      replace hN := hN.next hdr
      replace h2 := h2.next hdr
      replace K2 := K2.next hdr
      replace h4 := h4.next hdr
      replace K4 := K4.next hdr
      replace h6 := h6.next hdr
      replace K6 := K6.next hdr
      replace B0 := B0.trans (hdr.mono B0.size)
      clear hdr
      obtain ⟨β, eβ⟩ : ∃ β : Bool, β = decide (∀ j, j < ns.length → ns.getD j 0 = 0) := ⟨_, rfl⟩
      have hβ : β = true ↔ ∀ j, j < ns.length → ns.getD j 0 = 0 := by rw [eβ]; exact decide_eq_true_iff
      have hγ : β = true ↔ (Al r c r c ns.length zs.length ∧ ns = zs) := by
        rw [hβ, EZS.out, null_eq HX.out]
        exact ⟨fun h => ⟨⟨Fm.of hr hc HX.out, Fm.of hr hc (nulL_length _ _), rfl, rfl⟩, h⟩, fun h => h.2⟩
      have hal : Al r c r c ns.length ns.length := ⟨Fm.of hr hc HX.out, Fm.of hr hc HX.out, rfl, rfl⟩
      have HAL := Lib.hid hal; clear hal
      have HB := Lib.hid hβ; have HG := Lib.hid hγ; clear eβ hβ hγ
      refine startL (S := (fun w' => Below ((wr.drew)).heap.size ((wr.drew)) w')) (by kernel_rfl) (Below.refl _ _) (fun hHeld => ?_)
      refine takeL 0 (v := ?_) rfl (by kernel_rfl) (by kernel_rfl) (by kernel_rfl) (fun _ _ _ h => h) ⟨by rfl, ?_⟩ (by assumption) ?_
      rotate_left
      · intro w hS; go_simp <;> with_reducible rfl
      simp only [Act.put, List.setIfInBounds_toArray, List.set_cons_zero, List.set_cons_succ]
      refine takeL 1 (v := ?_) rfl (by kernel_rfl) (by kernel_rfl) (by kernel_rfl) (fun _ _ _ h => h) ⟨by rfl, ?_⟩ (by assumption) ?_
      rotate_left
      · intro w hS; go_simp <;> with_reducible rfl
      simp only [Act.put, List.setIfInBounds_toArray, List.set_cons_zero, List.set_cons_succ]
      refine takeL 2 (v := ?_) rfl (by kernel_rfl) (by kernel_rfl) (by kernel_rfl) (fun _ _ _ h => h) ⟨by rfl, ?_⟩ (by assumption) ?_
      rotate_left
      · intro w hS; go_simp <;> with_reducible rfl
      simp only [Act.put, List.setIfInBounds_toArray, List.set_cons_zero, List.set_cons_succ]
      refine takeL 3 (v := ?_) rfl (by kernel_rfl) (by kernel_rfl) (by kernel_rfl) (fun _ _ _ h => h) ⟨by rfl, ?_⟩ (by assumption) ?_
      rotate_left
      · intro w hS; have fa := K2.at hS; have fb := K4.at hS; have f1 := fa 0; have f2 := fa 1; have f3 := fa 2; have f4 := fb 0; have f5 := fb 1; have f6 := fb 2; clear fa fb; go_simp <;> with_reducible rfl
      simp only [Act.put, List.setIfInBounds_toArray, List.set_cons_zero, List.set_cons_succ]
      refine oneL 4 rfl (by kernel_rfl) (by rfl) (fun K hK => ?_)
      go_simp
      go_at_call 15
      (with_reducible refine (ref11_Normal _ r c ns 1 _ (h2.next hHeld) hr hc HX.out (by omega)).mono ?_); rintro e wx1 ⟨rfl, bx1⟩
      refine hK.out _ _ (hHeld.trans (bx1.mono hHeld.size)) (fun hHeld => ?_)
      clear hK K
      try simp only [Act.put, List.setIfInBounds_toArray, List.set_cons_zero, List.set_cons_succ]
      refine takeL 5 (v := ?_) rfl (by kernel_rfl) (by kernel_rfl) (by kernel_rfl) (fun _ _ _ h => h) ⟨by rfl, ?_⟩ (by assumption) ?_
      rotate_left
      · intro w hS; go_simp <;> with_reducible rfl
      simp only [Act.put, List.setIfInBounds_toArray, List.set_cons_zero, List.set_cons_succ]
      refine takeL 6 (v := ?_) rfl (by kernel_rfl) (by kernel_rfl) (by kernel_rfl) (fun _ _ _ h => h) ⟨by rfl, ?_⟩ (by assumption) ?_
      rotate_left
      · intro w hS; go_simp <;> with_reducible rfl
      simp only [Act.put, List.setIfInBounds_toArray, List.set_cons_zero, List.set_cons_succ]
      refine takeL 7 (v := ?_) rfl (by kernel_rfl) (by kernel_rfl) (by kernel_rfl) (fun _ _ _ h => h) ⟨by rfl, ?_⟩ (by assumption) ?_
      rotate_left
      · intro w hS; have fa := K2.at hS; have fb := K4.at hS; have f1 := fa 0; have f2 := fa 1; have f3 := fa 2; have f4 := fb 0; have f5 := fb 1; have f6 := fb 2; clear fa fb; go_simp <;> with_reducible rfl
      simp only [Act.put, List.setIfInBounds_toArray, List.set_cons_zero, List.set_cons_succ]
      refine takeL 8 (v := ?_) rfl (by kernel_rfl) (by kernel_rfl) (by kernel_rfl) (fun _ _ _ h => h) ⟨by rfl, ?_⟩ (by assumption) ?_
      rotate_left
      · intro w hS; have fa := K2.at hS; have fb := K4.at hS; have f1 := fa 0; have f2 := fa 1; have f3 := fa 2; have f4 := fb 0; have f5 := fb 1; have f6 := fb 2; clear fa fb; go_simp <;> with_reducible rfl
      simp only [Act.put, List.setIfInBounds_toArray, List.set_cons_zero, List.set_cons_succ]
      refine oneL 9 rfl (by kernel_rfl) (by rfl) (fun K hK => ?_)
      go_simp
      go_at_call 27
      (with_reducible refine (zmat_Same _ _ r c r c ns ns 1 1 _ (h2.mt.next hHeld) (h2.mt.next hHeld) (by omega) (by omega) true ⟨fun _ => ⟨HAL.out, rfl⟩, fun _ => rfl⟩).mono ?_); rintro e wx2 ⟨rfl, bx2⟩
      refine hK.out _ _ (hHeld.trans (bx2.mono hHeld.size)) (fun hHeld => ?_)
      clear hK K
      try simp only [Act.put, List.setIfInBounds_toArray, List.set_cons_zero, List.set_cons_succ]
      refine takeL 10 (v := ?_) rfl (by kernel_rfl) (by kernel_rfl) (by kernel_rfl) (fun _ _ _ h => h) ⟨by rfl, ?_⟩ (by assumption) ?_
      rotate_left
      · intro w hS; go_simp <;> with_reducible rfl
      simp only [Act.put, List.setIfInBounds_toArray, List.set_cons_zero, List.set_cons_succ]
      refine takeL 11 (v := ?_) rfl (by kernel_rfl) (by kernel_rfl) (by kernel_rfl) (fun _ _ _ h => h) ⟨by rfl, ?_⟩ (by assumption) ?_
      rotate_left
      · intro w hS; go_simp <;> with_reducible rfl
      simp only [Act.put, List.setIfInBounds_toArray, List.set_cons_zero, List.set_cons_succ]
      refine takeL 12 (v := ?_) rfl (by kernel_rfl) (by kernel_rfl) (by kernel_rfl) (fun _ _ _ h => h) ⟨by rfl, ?_⟩ (by assumption) ?_
      rotate_left
      · intro w hS; have fa := K2.at hS; have fb := K4.at hS; have f1 := fa 0; have f2 := fa 1; have f3 := fa 2; have f4 := fb 0; have f5 := fb 1; have f6 := fb 2; clear fa fb; go_simp <;> with_reducible rfl
      simp only [Act.put, List.setIfInBounds_toArray, List.set_cons_zero, List.set_cons_succ]
      refine takeL 13 (v := ?_) rfl (by kernel_rfl) (by kernel_rfl) (by kernel_rfl) (fun _ _ _ h => h) ⟨by rfl, ?_⟩ (by assumption) ?_
      rotate_left
      · intro w hS; go_simp <;> with_reducible rfl
      simp only [Act.put, List.setIfInBounds_toArray, List.set_cons_zero, List.set_cons_succ]
      refine oneL 14 rfl (by kernel_rfl) (by rfl) (fun K hK => ?_)
      go_simp
      go_at_call 37
      (with_reducible refine (zmat_At_none _ r c r 0 ns 1 _ (h2.mt.next hHeld) hr hc HX.out (fun h => by omega)).mono ?_); rintro e wx3 ⟨vx3, rfl, hx3, bx3, -⟩
      refine hK.out _ _ (hHeld.trans (bx3.mono hHeld.size)) (fun hHeld => ?_)
      clear hK K
      try simp only [Act.put, List.setIfInBounds_toArray, List.set_cons_zero, List.set_cons_succ]
      refine oneL 15 rfl (by kernel_rfl) (by rfl) (fun K hK => ?_)
      go_simp
      go_at_call 39
      (with_reducible refine (sign0 _ 0 _ hx3.iv (by omega)).mono ?_); rintro e wx4 ⟨rfl, bx4⟩
      refine hK.out _ _ (hHeld.trans (bx4.mono hHeld.size)) (fun hHeld => ?_)
      clear hK K
      try simp only [Act.put, List.setIfInBounds_toArray, List.set_cons_zero, List.set_cons_succ]
      refine takeL 16 (v := ?_) rfl (by kernel_rfl) (by kernel_rfl) (by kernel_rfl) (fun _ _ _ h => h) ⟨by rfl, ?_⟩ (by assumption) ?_
      rotate_left
      · intro w hS; go_simp <;> with_reducible rfl
      simp only [Act.put, List.setIfInBounds_toArray, List.set_cons_zero, List.set_cons_succ]
      refine takeL 17 (v := ?_) rfl (by kernel_rfl) (by kernel_rfl) (by kernel_rfl) (fun _ _ _ h => h) ⟨by rfl, ?_⟩ (by assumption) ?_
      rotate_left
      · intro w hS; go_simp <;> with_reducible rfl
      simp only [Act.put, List.setIfInBounds_toArray, List.set_cons_zero, List.set_cons_succ]
      refine takeL 18 (v := ?_) rfl (by kernel_rfl) (by kernel_rfl) (by kernel_rfl) (fun _ _ _ h => h) ⟨by rfl, ?_⟩ (by assumption) ?_
      rotate_left
      · intro w hS; go_simp <;> with_reducible rfl
      simp only [Act.put, List.setIfInBounds_toArray, List.set_cons_zero, List.set_cons_succ]
      refine takeL 19 (v := ?_) rfl (by kernel_rfl) (by kernel_rfl) (by kernel_rfl) (fun _ _ _ h => h) ⟨by rfl, ?_⟩ (by assumption) ?_
      rotate_left
      · intro w hS; have fa := K2.at hS; have fb := K4.at hS; have f1 := fa 0; have f2 := fa 1; have f3 := fa 2; have f4 := fb 0; have f5 := fb 1; have f6 := fb 2; clear fa fb; go_simp <;> with_reducible rfl
      simp only [Act.put, List.setIfInBounds_toArray, List.set_cons_zero, List.set_cons_succ]
      refine takeL 20 (v := ?_) rfl (by kernel_rfl) (by kernel_rfl) (by kernel_rfl) (fun _ _ _ h => h) ⟨by rfl, ?_⟩ (by assumption) ?_
      rotate_left
      · intro w hS; go_simp <;> with_reducible rfl
      simp only [Act.put, List.setIfInBounds_toArray, List.set_cons_zero, List.set_cons_succ]
      refine oneL 21 rfl (by kernel_rfl) (by rfl) (fun K hK => ?_)
      go_simp
      go_at_call 37
      (with_reducible refine (zmat_At_none _ r c 0 c ns 1 _ (h2.mt.next hHeld) hr hc HX.out (fun h => by omega)).mono ?_); rintro e wx5 ⟨vx5, rfl, hx5, bx5, -⟩
      refine hK.out _ _ (hHeld.trans (bx5.mono hHeld.size)) (fun hHeld => ?_)
      clear hK K
      try simp only [Act.put, List.setIfInBounds_toArray, List.set_cons_zero, List.set_cons_succ]
      refine oneL 22 rfl (by kernel_rfl) (by rfl) (fun K hK => ?_)
      go_simp
      go_at_call 39
      (with_reducible refine (sign0 _ 0 _ hx5.iv (by omega)).mono ?_); rintro e wx6 ⟨rfl, bx6⟩
      refine hK.out _ _ (hHeld.trans (bx6.mono hHeld.size)) (fun hHeld => ?_)
      clear hK K
      try simp only [Act.put, List.setIfInBounds_toArray, List.set_cons_zero, List.set_cons_succ]
      refine takeL 23 (v := ?_) rfl (by kernel_rfl) (by kernel_rfl) (by kernel_rfl) (fun _ _ _ h => h) ⟨by rfl, ?_⟩ (by assumption) ?_
      rotate_left
      · intro w hS; go_simp <;> with_reducible rfl
      simp only [Act.put, List.setIfInBounds_toArray, List.set_cons_zero, List.set_cons_succ]
      refine takeL 24 (v := ?_) rfl (by kernel_rfl) (by kernel_rfl) (by kernel_rfl) (fun _ _ _ h => h) ⟨by rfl, ?_⟩ (by assumption) ?_
      rotate_left
      · intro w hS; go_simp <;> with_reducible rfl
      simp only [Act.put, List.setIfInBounds_toArray, List.set_cons_zero, List.set_cons_succ]
      refine takeL 25 (v := ?_) rfl (by kernel_rfl) (by kernel_rfl) (by kernel_rfl) (fun _ _ _ h => h) ⟨by rfl, ?_⟩ (by assumption) ?_
      rotate_left
      · intro w hS; go_simp <;> with_reducible rfl
      simp only [Act.put, List.setIfInBounds_toArray, List.set_cons_zero, List.set_cons_succ]
      refine takeL 26 (v := ?_) rfl (by kernel_rfl) (by kernel_rfl) (by kernel_rfl) (fun _ _ _ h => h) ⟨by rfl, ?_⟩ (by assumption) ?_
      rotate_left
      · intro w hS; have fa := K2.at hS; have fb := K4.at hS; have f1 := fa 0; have f2 := fa 1; have f3 := fa 2; have f4 := fb 0; have f5 := fb 1; have f6 := fb 2; clear fa fb; go_simp <;> with_reducible rfl
      simp only [Act.put, List.setIfInBounds_toArray, List.set_cons_zero, List.set_cons_succ]
      refine oneL 27 rfl (by kernel_rfl) (by rfl) (fun K hK => ?_)
      go_simp
      go_at_call 37
      (with_reducible refine (zmat_At_none _ r c (-1) 0 ns 1 _ (h2.mt.next hHeld) hr hc HX.out (fun h => by omega)).mono ?_); rintro e wx7 ⟨vx7, rfl, hx7, bx7, -⟩
      refine hK.out _ _ (hHeld.trans (bx7.mono hHeld.size)) (fun hHeld => ?_)
      clear hK K
      try simp only [Act.put, List.setIfInBounds_toArray, List.set_cons_zero, List.set_cons_succ]
      refine oneL 28 rfl (by kernel_rfl) (by rfl) (fun K hK => ?_)
      go_simp
      go_at_call 39
      (with_reducible refine (sign0 _ 0 _ hx7.iv (by omega)).mono ?_); rintro e wx8 ⟨rfl, bx8⟩
      refine hK.out _ _ (hHeld.trans (bx8.mono hHeld.size)) (fun hHeld => ?_)
      clear hK K
      try simp only [Act.put, List.setIfInBounds_toArray, List.set_cons_zero, List.set_cons_succ]
      refine takeL 29 (v := ?_) rfl (by kernel_rfl) (by kernel_rfl) (by kernel_rfl) (fun _ _ _ h => h) ⟨by rfl, ?_⟩ (by assumption) ?_
      rotate_left
      · intro w hS; go_simp <;> with_reducible rfl
      simp only [Act.put, List.setIfInBounds_toArray, List.set_cons_zero, List.set_cons_succ]
      refine takeL 30 (v := ?_) rfl (by kernel_rfl) (by kernel_rfl) (by kernel_rfl) (fun _ _ _ h => h) ⟨by rfl, ?_⟩ (by assumption) ?_
      rotate_left
      · intro w hS; go_simp <;> with_reducible rfl
      simp only [Act.put, List.setIfInBounds_toArray, List.set_cons_zero, List.set_cons_succ]
      refine takeL 31 (v := ?_) rfl (by kernel_rfl) (by kernel_rfl) (by kernel_rfl) (fun _ _ _ h => h) ⟨by rfl, ?_⟩ (by assumption) ?_
      rotate_left
      · intro w hS; go_simp <;> with_reducible rfl
      simp only [Act.put, List.setIfInBounds_toArray, List.set_cons_zero, List.set_cons_succ]
      refine takeL 32 (v := ?_) rfl (by kernel_rfl) (by kernel_rfl) (by kernel_rfl) (fun _ _ _ h => h) ⟨by rfl, ?_⟩ (by assumption) ?_
      rotate_left
      · intro w hS; have fa := K2.at hS; have fb := K4.at hS; have f1 := fa 0; have f2 := fa 1; have f3 := fa 2; have f4 := fb 0; have f5 := fb 1; have f6 := fb 2; clear fa fb; go_simp <;> with_reducible rfl
      simp only [Act.put, List.setIfInBounds_toArray, List.set_cons_zero, List.set_cons_succ]
      refine takeL 33 (v := ?_) rfl (by kernel_rfl) (by kernel_rfl) (by kernel_rfl) (fun _ _ _ h => h) ⟨by rfl, ?_⟩ (by assumption) ?_
      rotate_left
      · intro w hS; have fa := K2.at hS; have fb := K4.at hS; have f1 := fa 0; have f2 := fa 1; have f3 := fa 2; have f4 := fb 0; have f5 := fb 1; have f6 := fb 2; clear fa fb; go_simp <;> with_reducible rfl
      simp only [Act.put, List.setIfInBounds_toArray, List.set_cons_zero, List.set_cons_succ]
      refine takeL 35 (v := ?_) rfl (by kernel_rfl) (by kernel_rfl) (by kernel_rfl) (fun _ _ _ h => h) ⟨by rfl, ?_⟩ (by assumption) ?_
      rotate_left
      · intro w hS; have fa := K2.at hS; have fb := K4.at hS; have f1 := fa 0; have f2 := fa 1; have f3 := fa 2; have f4 := fb 0; have f5 := fb 1; have f6 := fb 2; clear fa fb; go_simp <;> with_reducible rfl
      simp only [Act.put, List.setIfInBounds_toArray, List.set_cons_zero, List.set_cons_succ]
      refine oneL 34 rfl (by kernel_rfl) (by rfl) (fun K hK => ?_)
      go_simp
      go_at_call 27
      (with_reducible refine (zmat_Same _ _ r c r c ns zs 1 0 _ (h2.mt.next hHeld) (h4.mt.next hHeld) (by omega) (by omega) β HG.out).mono ?_); rintro e wx9 ⟨rfl, bx9⟩
      refine hK.out _ _ (hHeld.trans (bx9.mono hHeld.size)) (fun hHeld => ?_)
      clear hK K
      try simp only [Act.put, List.setIfInBounds_toArray, List.set_cons_zero, List.set_cons_succ]
      refine oneL 36 rfl (by kernel_rfl) (by rfl) (fun K hK => ?_)
      go_simp
      go_at_call 36
      (with_reducible refine (zmat_Zero _ r c ns 1 _ (h2.mt.next hHeld) hr hc HX.out (by omega) β HB.out).mono ?_); rintro e wx10 ⟨rfl, bx10⟩
      refine hK.out _ _ (hHeld.trans (bx10.mono hHeld.size)) (fun hHeld => ?_)
      clear hK K
      try simp only [Act.put, List.setIfInBounds_toArray, List.set_cons_zero, List.set_cons_succ]
      refine takeL 37 (v := ?_) rfl (by kernel_rfl) (by kernel_rfl) (by kernel_rfl) (fun _ _ _ h => h) ⟨by rfl, ?_⟩ (by assumption) ?_
      rotate_left
      · intro w hS; go_simp <;> with_reducible rfl
      simp only [Act.put, List.setIfInBounds_toArray, List.set_cons_zero, List.set_cons_succ]
      refine takeL 38 (v := ?_) rfl (by kernel_rfl) (by kernel_rfl) (by kernel_rfl) (fun _ _ _ h => h) ⟨by rfl, ?_⟩ (by assumption) ?_
      rotate_left
      · intro w hS; go_simp <;> with_reducible rfl
      simp only [Act.put, List.setIfInBounds_toArray, List.set_cons_zero, List.set_cons_succ]
      refine takeL 39 (v := ?_) rfl (by kernel_rfl) (by kernel_rfl) (by kernel_rfl) (fun _ _ _ h => h) ⟨by rfl, ?_⟩ (by assumption) ?_
      rotate_left
      · intro w hS; go_simp <;> with_reducible rfl
      simp only [Act.put, List.setIfInBounds_toArray, List.set_cons_zero, List.set_cons_succ]
      refine doneL (by kernel_rfl) ?_ _
      replace B0 := B0.trans (hHeld.mono B0.size)
      have hββ : (β == β) = true := by cases β <;> rfl
      go_wp2
      go_ret
      exact ⟨by simp, B0⟩

theorem walk (R C : Int) (v : Value) (ns : List Int) (w : World) (hN : Si w v ns) (hn : ∀ y ∈ ns, -9223372036854775808 ≤ y ∧ y < 9223372036854775808) :
    Calls Try.prog 8 #[.int .i64 R, .int .i64 C, v] w (LawOk w) := by
  by_cases hl : 36 < ns.length
  · exact long R C v ns w hN hl
  · by_cases h : Sd R ∧ Sd C
    · obtain ⟨⟨h1, h2⟩, h3, h4⟩ := h
      obtain ⟨r, rfl⟩ := Int.eq_ofNat_of_zero_le h1
      obtain ⟨c, rfl⟩ := Int.eq_ofNat_of_zero_le h3
      by_cases hx : ns.length = r * c
      · by_cases hz : r = 0
        · exact may_yz r c v ns w hN hn (by omega) (by omega) (by omega) hx hz
        · exact may_yp r c v ns w hN hn (by omega) (by omega) (by omega) hx hz
      · by_cases hz : r = 0
        · exact may_nz r c v ns w hN hn (by omega) (by omega) (by omega) hx hz
        · exact may_np r c v ns w hN hn (by omega) (by omega) (by omega) hx hz
    · exact may_no R C v ns w hN hn (by omega) h


set_option maxRecDepth 100000 in
theorem lifted (os : Os) (started : os.Started) (H : Type) (enc : TypeId × Value → H) :
    ReturnsInHanded {} Try.checked os 8 .any (Rows.matMakesSpec.pre6 enc Try.prog Try.f8 Rows.matMakesRow.domain false) (Rows.matMakesSpec.post enc Try.prog Try.f8 false true false false) := by
  refine returnsInHanded_of_change (C := Try.checked) own started (by kernel_rfl) Try.func8
    (ChangeSpec.witness6 (enc := enc) (C := Try.checked) false ⟨#[], #[.int .i64 0, .int .i64 0, .slice none 0 0], []⟩ 8 (by kernel_rfl) (by kernel_rfl) (by kernel_rfl) (by kernel_rfl)) ?_
  intro W base args ds gs before hval0 hW hcnd _
  have hval : ∀ (j : Nat) t v, Try.f8.params[j]? = some t → args[j]? = some v → Value.okWide Try.prog W .any base t v := hval0
  have hW' := hW
  obtain ⟨p, q, hA0, hV, rfl, hfz, hnd⟩ := hW
  have hA : DataW.TrodAll enc Try.prog W 0 (fun _ => true) true Try.f8.params.toList args.toList ds p := hA0
  rw [Try.params8] at hA hval
  obtain ⟨v0, vs0, d0, ds0, p0, q0, hargs, rfl, rfl, h0, r0⟩ := trodAll_cons hA
  obtain ⟨v1, vs1, d1, ds1, p1, q1, rfl, rfl, rfl, h1, r1⟩ := trodAll_cons r0
  obtain ⟨v2, vs2, d2, ds2, p2, q2, rfl, rfl, rfl, h2, r2⟩ := trodAll_cons r1
  obtain ⟨rfl, rfl, rfl⟩ := trodAll_nil r2
  obtain rfl : args = #[v0, v1, v2] := by cases args; simp_all
  obtain ⟨rfl, rfl⟩ := trodVars_none hV
  have k0 := h0
  have lt0 : ∀ x ∈ p0, x.block < W.heap.size := by obtain ⟨m, hm⟩ := k0; exact DataW.trod_lt m _ _ _ hm
  obtain ⟨x0, rfl, rfl, rfl, -⟩ := open_int Try.underlying3 (hval 0 3 v0 rfl rfl) h0
  have k1 := h1
  have lt1 : ∀ x ∈ p1, x.block < W.heap.size := by obtain ⟨m, hm⟩ := k1; exact DataW.trod_lt m _ _ _ hm
  obtain ⟨x1, rfl, rfl, rfl, -⟩ := open_int Try.underlying3 (hval 1 3 v1 rfl rfl) h1
  have k2 := h2
  have lt2 : ∀ x ∈ p2, x.block < W.heap.size := by obtain ⟨m, hm⟩ := k2; exact DataW.trod_lt m _ _ _ hm
  obtain ⟨ns2, z2, f2⟩ := open_i64s Try.underlying53 Try.underlying2 (by kernel_rfl) (hval 2 53 v2 rfl rfl) h2
  clear hA0 hval0
  refine (walk x0 x1 v2 ns2 W   z2 f2).mono fun e W' ⟨he, bel⟩ => ?_
  subst he
  exact ⟨_, rfl, _, _, _, [], _, [], hW', trodAll_mk1 (shut_bool Try.underlying4 _), (trodAll_cons_mk (Below.trod laidOut (by kernel_rfl) (of_decide_eq_true (by kernel_rfl)) k0 bel lt0) (trodAll_cons_mk (Below.trod laidOut (by kernel_rfl) (of_decide_eq_true (by kernel_rfl)) k1 bel lt1) (trodAll_cons_mk (Below.trod laidOut (by kernel_rfl) (of_decide_eq_true (by kernel_rfl)) k2 bel lt2) trodAll_mk0))), rfl, bel.frame _, fun h => by cases h⟩

theorem over : Rows.matMakesRow.holds Try.pinned (OpenSpec.ofChange Rows.matMakesSpec) :=
  OpenClaim.holds_of_wide 8 Try.f8 rfl rfl rfl rfl rfl rfl rfl ⟨rfl, rfl, rfl, rfl, rfl⟩ rfl rfl rfl rfl rfl (by kernel_rfl) Try.func8 (by kernel_rfl)
    (of_decide_eq_true (by kernel_rfl)) (by unfold Func.isWrapper; first | (rw [if_pos (by decide +kernel)]; kernel_rfl) | (rw [if_neg (by decide +kernel)]; exact ⟨rfl, rfl⟩))
    (fun os started H enc _ => lifted os started H enc)

theorem proved : Rows.MatMakesSaid := over
#print axioms proved
end Go.Proofs.Ytahjbeilddenbaa.matMakes
