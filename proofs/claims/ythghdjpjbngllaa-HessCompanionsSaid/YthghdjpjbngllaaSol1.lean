/- slices.ContainsFunc, slices.Index; the closures of Solve and Reduce. -/
import Derived.Test.YthghdjpjbngllaaReduced
import Derived.Test.YthghdjpjbngllaaRfh
namespace Go.Proofs.Ythghdjpjbngllaa
open Go.RowKit


set_option maxRecDepth 20000 in
set_option maxHeartbeats 400000 in
theorem ixf_u64 (fn : Nat) (hE : Enters Try.prog fn) (v : Value) (m : Nat) (U : Nat → Value) (w : World) (hv : VsF w v m U) (hm : m ≤ 1000000000)
    (β : Nat → Bool) (hf : ∀ j, j < m → Calls Try.prog fn #[U j] w (fun e w' => e = .returned (.bool (β j)) ∧ w = w')) (R : Int) (hR : IxR β m R) :
    Calls Try.prog 156 #[v, .func (.func fn) #[] #[]] w (fun e w' => e = .returned (.int .i64 R) ∧ w = w') := by
  obtain ⟨ao, g, off, cap, rfl, hcap, h2, h3⟩ := hv
  have HR := Lib.hid hR; have HF := Lib.hid hf; have H2 := Lib.hid h2; have HC := Lib.hid h3
  clear hR hf h2 h3
  go_enter Try.func156, Try.ntmps156
  go_wp2
  go_loop [8] (fun kv => ∃ k : Nat, k ≤ m ∧ kv = .int .i64 k ∧ ∀ l, l < k → β l = false) (fun kv => m - (intOf kv).toNat)
  case atStart => exact ⟨0, by omega, rfl, fun l h => by omega⟩
  case round =>
    obtain ⟨k, hk, rfl, hb⟩ := hrel
    have HB := Lib.hid hb; clear hb
    by_cases hkm : k < m
    · obtain ⟨rfl, -⟩ := H2.out (by omega)
      have q1 := HC.out k hkm
      have hc := HF.out k hkm
      by_cases hβ : β k = true
      · have e : R = (k : Int) := by
          rcases HR.out with ⟨j, rfl, hj, h1, h2⟩ | ⟨_, h2⟩
          · congr 1
            rcases Nat.lt_trichotomy j k with h | h | h
            · rw [HB.out j h] at h1; cases h1
            · exact h
            · rw [h2 k h] at hβ; cases hβ
          · rw [h2 k hkm] at hβ; cases hβ
        subst e
        rw [hβ] at hc
        have hc := Lib.hid hc
        clear hβ
        go_wp2_with fail
        rw [hE]
        refine hc.out.mono ?_; rintro e w' ⟨rfl, rfl⟩
        go_wp2
        go_ret
        exact ⟨rfl, rfl⟩
      · have hβ : β k = false := by simpa using hβ
        rw [hβ] at hc
        have hc := Lib.hid hc
        have HN := Lib.hid (show ∀ l, l < k + 1 → β l = false from fun l hl => by
          by_cases e : l = k
          · rw [e]; exact hβ
          · exact HB.out l (by omega))
        clear hβ
        go_wp2_with fail
        rw [hE]
        refine hc.out.mono ?_; rintro e w' ⟨rfl, rfl⟩
        go_wp2
        go_round
        case rel => exact ⟨k + 1, by omega, by go_num, HN.out⟩
        case measure => simp [intOf] <;> omega
    · have e : R = -1 := by
        rcases HR.out with ⟨j, rfl, hj, h1, h2⟩ | ⟨h, _⟩
        · rw [HB.out j (by omega)] at h1; cases h1
        · exact h
      subst e
      go_wp2
      go_ret
      exact ⟨rfl, rfl⟩

theorem cont_u64 (fn : Nat) (hE : Enters Try.prog fn) (v : Value) (m : Nat) (U : Nat → Value) (w : World) (hv : VsF w v m U) (hm : m ≤ 1000000000)
    (β : Nat → Bool) (hf : ∀ j, j < m → Calls Try.prog fn #[U j] w (fun e w' => e = .returned (.bool (β j)) ∧ w = w')) (R : Int) (hR : IxR β m R) (b : Bool) (hb : b = decide (0 ≤ R)) :
    Calls Try.prog 152 #[v, .func (.func fn) #[] #[]] w (fun e w' => e = .returned (.bool b) ∧ w = w') := by
  have HC := Lib.hid (ixf_u64 fn hE v m U w hv hm β hf R hR)
  clear hE hf hR hv
  rcases Decidable.em (0 ≤ R) with h | h
  · obtain rfl : b = true := by rw [hb, decide_eq_true h]
    clear hb
    go_enter Try.func152, Try.ntmps152
    go_wp2_with fail
    refine HC.out.mono ?_; rintro e w' ⟨rfl, rfl⟩
    go_wp2
    go_ret
    exact ⟨rfl, rfl⟩
  · obtain rfl : b = false := by rw [hb, decide_eq_false h]
    clear hb
    go_enter Try.func152, Try.ntmps152
    go_wp2_with fail
    refine HC.out.mono ?_; rintro e w' ⟨rfl, rfl⟩
    go_wp2
    go_ret
    exact ⟨by show Ending.returned (.bool (decide (0 ≤ R))) = _; rw [decide_eq_false (by omega)], rfl⟩

theorem solve1 (x : Nat) (w : World) (β : Bool) (hβ : β = decide (x ≠ 0)) :
    Calls Try.prog 153 #[.int .u64 x] w (fun e w' => e = .returned (.bool β) ∧ w = w') := by
  by_cases h : x = 0
  · subst h
    obtain rfl : β = false := by rw [hβ]; rfl
    clear hβ
    go_enter Try.func153, Try.ntmps153
    go_wp2
    go_ret
    exact ⟨rfl, rfl⟩
  · obtain rfl : β = true := by rw [hβ]; exact decide_eq_true h
    have h2 : ((x : Int) != 0) = true := by simpa using h
    clear hβ h
    go_enter Try.func153, Try.ntmps153
    go_wp2
    go_ret
    exact ⟨rfl, rfl⟩

set_option maxRecDepth 20000 in
theorem ix_int (v : Value) (P : List Nat) (x : Nat) (w : World) (hv : Sl .i64 w v P) (hm : P.length ≤ 1000000) (β : Nat → Bool) (hβ : β = fun j => decide (P.getD j 0 = x)) (R : Int) (hR : IxR β P.length R) :
    Calls Try.prog 155 #[v, .int .i64 x] w (fun e w' => e = .returned (.int .i64 R) ∧ w = w') := by
  obtain ⟨ao, g, off, cap, rfl, hcap, hcs⟩ := hv
  have HR := Lib.hid hR; have HC := Lib.hid hcs; have HB0 := Lib.hid hβ
  clear hR hcs hβ
  go_enter Try.func155, Try.ntmps155
  go_wp2
  go_loop [8] (fun kv => ∃ k : Nat, k ≤ P.length ∧ kv = .int .i64 k ∧ ∀ l, l < k → β l = false) (fun kv => P.length - (intOf kv).toNat)
  case atStart => exact ⟨0, by omega, rfl, fun l h => by omega⟩
  case round =>
    obtain ⟨k, hk, rfl, hb⟩ := hrel
    have HB := Lib.hid hb; clear hb
    by_cases hkm : k < P.length
    · obtain rfl := HC.out.ao (by intro h; rw [h] at hkm; simp at hkm)
      have q1 := HC.out.cell k hkm
      obtain ⟨y, ey⟩ : ∃ y, y = P.getD k 0 := ⟨_, rfl⟩
      rw [← ey] at q1
      have EY := Lib.hid ey; clear ey
      by_cases hxy : x = y
      · have hk1 : β k = true := by rw [HB0.out]; exact decide_eq_true (by rw [← EY.out, hxy])
        have e : R = (k : Int) := by
          rcases HR.out with ⟨j, rfl, hj, h1, h2⟩ | ⟨_, h2⟩
          · congr 1
            rcases Nat.lt_trichotomy j k with h | h | h
            · rw [HB.out j h] at h1; cases h1
            · exact h
            · rw [h2 k h] at hk1; cases hk1
          · rw [h2 k hkm] at hk1; cases hk1
        subst e
        subst hxy
        clear hk1
        go_wp2
        go_ret
        exact ⟨rfl, rfl⟩
      · have hk1 : β k = false := by rw [HB0.out]; exact decide_eq_false (by rw [← EY.out]; exact fun h => hxy h.symm)
        have hne : ((x : Int) == (y : Int)) = false := by simp; omega
        have HN := Lib.hid (show ∀ l, l < k + 1 → β l = false from fun l hl => by
          by_cases e : l = k
          · rw [e]; exact hk1
          · exact HB.out l (by omega))
        clear hk1 hxy
        go_wp2
        go_round
        case rel => exact ⟨k + 1, by omega, by go_num, HN.out⟩
        case measure => simp [intOf] <;> omega
    · have e : R = -1 := by
        rcases HR.out with ⟨j, rfl, hj, h1, h2⟩ | ⟨h, _⟩
        · rw [HB.out j (by omega)] at h1; cases h1
        · exact h
      subst e
      go_wp2
      go_ret
      exact ⟨rfl, rfl⟩

/-- A row's place, with its header. -/
theorem Rws.atR {p : Nat} {w : World} {base n N : Nat} {rv : Value} {vs : List Value} {W : Nat → Nat → Zp p} (h : Rws (VZ p) 27 32 w base rv vs n N W) {i : Nat} (hi : i < n) (hN : 0 < N) :
    ∃ g cg b o cap, rv = .slice (some ⟨g, 0, none⟩) n cg ∧ n ≤ cg ∧ g < w.heap.size ∧ w.cell? ⟨g, i, none⟩ = some (.slice (some ⟨b, o, none⟩) N cap) ∧ N ≤ cap ∧ b < w.heap.size ∧ ∀ k, k < N → w.cell? ⟨b, o + k, none⟩ = some (.int .u64 ((W i k).val : Nat)) := by
  rcases h.shape with ⟨_, h0⟩ | ⟨g, cg, e, h1, h2, h3⟩
  · omega
  obtain ⟨u, hu⟩ := h.hdr hi
  have hc := h.head e hi
  obtain ⟨ao, cap, b', o', cur', e3, e4, e5⟩ := h.row i u hu
  obtain ⟨e6, e7, e8, _⟩ := e5 hN
  obtain ⟨b, o, cap2, cur, e1, _, e2, k1⟩ := (h.row i u hu).pos hN
  rw [e1] at e3
  simp only [Value.slice.injEq] at e3
  refine ⟨g, cg, b, o, cap2, e, h3, h2, by rw [hc, hu, e1], by rw [e3.2.2]; exact e4, ?_, fun k hk => ?_⟩
  · exact (Array.getElem?_eq_some_iff.1 e2).1
  · obtain ⟨x, q, hx⟩ := k1 k hk
    rw [q, show x = .int .u64 ((W i k).val : Nat) from hx]

end Go.Proofs.Ythghdjpjbngllaa
