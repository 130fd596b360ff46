/- slices.IndexFunc of rows; which row has something in a column. -/
import Derived.Test.YthghdjpjbngllaaZeTake
namespace Go.Proofs.Ythghdjpjbngllaa
open Go.RowKit

/-- The first number with a mark, or -1. -/
def IxR (β : Nat → Bool) (m : Nat) (R : Int) : Prop := (∃ j : Nat, R = j ∧ j < m ∧ β j = true ∧ ∀ l, l < j → β l = false) ∨ (R = -1 ∧ ∀ l, l < m → β l = false)
theorem IxR.ex (β : Nat → Bool) : ∀ m, ∃ R, IxR β m R
  | 0 => ⟨-1, .inr ⟨rfl, fun l h => by omega⟩⟩
  | m + 1 => by
    obtain ⟨R, h | ⟨rfl, h⟩⟩ := IxR.ex β m
    · obtain ⟨j, e, hj, h1, h2⟩ := h
      exact ⟨R, .inl ⟨j, e, by omega, h1, h2⟩⟩
    · cases hb : β m with
      | true => exact ⟨m, .inl ⟨m, rfl, by omega, hb, h⟩⟩
      | false => exact ⟨-1, .inr ⟨rfl, fun l hl => by
          by_cases e : l = m
          · rw [e]; exact hb
          · exact h l (by omega)⟩⟩

set_option maxRecDepth 20000 in
set_option maxHeartbeats 400000 in
theorem ixf_rows (fn : Nat) (hE : Enters Try.prog fn) (caps : List Value) (g off m cap : Nat) (us : List Value) (w : World) (hlen : us.length = m) (hm : m ≤ 1000000000) (hcell : ∀ (j : Nat) (u : Value), us[j]? = some u → w.cell? ⟨g, off + j, none⟩ = some u)
    (β : Nat → Bool) (hf : ∀ (j : Nat) (u : Value), us[j]? = some u → Calls Try.prog fn (u :: caps).toArray w (fun e w' => e = .returned (.bool (β j)) ∧ w = w')) (R : Int) (hR : IxR β m R) :
    Calls Try.prog 148 #[.slice (some ⟨g, off, none⟩) m cap, .func (.func fn) #[] caps.toArray] w (fun e w' => e = .returned (.int .i64 R) ∧ w = w') := by
  have HR := Lib.hid hR; have HF := Lib.hid hf; have HC := Lib.hid hcell; have HL := Lib.hid hlen
  clear hR hf hcell hlen
  go_enter Try.func148, Try.ntmps148
  go_wp2
  go_loop [8] (fun kv => ∃ k : Nat, k ≤ m ∧ kv = .int .i64 k ∧ ∀ l, l < k → β l = false) (fun kv => m - (intOf kv).toNat)
  case atStart => exact ⟨0, by omega, rfl, fun l h => by omega⟩
  case round =>
    obtain ⟨k, hk, rfl, hb⟩ := hrel
    have HB := Lib.hid hb; clear hb
    by_cases hkm : k < m
    · obtain ⟨u, hu⟩ : ∃ u, us[k]? = some u := ⟨_, List.getElem?_eq_getElem (by rw [HL.out]; exact hkm)⟩
      have q1 := HC.out k u hu
      have hc := HF.out k u hu
      have HU := Lib.hid hu; clear hu
      by_cases hβ : β k = true
      · have e : R = (k : Int) := by
          rcases HR.out with ⟨j, rfl, hj, h1, h2⟩ | ⟨_, h2⟩
          · congr 1
            rcases Nat.lt_trichotomy j k with h | h | h
            · rw [HB.out j h] at h1; cases h1
            · exact h
            · rw [h2 k h] at hβ; cases hβ
          · rw [h2 k hkm] at hβ; cases hβ
        subst e
        rw [hβ] at hc
        have hc := Lib.hid hc
        clear hβ
        go_wp2_with fail
        rw [hE]
        refine hc.out.mono ?_; rintro e w' ⟨rfl, rfl⟩
        go_wp2
        go_ret
        exact ⟨rfl, rfl⟩
      · have hβ : β k = false := by simpa using hβ
        rw [hβ] at hc
        have hc := Lib.hid hc
        have HN := Lib.hid (show ∀ l, l < k + 1 → β l = false from fun l hl => by
          by_cases e : l = k
          · rw [e]; exact hβ
          · exact HB.out l (by omega))
        clear hβ
        go_wp2_with fail
        rw [hE]
        refine hc.out.mono ?_; rintro e w' ⟨rfl, rfl⟩
        go_wp2
        go_round
        case rel => exact ⟨k + 1, by omega, by go_num, HN.out⟩
        case measure => simp [intOf] <;> omega
    · have e : R = -1 := by
        rcases HR.out with ⟨j, rfl, hj, h1, h2⟩ | ⟨h, _⟩
        · rw [HB.out j (by omega)] at h1; cases h1
        · exact h
      subst e
      go_wp2
      go_ret
      exact ⟨rfl, rfl⟩

theorem fw_column1 (g : Nat) (w : World) (b o N cap col : Nat) (x : Nat) (hg : w.cell? ⟨g, 0, none⟩ = some (.int .i64 col)) (hN : col < N) (hx : w.cell? ⟨b, o + col, none⟩ = some (.int .u64 x)) (β : Bool) (hβ : β = decide (x ≠ 0)) :
    Calls Try.prog 149 #[.slice (some ⟨b, o, none⟩) N cap, .pointer (some ⟨g, 0, none⟩)] w (fun e w' => e = .returned (.bool β) ∧ w = w') := by
  by_cases h : x = 0
  · subst h
    obtain rfl : β = false := by rw [hβ]; rfl
    clear hβ
    go_enter Try.func149, Try.ntmps149
    go_wp2
    go_ret
    exact ⟨rfl, rfl⟩
  · obtain rfl : β = true := by rw [hβ]; exact decide_eq_true h
    have h2 : ((x : Int) != 0) = true := by simpa using h
    clear hβ h
    go_enter Try.func149, Try.ntmps149
    go_wp2
    go_ret
    exact ⟨rfl, rfl⟩

theorem gfp_Sub0 (p a z : Nat) (w : World) (hp : FP p) (hz : z = (-Zp.of p a).val) : Calls Try.prog 119 #[.agg #[.int .u64 p], .int .u64 0, .int .u64 a] w (RetW w (.int .u64 (z : Nat))) :=
  gfp_Sub p 0 a z w hp (by rw [hz, Zp.of_zero, CR.zero_sub])
theorem gfp_Neg (p a z : Nat) (w : World) (hp : FP p) (hz : z = (-Zp.of p a).val) : Calls Try.prog 114 #[.agg #[.int .u64 p], .int .u64 a] w (RetW w (.int .u64 (z : Nat))) := by
  obtain ⟨wb, ew, KF, B0, hsz⟩ := boxes1 w 29 [.int .u64 p]
  clear hsz
  have HP := Lib.hid hp; have HZ := Lib.hid hz; clear hp hz
  have f0 := KF.cell 0
  go_enter Try.func114, Try.ntmps114
  go_upto_region 1 with (fail)
  rw [← ew]
  clear ew KF
  go_wp2_with fail
  refine (gfp_Sub0 p a z _ HP.out HZ.out).mono ?_; rintro e w2 ⟨rfl, b2⟩
  go_wp2
  go_ret
  exact ⟨rfl, B0.trans (b2.mono B0.size)⟩

end Go.Proofs.Ythghdjpjbngllaa
