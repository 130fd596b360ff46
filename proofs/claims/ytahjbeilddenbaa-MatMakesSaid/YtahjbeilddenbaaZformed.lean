/- Package zmat: which matrices are formed; whether there is a row. -/
import Derived.Test.YtahjbeilddenbaaZmade
namespace Go.Proofs.Ytahjbeilddenbaa
open Go.RowKit

/-- A side that may be. -/
def Sd (n : Int) : Prop := 0 ≤ n ∧ n ≤ 64
instance (n : Int) : Decidable (Sd n) := by unfold Sd; exact inferInstance
/-- Formed: the sides may be, and there are as many numbers. -/
def Fm (R C : Int) (n : Nat) : Prop := Sd R ∧ Sd C ∧ (n : Int) = R * C
instance (R C : Int) (n : Nat) : Decidable (Fm R C n) := by unfold Fm; exact inferInstance

theorem Sd.mul {R C : Int} (hR : Sd R) (hC : Sd C) : IntKind.i64.wrap (R * C) = R * C := by
  have h1 : 0 ≤ R * C := Int.mul_nonneg hR.1 hC.1
  have h2 : R * C ≤ 64 * 64 := Int.mul_le_mul hR.2 hC.2 hC.1 (by omega)
  exact IntWalk.i64_in _ ⟨by omega, by omega⟩

theorem zmat_side_yes (n : Int) (w : World) (h : Sd n) : Calls Try.prog 60 #[.int .i64 n] w fun e w' => e = .returned (.bool true) ∧ w = w' := by
  have h1 := h.1; have h2 := h.2
  have d1 : decide (n ≥ 0) = true := decide_eq_true h1
  go_enter Try.func60, Try.ntmps60
  go_wp2
  go_ret
  simp

theorem zmat_side_no (n : Int) (w : World) (h : ¬ Sd n) : Calls Try.prog 60 #[.int .i64 n] w fun e w' => e = .returned (.bool false) ∧ w = w' := by
  by_cases h1 : 0 ≤ n
  · have h2 : ¬ n ≤ 64 := fun h2 => h ⟨h1, h2⟩
    go_enter Try.func60, Try.ntmps60
    go_wp2
    go_ret
    simp
  · go_enter Try.func60, Try.ntmps60
    go_wp2
    go_ret
    simp

theorem zmat_Formed (v : Value) (R C : Int) (zs : List Int) (L : Nat) (w : World) (hm : Mt w v R C zs L) :
    Calls Try.prog 40 #[v] w (RetW w (.bool (decide (Fm R C zs.length)))) := by
  obtain ⟨ao, cp, rfl⟩ := hm.agg
  obtain ⟨wb, ew, KA, B0, hsz⟩ := boxes1 w 24 [.int .i64 R, .int .i64 C, .slice ao zs.length cp]
  clear hsz hm
  by_cases hR : Sd R
  · by_cases hC : Sd C
    · have hw : IntKind.i64.wrap (R * C) = R * C := Sd.mul hR hC
      by_cases hn : (zs.length : Int) = R * C
      · rw [decide_eq_true (show Fm R C zs.length from ⟨hR, hC, hn⟩)]
        have hn2 : ((zs.length : Int) == R * C) = true := by simp [hn]
        clear hn
        go_enter Try.func40, Try.ntmps40
        go_wp2_with fail
        refine (zmat_side_yes R _ hR).mono ?_; rintro e w2 ⟨rfl, rfl⟩
        go_wp2_with fail
        refine (zmat_side_yes C _ hC).mono ?_; rintro e w2 ⟨rfl, rfl⟩
        go_wp2
        rw [← ew]
        go_ret
        exact ⟨by simp, B0⟩
      · rw [decide_eq_false (show ¬ Fm R C zs.length from fun h => hn h.2.2)]
        have hn2 : ((zs.length : Int) == R * C) = false := by simp [hn]
        clear hn
        go_enter Try.func40, Try.ntmps40
        go_wp2_with fail
        refine (zmat_side_yes R _ hR).mono ?_; rintro e w2 ⟨rfl, rfl⟩
        go_wp2_with fail
        refine (zmat_side_yes C _ hC).mono ?_; rintro e w2 ⟨rfl, rfl⟩
        go_wp2
        rw [← ew]
        go_ret
        exact ⟨by simp, B0⟩
    · rw [decide_eq_false (show ¬ Fm R C zs.length from fun h => hC h.2.1)]
      go_enter Try.func40, Try.ntmps40
      go_wp2_with fail
      refine (zmat_side_yes R _ hR).mono ?_; rintro e w2 ⟨rfl, rfl⟩
      go_wp2_with fail
      refine (zmat_side_no C _ hC).mono ?_; rintro e w2 ⟨rfl, rfl⟩
      go_wp2
      rw [← ew]
      go_ret
      exact ⟨rfl, B0⟩
  · rw [decide_eq_false (show ¬ Fm R C zs.length from fun h => hR h.1)]
    go_enter Try.func40, Try.ntmps40
    go_wp2_with fail
    refine (zmat_side_no R _ hR).mono ?_; rintro e w2 ⟨rfl, rfl⟩
    go_wp2
    rw [← ew]
    go_ret
    exact ⟨rfl, B0⟩

end Go.Proofs.Ytahjbeilddenbaa
