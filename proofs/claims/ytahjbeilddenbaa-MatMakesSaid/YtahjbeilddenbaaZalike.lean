/- Package zmat: which matrices are alike; sums, multiples, products. -/
import Derived.Test.YtahjbeilddenbaaZmul
namespace Go.Proofs.Ytahjbeilddenbaa
open Go.RowKit

/-- Both formed, of the same sides. -/
def Al (R1 C1 R2 C2 : Int) (m n : Nat) : Prop := Fm R1 C1 m ∧ Fm R2 C2 n ∧ R1 = R2 ∧ C1 = C2
instance (R1 C1 R2 C2 : Int) (m n : Nat) : Decidable (Al R1 C1 R2 C2 m n) := by unfold Al; exact inferInstance

theorem zmat_Formed_yes (v : Value) (R C : Int) (zs : List Int) (L : Nat) (w : World) (hm : Mt w v R C zs L) (h : Fm R C zs.length) :
    Calls Try.prog 40 #[v] w (RetW w (.bool true)) := by
  have := zmat_Formed v R C zs L w hm
  rwa [decide_eq_true h] at this
theorem zmat_Formed_no (v : Value) (R C : Int) (zs : List Int) (L : Nat) (w : World) (hm : Mt w v R C zs L) (h : ¬ Fm R C zs.length) :
    Calls Try.prog 40 #[v] w (RetW w (.bool false)) := by
  have := zmat_Formed v R C zs L w hm
  rwa [decide_eq_false h] at this

theorem zmat_alike (a b : Value) (R1 C1 R2 C2 : Int) (xs ys : List Int) (L M : Nat) (w : World) (hA : Mt w a R1 C1 xs L) (hB : Mt w b R2 C2 ys M) :
    Calls Try.prog 46 #[a, b] w (RetW w (.bool (decide (Al R1 C1 R2 C2 xs.length ys.length)))) := by
  obtain ⟨ao, ca, rfl⟩ := hA.agg
  obtain ⟨bo, cb, rfl⟩ := hB.agg
  obtain ⟨wb, ew, KA, KB, B0, hsz⟩ := boxes1' w 24 24 [.int .i64 R1, .int .i64 C1, .slice ao xs.length ca] [.int .i64 R2, .int .i64 C2, .slice bo ys.length cb]
  clear hsz
  replace hA := hA.next B0; replace hB := hB.next B0
  by_cases h1 : Fm R1 C1 xs.length
  · by_cases h2 : Fm R2 C2 ys.length
    · have ed : decide (Al R1 C1 R2 C2 xs.length ys.length) = (R1 == R2 && C1 == C2) := by
        by_cases h3 : R1 = R2 <;> by_cases h4 : C1 = C2 <;> simp [Al, h1, h2, h3, h4] <;> simp_all
      rw [ed]
      clear ed
      go_enter Try.func46, Try.ntmps46
      go_wp2_with fail
      rw [← ew]
      clear ew
      refine (zmat_Formed_yes _ R1 C1 xs L _ hA h1).mono ?_; rintro e w2 ⟨rfl, b2⟩
      have fb := KB.at b2; have e0 := fb 0; have e1 := fb 1; have e2 := fb 2; clear fb
      go_wp2_with fail
      refine (zmat_Formed_yes _ R2 C2 ys M _ (hB.next b2) h2).mono ?_; rintro e w3 ⟨rfl, b3⟩
      clear e0 e1 e2
      have b4 := b2.trans (b3.mono b2.size)
      have fa := KA.at b4; have fb := KB.at b4; have f0 := fa 0; have f1 := fa 1; have e0 := fb 0; have e1 := fb 1; clear fa fb
      replace B0 := B0.trans (b4.mono B0.size)
      by_cases h3 : R1 = R2
      · have h3' : (R1 == R2) = true := by simp [h3]
        rw [h3']
        go_wp2
        go_ret
        exact ⟨by simp [h3], B0⟩
      · have h3' : (R1 == R2) = false := by simp [h3]
        rw [h3']
        go_wp2
        go_ret
        exact ⟨by simp [h3], B0⟩
    · rw [decide_eq_false (show ¬ Al R1 C1 R2 C2 xs.length ys.length from fun h => h2 h.2.1)]
      go_enter Try.func46, Try.ntmps46
      go_wp2_with fail
      rw [← ew]
      clear ew
      refine (zmat_Formed_yes _ R1 C1 xs L _ hA h1).mono ?_; rintro e w2 ⟨rfl, b2⟩
      have fb := KB.at b2; have e0 := fb 0; have e1 := fb 1; have e2 := fb 2; clear fb
      go_wp2_with fail
      refine (zmat_Formed_no _ R2 C2 ys M _ (hB.next b2) h2).mono ?_; rintro e w3 ⟨rfl, b3⟩
      clear e0 e1 e2
      replace B0 := B0.trans ((b2.trans (b3.mono b2.size)).mono B0.size)
      go_wp2
      go_ret
      exact ⟨rfl, B0⟩
  · rw [decide_eq_false (show ¬ Al R1 C1 R2 C2 xs.length ys.length from fun h => h1 h.1)]
    go_enter Try.func46, Try.ntmps46
    go_wp2_with fail
    rw [← ew]
    clear ew
    refine (zmat_Formed_no _ R1 C1 xs L _ hA h1).mono ?_; rintro e w2 ⟨rfl, b2⟩
    replace B0 := B0.trans (b2.mono B0.size)
    go_wp2
    go_ret
    exact ⟨rfl, B0⟩

end Go.Proofs.Ytahjbeilddenbaa
