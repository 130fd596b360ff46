/- More functions of package nat: Of, Norm, Cmp, Sub. -/
import Derived.Test.YtnnidjhhcnmnnaaDoorNat
namespace Go.Proofs.YtnnidjhhcnmnnaaDoor
open Go.RowKit

set_option maxHeartbeats 400000 in
theorem nat_Of (x : Nat) (hx : x < W64) (w : World) : Calls Tryd.prog 13 #[.int .u64 x] w (RetN w 1 x) := by
  by_cases h0 : x = 0
  · subst h0
    go_enter Tryd.func13, Tryd.ntmps13
    go_wp2
    go_ret
    exact ⟨_, [], rfl, Own.nil _ _ _ _, nrm_nil _, rfl, by simp, Below.refl _ _⟩
  · have h1 : ((x : Int) == 0) = false := by simpa using h0
    go_enter Tryd.func13, Tryd.ntmps13
    go_wp2
    go_ret
    refine ⟨_, [x], rfl, ?_, ⟨wf_cons hx (wf_nil _), by simp [tr, h0]⟩, by simp [nv], by simp, (Below.refl _ _).alloc (Nat.le_refl _) _⟩
    exact World.ownsRow_lit w #[.int .u64 x] 1 (Nat.le_refl _) (by unfold maxLen; omega) rfl

theorem Own.of_nil {k : IntKind} {e : TypeId} {w : World} {base : Nat} {v : Value} {xs : List Nat} (h : Own k e w base v xs) (h0 : v = .slice none 0 0) : xs = [] := by
  rcases h.shape with ⟨_, h⟩ | ⟨g, cap, h, _⟩
  · exact h
  · rw [h0] at h; simp at h

/-- 'normal' of what is owned, nil or not. -/
theorem nat_normal_any (v : Value) (xs : List Nat) (w : World) (base : Nat) (ho : Own .u64 29 w base v xs) (hm : xs.length ≤ 1000000000) :
    Calls Tryd.prog 26 #[v] w fun e w' => ∃ r, e = .returned r ∧ Own .u64 29 w base r (tr xs) ∧ w = w' := by
  rcases ho.shape with ⟨rfl, rfl⟩ | ⟨g, cap, rfl, h1, h2, h3, h4⟩
  · exact (nat_normal none 0 0 0 [] w ⟨fun h => absurd rfl h, fun j hj => by simp at hj⟩ (by simp) (by simp)).mono fun e w' ⟨he, hw⟩ => ⟨_, he, Own.nil _ _ _ _, hw⟩
  · exact nat_normal_own g _ cap xs w base ho rfl h3 hm

/-- The order of numbers. -/
def cmpN (a b : Nat) : Int := if a < b then -1 else if b < a then 1 else 0
theorem cmpN_lt {a b : Nat} (h : a < b) : cmpN a b = -1 := by unfold cmpN; rw [if_pos h]
theorem cmpN_gt {a b : Nat} (h : b < a) : cmpN a b = 1 := by unfold cmpN; rw [if_neg (by omega), if_pos h]
theorem cmpN_eq {a b : Nat} (h : a = b) : cmpN a b = 0 := by unfold cmpN; rw [if_neg (by omega), if_neg (by omega)]

theorem ret_i64 {a b : Int} (h : a = b) : Ending.returned (.int .i64 a) = Ending.returned (.int .i64 b) := by rw [h]

end Go.Proofs.YtnnidjhhcnmnnaaDoor
