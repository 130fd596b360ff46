/- Package fmat: what a matrix reads as; the word at a place; which are formed, which alike. -/
import Derived.Test.YthghdjpjbngllaaZeBoxes
import Derived.Test.YthghdjpjbngllaaZeFtab
import Derived.Test.YthghdjpjbngllaaZeFz
namespace Go.Proofs.Ythghdjpjbngllaa
open Go.RowKit

def RetW (w : World) (v : Value) (e : Ending) (w' : World) : Prop := e = .returned v ∧ Below w.heap.size w w'

/-- A value reads as a matrix of words (formed or not). -/
def Fm (w : World) (v : Value) (R C : Int) (xs : List Nat) : Prop := ∃ u, v = .agg #[.int .i64 R, .int .i64 C, u] ∧ Sl .u64 w u xs
theorem Fm.next {w w' : World} {v : Value} {R C : Int} {xs : List Nat} (h : Fm w v R C xs) (hb : Below w.heap.size w w') : Fm w' v R C xs := by
  obtain ⟨u, e, hz⟩ := h; exact ⟨u, e, hz.next hb⟩
theorem Fm.agg {w : World} {v : Value} {R C : Int} {xs : List Nat} (h : Fm w v R C xs) : ∃ ao c, v = .agg #[.int .i64 R, .int .i64 C, .slice ao xs.length c] := by
  obtain ⟨u, e, ao, b, off, cap, rfl, -⟩ := h; exact ⟨ao, cap, e⟩

/-- A side that may be. -/
def Sd (n : Int) : Prop := 0 ≤ n ∧ n ≤ 64
instance (n : Int) : Decidable (Sd n) := by unfold Sd; exact inferInstance
/-- Formed: the sides may be, and there are as many words. -/
def Fd (R C : Int) (n : Nat) : Prop := Sd R ∧ Sd C ∧ (n : Int) = R * C
instance (R C : Int) (n : Nat) : Decidable (Fd R C n) := by unfold Fd; exact inferInstance
theorem Sd.mul {R C : Int} (hR : Sd R) (hC : Sd C) : IntKind.i64.wrap (R * C) = R * C := by
  have h1 : 0 ≤ R * C := Int.mul_nonneg hR.1 hC.1
  have h2 : R * C ≤ 64 * 64 := Int.mul_le_mul hR.2 hC.2 hC.1 (by omega)
  exact IntWalk.i64_in _ ⟨by omega, by omega⟩
theorem Fd.of {r c n : Nat} (hr : r ≤ 64) (hc : c ≤ 64) (hn : n = r * c) : Fd r c n := ⟨⟨by omega, by omega⟩, ⟨by omega, by omega⟩, by rw [hn, Int.natCast_mul]⟩
theorem Fd.nat {R C : Int} {n : Nat} (h : Fd R C n) : ∃ r c : Nat, R = r ∧ C = c ∧ r ≤ 64 ∧ c ≤ 64 ∧ n = r * c := by
  obtain ⟨⟨h1, h2⟩, ⟨h3, h4⟩, h5⟩ := h
  obtain ⟨r, rfl⟩ := Int.eq_ofNat_of_zero_le h1
  obtain ⟨c, rfl⟩ := Int.eq_ofNat_of_zero_le h3
  refine ⟨r, c, rfl, rfl, by omega, by omega, ?_⟩
  rw [← Int.natCast_mul] at h5; exact Int.ofNat.inj h5
/-- Both formed, of the same sides. -/
def Al (R1 C1 R2 C2 : Int) (m n : Nat) : Prop := Fd R1 C1 m ∧ Fd R2 C2 n ∧ R1 = R2 ∧ C1 = C2
instance (R1 C1 R2 C2 : Int) (m n : Nat) : Decidable (Al R1 C1 R2 C2 m n) := by unfold Al; exact inferInstance

theorem fm_get (v : Value) (R : Int) (c i k : Nat) (xs : List Nat) (w : World) (hm : Fm w v R c xs) (hi : i ≤ 100000) (hc : c ≤ 100000) (hk : k ≤ 100000) (hj : i * c + k < xs.length) (x : Nat) (hx : x = xs.getD (i * c + k) 0) :
    Calls Try.prog 97 #[v, .int .i64 i, .int .i64 k] w (RetW w (.int .u64 (x : Nat))) := by
  obtain ⟨u, rfl, ao, b, off, cap, rfl, hcap, hz⟩ := hm
  have ha := hz.ao (by intro h; subst h; simp at hj)
  subst ha
  obtain ⟨wb, ew, KA, B0, hsz⟩ := boxes1 w 42 [.int .i64 R, .int .i64 c, .slice (some ⟨b, off, none⟩) xs.length cap]
  clear hsz
  have hw : i * c ≤ 100000 * 100000 := Nat.mul_le_mul hi hc
  have h1 : IntKind.i64.wrap ((i : Int) * (c : Int)) = ((i * c : Nat) : Int) := by rw [← Int.natCast_mul]; exact IntWalk.i64_in _ ⟨by omega, by omega⟩
  have h2 : IntKind.i64.wrap ((k : Int) + ((i * c : Nat) : Int)) = ((i * c + k : Nat) : Int) := by rw [← Int.natCast_add, Nat.add_comm]; exact IntWalk.i64_in _ ⟨by omega, by omega⟩
  have h2' : IntKind.i64.wrap (((i * c : Nat) : Int) + (k : Int)) = ((i * c + k : Nat) : Int) := by rw [← Int.natCast_add]; exact IntWalk.i64_in _ ⟨by omega, by omega⟩
  have q1 := (hz.below B0 (Nat.le_refl _)).cell _ hj
  rw [← hx] at q1
  clear hx
  go_enter Try.func97, Try.ntmps97
  go_upto_region 1 with (fail)
  rw [← ew]
  clear ew h2
  have c1 := KA.cell 1; have c2 := KA.cell 2
  clear KA
  go_wp2
  go_ret
  exact ⟨rfl, B0⟩

theorem fm_one (i k : Nat) (w : World) : Calls Try.prog 133 #[.int .i64 i, .int .i64 k] w (RetW w (.int .u64 (if i = k then 1 else 0 : Nat))) := by
  by_cases h : i = k
  · subst h
    rw [if_pos rfl]
    go_enter Try.func133, Try.ntmps133
    go_wp2
    go_ret
    exact ⟨rfl, Below.refl _ _⟩
  · rw [if_neg h]
    have h2 : ((i : Int) == (k : Int)) = false := beq_eq_false_iff_ne.mpr (fun e => h (Int.ofNat.inj e))
    clear h
    go_enter Try.func133, Try.ntmps133
    go_wp2
    go_ret
    exact ⟨rfl, Below.refl _ _⟩

theorem fm_side_yes (n : Int) (w : World) (h : Sd n) : Calls Try.prog 129 #[.int .i64 n] w fun e w' => e = .returned (.bool true) ∧ w = w' := by
  have h1 := h.1; have h2 := h.2
  have d1 : decide (n ≥ 0) = true := decide_eq_true h1
  go_enter Try.func129, Try.ntmps129
  go_wp2
  go_ret
  simp
theorem fm_side_no (n : Int) (w : World) (h : ¬ Sd n) : Calls Try.prog 129 #[.int .i64 n] w fun e w' => e = .returned (.bool false) ∧ w = w' := by
  by_cases h1 : 0 ≤ n
  · have h2 : ¬ n ≤ 64 := fun h2 => h ⟨h1, h2⟩
    go_enter Try.func129, Try.ntmps129
    go_wp2
    go_ret
    simp
  · go_enter Try.func129, Try.ntmps129
    go_wp2
    go_ret
    simp

theorem fm_Formed (v : Value) (R C : Int) (xs : List Nat) (w : World) (hm : Fm w v R C xs) :
    Calls Try.prog 92 #[v] w (RetW w (.bool (decide (Fd R C xs.length)))) := by
  obtain ⟨ao, cp, rfl⟩ := hm.agg
  obtain ⟨wb, ew, KA, B0, hsz⟩ := boxes1 w 42 [.int .i64 R, .int .i64 C, .slice ao xs.length cp]
  clear hsz hm
  by_cases hR : Sd R
  · by_cases hC : Sd C
    · have hw : IntKind.i64.wrap (R * C) = R * C := Sd.mul hR hC
      by_cases hn : (xs.length : Int) = R * C
      · rw [decide_eq_true (show Fd R C xs.length from ⟨hR, hC, hn⟩)]
        have hn2 : ((xs.length : Int) == R * C) = true := by simp [hn]
        clear hn
        go_enter Try.func92, Try.ntmps92
        go_wp2_with fail
        refine (fm_side_yes R _ hR).mono ?_; rintro e w2 ⟨rfl, rfl⟩
        go_wp2_with fail
        refine (fm_side_yes C _ hC).mono ?_; rintro e w2 ⟨rfl, rfl⟩
        go_wp2
        rw [← ew]
        go_ret
        exact ⟨by simp, B0⟩
      · rw [decide_eq_false (show ¬ Fd R C xs.length from fun h => hn h.2.2)]
        have hn2 : ((xs.length : Int) == R * C) = false := by simp [hn]
        clear hn
        go_enter Try.func92, Try.ntmps92
        go_wp2_with fail
        refine (fm_side_yes R _ hR).mono ?_; rintro e w2 ⟨rfl, rfl⟩
        go_wp2_with fail
        refine (fm_side_yes C _ hC).mono ?_; rintro e w2 ⟨rfl, rfl⟩
        go_wp2
        rw [← ew]
        go_ret
        exact ⟨by simp, B0⟩
    · rw [decide_eq_false (show ¬ Fd R C xs.length from fun h => hC h.2.1)]
      go_enter Try.func92, Try.ntmps92
      go_wp2_with fail
      refine (fm_side_yes R _ hR).mono ?_; rintro e w2 ⟨rfl, rfl⟩
      go_wp2_with fail
      refine (fm_side_no C _ hC).mono ?_; rintro e w2 ⟨rfl, rfl⟩
      go_wp2
      rw [← ew]
      go_ret
      exact ⟨rfl, B0⟩
  · rw [decide_eq_false (show ¬ Fd R C xs.length from fun h => hR h.1)]
    go_enter Try.func92, Try.ntmps92
    go_wp2_with fail
    refine (fm_side_no R _ hR).mono ?_; rintro e w2 ⟨rfl, rfl⟩
    go_wp2
    rw [← ew]
    go_ret
    exact ⟨rfl, B0⟩
theorem fm_Formed_yes (v : Value) (R C : Int) (xs : List Nat) (w : World) (hm : Fm w v R C xs) (h : Fd R C xs.length) : Calls Try.prog 92 #[v] w (RetW w (.bool true)) := by
  have := fm_Formed v R C xs w hm
  rwa [decide_eq_true h] at this
theorem fm_Formed_no (v : Value) (R C : Int) (xs : List Nat) (w : World) (hm : Fm w v R C xs) (h : ¬ Fd R C xs.length) : Calls Try.prog 92 #[v] w (RetW w (.bool false)) := by
  have := fm_Formed v R C xs w hm
  rwa [decide_eq_false h] at this

end Go.Proofs.Ythghdjpjbngllaa
