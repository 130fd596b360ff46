/- Package gfp. -/
import Derived.Test.YthghdjpjbngllaaProg
import Derived.Test.YthghdjpjbngllaaLib
import Derived.Test.YthghdjpjbngllaaZp
namespace Go.Proofs.Ythghdjpjbngllaa
open Go.RowKit

/-- A prime that is taken here. -/
def FP (p : Nat) : Prop := 2 ≤ p ∧ p ≤ 2147483647

theorem FP.pos {p : Nat} (h : FP p) : 0 < p := by have := h.1; omega

theorem Zp.fact {p z : Nat} {c : Zp p} (hp : FP p) (h : z = c.val) : z < p ∧ Zp.of p z = c := by
  subst h
  have h1 := c.lt
  have h2 := hp.1
  exact ⟨by omega, Zp.of_val c⟩

theorem Zp.of_is {p z : Nat} {c : Zp p} (hp : FP p) (h1 : z < p) (h2 : Zp.of p z = c) : z = c.val := by
  subst h2; rw [Zp.val_of]
  have h2 := hp.1
  rw [Nat.mod_eq_of_lt (by omega)]

theorem Zp.mod_is {p : Nat} (hp : FP p) (x : Nat) {c : Zp p} (h : Zp.of p x = c) : x % p = c.val :=
  Zp.of_is hp (Nat.mod_lt _ hp.pos) (by rw [Zp.of_mod, h])

theorem wrap_u64 (n : Nat) (h : n < 18446744073709551616) : IntKind.u64.wrap (n : Int) = (n : Int) := IntWalk.u64_in _ ⟨by omega, by omega⟩

/-- Where the block of a field is. -/
structure Box (w w' : World) (g : Nat) : Prop where
  lt : g < w'.heap.size
  below : Below w.heap.size w w'

theorem Box.next {w w1 w2 : World} {g : Nat} (h : Box w w1 g) (b : Below w1.heap.size w1 w2) : Box w w2 g :=
  ⟨Nat.lt_of_lt_of_le h.lt b.size, h.below.trans (b.mono h.below.size)⟩
theorem Box.drew {w w1 : World} {g : Nat} (h : Box w w1 g) (n : Nat) : Box w (w1.drewN n) g :=
  ⟨h.lt, h.below.trans (Drawn.below ⟨n, rfl⟩ _)⟩

theorem gfp_P (p : Nat) (w : World) (hp : FP p) :
    Calls Try.prog 130 #[.agg #[.int .u64 p]] w fun e w' => e = .returned (.int .u64 p) ∧ Below w.heap.size w w' := by
  obtain ⟨h1, h2⟩ := hp
  have hz : ((p : Int) == 0) = false := by simpa using (show p ≠ 0 by omega)
  go_enter Try.func130, Try.ntmps130
  go_wp2
  go_ret
  exact ⟨rfl, (Below.refl _ _).alloc (Nat.le_refl _) _⟩

theorem gfp_Norm (p a : Nat) (w : World) (hp : FP p) :
    Calls Try.prog 124 #[.agg #[.int .u64 p], .int .u64 a] w fun e w' => e = .returned (.int .u64 (a % p : Nat)) ∧ Below w.heap.size w w' := by
  have h1 := hp.1
  have hz : ((p : Int) == 0) = false := by simpa using (show p ≠ 0 by omega)
  go_enter Try.func124, Try.ntmps124
  go_wp2_with fail
  refine (gfp_P p _ hp).mono ?_; rintro e w' ⟨rfl, b1⟩
  go_wp2
  go_ret
  exact ⟨rfl, ((Below.refl _ _).alloc (Nat.le_refl _) _).trans (b1.mono (by simp))⟩

set_option maxHeartbeats 2000000 in
theorem gfp_Add (p a b z : Nat) (w : World) (hp : FP p) (hz : z = (Zp.of p a + Zp.of p b).val) :
    Calls Try.prog 95 #[.agg #[.int .u64 p], .int .u64 a, .int .u64 b] w fun e w' => e = .returned (.int .u64 (z : Nat)) ∧ Below w.heap.size w w' := by
  have ha := Nat.mod_lt a hp.pos
  have hb := Nat.mod_lt b hp.pos
  have c1 := fun w => gfp_Norm p a w hp
  have c2 := fun w => gfp_Norm p b w hp
  have c3 := fun w => gfp_P p w hp
  have hr : (a % p + b % p) % p = z := by
    rw [hz]; exact Zp.mod_is hp _ (by rw [Zp.of_add, Zp.of_mod, Zp.of_mod])
  clear hz
  obtain ⟨x, ex⟩ : ∃ x, x = a % p := ⟨_, rfl⟩
  obtain ⟨y, ey⟩ : ∃ y, y = b % p := ⟨_, rfl⟩
  rw [← ex] at c1 ha hr
  rw [← ey] at c2 hb hr
  obtain ⟨h1, h2⟩ := hp
  have HR := Lib.hid hr
  have C1 := Lib.hid c1
  have C2 := Lib.hid c2
  have C3 := Lib.hid c3
  clear c1 c2 c3 ex ey hr
  have hz0 : ((p : Int) == 0) = false := by simpa using (show p ≠ 0 by omega)
  have hz1 : ¬ p = 0 := by omega
  have hz2 : ¬ (p : Int) = 0 := by omega
  have s1 : IntKind.u64.wrap ((x : Int) + (y : Int)) = ((x + y : Nat) : Int) := by rw [← Int.natCast_add]; exact wrap_u64 _ (by omega)
  have B : Below w.heap.size w (w.alloc (.cells #[.int .u64 p] 29)) := (Below.refl _ _).alloc (Nat.le_refl _) _
  have hcp : (w.alloc (.cells #[.int .u64 p] 29)).cell? ⟨w.heap.size, 0, none⟩ = some (.int .u64 p) := (World.ownsRow_lit w #[.int .u64 p] 1 (Nat.le_refl _) (by unfold maxLen; omega) rfl : Own .u64 29 (w.alloc (.cells #[.int .u64 p] 29)) w.heap.size (.slice (some ⟨w.heap.size, 0, none⟩) 1 1) [p]).cellAt 0 (by simp)
  have hg : w.heap.size < (w.alloc (.cells #[.int .u64 p] 29)).heap.size := by simp
  go_enter Try.func95, Try.ntmps95
  go_wp2_with fail
  generalize w.alloc (.cells #[.int .u64 p] 29) = wb at *
  obtain ⟨g, eg⟩ : ∃ g, g = w.heap.size := ⟨_, rfl⟩
  rw [← eg] at hcp hg ⊢
  have EG := Lib.hid eg; clear eg
  go_upto_region 1 with (fail)
  go_cut [6] (fun v wx => v = .int .u64 (z : Nat) ∧ Below w.heap.size w wx)
  case first =>
    have hbox : Box w wb.drew g := ⟨hg, B.trans (Drawn.below ⟨1, rfl⟩ _)⟩
    go_region_held3 (fun w' => w'.cell? ⟨g, 0, none⟩ = some (.int .u64 (p : Int)) ∧ Box w w' g) (first | (exact ⟨hcp, hbox⟩) | (go_split_ands; refine ⟨(bn.cell (p := ⟨g, 0, none⟩) (Box.lt (by assumption))).trans (by assumption), Box.next (by assumption) bn⟩))
      ((first
        | (go_at_call_of 124 (Value.int .u64 (a : Int)); refine (C1.out _).mono ?_; rintro e wn ⟨rfl, bn⟩)
        | (go_at_call_of 124 (Value.int .u64 (b : Int)); refine (C2.out _).mono ?_; rintro e wn ⟨rfl, bn⟩)
        | (go_at_call_of 130 (Value.agg #[.int .u64 (p : Int)]); refine (C3.out _).mono ?_; rintro e wn ⟨rfl, bn⟩)))
    all_goals (go_wp2_with fail; go_meet)
    all_goals (rename_i hh; exact ⟨by rw [← HR.out]; rfl, hh.2.below⟩)
  case rest =>
    obtain ⟨rfl, b⟩ := hcut
    go_wp2
    go_ret
    exact ⟨rfl, b⟩

set_option maxHeartbeats 2000000 in
theorem gfp_Sub (p a b z : Nat) (w : World) (hp : FP p) (hz : z = (Zp.of p a - Zp.of p b).val) :
    Calls Try.prog 119 #[.agg #[.int .u64 p], .int .u64 a, .int .u64 b] w fun e w' => e = .returned (.int .u64 (z : Nat)) ∧ Below w.heap.size w w' := by
  have ha := Nat.mod_lt a hp.pos
  have hb := Nat.mod_lt b hp.pos
  have c1 := fun w => gfp_Norm p a w hp
  have c2 := fun w => gfp_Norm p b w hp
  have c3 := fun w => gfp_P p w hp
  have hr : (a % p + p - b % p) % p = z := by
    rw [hz]; exact Zp.mod_is hp _ (Zp.of_sub p a b hp.pos)
  clear hz
  obtain ⟨x, ex⟩ : ∃ x, x = a % p := ⟨_, rfl⟩
  obtain ⟨y, ey⟩ : ∃ y, y = b % p := ⟨_, rfl⟩
  rw [← ex] at c1 ha hr
  rw [← ey] at c2 hb hr
  obtain ⟨h1, h2⟩ := hp
  have HR := Lib.hid hr
  have C1 := Lib.hid c1
  have C2 := Lib.hid c2
  have C3 := Lib.hid c3
  clear c1 c2 c3 ex ey hr
  have hz0 : ((p : Int) == 0) = false := by simpa using (show p ≠ 0 by omega)
  have hz1 : ¬ p = 0 := by omega
  have hz2 : ¬ (p : Int) = 0 := by omega
  have s1 : IntKind.u64.wrap ((x : Int) + (p : Int)) = ((x + p : Nat) : Int) := by rw [← Int.natCast_add]; exact wrap_u64 _ (by omega)
  have s2 : IntKind.u64.wrap (((x + p : Nat) : Int) - (y : Int)) = ((x + p - y : Nat) : Int) := by rw [← Int.ofNat_sub (by omega)]; exact wrap_u64 _ (by omega)
  have B : Below w.heap.size w (w.alloc (.cells #[.int .u64 p] 29)) := (Below.refl _ _).alloc (Nat.le_refl _) _
  have hcp : (w.alloc (.cells #[.int .u64 p] 29)).cell? ⟨w.heap.size, 0, none⟩ = some (.int .u64 p) := (World.ownsRow_lit w #[.int .u64 p] 1 (Nat.le_refl _) (by unfold maxLen; omega) rfl : Own .u64 29 (w.alloc (.cells #[.int .u64 p] 29)) w.heap.size (.slice (some ⟨w.heap.size, 0, none⟩) 1 1) [p]).cellAt 0 (by simp)
  have hg : w.heap.size < (w.alloc (.cells #[.int .u64 p] 29)).heap.size := by simp
  go_enter Try.func119, Try.ntmps119
  go_wp2_with fail
  generalize w.alloc (.cells #[.int .u64 p] 29) = wb at *
  obtain ⟨g, eg⟩ : ∃ g, g = w.heap.size := ⟨_, rfl⟩
  rw [← eg] at hcp hg ⊢
  have EG := Lib.hid eg; clear eg
  go_upto_region 1 with (fail)
  go_cut [6] (fun v wx => v = .int .u64 (z : Nat) ∧ Below w.heap.size w wx)
  case first =>
    have hbox : Box w wb.drew g := ⟨hg, B.trans (Drawn.below ⟨1, rfl⟩ _)⟩
    go_region_held3 (fun w' => w'.cell? ⟨g, 0, none⟩ = some (.int .u64 (p : Int)) ∧ Box w w' g) (first | (exact ⟨hcp, hbox⟩) | (go_split_ands; refine ⟨(bn.cell (p := ⟨g, 0, none⟩) (Box.lt (by assumption))).trans (by assumption), Box.next (by assumption) bn⟩))
      ((first
        | (go_at_call_of 124 (Value.int .u64 (a : Int)); refine (C1.out _).mono ?_; rintro e wn ⟨rfl, bn⟩)
        | (go_at_call_of 124 (Value.int .u64 (b : Int)); refine (C2.out _).mono ?_; rintro e wn ⟨rfl, bn⟩)
        | (go_at_call_of 130 (Value.agg #[.int .u64 (p : Int)]); refine (C3.out _).mono ?_; rintro e wn ⟨rfl, bn⟩)))
    all_goals (go_wp2_with fail; go_meet)
    all_goals (rename_i hh; exact ⟨by rw [← HR.out, show (x : Int) + p - y = ((x + p - y : Nat) : Int) by omega, wrap_u64 _ (by omega)]; rfl, hh.2.below⟩)
  case rest =>
    obtain ⟨rfl, b⟩ := hcut
    go_wp2
    go_ret
    exact ⟨rfl, b⟩

set_option maxHeartbeats 2000000 in
theorem gfp_Mul (p a b z : Nat) (w : World) (hp : FP p) (hz : z = (Zp.of p a * Zp.of p b).val) :
    Calls Try.prog 96 #[.agg #[.int .u64 p], .int .u64 a, .int .u64 b] w fun e w' => e = .returned (.int .u64 (z : Nat)) ∧ Below w.heap.size w w' := by
  have ha := Nat.mod_lt a hp.pos
  have hb := Nat.mod_lt b hp.pos
  have c1 := fun w => gfp_Norm p a w hp
  have c2 := fun w => gfp_Norm p b w hp
  have c3 := fun w => gfp_P p w hp
  have hr : ((a % p) * (b % p)) % p = z := by
    rw [hz]; exact Zp.mod_is hp _ (by rw [Zp.of_mul, Zp.of_mod, Zp.of_mod])
  clear hz
  obtain ⟨x, ex⟩ : ∃ x, x = a % p := ⟨_, rfl⟩
  obtain ⟨y, ey⟩ : ∃ y, y = b % p := ⟨_, rfl⟩
  rw [← ex] at c1 ha hr
  rw [← ey] at c2 hb hr
  obtain ⟨h1, h2⟩ := hp
  have HR := Lib.hid hr
  have C1 := Lib.hid c1
  have C2 := Lib.hid c2
  have C3 := Lib.hid c3
  clear c1 c2 c3 ex ey hr
  have hz0 : ((p : Int) == 0) = false := by simpa using (show p ≠ 0 by omega)
  have hz1 : ¬ p = 0 := by omega
  have hz2 : ¬ (p : Int) = 0 := by omega
  have s0 : x * y < 18446744073709551616 := Nat.lt_of_le_of_lt (Nat.mul_le_mul (Nat.le_of_lt (Nat.lt_of_lt_of_le ha h2)) (Nat.le_of_lt (Nat.lt_of_lt_of_le hb h2))) (by decide)
  have s1 : IntKind.u64.wrap ((x : Int) * (y : Int)) = ((x * y : Nat) : Int) := by rw [← Int.natCast_mul]; exact wrap_u64 _ s0
  have B : Below w.heap.size w (w.alloc (.cells #[.int .u64 p] 29)) := (Below.refl _ _).alloc (Nat.le_refl _) _
  have hcp : (w.alloc (.cells #[.int .u64 p] 29)).cell? ⟨w.heap.size, 0, none⟩ = some (.int .u64 p) := (World.ownsRow_lit w #[.int .u64 p] 1 (Nat.le_refl _) (by unfold maxLen; omega) rfl : Own .u64 29 (w.alloc (.cells #[.int .u64 p] 29)) w.heap.size (.slice (some ⟨w.heap.size, 0, none⟩) 1 1) [p]).cellAt 0 (by simp)
  have hg : w.heap.size < (w.alloc (.cells #[.int .u64 p] 29)).heap.size := by simp
  go_enter Try.func96, Try.ntmps96
  go_wp2_with fail
  generalize w.alloc (.cells #[.int .u64 p] 29) = wb at *
  obtain ⟨g, eg⟩ : ∃ g, g = w.heap.size := ⟨_, rfl⟩
  rw [← eg] at hcp hg ⊢
  have EG := Lib.hid eg; clear eg
  go_upto_region 1 with (fail)
  go_cut [6] (fun v wx => v = .int .u64 (z : Nat) ∧ Below w.heap.size w wx)
  case first =>
    have hbox : Box w wb.drew g := ⟨hg, B.trans (Drawn.below ⟨1, rfl⟩ _)⟩
    go_region_held3 (fun w' => w'.cell? ⟨g, 0, none⟩ = some (.int .u64 (p : Int)) ∧ Box w w' g) (first | (exact ⟨hcp, hbox⟩) | (go_split_ands; refine ⟨(bn.cell (p := ⟨g, 0, none⟩) (Box.lt (by assumption))).trans (by assumption), Box.next (by assumption) bn⟩))
      ((first
        | (go_at_call_of 124 (Value.int .u64 (a : Int)); refine (C1.out _).mono ?_; rintro e wn ⟨rfl, bn⟩)
        | (go_at_call_of 124 (Value.int .u64 (b : Int)); refine (C2.out _).mono ?_; rintro e wn ⟨rfl, bn⟩)
        | (go_at_call_of 130 (Value.agg #[.int .u64 (p : Int)]); refine (C3.out _).mono ?_; rintro e wn ⟨rfl, bn⟩)))
    all_goals (go_wp2_with fail; go_meet)
    all_goals (rename_i hh; exact ⟨by rw [← HR.out]; rfl, hh.2.below⟩)
  case rest =>
    obtain ⟨rfl, b⟩ := hcut
    go_wp2
    go_ret
    exact ⟨rfl, b⟩

end Go.Proofs.Ythghdjpjbngllaa
