/- Package gfp. -/
import Derived.Test.YthghdjpjbngllaaProg
import Derived.Test.YthghdjpjbngllaaZfLib
import Derived.Test.YthghdjpjbngllaaZfZp
import Derived.Test.YthghdjpjbngllaaZfFermat
namespace Go.Proofs.Ythghdjpjbngllaa
open Go.RowKit

/-- A prime that is taken here. -/
def FP (p : Nat) : Prop := 2 ≤ p ∧ p ≤ 2147483647

theorem FP.pos {p : Nat} (h : FP p) : 0 < p := by have := h.1; omega

theorem Zp.fact {p z : Nat} {c : Zp p} (hp : FP p) (h : z = c.val) : z < p ∧ Zp.of p z = c := by
  subst h
  have h1 := c.lt
  have h2 := hp.1
  exact ⟨by omega, Zp.of_val c⟩

theorem Zp.of_is {p z : Nat} {c : Zp p} (hp : FP p) (h1 : z < p) (h2 : Zp.of p z = c) : z = c.val := by
  subst h2; rw [Zp.val_of]
  have h2 := hp.1
  rw [Nat.mod_eq_of_lt (by omega)]

theorem Zp.mod_is {p : Nat} (hp : FP p) (x : Nat) {c : Zp p} (h : Zp.of p x = c) : x % p = c.val :=
  Zp.of_is hp (Nat.mod_lt _ hp.pos) (by rw [Zp.of_mod, h])

theorem wrap_u64 (n : Nat) (h : n < 18446744073709551616) : IntKind.u64.wrap (n : Int) = (n : Int) := IntWalk.u64_in _ ⟨by omega, by omega⟩

/-- Where the block of a field is. -/
structure Box (w w' : World) (g : Nat) : Prop where
  lt : g < w'.heap.size
  below : Below w.heap.size w w'

theorem Box.next {w w1 w2 : World} {g : Nat} (h : Box w w1 g) (b : Below w1.heap.size w1 w2) : Box w w2 g :=
  ⟨Nat.lt_of_lt_of_le h.lt b.size, h.below.trans (b.mono h.below.size)⟩
theorem Box.drew {w w1 : World} {g : Nat} (h : Box w w1 g) (n : Nat) : Box w (w1.drewN n) g :=
  ⟨h.lt, h.below.trans (Drawn.below ⟨n, rfl⟩ _)⟩

theorem gfp_P (p : Nat) (w : World) (hp : FP p) :
    Calls Try.prog 130 #[.agg #[.int .u64 p]] w fun e w' => e = .returned (.int .u64 p) ∧ Below w.heap.size w w' := by
  obtain ⟨h1, h2⟩ := hp
  have hz : ((p : Int) == 0) = false := by simpa using (show p ≠ 0 by omega)
  go_enter Try.func130, Try.ntmps130
  go_wp2
  go_ret
  exact ⟨rfl, (Below.refl _ _).alloc (Nat.le_refl _) _⟩

theorem gfp_Norm (p a : Nat) (w : World) (hp : FP p) :
    Calls Try.prog 124 #[.agg #[.int .u64 p], .int .u64 a] w fun e w' => e = .returned (.int .u64 (a % p : Nat)) ∧ Below w.heap.size w w' := by
  have h1 := hp.1
  have hz : ((p : Int) == 0) = false := by simpa using (show p ≠ 0 by omega)
  go_enter Try.func124, Try.ntmps124
  go_wp2_with fail
  refine (gfp_P p _ hp).mono ?_; rintro e w' ⟨rfl, b1⟩
  go_wp2
  go_ret
  exact ⟨rfl, ((Below.refl _ _).alloc (Nat.le_refl _) _).trans (b1.mono (by simp))⟩

set_option maxHeartbeats 2000000 in
theorem gfp_Add (p a b z : Nat) (w : World) (hp : FP p) (hz : z = (Zp.of p a + Zp.of p b).val) :
    Calls Try.prog 95 #[.agg #[.int .u64 p], .int .u64 a, .int .u64 b] w fun e w' => e = .returned (.int .u64 (z : Nat)) ∧ Below w.heap.size w w' := by
  have ha := Nat.mod_lt a hp.pos
  have hb := Nat.mod_lt b hp.pos
  have c1 := fun w => gfp_Norm p a w hp
  have c2 := fun w => gfp_Norm p b w hp
  have c3 := fun w => gfp_P p w hp
  have hr : (a % p + b % p) % p = z := by
    rw [hz]; exact Zp.mod_is hp _ (by rw [Zp.of_add, Zp.of_mod, Zp.of_mod])
  clear hz
  obtain ⟨x, ex⟩ : ∃ x, x = a % p := ⟨_, rfl⟩
  obtain ⟨y, ey⟩ : ∃ y, y = b % p := ⟨_, rfl⟩
  rw [← ex] at c1 ha hr
  rw [← ey] at c2 hb hr
  obtain ⟨h1, h2⟩ := hp
  have HR := Lib.hid hr
  have C1 := Lib.hid c1
  have C2 := Lib.hid c2
  have C3 := Lib.hid c3
  clear c1 c2 c3 ex ey hr
  have hz0 : ((p : Int) == 0) = false := by simpa using (show p ≠ 0 by omega)
  have hz1 : ¬ p = 0 := by omega
  have hz2 : ¬ (p : Int) = 0 := by omega
  have s1 : IntKind.u64.wrap ((x : Int) + (y : Int)) = ((x + y : Nat) : Int) := by rw [← Int.natCast_add]; exact wrap_u64 _ (by omega)
  have B : Below w.heap.size w (w.alloc (.cells #[.int .u64 p] 29)) := (Below.refl _ _).alloc (Nat.le_refl _) _
  have hcp : (w.alloc (.cells #[.int .u64 p] 29)).cell? ⟨w.heap.size, 0, none⟩ = some (.int .u64 p) := (World.ownsRow_lit w #[.int .u64 p] 1 (Nat.le_refl _) (by unfold maxLen; omega) rfl : Own .u64 29 (w.alloc (.cells #[.int .u64 p] 29)) w.heap.size (.slice (some ⟨w.heap.size, 0, none⟩) 1 1) [p]).cellAt 0 (by simp)
  have hg : w.heap.size < (w.alloc (.cells #[.int .u64 p] 29)).heap.size := by simp
  go_enter Try.func95, Try.ntmps95
  go_wp2_with fail
  generalize w.alloc (.cells #[.int .u64 p] 29) = wb at *
  obtain ⟨g, eg⟩ : ∃ g, g = w.heap.size := ⟨_, rfl⟩
  rw [← eg] at hcp hg ⊢
  have EG := Lib.hid eg; clear eg
  go_upto_region 1 with (fail)
  go_cut [6] (fun v wx => v = .int .u64 (z : Nat) ∧ Below w.heap.size w wx)
  case first =>
    have hbox : Box w wb.drew g := ⟨hg, B.trans (Drawn.below ⟨1, rfl⟩ _)⟩
    go_region_held3 (fun w' => w'.cell? ⟨g, 0, none⟩ = some (.int .u64 (p : Int)) ∧ Box w w' g) (first | (exact ⟨hcp, hbox⟩) | (go_split_ands; refine ⟨(bn.cell (p := ⟨g, 0, none⟩) (Box.lt (by assumption))).trans (by assumption), Box.next (by assumption) bn⟩))
      ((first
        | (go_at_call_of 124 (Value.int .u64 (a : Int)); refine (C1.out _).mono ?_; rintro e wn ⟨rfl, bn⟩)
        | (go_at_call_of 124 (Value.int .u64 (b : Int)); refine (C2.out _).mono ?_; rintro e wn ⟨rfl, bn⟩)
        | (go_at_call_of 130 (Value.agg #[.int .u64 (p : Int)]); refine (C3.out _).mono ?_; rintro e wn ⟨rfl, bn⟩)))
    all_goals (go_wp2_with fail; go_meet)
    all_goals (rename_i hh; exact ⟨by rw [← HR.out]; rfl, hh.2.below⟩)
  case rest =>
    obtain ⟨rfl, b⟩ := hcut
    go_wp2
    go_ret
    exact ⟨rfl, b⟩

set_option maxHeartbeats 2000000 in
theorem gfp_Sub (p a b z : Nat) (w : World) (hp : FP p) (hz : z = (Zp.of p a - Zp.of p b).val) :
    Calls Try.prog 119 #[.agg #[.int .u64 p], .int .u64 a, .int .u64 b] w fun e w' => e = .returned (.int .u64 (z : Nat)) ∧ Below w.heap.size w w' := by
  have ha := Nat.mod_lt a hp.pos
  have hb := Nat.mod_lt b hp.pos
  have c1 := fun w => gfp_Norm p a w hp
  have c2 := fun w => gfp_Norm p b w hp
  have c3 := fun w => gfp_P p w hp
  have hr : (a % p + p - b % p) % p = z := by
    rw [hz]; exact Zp.mod_is hp _ (Zp.of_sub p a b hp.pos)
  clear hz
  obtain ⟨x, ex⟩ : ∃ x, x = a % p := ⟨_, rfl⟩
  obtain ⟨y, ey⟩ : ∃ y, y = b % p := ⟨_, rfl⟩
  rw [← ex] at c1 ha hr
  rw [← ey] at c2 hb hr
  obtain ⟨h1, h2⟩ := hp
  have HR := Lib.hid hr
  have C1 := Lib.hid c1
  have C2 := Lib.hid c2
  have C3 := Lib.hid c3
  clear c1 c2 c3 ex ey hr
  have hz0 : ((p : Int) == 0) = false := by simpa using (show p ≠ 0 by omega)
  have hz1 : ¬ p = 0 := by omega
  have hz2 : ¬ (p : Int) = 0 := by omega
  have s1 : IntKind.u64.wrap ((x : Int) + (p : Int)) = ((x + p : Nat) : Int) := by rw [← Int.natCast_add]; exact wrap_u64 _ (by omega)
  have s2 : IntKind.u64.wrap (((x + p : Nat) : Int) - (y : Int)) = ((x + p - y : Nat) : Int) := by rw [← Int.ofNat_sub (by omega)]; exact wrap_u64 _ (by omega)
  have B : Below w.heap.size w (w.alloc (.cells #[.int .u64 p] 29)) := (Below.refl _ _).alloc (Nat.le_refl _) _
  have hcp : (w.alloc (.cells #[.int .u64 p] 29)).cell? ⟨w.heap.size, 0, none⟩ = some (.int .u64 p) := (World.ownsRow_lit w #[.int .u64 p] 1 (Nat.le_refl _) (by unfold maxLen; omega) rfl : Own .u64 29 (w.alloc (.cells #[.int .u64 p] 29)) w.heap.size (.slice (some ⟨w.heap.size, 0, none⟩) 1 1) [p]).cellAt 0 (by simp)
  have hg : w.heap.size < (w.alloc (.cells #[.int .u64 p] 29)).heap.size := by simp
  go_enter Try.func119, Try.ntmps119
  go_wp2_with fail
  generalize w.alloc (.cells #[.int .u64 p] 29) = wb at *
  obtain ⟨g, eg⟩ : ∃ g, g = w.heap.size := ⟨_, rfl⟩
  rw [← eg] at hcp hg ⊢
  have EG := Lib.hid eg; clear eg
  go_upto_region 1 with (fail)
  go_cut [6] (fun v wx => v = .int .u64 (z : Nat) ∧ Below w.heap.size w wx)
  case first =>
    have hbox : Box w wb.drew g := ⟨hg, B.trans (Drawn.below ⟨1, rfl⟩ _)⟩
    go_region_held3 (fun w' => w'.cell? ⟨g, 0, none⟩ = some (.int .u64 (p : Int)) ∧ Box w w' g) (first | (exact ⟨hcp, hbox⟩) | (go_split_ands; refine ⟨(bn.cell (p := ⟨g, 0, none⟩) (Box.lt (by assumption))).trans (by assumption), Box.next (by assumption) bn⟩))
      ((first
        | (go_at_call_of 124 (Value.int .u64 (a : Int)); refine (C1.out _).mono ?_; rintro e wn ⟨rfl, bn⟩)
        | (go_at_call_of 124 (Value.int .u64 (b : Int)); refine (C2.out _).mono ?_; rintro e wn ⟨rfl, bn⟩)
        | (go_at_call_of 130 (Value.agg #[.int .u64 (p : Int)]); refine (C3.out _).mono ?_; rintro e wn ⟨rfl, bn⟩)))
    all_goals (go_wp2_with fail; go_meet)
    all_goals (rename_i hh; exact ⟨by rw [← HR.out, show (x : Int) + p - y = ((x + p - y : Nat) : Int) by omega, wrap_u64 _ (by omega)]; rfl, hh.2.below⟩)
  case rest =>
    obtain ⟨rfl, b⟩ := hcut
    go_wp2
    go_ret
    exact ⟨rfl, b⟩

set_option maxHeartbeats 2000000 in
theorem gfp_Mul (p a b z : Nat) (w : World) (hp : FP p) (hz : z = (Zp.of p a * Zp.of p b).val) :
    Calls Try.prog 96 #[.agg #[.int .u64 p], .int .u64 a, .int .u64 b] w fun e w' => e = .returned (.int .u64 (z : Nat)) ∧ Below w.heap.size w w' := by
  have ha := Nat.mod_lt a hp.pos
  have hb := Nat.mod_lt b hp.pos
  have c1 := fun w => gfp_Norm p a w hp
  have c2 := fun w => gfp_Norm p b w hp
  have c3 := fun w => gfp_P p w hp
  have hr : ((a % p) * (b % p)) % p = z := by
    rw [hz]; exact Zp.mod_is hp _ (by rw [Zp.of_mul, Zp.of_mod, Zp.of_mod])
  clear hz
  obtain ⟨x, ex⟩ : ∃ x, x = a % p := ⟨_, rfl⟩
  obtain ⟨y, ey⟩ : ∃ y, y = b % p := ⟨_, rfl⟩
  rw [← ex] at c1 ha hr
  rw [← ey] at c2 hb hr
  obtain ⟨h1, h2⟩ := hp
  have HR := Lib.hid hr
  have C1 := Lib.hid c1
  have C2 := Lib.hid c2
  have C3 := Lib.hid c3
  clear c1 c2 c3 ex ey hr
  have hz0 : ((p : Int) == 0) = false := by simpa using (show p ≠ 0 by omega)
  have hz1 : ¬ p = 0 := by omega
  have hz2 : ¬ (p : Int) = 0 := by omega
  have s0 : x * y < 18446744073709551616 := Nat.lt_of_le_of_lt (Nat.mul_le_mul (Nat.le_of_lt (Nat.lt_of_lt_of_le ha h2)) (Nat.le_of_lt (Nat.lt_of_lt_of_le hb h2))) (by decide)
  have s1 : IntKind.u64.wrap ((x : Int) * (y : Int)) = ((x * y : Nat) : Int) := by rw [← Int.natCast_mul]; exact wrap_u64 _ s0
  have B : Below w.heap.size w (w.alloc (.cells #[.int .u64 p] 29)) := (Below.refl _ _).alloc (Nat.le_refl _) _
  have hcp : (w.alloc (.cells #[.int .u64 p] 29)).cell? ⟨w.heap.size, 0, none⟩ = some (.int .u64 p) := (World.ownsRow_lit w #[.int .u64 p] 1 (Nat.le_refl _) (by unfold maxLen; omega) rfl : Own .u64 29 (w.alloc (.cells #[.int .u64 p] 29)) w.heap.size (.slice (some ⟨w.heap.size, 0, none⟩) 1 1) [p]).cellAt 0 (by simp)
  have hg : w.heap.size < (w.alloc (.cells #[.int .u64 p] 29)).heap.size := by simp
  go_enter Try.func96, Try.ntmps96
  go_wp2_with fail
  generalize w.alloc (.cells #[.int .u64 p] 29) = wb at *
  obtain ⟨g, eg⟩ : ∃ g, g = w.heap.size := ⟨_, rfl⟩
  rw [← eg] at hcp hg ⊢
  have EG := Lib.hid eg; clear eg
  go_upto_region 1 with (fail)
  go_cut [6] (fun v wx => v = .int .u64 (z : Nat) ∧ Below w.heap.size w wx)
  case first =>
    have hbox : Box w wb.drew g := ⟨hg, B.trans (Drawn.below ⟨1, rfl⟩ _)⟩
    go_region_held3 (fun w' => w'.cell? ⟨g, 0, none⟩ = some (.int .u64 (p : Int)) ∧ Box w w' g) (first | (exact ⟨hcp, hbox⟩) | (go_split_ands; refine ⟨(bn.cell (p := ⟨g, 0, none⟩) (Box.lt (by assumption))).trans (by assumption), Box.next (by assumption) bn⟩))
      ((first
        | (go_at_call_of 124 (Value.int .u64 (a : Int)); refine (C1.out _).mono ?_; rintro e wn ⟨rfl, bn⟩)
        | (go_at_call_of 124 (Value.int .u64 (b : Int)); refine (C2.out _).mono ?_; rintro e wn ⟨rfl, bn⟩)
        | (go_at_call_of 130 (Value.agg #[.int .u64 (p : Int)]); refine (C3.out _).mono ?_; rintro e wn ⟨rfl, bn⟩)))
    all_goals (go_wp2_with fail; go_meet)
    all_goals (rename_i hh; exact ⟨by rw [← HR.out]; rfl, hh.2.below⟩)
  case rest =>
    obtain ⟨rfl, b⟩ := hcut
    go_wp2
    go_ret
    exact ⟨rfl, b⟩

end Go.Proofs.Ythghdjpjbngllaa
/- Package gfp: raise, Inv, New; the statements' primes. -/
namespace Go.Proofs.Ythghdjpjbngllaa
open Go.RowKit

theorem sq_bound {d p : Nat} (h : d * d ≤ p) (hp : p < 2147483648) : d ≤ 46340 := by
  rcases Nat.lt_or_ge 46340 d with h1 | h1
  · exfalso
    have h2 : 46341 * 46341 ≤ d * d := Nat.mul_le_mul h1 h1
    omega
  · exact h1

set_option maxHeartbeats 1000000 in
theorem modn_Prime (p : Nat) (w : World) (ht : Trial p) (hp : p < 2147483648) :
    Calls Try.prog 122 #[.int .u64 p] w fun e w' => e = .returned (.bool true) ∧ w = w' := by
  rcases ht with rfl | ⟨h1, h2, h3⟩
  · go_enter Try.func122, Try.ntmps122
    go_wp2
    go_ret
    exact ⟨rfl, rfl⟩
  · have H3 := Lib.hid h3; clear h3
    have h5 : (p : Int) < 2147483648 := by omega
    have HP := Lib.hid hp; clear hp
    have h4 : ((p : Int) % 2 == 0) = false := by simpa using (show ¬ (p : Int) % 2 = 0 by omega)
    have h6 : decide ((2147483648 : Int) ≤ (p : Int)) = false := decide_eq_false (by omega)
    have h7 : decide ((p : Int) < 2) = false := decide_eq_false (by omega)
    have h8 : ¬ (2147483648 : Int) ≤ (p : Int) := by omega
    have h9 : ¬ (p : Int) < 2 := by omega
    have H2 := Lib.hid h2; clear h2 h5 h1
    go_enter Try.func122, Try.ntmps122
    go_wp2
    go_loop [3] (fun dv => ∃ d : Nat, dv = .int .u64 d ∧ d ≤ 46345 ∧ 3 ≤ d ∧ d % 2 = 1) (fun dv => 46350 - (intOf dv).toNat)
    case atStart => exact ⟨3, rfl, by omega, by omega, by omega⟩
    case round =>
      obtain ⟨d, rfl, hd1, hd2, hd3⟩ := hrel
      have hs : d * d < 18446744073709551616 := Nat.lt_of_le_of_lt (Nat.mul_le_mul hd1 hd1) (by decide)
      have t1 : IntKind.u64.wrap ((d : Int) * (d : Int)) = ((d * d : Nat) : Int) := by rw [← Int.natCast_mul]; exact wrap_u64 _ hs
      have hb := fun h => sq_bound (d := d) (p := p) h HP.out
      have hr := H3.out d hd3 hd2
      obtain ⟨s, es⟩ : ∃ s, s = d * d := ⟨_, rfl⟩
      rw [← es] at t1 hb hr
      have ES := Lib.hid es; clear es hs
      by_cases hle : s ≤ p
      · have hb2 := hb hle
        have hr2 := hr hle
        have t2 : (((p : Int).tmod (d : Int)) == 0) = false := by
          have : (p : Int).tmod (d : Int) = ((p % d : Nat) : Int) := rfl
          rw [this]; exact beq_eq_false_iff_ne.mpr (fun h => hr2 (Int.ofNat.inj h))
        have t3 : (((p : Int) % (d : Int)) == 0) = false := by
          have : (p : Int) % (d : Int) = ((p % d : Nat) : Int) := rfl
          rw [this]; exact beq_eq_false_iff_ne.mpr (fun h => hr2 (Int.ofNat.inj h))
        clear hr hb hr2
        go_wp2
        go_round
        case rel => exact ⟨d + 2, by go_num, by omega, by omega, by omega⟩
        case measure => simp [intOf] <;> omega
      · clear hr hb
        go_wp2
        go_ret
        exact ⟨rfl, rfl⟩

theorem gfp_New (p : Nat) (w : World) (ht : Trial p) (hp : p < 2147483648) :
    Calls Try.prog 72 #[.int .u64 p] w fun e w' => e = .returned (.tuple #[.agg #[.int .u64 p], .bool true]) ∧ Below w.heap.size w w' := by
  go_enter Try.func72, Try.ntmps72
  go_wp2_with fail
  refine (modn_Prime p _ ht hp).mono ?_; rintro e w' ⟨rfl, rfl⟩
  go_wp2
  refine bodyPost_ret (v := .tuple #[.agg #[.int .u64 p], .bool true]) (by simp [results, Try.results72, go_sem]) rfl ⟨rfl, ?_⟩
  exact (Below.refl _ _).alloc (Nat.le_refl _) _

/-- The statements' primes. -/
def Ps (k : Nat) : Nat := [2, 3, 5, 7, 11, 13, 101, 65537, 1000003, 1073741827, 2147483629, 2147483647].getD k 0

set_option maxHeartbeats 4000000 in
theorem ref8_P (n : Nat) (w : World) :
    Calls Try.prog 18 #[.int .u8 n] w fun e w' => e = .returned (.int .u64 (Ps (n % 12) : Nat)) ∧ w = w' := by
  obtain ⟨k, ek⟩ : ∃ k, k = n % 12 := ⟨_, rfl⟩
  have e : (n : Int) % 12 = (k : Int) := by omega
  have hk : k = 0 ∨ k = 1 ∨ k = 2 ∨ k = 3 ∨ k = 4 ∨ k = 5 ∨ k = 6 ∨ k = 7 ∨ k = 8 ∨ k = 9 ∨ k = 10 ∨ k = 11 := by omega
  rw [← ek]
  clear ek
  rcases hk with rfl | rfl | rfl | rfl | rfl | rfl | rfl | rfl | rfl | rfl | rfl | rfl
  · have hi : ∀ w, (Instr.index 91 (.agg #[.int .u64 2, .int .u64 3, .int .u64 5, .int .u64 7, .int .u64 11, .int .u64 13, .int .u64 101, .int .u64 65537, .int .u64 1000003, .int .u64 1073741827, .int .u64 2147483629, .int .u64 2147483647]) (.int .u8 0)).run Try.prog w = .ok (.int .u64 2) w := fun _ => by kernel_rfl
    have e2 : (n : Int) % 12 = 0 := e
    clear e
    go_enter Try.func18, Try.ntmps18
    go_wp2
    go_ret
    exact ⟨rfl, rfl⟩
  · have hi : ∀ w, (Instr.index 91 (.agg #[.int .u64 2, .int .u64 3, .int .u64 5, .int .u64 7, .int .u64 11, .int .u64 13, .int .u64 101, .int .u64 65537, .int .u64 1000003, .int .u64 1073741827, .int .u64 2147483629, .int .u64 2147483647]) (.int .u8 1)).run Try.prog w = .ok (.int .u64 3) w := fun _ => by kernel_rfl
    have e2 : (n : Int) % 12 = 1 := e
    clear e
    go_enter Try.func18, Try.ntmps18
    go_wp2
    go_ret
    exact ⟨rfl, rfl⟩
  · have hi : ∀ w, (Instr.index 91 (.agg #[.int .u64 2, .int .u64 3, .int .u64 5, .int .u64 7, .int .u64 11, .int .u64 13, .int .u64 101, .int .u64 65537, .int .u64 1000003, .int .u64 1073741827, .int .u64 2147483629, .int .u64 2147483647]) (.int .u8 2)).run Try.prog w = .ok (.int .u64 5) w := fun _ => by kernel_rfl
    have e2 : (n : Int) % 12 = 2 := e
    clear e
    go_enter Try.func18, Try.ntmps18
    go_wp2
    go_ret
    exact ⟨rfl, rfl⟩
  · have hi : ∀ w, (Instr.index 91 (.agg #[.int .u64 2, .int .u64 3, .int .u64 5, .int .u64 7, .int .u64 11, .int .u64 13, .int .u64 101, .int .u64 65537, .int .u64 1000003, .int .u64 1073741827, .int .u64 2147483629, .int .u64 2147483647]) (.int .u8 3)).run Try.prog w = .ok (.int .u64 7) w := fun _ => by kernel_rfl
    have e2 : (n : Int) % 12 = 3 := e
    clear e
    go_enter Try.func18, Try.ntmps18
    go_wp2
    go_ret
    exact ⟨rfl, rfl⟩
  · have hi : ∀ w, (Instr.index 91 (.agg #[.int .u64 2, .int .u64 3, .int .u64 5, .int .u64 7, .int .u64 11, .int .u64 13, .int .u64 101, .int .u64 65537, .int .u64 1000003, .int .u64 1073741827, .int .u64 2147483629, .int .u64 2147483647]) (.int .u8 4)).run Try.prog w = .ok (.int .u64 11) w := fun _ => by kernel_rfl
    have e2 : (n : Int) % 12 = 4 := e
    clear e
    go_enter Try.func18, Try.ntmps18
    go_wp2
    go_ret
    exact ⟨rfl, rfl⟩
  · have hi : ∀ w, (Instr.index 91 (.agg #[.int .u64 2, .int .u64 3, .int .u64 5, .int .u64 7, .int .u64 11, .int .u64 13, .int .u64 101, .int .u64 65537, .int .u64 1000003, .int .u64 1073741827, .int .u64 2147483629, .int .u64 2147483647]) (.int .u8 5)).run Try.prog w = .ok (.int .u64 13) w := fun _ => by kernel_rfl
    have e2 : (n : Int) % 12 = 5 := e
    clear e
    go_enter Try.func18, Try.ntmps18
    go_wp2
    go_ret
    exact ⟨rfl, rfl⟩
  · have hi : ∀ w, (Instr.index 91 (.agg #[.int .u64 2, .int .u64 3, .int .u64 5, .int .u64 7, .int .u64 11, .int .u64 13, .int .u64 101, .int .u64 65537, .int .u64 1000003, .int .u64 1073741827, .int .u64 2147483629, .int .u64 2147483647]) (.int .u8 6)).run Try.prog w = .ok (.int .u64 101) w := fun _ => by kernel_rfl
    have e2 : (n : Int) % 12 = 6 := e
    clear e
    go_enter Try.func18, Try.ntmps18
    go_wp2
    go_ret
    exact ⟨rfl, rfl⟩
  · have hi : ∀ w, (Instr.index 91 (.agg #[.int .u64 2, .int .u64 3, .int .u64 5, .int .u64 7, .int .u64 11, .int .u64 13, .int .u64 101, .int .u64 65537, .int .u64 1000003, .int .u64 1073741827, .int .u64 2147483629, .int .u64 2147483647]) (.int .u8 7)).run Try.prog w = .ok (.int .u64 65537) w := fun _ => by kernel_rfl
    have e2 : (n : Int) % 12 = 7 := e
    clear e
    go_enter Try.func18, Try.ntmps18
    go_wp2
    go_ret
    exact ⟨rfl, rfl⟩
  · have hi : ∀ w, (Instr.index 91 (.agg #[.int .u64 2, .int .u64 3, .int .u64 5, .int .u64 7, .int .u64 11, .int .u64 13, .int .u64 101, .int .u64 65537, .int .u64 1000003, .int .u64 1073741827, .int .u64 2147483629, .int .u64 2147483647]) (.int .u8 8)).run Try.prog w = .ok (.int .u64 1000003) w := fun _ => by kernel_rfl
    have e2 : (n : Int) % 12 = 8 := e
    clear e
    go_enter Try.func18, Try.ntmps18
    go_wp2
    go_ret
    exact ⟨rfl, rfl⟩
  · have hi : ∀ w, (Instr.index 91 (.agg #[.int .u64 2, .int .u64 3, .int .u64 5, .int .u64 7, .int .u64 11, .int .u64 13, .int .u64 101, .int .u64 65537, .int .u64 1000003, .int .u64 1073741827, .int .u64 2147483629, .int .u64 2147483647]) (.int .u8 9)).run Try.prog w = .ok (.int .u64 1073741827) w := fun _ => by kernel_rfl
    have e2 : (n : Int) % 12 = 9 := e
    clear e
    go_enter Try.func18, Try.ntmps18
    go_wp2
    go_ret
    exact ⟨rfl, rfl⟩
  · have hi : ∀ w, (Instr.index 91 (.agg #[.int .u64 2, .int .u64 3, .int .u64 5, .int .u64 7, .int .u64 11, .int .u64 13, .int .u64 101, .int .u64 65537, .int .u64 1000003, .int .u64 1073741827, .int .u64 2147483629, .int .u64 2147483647]) (.int .u8 10)).run Try.prog w = .ok (.int .u64 2147483629) w := fun _ => by kernel_rfl
    have e2 : (n : Int) % 12 = 10 := e
    clear e
    go_enter Try.func18, Try.ntmps18
    go_wp2
    go_ret
    exact ⟨rfl, rfl⟩
  · have hi : ∀ w, (Instr.index 91 (.agg #[.int .u64 2, .int .u64 3, .int .u64 5, .int .u64 7, .int .u64 11, .int .u64 13, .int .u64 101, .int .u64 65537, .int .u64 1000003, .int .u64 1073741827, .int .u64 2147483629, .int .u64 2147483647]) (.int .u8 11)).run Try.prog w = .ok (.int .u64 2147483647) w := fun _ => by kernel_rfl
    have e2 : (n : Int) % 12 = 11 := e
    clear e
    go_enter Try.func18, Try.ntmps18
    go_wp2
    go_ret
    exact ⟨rfl, rfl⟩

set_option maxRecDepth 100000 in
theorem Ps_trial {k : Nat} (hk : k < 12) : Trial (Ps k) := by
  have h : k = 0 ∨ k = 1 ∨ k = 2 ∨ k = 3 ∨ k = 4 ∨ k = 5 ∨ k = 6 ∨ k = 7 ∨ k = 8 ∨ k = 9 ∨ k = 10 ∨ k = 11 := by omega
  rcases h with rfl | rfl | rfl | rfl | rfl | rfl | rfl | rfl | rfl | rfl | rfl | rfl
  · exact Or.inl rfl
  · exact trial_of (l := 0) (by decide +kernel)
  · exact trial_of (l := 0) (by decide +kernel)
  · exact trial_of (l := 0) (by decide +kernel)
  · exact trial_of (l := 0) (by decide +kernel)
  · exact trial_of (l := 0) (by decide +kernel)
  · exact trial_of (l := 3) (by decide +kernel)
  · exact trial_of (l := 7) (by decide +kernel)
  · exact trial_of (l := 9) (by decide +kernel)
  · exact trial_of (l := 14) (by decide +kernel)
  · exact trial_of (l := 15) (by decide +kernel)
  · exact trial_of (l := 15) (by decide +kernel)

theorem Ps_le (k : Nat) : Ps k ≤ 2147483647 := by
  by_cases h : k < 12
  · have h : k = 0 ∨ k = 1 ∨ k = 2 ∨ k = 3 ∨ k = 4 ∨ k = 5 ∨ k = 6 ∨ k = 7 ∨ k = 8 ∨ k = 9 ∨ k = 10 ∨ k = 11 := by omega
    rcases h with rfl | rfl | rfl | rfl | rfl | rfl | rfl | rfl | rfl | rfl | rfl | rfl <;> decide
  · unfold Ps; rw [List.getD, List.getElem?_eq_none (by simp; omega)]; decide

theorem Ps_FP {k : Nat} (hk : k < 12) : FP (Ps k) := ⟨trial_gt (Ps_trial hk), Ps_le k⟩

end Go.Proofs.Ythghdjpjbngllaa
/- Package gfp: raise, Inv; the statements' fields. -/
namespace Go.Proofs.Ythghdjpjbngllaa
open Go.RowKit

theorem law9_Of (n : Nat) (w : World) :
    Calls Try.prog 17 #[.int .u8 n] w fun e w' => e = .returned (.agg #[.int .u64 (Ps (n % 12) : Nat)]) ∧ Below w.heap.size w w' := by
  have ht := Ps_trial (k := n % 12) (by omega)
  have hl := Ps_le (n % 12)
  have hP := fun w => ref8_P n w
  obtain ⟨p, ep⟩ : ∃ p, p = Ps (n % 12) := ⟨_, rfl⟩
  rw [← ep] at ht hl hP ⊢
  have HT := Lib.hid (show Trial p ∧ p < 2147483648 from ⟨ht, by omega⟩)
  have HP := Lib.hid hP
  clear ht hl hP ep
  have ho : Own .u64 29 (w.alloc (.cells #[.int .u64 0] 29)) w.heap.size (.slice (some ⟨w.heap.size, 0, none⟩) 1 1) [0] := World.ownsRow_lit w #[.int .u64 0] 1 (Nat.le_refl _) (by unfold maxLen; omega) rfl
  have B : Below w.heap.size w (w.alloc (.cells #[.int .u64 0] 29)) := (Below.refl _ _).alloc (Nat.le_refl _) _
  go_enter Try.func17, Try.ntmps17
  go_wp2_with fail
  generalize w.alloc (.cells #[.int .u64 0] 29) = wb at *
  obtain ⟨g, eg⟩ : ∃ g, g = w.heap.size := ⟨_, rfl⟩
  rw [← eg] at ho ⊢
  have hgw : w.heap.size ≤ g := by omega
  clear eg
  refine (HP.out _).mono ?_; rintro e w' ⟨rfl, rfl⟩
  go_wp2_with fail
  refine (gfp_New p _ HT.out.1 HT.out.2).mono ?_; rintro e w' ⟨rfl, b1⟩
  have ho2 := (ho.next b1).next ((Below.refl _ _).alloc (Nat.le_refl _) (.cells #[.int .u64 (p : Int)] 29))
  have hc := ho2.cellAt 0 (by simp)
  have hf := ho2.frozenAt 0
  have hc2 := (ho2.store 0 p).1.cellAt 0 (by simp)
  replace B := ((B.trans (b1.mono B.size)).alloc (Nat.le_trans B.size b1.size) (.cells #[.int .u64 (p : Int)] 29)).setCell (p := ⟨g, 0, none⟩) hgw (.int .u64 (p : Int))
  go_wp2
  refine bodyPost_ret (v := .agg #[.int .u64 p]) ?_ rfl ⟨rfl, B⟩
  simp [results, Try.results17, go_sem, hc2]

/-- Where the loop of raise stands. -/
def RaiseRel (w wr : World) (p g n0 : Nat) (a0 : Zp p) (a n r : Nat) : Prop :=
  Box w wr g ∧ wr.cell? ⟨g, 0, none⟩ = some (.int .u64 p) ∧ n ≤ n0 ∧ n < 18446744073709551616 ∧ r < p ∧ Zp.of p r * pw (Zp.of p a) n = a0

set_option maxHeartbeats 1000000 in
theorem gfp_raise (p a n z : Nat) (w : World) (hp : FP p) (hn : n < 18446744073709551616) (hz : z = (pw (Zp.of p a) n).val) :
    Calls Try.prog 143 #[.agg #[.int .u64 p], .int .u64 a, .int .u64 n] w fun e w' => e = .returned (.int .u64 (z : Nat)) ∧ Below w.heap.size w w' := by
  have c1 := fun w => gfp_Norm p 1 w hp
  have hm : 1 % p = 1 := Nat.mod_eq_of_lt (by have := hp.1; omega)
  have h1p : 1 < p := by have := hp.1; omega
  rw [hm] at c1
  have cm := fun (x y z : Nat) (w : World) (hz : z = (Zp.of p x * Zp.of p y).val) => gfp_Mul p x y z w hp hz
  obtain ⟨a0, ea0⟩ : ∃ a0, a0 = pw (Zp.of p a) n := ⟨_, rfl⟩
  rw [← ea0] at hz
  have hst : Zp.of p 1 * pw (Zp.of p a) n = a0 := by rw [ea0, Zp.of_one, CR.one_mul]
  clear ea0
  have HST := Lib.hid hst
  have HZ := Lib.hid hz
  have C1 := Lib.hid c1
  have CM := Lib.hid cm
  have HP := Lib.hid hp
  clear c1 cm hp hm hst hz
  have B : Below w.heap.size w (w.alloc (.cells #[.int .u64 p] 29)) := (Below.refl _ _).alloc (Nat.le_refl _) _
  have hcp : (w.alloc (.cells #[.int .u64 p] 29)).cell? ⟨w.heap.size, 0, none⟩ = some (.int .u64 p) := (World.ownsRow_lit w #[.int .u64 p] 1 (Nat.le_refl _) (by unfold maxLen; omega) rfl : Own .u64 29 (w.alloc (.cells #[.int .u64 p] 29)) w.heap.size (.slice (some ⟨w.heap.size, 0, none⟩) 1 1) [p]).cellAt 0 (by simp)
  have hg : w.heap.size < (w.alloc (.cells #[.int .u64 p] 29)).heap.size := by simp
  go_enter Try.func143, Try.ntmps143
  go_wp2_with fail
  generalize w.alloc (.cells #[.int .u64 p] 29) = wb at *
  obtain ⟨g, eg⟩ : ∃ g, g = w.heap.size := ⟨_, rfl⟩
  rw [← eg] at hcp hg ⊢
  have EG := Lib.hid eg; clear eg
  refine (C1.out _).mono ?_; rintro e w1 ⟨rfl, b1⟩
  replace hcp := (b1.cell (p := ⟨g, 0, none⟩) hg).trans hcp
  have hbx : Box w w1 g := (Box.mk hg B).next b1
  clear B hg b1
  go_wp2_with fail
  go_loopw [1, 2, 7] (fun av nv rv wr => ∃ a n' r : Nat, av = .int .u64 a ∧ nv = .int .u64 n' ∧ rv = .int .u64 r ∧ RaiseRel w wr p g n a0 a n' r) (fun _ nv _ _ => (intOf nv).toNat)
  case atStart => exact ⟨a, n, 1, rfl, rfl, rfl, hbx, hcp, Nat.le_refl _, hn, h1p, HST.out⟩
  case round =>
    obtain ⟨a, m, r, rfl, rfl, rfl, hbx, hcp, hmn, hm64, hr, hval⟩ := hrel
    have HV := Lib.hid hval; clear hval
    obtain ⟨r2, er2⟩ : ∃ r2, r2 = (Zp.of p r * Zp.of p a).val := ⟨_, rfl⟩
    obtain ⟨a2, ea2⟩ : ∃ a2, a2 = (Zp.of p a * Zp.of p a).val := ⟨_, rfl⟩
    have CRR := Lib.hid (fun w => CM.out r a r2 w er2)
    have CA := Lib.hid (fun w => CM.out a a a2 w ea2)
    have fr := Zp.fact HP.out er2
    have fa := Zp.fact HP.out ea2
    have FR := Lib.hid fr
    have FA := Lib.hid fa
    clear fr fa er2 ea2
    have hm0 : (0 : Int) ≤ (m : Int) := Int.natCast_nonneg _
    by_cases h0 : m = 0
    · subst h0
      go_wp2
      go_ret
      refine ⟨?_, hbx.below⟩
      have h2 := HV.out
      have h3 : Zp.of p r = a0 := by rw [← h2]; exact (CR.mul_one _).symm
      rw [Zp.of_is HP.out hr h3, HZ.out]; rfl
    · have hmp : 0 < m := by omega
      by_cases hodd : m % 2 = 1
      · have ho : (m : Int) % 2 = 1 := by omega
        have hval : Zp.of p r2 * pw (Zp.of p a2) (m / 2) = a0 := by
          rw [FR.out.2, FA.out.2, pw_dbl, ← HV.out]
          have : m = 2 * (m / 2) + 1 := by omega
          conv => rhs; rw [this, pw_succ]
          exact by_ring [Zp.of p r, Zp.of p a, pw (Zp.of p a) (2 * (m / 2))] (X0 * X1 * X2) (X0 * (X2 * X1)) rfl
        have HV2 := Lib.hid hval; clear hval hodd
        go_wp2_with fail
        refine (CRR.out _).mono ?_; rintro e w1 ⟨rfl, b1⟩
        replace hcp := (b1.cell (p := ⟨g, 0, none⟩) hbx.lt).trans hcp
        replace hbx := hbx.next b1
        clear b1
        go_wp2_with fail
        refine (CA.out _).mono ?_; rintro e w2 ⟨rfl, b2⟩
        replace hcp := (b2.cell (p := ⟨g, 0, none⟩) hbx.lt).trans hcp
        replace hbx := hbx.next b2
        clear b2
        go_wp2
        go_roundw
        case rel => exact ⟨a2, m / 2, r2, rfl, by go_num, rfl, hbx, hcp, by omega, by omega, FR.out.1, HV2.out⟩
        case measure => simp [intOf] <;> omega
      · have ho : ((m : Int) % 2 == 1) = false := beq_eq_false_iff_ne.mpr (by omega)
        have hval : Zp.of p r * pw (Zp.of p a2) (m / 2) = a0 := by
          rw [FA.out.2, pw_dbl, ← HV.out]
          have : 2 * (m / 2) = m := by omega
          rw [this]
        have HV2 := Lib.hid hval; clear hval hodd
        go_wp2_with fail
        refine (CA.out _).mono ?_; rintro e w2 ⟨rfl, b2⟩
        replace hcp := (b2.cell (p := ⟨g, 0, none⟩) hbx.lt).trans hcp
        replace hbx := hbx.next b2
        clear b2
        go_wp2
        go_roundw
        case rel => exact ⟨a2, m / 2, r, rfl, by go_num, rfl, hbx, hcp, by omega, by omega, hr, HV2.out⟩
        case measure => simp [intOf] <;> omega

/-- The inverse of an element; 0 of 0. -/
def Zp.iv {p : Nat} (x : Zp p) : Zp p := if x.val = 0 then 0 else pw x (p - 2)

theorem Zp.iv_mul {p : Nat} (h : Trial p) {x : Zp p} (hx : x ≠ 0) : x.iv * x = 1 := by
  unfold Zp.iv
  rw [if_neg (fun h0 => hx (Zp.ext (by rw [h0, Zp.zero_val])))]
  exact Zp.inv h hx

set_option maxHeartbeats 1000000 in
theorem gfp_Inv (p a z : Nat) (w : World) (hp : FP p) (hz : z = (Zp.of p a).iv.val) :
    Calls Try.prog 118 #[.agg #[.int .u64 p], .int .u64 a] w fun e w' => e = .returned (.int .u64 (z : Nat)) ∧ Below w.heap.size w w' := by
  have h1 := hp.1
  have h2 := hp.2
  have c1 := fun w => gfp_Norm p a w hp
  have c2 := fun w => gfp_P p w hp
  have hv : (Zp.of p a).val = a % p := by rw [Zp.val_of, show p - 1 + 1 = p by omega]
  have B : Below w.heap.size w (w.alloc (.cells #[.int .u64 p] 29)) := (Below.refl _ _).alloc (Nat.le_refl _) _
  have hcp : (w.alloc (.cells #[.int .u64 p] 29)).cell? ⟨w.heap.size, 0, none⟩ = some (.int .u64 p) := (World.ownsRow_lit w #[.int .u64 p] 1 (Nat.le_refl _) (by unfold maxLen; omega) rfl : Own .u64 29 (w.alloc (.cells #[.int .u64 p] 29)) w.heap.size (.slice (some ⟨w.heap.size, 0, none⟩) 1 1) [p]).cellAt 0 (by simp)
  have hg : w.heap.size < (w.alloc (.cells #[.int .u64 p] 29)).heap.size := by simp
  by_cases h0 : a % p = 0
  · rw [h0] at c1
    have hz0 : z = 0 := by
      rw [hz]; unfold Zp.iv; rw [if_pos (by rw [hv, h0])]; exact Zp.zero_val p
    subst hz0
    have C1 := Lib.hid c1
    clear c1 c2 hv h0 hz
    go_enter Try.func118, Try.ntmps118
    go_wp2_with fail
    generalize w.alloc (.cells #[.int .u64 p] 29) = wb at *
    obtain ⟨g, eg⟩ : ∃ g, g = w.heap.size := ⟨_, rfl⟩
    rw [← eg] at hcp hg ⊢
    have EG := Lib.hid eg; clear eg
    refine (C1.out _).mono ?_; rintro e w1 ⟨rfl, b1⟩
    go_wp2
    go_ret
    exact ⟨rfl, B.trans (b1.mono B.size)⟩
  · have hz1 : z = (pw (Zp.of p a) (p - 2)).val := by
      rw [hz]; unfold Zp.iv; rw [if_neg (by rw [hv]; exact h0)]
    have c3 := fun w => gfp_raise p a (p - 2) z w hp (by omega) hz1
    obtain ⟨m, em⟩ : ∃ m, m = a % p := ⟨_, rfl⟩
    obtain ⟨q, eq⟩ : ∃ q, q = p - 2 := ⟨_, rfl⟩
    rw [← em] at c1 h0
    rw [← eq] at c3
    have s1 : IntKind.u64.wrap ((p : Int) - 2) = (q : Int) := by
      rw [show (p : Int) - 2 = ((q : Nat) : Int) by omega]; exact wrap_u64 _ (by omega)
    have hmz : ((m : Int) == 0) = false := by simpa using h0
    have C1 := Lib.hid c1
    have C2 := Lib.hid c2
    have C3 := Lib.hid c3
    have EQ := Lib.hid eq
    clear c1 c2 c3 hv h0 hz hz1 em eq
    go_enter Try.func118, Try.ntmps118
    go_wp2_with fail
    generalize w.alloc (.cells #[.int .u64 p] 29) = wb at *
    obtain ⟨g, eg⟩ : ∃ g, g = w.heap.size := ⟨_, rfl⟩
    rw [← eg] at hcp hg ⊢
    have EG := Lib.hid eg; clear eg
    refine (C1.out _).mono ?_; rintro e w1 ⟨rfl, b1⟩
    replace hcp := (b1.cell (p := ⟨g, 0, none⟩) hg).trans hcp
    have hbx : Box w w1 g := (Box.mk hg B).next b1
    clear B hg b1
    go_upto_region 3 with (fail)
    go_cut [4] (fun v wx => v = .int .u64 (z : Nat) ∧ Below w.heap.size w wx)
    case first =>
      have hbox : Box w w1.drew g := hbx.drew 1
      go_region_held3 (fun w' => w'.cell? ⟨g, 0, none⟩ = some (.int .u64 (p : Int)) ∧ Box w w' g) (first | (exact ⟨hcp, hbox⟩) | (go_split_ands; refine ⟨(bn.cell (p := ⟨g, 0, none⟩) (Box.lt (by assumption))).trans (by assumption), Box.next (by assumption) bn⟩))
        ((first
          | (go_at_call 130; refine (C2.out _).mono ?_; rintro e wn ⟨rfl, bn⟩)
          | (go_at_call 143; refine (C3.out _).mono ?_; rintro e wn ⟨rfl, bn⟩)))
      all_goals (go_wp2_with fail; go_meet)
      all_goals (rename_i hh; exact ⟨rfl, hh.2.below⟩)
    case rest =>
      obtain ⟨rfl, b⟩ := hcut
      go_wp2
      go_ret
      exact ⟨rfl, b⟩

end Go.Proofs.Ythghdjpjbngllaa
