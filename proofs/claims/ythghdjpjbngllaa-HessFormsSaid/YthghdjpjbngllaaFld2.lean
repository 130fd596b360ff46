/- Package gfp: raise, Inv, New; the statements' primes. -/
import Derived.Test.YthghdjpjbngllaaFld
import Derived.Test.YthghdjpjbngllaaFermat
namespace Go.Proofs.Ythghdjpjbngllaa
open Go.RowKit

theorem sq_bound {d p : Nat} (h : d * d ≤ p) (hp : p < 2147483648) : d ≤ 46340 := by
  rcases Nat.lt_or_ge 46340 d with h1 | h1
  · exfalso
    have h2 : 46341 * 46341 ≤ d * d := Nat.mul_le_mul h1 h1
    omega
  · exact h1

set_option maxHeartbeats 1000000 in
theorem modn_Prime (p : Nat) (w : World) (ht : Trial p) (hp : p < 2147483648) :
    Calls Try.prog 122 #[.int .u64 p] w fun e w' => e = .returned (.bool true) ∧ w = w' := by
  rcases ht with rfl | ⟨h1, h2, h3⟩
  · go_enter Try.func122, Try.ntmps122
    go_wp2
    go_ret
    exact ⟨rfl, rfl⟩
  · have H3 := Lib.hid h3; clear h3
    have h5 : (p : Int) < 2147483648 := by omega
    have HP := Lib.hid hp; clear hp
    have h4 : ((p : Int) % 2 == 0) = false := by simpa using (show ¬ (p : Int) % 2 = 0 by omega)
    have h6 : decide ((2147483648 : Int) ≤ (p : Int)) = false := decide_eq_false (by omega)
    have h7 : decide ((p : Int) < 2) = false := decide_eq_false (by omega)
    have h8 : ¬ (2147483648 : Int) ≤ (p : Int) := by omega
    have h9 : ¬ (p : Int) < 2 := by omega
    have H2 := Lib.hid h2; clear h2 h5 h1
    go_enter Try.func122, Try.ntmps122
    go_wp2
    go_loop [3] (fun dv => ∃ d : Nat, dv = .int .u64 d ∧ d ≤ 46345 ∧ 3 ≤ d ∧ d % 2 = 1) (fun dv => 46350 - (intOf dv).toNat)
    case atStart => exact ⟨3, rfl, by omega, by omega, by omega⟩
    case round =>
      obtain ⟨d, rfl, hd1, hd2, hd3⟩ := hrel
      have hs : d * d < 18446744073709551616 := Nat.lt_of_le_of_lt (Nat.mul_le_mul hd1 hd1) (by decide)
      have t1 : IntKind.u64.wrap ((d : Int) * (d : Int)) = ((d * d : Nat) : Int) := by rw [← Int.natCast_mul]; exact wrap_u64 _ hs
      have hb := fun h => sq_bound (d := d) (p := p) h HP.out
      have hr := H3.out d hd3 hd2
      obtain ⟨s, es⟩ : ∃ s, s = d * d := ⟨_, rfl⟩
      rw [← es] at t1 hb hr
      have ES := Lib.hid es; clear es hs
      by_cases hle : s ≤ p
      · have hb2 := hb hle
        have hr2 := hr hle
        have t2 : (((p : Int).tmod (d : Int)) == 0) = false := by
          have : (p : Int).tmod (d : Int) = ((p % d : Nat) : Int) := rfl
          rw [this]; exact beq_eq_false_iff_ne.mpr (fun h => hr2 (Int.ofNat.inj h))
        have t3 : (((p : Int) % (d : Int)) == 0) = false := by
          have : (p : Int) % (d : Int) = ((p % d : Nat) : Int) := rfl
          rw [this]; exact beq_eq_false_iff_ne.mpr (fun h => hr2 (Int.ofNat.inj h))
        clear hr hb hr2
        go_wp2
        go_round
        case rel => exact ⟨d + 2, by go_num, by omega, by omega, by omega⟩
        case measure => simp [intOf] <;> omega
      · clear hr hb
        go_wp2
        go_ret
        exact ⟨rfl, rfl⟩

theorem gfp_New (p : Nat) (w : World) (ht : Trial p) (hp : p < 2147483648) :
    Calls Try.prog 72 #[.int .u64 p] w fun e w' => e = .returned (.tuple #[.agg #[.int .u64 p], .bool true]) ∧ Below w.heap.size w w' := by
  go_enter Try.func72, Try.ntmps72
  go_wp2_with fail
  refine (modn_Prime p _ ht hp).mono ?_; rintro e w' ⟨rfl, rfl⟩
  go_wp2
  refine bodyPost_ret (v := .tuple #[.agg #[.int .u64 p], .bool true]) (by simp [results, Try.results72, go_sem]) rfl ⟨rfl, ?_⟩
  exact (Below.refl _ _).alloc (Nat.le_refl _) _

/-- The statements' primes. -/
def Ps (k : Nat) : Nat := [2, 3, 5, 7, 11, 13, 101, 65537, 1000003, 1073741827, 2147483629, 2147483647].getD k 0

set_option maxHeartbeats 4000000 in
theorem ref8_P (n : Nat) (w : World) :
    Calls Try.prog 18 #[.int .u8 n] w fun e w' => e = .returned (.int .u64 (Ps (n % 12) : Nat)) ∧ w = w' := by
  obtain ⟨k, ek⟩ : ∃ k, k = n % 12 := ⟨_, rfl⟩
  have e : (n : Int) % 12 = (k : Int) := by omega
  have hk : k = 0 ∨ k = 1 ∨ k = 2 ∨ k = 3 ∨ k = 4 ∨ k = 5 ∨ k = 6 ∨ k = 7 ∨ k = 8 ∨ k = 9 ∨ k = 10 ∨ k = 11 := by omega
  rw [← ek]
  clear ek
  rcases hk with rfl | rfl | rfl | rfl | rfl | rfl | rfl | rfl | rfl | rfl | rfl | rfl
  · have hi : ∀ w, (Instr.index 91 (.agg #[.int .u64 2, .int .u64 3, .int .u64 5, .int .u64 7, .int .u64 11, .int .u64 13, .int .u64 101, .int .u64 65537, .int .u64 1000003, .int .u64 1073741827, .int .u64 2147483629, .int .u64 2147483647]) (.int .u8 0)).run Try.prog w = .ok (.int .u64 2) w := fun _ => by kernel_rfl
    have e2 : (n : Int) % 12 = 0 := e
    clear e
    go_enter Try.func18, Try.ntmps18
    go_wp2
    go_ret
    exact ⟨rfl, rfl⟩
  · have hi : ∀ w, (Instr.index 91 (.agg #[.int .u64 2, .int .u64 3, .int .u64 5, .int .u64 7, .int .u64 11, .int .u64 13, .int .u64 101, .int .u64 65537, .int .u64 1000003, .int .u64 1073741827, .int .u64 2147483629, .int .u64 2147483647]) (.int .u8 1)).run Try.prog w = .ok (.int .u64 3) w := fun _ => by kernel_rfl
    have e2 : (n : Int) % 12 = 1 := e
    clear e
    go_enter Try.func18, Try.ntmps18
    go_wp2
    go_ret
    exact ⟨rfl, rfl⟩
  · have hi : ∀ w, (Instr.index 91 (.agg #[.int .u64 2, .int .u64 3, .int .u64 5, .int .u64 7, .int .u64 11, .int .u64 13, .int .u64 101, .int .u64 65537, .int .u64 1000003, .int .u64 1073741827, .int .u64 2147483629, .int .u64 2147483647]) (.int .u8 2)).run Try.prog w = .ok (.int .u64 5) w := fun _ => by kernel_rfl
    have e2 : (n : Int) % 12 = 2 := e
    clear e
    go_enter Try.func18, Try.ntmps18
    go_wp2
    go_ret
    exact ⟨rfl, rfl⟩
  · have hi : ∀ w, (Instr.index 91 (.agg #[.int .u64 2, .int .u64 3, .int .u64 5, .int .u64 7, .int .u64 11, .int .u64 13, .int .u64 101, .int .u64 65537, .int .u64 1000003, .int .u64 1073741827, .int .u64 2147483629, .int .u64 2147483647]) (.int .u8 3)).run Try.prog w = .ok (.int .u64 7) w := fun _ => by kernel_rfl
    have e2 : (n : Int) % 12 = 3 := e
    clear e
    go_enter Try.func18, Try.ntmps18
    go_wp2
    go_ret
    exact ⟨rfl, rfl⟩
  · have hi : ∀ w, (Instr.index 91 (.agg #[.int .u64 2, .int .u64 3, .int .u64 5, .int .u64 7, .int .u64 11, .int .u64 13, .int .u64 101, .int .u64 65537, .int .u64 1000003, .int .u64 1073741827, .int .u64 2147483629, .int .u64 2147483647]) (.int .u8 4)).run Try.prog w = .ok (.int .u64 11) w := fun _ => by kernel_rfl
    have e2 : (n : Int) % 12 = 4 := e
    clear e
    go_enter Try.func18, Try.ntmps18
    go_wp2
    go_ret
    exact ⟨rfl, rfl⟩
  · have hi : ∀ w, (Instr.index 91 (.agg #[.int .u64 2, .int .u64 3, .int .u64 5, .int .u64 7, .int .u64 11, .int .u64 13, .int .u64 101, .int .u64 65537, .int .u64 1000003, .int .u64 1073741827, .int .u64 2147483629, .int .u64 2147483647]) (.int .u8 5)).run Try.prog w = .ok (.int .u64 13) w := fun _ => by kernel_rfl
    have e2 : (n : Int) % 12 = 5 := e
    clear e
    go_enter Try.func18, Try.ntmps18
    go_wp2
    go_ret
    exact ⟨rfl, rfl⟩
  · have hi : ∀ w, (Instr.index 91 (.agg #[.int .u64 2, .int .u64 3, .int .u64 5, .int .u64 7, .int .u64 11, .int .u64 13, .int .u64 101, .int .u64 65537, .int .u64 1000003, .int .u64 1073741827, .int .u64 2147483629, .int .u64 2147483647]) (.int .u8 6)).run Try.prog w = .ok (.int .u64 101) w := fun _ => by kernel_rfl
    have e2 : (n : Int) % 12 = 6 := e
    clear e
    go_enter Try.func18, Try.ntmps18
    go_wp2
    go_ret
    exact ⟨rfl, rfl⟩
  · have hi : ∀ w, (Instr.index 91 (.agg #[.int .u64 2, .int .u64 3, .int .u64 5, .int .u64 7, .int .u64 11, .int .u64 13, .int .u64 101, .int .u64 65537, .int .u64 1000003, .int .u64 1073741827, .int .u64 2147483629, .int .u64 2147483647]) (.int .u8 7)).run Try.prog w = .ok (.int .u64 65537) w := fun _ => by kernel_rfl
    have e2 : (n : Int) % 12 = 7 := e
    clear e
    go_enter Try.func18, Try.ntmps18
    go_wp2
    go_ret
    exact ⟨rfl, rfl⟩
  · have hi : ∀ w, (Instr.index 91 (.agg #[.int .u64 2, .int .u64 3, .int .u64 5, .int .u64 7, .int .u64 11, .int .u64 13, .int .u64 101, .int .u64 65537, .int .u64 1000003, .int .u64 1073741827, .int .u64 2147483629, .int .u64 2147483647]) (.int .u8 8)).run Try.prog w = .ok (.int .u64 1000003) w := fun _ => by kernel_rfl
    have e2 : (n : Int) % 12 = 8 := e
    clear e
    go_enter Try.func18, Try.ntmps18
    go_wp2
    go_ret
    exact ⟨rfl, rfl⟩
  · have hi : ∀ w, (Instr.index 91 (.agg #[.int .u64 2, .int .u64 3, .int .u64 5, .int .u64 7, .int .u64 11, .int .u64 13, .int .u64 101, .int .u64 65537, .int .u64 1000003, .int .u64 1073741827, .int .u64 2147483629, .int .u64 2147483647]) (.int .u8 9)).run Try.prog w = .ok (.int .u64 1073741827) w := fun _ => by kernel_rfl
    have e2 : (n : Int) % 12 = 9 := e
    clear e
    go_enter Try.func18, Try.ntmps18
    go_wp2
    go_ret
    exact ⟨rfl, rfl⟩
  · have hi : ∀ w, (Instr.index 91 (.agg #[.int .u64 2, .int .u64 3, .int .u64 5, .int .u64 7, .int .u64 11, .int .u64 13, .int .u64 101, .int .u64 65537, .int .u64 1000003, .int .u64 1073741827, .int .u64 2147483629, .int .u64 2147483647]) (.int .u8 10)).run Try.prog w = .ok (.int .u64 2147483629) w := fun _ => by kernel_rfl
    have e2 : (n : Int) % 12 = 10 := e
    clear e
    go_enter Try.func18, Try.ntmps18
    go_wp2
    go_ret
    exact ⟨rfl, rfl⟩
  · have hi : ∀ w, (Instr.index 91 (.agg #[.int .u64 2, .int .u64 3, .int .u64 5, .int .u64 7, .int .u64 11, .int .u64 13, .int .u64 101, .int .u64 65537, .int .u64 1000003, .int .u64 1073741827, .int .u64 2147483629, .int .u64 2147483647]) (.int .u8 11)).run Try.prog w = .ok (.int .u64 2147483647) w := fun _ => by kernel_rfl
    have e2 : (n : Int) % 12 = 11 := e
    clear e
    go_enter Try.func18, Try.ntmps18
    go_wp2
    go_ret
    exact ⟨rfl, rfl⟩

set_option maxRecDepth 100000 in
theorem Ps_trial {k : Nat} (hk : k < 12) : Trial (Ps k) := by
  have h : k = 0 ∨ k = 1 ∨ k = 2 ∨ k = 3 ∨ k = 4 ∨ k = 5 ∨ k = 6 ∨ k = 7 ∨ k = 8 ∨ k = 9 ∨ k = 10 ∨ k = 11 := by omega
  rcases h with rfl | rfl | rfl | rfl | rfl | rfl | rfl | rfl | rfl | rfl | rfl | rfl
  · exact Or.inl rfl
  · exact trial_of (l := 0) (by decide +kernel)
  · exact trial_of (l := 0) (by decide +kernel)
  · exact trial_of (l := 0) (by decide +kernel)
  · exact trial_of (l := 0) (by decide +kernel)
  · exact trial_of (l := 0) (by decide +kernel)
  · exact trial_of (l := 3) (by decide +kernel)
  · exact trial_of (l := 7) (by decide +kernel)
  · exact trial_of (l := 9) (by decide +kernel)
  · exact trial_of (l := 14) (by decide +kernel)
  · exact trial_of (l := 15) (by decide +kernel)
  · exact trial_of (l := 15) (by decide +kernel)

theorem Ps_le (k : Nat) : Ps k ≤ 2147483647 := by
  by_cases h : k < 12
  · have h : k = 0 ∨ k = 1 ∨ k = 2 ∨ k = 3 ∨ k = 4 ∨ k = 5 ∨ k = 6 ∨ k = 7 ∨ k = 8 ∨ k = 9 ∨ k = 10 ∨ k = 11 := by omega
    rcases h with rfl | rfl | rfl | rfl | rfl | rfl | rfl | rfl | rfl | rfl | rfl | rfl <;> decide
  · unfold Ps; rw [List.getD, List.getElem?_eq_none (by simp; omega)]; decide

theorem Ps_FP {k : Nat} (hk : k < 12) : FP (Ps k) := ⟨trial_gt (Ps_trial hk), Ps_le k⟩

end Go.Proofs.Ythghdjpjbngllaa
