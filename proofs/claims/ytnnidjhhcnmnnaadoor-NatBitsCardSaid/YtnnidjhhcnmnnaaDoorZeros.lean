/- Package nat: Word, Bit, Zeros; bits.TrailingZeros64 by the shelf's contract. -/
import Derived.Shelf.Spec.TrailingZeros
import Derived.Test.YtnnidjhhcnmnnaaDoorRef6
namespace Go.Proofs.YtnnidjhhcnmnnaaDoor
open Go.RowKit Go.Shelf

def lays29_ren : Go.Shelf.Ren := ⟨fun | 29 => 19 | n => n, fun | 0 => 0 | 3 => 3 | 4 => 4 | 5 => 5 | 22 => 29 | 25 => 49 | 54 => 48 | n => n, fun | 1 => 0 | n => n⟩
theorem lays29 : Go.Proofs.Lays7.n29 Tryd.prog lays29_ren := {
  mixed := by kernel_rfl
  f29 := Tryd.func19.trans (congrArg some (by kernel_rfl))
  t0 := by kernel_rfl
  a0 := fun _ => by kernel_rfl
  z0 := fun _ => by kernel_rfl
  v0 := fun _ => by kernel_rfl
  i0 := by kernel_rfl
  t3 := by kernel_rfl
  a3 := fun _ => by kernel_rfl
  z3 := fun _ => by kernel_rfl
  v3 := fun _ => by kernel_rfl
  i3 := by kernel_rfl
  t4 := by kernel_rfl
  a4 := fun _ => by kernel_rfl
  z4 := fun _ => by kernel_rfl
  v4 := fun _ => by kernel_rfl
  i4 := by kernel_rfl
  t5 := by kernel_rfl
  a5 := fun _ => by kernel_rfl
  z5 := fun _ => by kernel_rfl
  v5 := fun _ => by kernel_rfl
  i5 := by kernel_rfl
  t22 := by kernel_rfl
  a22 := fun _ => by kernel_rfl
  z22 := fun _ => by kernel_rfl
  v22 := fun _ => by kernel_rfl
  i22 := by kernel_rfl
  t25 := by kernel_rfl
  a25 := fun _ => by kernel_rfl
  z25 := fun _ => by kernel_rfl
  v25 := fun _ => by kernel_rfl
  i25 := by kernel_rfl
  t54 := by kernel_rfl
  a54 := fun _ => by kernel_rfl
  z54 := fun _ => by kernel_rfl
  g1 := by kernel_rfl }
/-- The table of bits.TrailingZeros64 in its variable. -/
def Tz (w : World) : Prop := Go.Proofs.TabAt 0 Lib.deBruijn64tab w
theorem Tz.next {w w' : World} (h : Tz w) (hb : Below w.heap.size w w') : Tz w' := fun j hj => by
  have h1 := h j hj
  rw [hb.cell (World.block_lt_of_cell? w _ h1)]; exact h1
theorem bits_Tz (x : Nat) (hx : x < W64) (w : World) (hT : Tz w) :
    Calls Tryd.prog 19 #[.int .u64 x] w fun e w' => e = .returned (.int .i64 (Lib.ctz 64 x : Nat)) ∧ w = w' :=
  (Any7.bits_TrailingZeros64 lays29 x hx w fun _ => hT).mono fun _ _ h => ⟨h.1, h.2.symm⟩

theorem ctz_val {x : Nat} (h0 : x ≠ 0) (hx : x < W64) : ∃ m, x = 2 ^ Lib.ctz 64 x * (2 * m + 1) ∧ Lib.ctz 64 x < 64 := by
  have e : Lib.ctz 64 x = Lib.ctzFrom 64 x := by simp [Lib.ctz, h0]
  rw [e]
  exact Lib.ctzFrom_spec 64 x (by omega) hx

/-- How the noughts at the end of a number's bits are told. -/
def IsZ (N z : Nat) : Prop := ∃ m, N = 2 ^ z * (2 * m + 1)
theorem IsZ.half {N z : Nat} (h : IsZ N z) : N / 2 ^ z % 2 = 1 ∧ N / 2 ^ z * 2 ^ z = N := by
  obtain ⟨m, rfl⟩ := h
  rw [Nat.mul_div_cancel_left _ (Nat.two_pow_pos z)]
  exact ⟨by omega, Nat.mul_comm _ _⟩
theorem IsZ.lt {N z : Nat} (h : IsZ N z) : z < bl N := by
  refine bl_more (n := z) ?_
  have := h.half.1
  omega

theorem bl_zero {N : Nat} : bl N = 0 ↔ N = 0 := by
  unfold bl; split
  · rename_i h; simp [h]
  · rename_i h; constructor
    · intro h2; omega
    · intro h2; exact absurd h2 h
theorem bl_64 {N : Nat} : bl N ≤ 64 ↔ N < W64 := by
  constructor
  · intro h
    have h1 := (isBl_bl N).1
    exact Nat.lt_of_lt_of_le h1 (Nat.pow_le_pow_right (by decide) h)
  · exact bl_word N

theorem nat_Word_yes (v : Value) (xs : List Nat) (w : World) (hv : Sl .u64 w v xs) (hm : xs.length ≤ 100000000) (hx : wf W64 xs) (h : nv W64 xs < W64) :
    Calls Tryd.prog 8 #[v] w fun e w' => e = .returned (.tuple #[.int .u64 (nv W64 xs : Nat), .bool true]) ∧ w = w' := by
  obtain ⟨ao, b, off, cap, rfl, hl, hcs⟩ := hv
  have c1 := nat_trim ao b off cap xs w hcs hl (by omega)
  have nT : Nrm W64 (tr xs) := nrm_tr hx
  have hT := hcs.trim
  have e1 : nv W64 xs = nv W64 (tr xs) := (nv_tr _ _).symm
  rw [e1] at h ⊢
  have hlx := tr_len xs
  have hk : (tr xs).length ≤ 1 := nrm_len_le (by decide) nT (k := 1) (by rw [Nat.pow_one]; exact h)
  obtain ⟨T, eT⟩ : ∃ T, T = tr xs := ⟨_, rfl⟩
  rw [← eT] at c1 hT hk hlx ⊢
  clear eT e1 nT h hcs
  match T, hk with
  | [], _ =>
    have C1 := Lib.hid c1; clear c1
    go_enter Tryd.func8, Tryd.ntmps8
    go_wp2_with fail
    refine C1.out.mono ?_; rintro e w1 ⟨rfl, rfl⟩
    go_wp2
    go_ret2
    exact ⟨rfl, rfl⟩
  | [x], _ =>
    obtain rfl := hT.ao (by simp)
    have q := hT.cell 0 (by simp)
    simp only [List.getD_cons_zero, Nat.add_zero] at q
    have C1 := Lib.hid c1; clear c1 hT
    have hn : nv W64 [x] = x := by simp [nv]
    rw [hn]
    clear hn
    have hc : 1 ≤ cap := by simp at hlx; omega
    go_enter Tryd.func8, Tryd.ntmps8
    go_wp2_with fail
    refine C1.out.mono ?_; rintro e w1 ⟨rfl, rfl⟩
    go_wp2
    go_ret2
    exact ⟨rfl, rfl⟩
theorem nat_Word_no (v : Value) (xs : List Nat) (w : World) (hv : Sl .u64 w v xs) (hm : xs.length ≤ 100000000) (hx : wf W64 xs) (h : ¬ nv W64 xs < W64) :
    Calls Tryd.prog 8 #[v] w fun e w' => e = .returned (.tuple #[.int .u64 0, .bool false]) ∧ w = w' := by
  obtain ⟨ao, b, off, cap, rfl, hl, hcs⟩ := hv
  have c1 := nat_trim ao b off cap xs w hcs hl (by omega)
  rw [← nv_tr] at h
  have hw : wf W64 (tr xs) := wf_tr hx
  have hk : 2 ≤ (tr xs).length := by
    refine Classical.byContradiction fun hc => h ?_
    refine Nat.lt_of_lt_of_le (nv_lt _ hw) ?_
    have : W64 ^ (tr xs).length ≤ W64 ^ 1 := Nat.pow_le_pow_right (by decide) (by omega)
    rwa [Nat.pow_one] at this
  obtain ⟨k, ek⟩ : ∃ k, k = (tr xs).length := ⟨_, rfl⟩
  rw [← ek] at c1 hk
  have C1 := Lib.hid c1
  have d0 : ((k : Int) == 0) = false := by simp; omega
  have d1 : ((k : Int) == 1) = false := by simp; omega
  clear c1 ek h hw hcs
  go_enter Tryd.func8, Tryd.ntmps8
  go_wp2_with fail
  refine C1.out.mono ?_; rintro e w1 ⟨rfl, rfl⟩
  go_wp2
  go_ret2
  exact ⟨rfl, rfl⟩

theorem u64_and1 (n : Nat) : bits .and .u64 (n : Int) 1 = ((n % 2 : Nat) : Int) := by
  have h1 : (BitVec.ofInt 64 1).toNat = 2 ^ 1 - 1 := by decide
  have key : (BitVec.ofInt 64 (n : Int) &&& BitVec.ofInt 64 1).toNat = ((n : Int) % ((2 ^ 64 : Nat) : Int)).toNat % 2 ^ 1 := by
    rw [BitVec.toNat_and, BitVec.toNat_ofInt, h1, Nat.and_two_pow_sub_one_eq_mod]
  show IntKind.u64.wrap ((BitVec.ofInt 64 (n : Int) &&& BitVec.ofInt 64 1).toNat : Nat) = ((n % 2 : Nat) : Int)
  rw [key, IntKind.wrap_u64]
  omega
theorem bit_of {xs : List Nat} {q r : Nat} (hx : wf W64 xs) (hq : q < xs.length) (hr : r < 64) : nv W64 xs / 2 ^ (64 * q + r) % 2 = xs.getD q 0 / 2 ^ r % 2 := by
  have h1 := nv_take_drop W64 xs q (by omega)
  have h2 := nv_lt (xs.take q) (wf_take hx q)
  have e2 : (xs.take q).length = q := by simp; omega
  rw [e2] at h2
  have h3 : xs.drop q = xs.getD q 0 :: xs.drop (q + 1) := by
    rw [List.drop_eq_getElem_cons hq, getD_lt xs q hq]
  have h4 : nv W64 xs / 2 ^ (64 * q) = xs.getD q 0 + W64 * nv W64 (xs.drop (q + 1)) := by
    have h5 : (2 : Nat) ^ (64 * q) = W64 ^ q := by rw [show W64 = 2 ^ 64 from rfl, ← Nat.pow_mul]
    rw [h5, h1, Nat.add_mul_div_left _ _ (Nat.pow_pos (by decide)), Nat.div_eq_of_lt h2, Nat.zero_add, h3, nv_cons]
  rw [Nat.pow_add, ← Nat.div_div_eq_div_mul, h4]
  have h6 : W64 = 2 ^ r * (2 * 2 ^ (63 - r)) := by
    rw [← Nat.mul_assoc, Nat.mul_comm (2 ^ r) 2, Nat.mul_assoc, ← Nat.pow_add, show r + (63 - r) = 63 by omega]; rfl
  rw [h6, Nat.mul_assoc, Nat.add_mul_div_left _ _ (Nat.two_pow_pos r), Nat.mul_assoc]
  omega
theorem bit_none {xs : List Nat} {i : Nat} (hx : wf W64 xs) (h : xs.length ≤ i / 64) : nv W64 xs / 2 ^ i = 0 := by
  refine Nat.div_eq_of_lt (Nat.lt_of_lt_of_le (nv_lt xs hx) ?_)
  rw [show W64 = 2 ^ 64 from rfl, ← Nat.pow_mul]
  exact Nat.pow_le_pow_right (by decide) (by omega)

theorem nat_Bit_neg (v : Value) (i : Int) (w : World) (h : i < 0) :
    Calls Tryd.prog 11 #[v, .int .i64 i] w fun e w' => e = .returned (.int .i64 0) ∧ w = w' := by
  go_enter Tryd.func11, Tryd.ntmps11
  go_wp2
  go_ret
  exact ⟨rfl, rfl⟩
theorem nat_Bit (v : Value) (xs : List Nat) (i : Nat) (w : World) (hv : Sl .u64 w v xs) (hm : xs.length ≤ 100000000) (hx : wf W64 xs) (hi : (i : Int) ≤ 9223372036854775807) :
    Calls Tryd.prog 11 #[v, .int .i64 i] w fun e w' => e = .returned (.int .i64 (nv W64 xs / 2 ^ i % 2 : Nat)) ∧ w = w' := by
  obtain ⟨ao, b, off, cap, rfl, hl, hcs⟩ := hv
  obtain ⟨q, eq⟩ : ∃ q, q = i / 64 := ⟨_, rfl⟩
  obtain ⟨r, er⟩ : ∃ r, r = i % 64 := ⟨_, rfl⟩
  have d1 : (i : Int) / 64 = q := by omega
  have d2 : (i : Int) % 64 = r := by omega
  have hr : r < 64 := by omega
  have ei : i = 64 * q + r := by omega
  have hi0 : (0 : Int) ≤ (i : Int) := Int.natCast_nonneg _
  by_cases hq : q < xs.length
  · rw [show nv W64 xs / 2 ^ i % 2 = xs.getD q 0 / 2 ^ r % 2 by rw [ei]; exact bit_of hx hq hr]
    obtain ⟨x, ex⟩ : ∃ x, x = xs.getD q 0 := ⟨_, rfl⟩
    obtain rfl := hcs.ao (by intro h; rw [h] at hq; simp at hq)
    have c := hcs.cell q hq
    have hxl : x < W64 := by rw [ex]; exact wf_getD hx (by decide) q
    rw [← ex] at c ⊢
    have hs0 : (x : Int) / 2 ^ r = ((x / 2 ^ r : Nat) : Int) := by simp
    obtain ⟨y, ey⟩ : ∃ y, y = x / 2 ^ r := ⟨_, rfl⟩
    rw [← ey] at hs0 ⊢
    have hs : (x : Int) / 2 ^ r = (y : Int) := hs0
    have ha := u64_and1 y
    obtain ⟨z, ez⟩ : ∃ z, z = y % 2 := ⟨_, rfl⟩
    rw [← ez] at ha ⊢
    have hz1 : z ≤ 1 := by omega
    clear ey ez hs0
    have hqI : (q : Int) < (xs.length : Int) := by omega
    clear ex hcs hx ei er eq hxl
    go_enter Tryd.func11, Tryd.ntmps11
    go_wp2
    go_ret
    exact ⟨rfl, rfl⟩
  · rw [show nv W64 xs / 2 ^ i % 2 = 0 by rw [bit_none hx (by omega)]]
    have hqI : (xs.length : Int) ≤ (q : Int) := by omega
    clear ei er eq hq hx hcs
    go_enter Tryd.func11, Tryd.ntmps11
    go_wp2
    go_ret
    exact ⟨rfl, rfl⟩

/-- What Zeros answers: 0 for nought, else how often 2 divides. -/
def RetZ (w : World) (N : Nat) (e : Ending) (w' : World) : Prop := ∃ z : Nat, e = .returned (.int .i64 z) ∧ (N = 0 → z = 0) ∧ (N ≠ 0 → IsZ N z) ∧ w = w'
set_option maxHeartbeats 400000 in
theorem nat_Zeros (v : Value) (xs : List Nat) (w : World) (hv : Sl .u64 w v xs) (hm : xs.length ≤ 1000000) (hx : wf W64 xs) (hT : Tz w) :
    Calls Tryd.prog 7 #[v] w (RetZ w (nv W64 xs)) := by
  obtain ⟨ao, b, off, cap, rfl, hl, hcs⟩ := hv
  have HT := Lib.hid hT
  have HX := Lib.hid hx
  obtain ⟨N, eN⟩ : ∃ N, N = nv W64 xs := ⟨_, rfl⟩
  rw [← eN]
  have HN := Lib.hid eN
  clear hT hx eN
  go_enter Tryd.func7, Tryd.ntmps7
  go_wp2
  go_loop [7] (fun iv => ∃ i : Nat, i ≤ xs.length ∧ iv = .int .i64 i ∧ Hid (N = W64 ^ i * nv W64 (xs.drop i))) (fun iv => xs.length - (intOf iv).toNat)
  case atStart => exact ⟨0, by omega, rfl, Lib.hid (by rw [HN.out]; simp)⟩
  case round =>
    obtain ⟨i, hi, rfl, hz⟩ := hrel
    by_cases hlt : i < xs.length
    · obtain ⟨x, ex⟩ : ∃ x, x = xs.getD i 0 := ⟨_, rfl⟩
      obtain rfl := hcs.ao (by intro h; rw [h] at hlt; simp at hlt)
      have c := hcs.cell i hlt
      have hxl : x < W64 := by rw [ex]; exact wf_getD HX.out (by decide) i
      rw [← ex] at c
      have hd : Hid (xs.drop i = x :: xs.drop (i + 1)) := Lib.hid (by rw [List.drop_eq_getElem_cons hlt, ex, getD_lt xs i hlt])
      clear ex
      by_cases h0 : x = 0
      · subst h0
        go_wp2
        go_round
        case rel => exact ⟨i + 1, by omega, by go_num, Lib.hid (by rw [hz.out, hd.out, nv_cons, Nat.zero_add, Nat.pow_succ, Nat.mul_assoc])⟩
        case measure => simp [intOf]; omega
      · have hne : ((x : Int) != 0) = true := by simp; exact h0
        have hfin := Lib.hid (ctz_val h0 hxl)
        have h64 := hfin.out.choose_spec.2
        have FIN := Lib.hid (show RetZ w N (.returned (.int .i64 (64 * (i : Int) + ((Lib.ctz 64 x : Nat) : Int)))) w by
          refine ⟨64 * i + Lib.ctz 64 x, by simp, fun h => ?_, fun _ => ?_, rfl⟩
          · exfalso
            rw [hz.out, hd.out, nv_cons] at h
            have h1 : 0 < W64 ^ i := Nat.pow_pos (by decide)
            rcases Nat.mul_eq_zero.1 h with h2 | h2 <;> omega
          · obtain ⟨m, hm2, h65⟩ := hfin.out
            obtain ⟨k, ek⟩ : ∃ k, k = Lib.ctz 64 x := ⟨_, rfl⟩
            rw [← ek] at hm2 h65 ⊢
            refine ⟨m + 2 ^ (63 - k) * nv W64 (xs.drop (i + 1)), ?_⟩
            rw [hz.out, hd.out, nv_cons]
            have h66 : W64 = 2 ^ k * (2 * 2 ^ (63 - k)) := by
              rw [← Nat.mul_assoc, Nat.mul_comm (2 ^ k) 2, Nat.mul_assoc, ← Nat.pow_add, show k + (63 - k) = 63 by omega]; rfl
            have h67 : W64 ^ i = 2 ^ (64 * i) := by rw [show W64 = 2 ^ 64 from rfl, ← Nat.pow_mul]
            have h68 : x + W64 * nv W64 (xs.drop (i + 1)) = 2 ^ k * (2 * (m + 2 ^ (63 - k) * nv W64 (xs.drop (i + 1))) + 1) := by
              have h69 : W64 * nv W64 (xs.drop (i + 1)) = 2 ^ k * (2 * (2 ^ (63 - k) * nv W64 (xs.drop (i + 1)))) := by
                rw [← Nat.mul_assoc 2, ← Nat.mul_assoc (2 ^ k), ← h66]
              rw [h69, Nat.mul_add 2, Nat.mul_add (2 ^ k), Nat.mul_add (2 ^ k)]
              rw [Nat.mul_add] at hm2
              omega
            rw [h68, h67, Nat.pow_add, Nat.mul_assoc])
        have hc0 : (0 : Int) ≤ ((Lib.ctz 64 x : Nat) : Int) := Int.natCast_nonneg _
        clear hd hz
        go_wp2_with fail
        refine (bits_Tz x hxl w HT.out).mono ?_; rintro e w1 ⟨rfl, rfl⟩
        clear hfin
        go_wp2
        go_ret
        exact FIN.out
    · have hz2 : Hid (N = 0) := Lib.hid (by rw [hz.out, List.drop_eq_nil_of_le (by omega)]; rfl)
      clear hz
      go_wp2
      go_ret
      exact ⟨0, rfl, fun _ => rfl, fun h => absurd hz2.out h, rfl⟩

end Go.Proofs.YtnnidjhhcnmnnaaDoor
