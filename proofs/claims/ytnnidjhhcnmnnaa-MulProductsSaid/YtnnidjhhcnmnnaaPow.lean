/- Package mul: Square, Pow. -/
import Derived.Test.YtnnidjhhcnmnnaaKar2
import Derived.Test.YtnnidjhhcnmnnaaBits
namespace Go.Proofs.Ytnnidjhhcnmnnaa
open Go.RowKit

theorem mul_Mul (v u : Value) (xs ys : List Nat) (w : World) (hv : Sl .u64 w v xs) (hu : Sl .u64 w u ys) (hm : xs.length ≤ 50000) (hn : ys.length ≤ 50000) (hx : wf W64 xs) (hy : wf W64 ys) :
    Calls Try.prog 37 #[v, u] w (RetN w (xs.length + ys.length) (nv W64 xs * nv W64 ys)) :=
  mul_Mul_aux (xs.length + ys.length) v u xs ys w hv hu (by omega) (by omega) (by omega) hx hy

theorem mul_Square (v : Value) (xs : List Nat) (w : World) (hv : Sl .u64 w v xs) (hm : xs.length ≤ 50000) (hx : wf W64 xs) :
    Calls Try.prog 38 #[v] w (RetN w (xs.length + xs.length) (nv W64 xs * nv W64 xs)) := by
  go_enter Try.func38, Try.ntmps38
  go_wp2_with fail
  refine (mul_Mul v v xs xs _ hv hv hm hm hx hx).mono ?_; rintro e w1 ⟨r, z, rfl, o, m, vv, l, b⟩
  have V1 := Lib.hid vv; clear vv
  go_wp2
  go_ret
  exact ⟨r, z, rfl, o, m, V1.out, l, b⟩

set_option maxHeartbeats 400000 in
theorem mul_Pow_no (v : Value) (xs : List Nat) (n : Int) (w : World) (hv : Sl .u64 w v xs) (hm : xs.length ≤ 100000000) (hx : wf W64 xs) (h : n < 0 ∨ (0 < bl (nv W64 xs) ∧ (1048576 : Int) / bl (nv W64 xs) < n)) :
    Calls Try.prog 40 #[v, .int .i64 n] w fun e w' => e = .returned (.tuple #[.slice none 0 0, .bool false]) ∧ w = w' := by
  by_cases hneg : n < 0
  · clear h
    go_enter Try.func40, Try.ntmps40
    go_wp2
    go_ret2
    exact ⟨rfl, rfl⟩
  · have h2 : 0 < bl (nv W64 xs) ∧ (1048576 : Int) / bl (nv W64 xs) < n := by
      rcases h with h | h
      · exact absurd h hneg
      · exact h
    clear h
    have hb := nat_Bits v xs w hv hm hx
    obtain ⟨c, ec⟩ : ∃ c, c = bl (nv W64 xs) := ⟨_, rfl⟩
    rw [← ec] at hb h2
    obtain ⟨h3, h4⟩ := h2
    have HB := Lib.hid hb; clear hb ec
    have hn0 : 0 ≤ n := by omega
    go_enter Try.func40, Try.ntmps40
    go_wp2_with fail
    refine HB.out.mono ?_; rintro e w' ⟨rfl, rfl⟩
    go_wp2_with fail
    refine HB.out.mono ?_; rintro e w' ⟨rfl, rfl⟩
    go_wp2
    go_ret2
    exact ⟨rfl, rfl⟩

theorem pow_len {zs : List Nat} {A m n b K L : Nat} (hz : Nrm W64 zs) (hv : nv W64 zs = A ^ m) (hmn : m ≤ n) (hA : A < 2 ^ b) (hb : b * n ≤ K) (hK : K < 64 * L) : zs.length ≤ L := by
  refine nrm_len_le (by decide) hz ?_
  rw [hv]
  have h1 : A ^ m ≤ (2 ^ b) ^ m := Nat.pow_le_pow_left (by omega) m
  rw [← Nat.pow_mul] at h1
  have h2 : b * m ≤ b * n := Nat.mul_le_mul_left _ hmn
  have h3 : 2 ^ (b * m) < 2 ^ (64 * L) := Nat.pow_lt_pow_right (by decide) (by omega)
  have h4 : (W64 : Nat) ^ L = 2 ^ (64 * L) := by rw [show W64 = 2 ^ 64 from rfl, ← Nat.pow_mul]
  omega

/-- What Pow returns. -/
def RetPB (w : World) (N : Nat) (e : Ending) (w' : World) : Prop :=
  ∃ r zs, e = .returned (.tuple #[r, .bool true]) ∧ Own .u64 32 w' w.heap.size r zs ∧ Nrm W64 zs ∧ nv W64 zs = N ∧ zs.length ≤ 16385 ∧ Below w.heap.size w w'

set_option maxHeartbeats 1000000 in
theorem mul_Pow_small (v : Value) (xs : List Nat) (n : Nat) (w : World) (hv : Sl .u64 w v xs) (hm : xs.length ≤ 100000000) (hx : wf W64 xs) (hn : 0 < n) (hn2 : (n : Int) ≤ 9223372036854775807) (hb1 : bl (nv W64 xs) ≤ 1) (h : bl (nv W64 xs) = 0 ∨ (n : Int) ≤ 1048576 / (bl (nv W64 xs) : Nat)) :
    Calls Try.prog 40 #[v, .int .i64 n] w (RetPB w (nv W64 xs ^ n)) := by
  have hb := nat_Bits v xs w hv hm hx
  have hval : nv W64 xs = nv W64 xs ^ n := by
    have h1 := (isBl_bl (nv W64 xs)).1
    have h2 : 2 ^ bl (nv W64 xs) ≤ 2 ^ 1 := Nat.pow_le_pow_right (by decide) hb1
    have h3 : nv W64 xs = 0 ∨ nv W64 xs = 1 := by omega
    rcases h3 with h | h
    · rw [h, Nat.zero_pow hn]
    · rw [h, Nat.one_pow]
  obtain ⟨c, ec⟩ : ∃ c, c = bl (nv W64 xs) := ⟨_, rfl⟩
  have hb10 := hb1
  rw [← ec] at hb hb1 h
  have HB := Lib.hid hb; clear hb ec
  have HV := Lib.hid hval; clear hval
  have hn0 : (0 : Int) < (n : Int) := by omega
  have hval2 : nv W64 xs < W64 ^ 1 := by
    have h1 := (isBl_bl (nv W64 xs)).1
    have h2 : 2 ^ bl (nv W64 xs) ≤ 2 ^ 1 := Nat.pow_le_pow_right (by decide) hb10
    have h3 : (2 : Nat) ^ 1 < W64 ^ 1 := by decide
    omega
  have HV2 := Lib.hid hval2; clear hval2 hb10
  by_cases hc : c = 0
  · subst hc
    clear h
    go_enter Try.func40, Try.ntmps40
    go_wp2_with fail
    refine HB.out.mono ?_; rintro e w' ⟨rfl, rfl⟩
    go_wp2_with fail
    refine HB.out.mono ?_; rintro e w' ⟨rfl, rfl⟩
    go_wp2_with fail
    refine (nat_Norm v xs _ hv (by omega) hx).mono ?_; rintro e w1 ⟨r1, z1, rfl, o1, m1, e1, k1, b1⟩
    have hl := nrm_len_le (k := 1) (by decide) m1 (by rw [e1]; exact HV2.out)
    have E1 := Lib.hid e1; clear e1
    go_wp2
    go_ret2
    exact ⟨_, z1, rfl, o1, m1, by rw [E1.out]; exact HV.out, by omega, b1⟩
  · obtain rfl : c = 1 := by omega
    have h5 : ¬ (1048576 : Int) < n := by omega
    clear h hc
    go_enter Try.func40, Try.ntmps40
    go_wp2_with fail
    refine HB.out.mono ?_; rintro e w' ⟨rfl, rfl⟩
    go_wp2_with fail
    refine HB.out.mono ?_; rintro e w' ⟨rfl, rfl⟩
    go_wp2_with fail
    refine HB.out.mono ?_; rintro e w' ⟨rfl, rfl⟩
    go_wp2_with fail
    refine (nat_Norm v xs _ hv (by omega) hx).mono ?_; rintro e w1 ⟨r1, z1, rfl, o1, m1, e1, k1, b1⟩
    have hl := nrm_len_le (k := 1) (by decide) m1 (by rw [e1]; exact HV2.out)
    have E1 := Lib.hid e1; clear e1
    go_wp2
    go_ret2
    exact ⟨_, z1, rfl, o1, m1, by rw [E1.out]; exact HV.out, by omega, b1⟩

theorem i64_and1 (n : Int) : bits .and .i64 n 1 = n % 2 := by
  have h1 : (BitVec.ofInt 64 1).toNat = 2 ^ 1 - 1 := by decide
  have key : (BitVec.ofInt 64 n &&& BitVec.ofInt 64 1).toNat = (n % ((2 ^ 64 : Nat) : Int)).toNat % 2 ^ 1 := by
    rw [BitVec.toNat_and, BitVec.toNat_ofInt, h1, Nat.and_two_pow_sub_one_eq_mod]
  show IntKind.i64.wrap ((BitVec.ofInt 64 n &&& BitVec.ofInt 64 1).toNat : Nat) = n % 2
  rw [key, IntKind.wrap_i64]
  omega

theorem bit_test (n i : Nat) : bits .and .i64 ((n : Int) / 2 ^ i) 1 = ((n / 2 ^ i % 2 : Nat) : Int) := by
  rw [i64_and1, show ((n : Int) / 2 ^ i) = ((n / 2 ^ i : Nat) : Int) from by simp]; omega

theorem pow_half (A n i : Nat) : A ^ (n / 2 ^ i) = A ^ (n / 2 ^ (i + 1)) * A ^ (n / 2 ^ (i + 1)) * A ^ (n / 2 ^ i % 2) := by
  rw [← Nat.pow_add, ← Nat.pow_add, Nat.pow_succ, ← Nat.div_div_eq_div_mul]
  congr 1; omega

/-- Where the loop of Pow stands. -/
def PowRel (w wr : World) (A n j : Nat) (v : Value) (zs : List Nat) : Prop :=
  Own .u64 32 wr w.heap.size v zs ∧ Below w.heap.size w wr ∧ Nrm W64 zs ∧ nv W64 zs = A ^ (n / 2 ^ j)

set_option maxHeartbeats 2000000 in
theorem mul_Pow_loop (v : Value) (xs : List Nat) (n : Nat) (w : World) (hv : Sl .u64 w v xs) (hm : xs.length ≤ 20000) (hx : wf W64 xs) (hn2 : n < 9223372036854775808) (hb1 : n = 0 ∨ 2 ≤ bl (nv W64 xs)) (h : bl (nv W64 xs) * n ≤ 1048576) :
    Calls Try.prog 40 #[v, .int .i64 n] w (RetPB w (nv W64 xs ^ n)) := by
  have hb := nat_Bits v xs w hv (by omega) hx
  have hlen := fun (zs : List Nat) (m : Nat) (hz : Nrm W64 zs) (hz2 : nv W64 zs = nv W64 xs ^ m) (hmn : m ≤ n) => pow_len (L := 16385) hz hz2 hmn (isBl_bl (nv W64 xs)).1 h (by omega)
  obtain ⟨c, ec⟩ : ∃ c, c = bl (nv W64 xs) := ⟨_, rfl⟩
  rw [← ec] at hb hb1 h
  have HB := Lib.hid hb; clear hb ec
  have HLEN := Lib.hid hlen; clear hlen
  have hn0 : (0 : Int) ≤ (n : Int) := by omega
  have hdiv : 0 < c → ¬ (1048576 : Int) / c < n := by
    intro hc h2
    have h3 : (n : Int) ≤ 1048576 / c := by
      rw [Int.le_ediv_iff_mul_le (by omega)]
      have : ((c * n : Nat) : Int) ≤ 1048576 := by omega
      rw [Int.natCast_mul, Int.mul_comm] at this; exact this
    omega
  have key : (c = 0 ∧ n = 0) ∨ (0 < c ∧ n = 0) ∨ (2 ≤ c ∧ 0 < n) := by omega
  have HC := Lib.hid h
  rcases key with ⟨hc, hn⟩ | ⟨hc, hn⟩ | ⟨hc, hn⟩
  · subst hc
    have hn1 : ¬ (0 : Int) < n := by omega
    have HN := Lib.hid hn
    clear hn hdiv hb1 h
    go_enter Try.func40, Try.ntmps40
    go_wp2_with fail
    refine HB.out.mono ?_; rintro e w' ⟨rfl, rfl⟩
    go_wp2_with fail
    refine HB.out.mono ?_; rintro e w' ⟨rfl, rfl⟩
    go_wp2_with fail
    refine (nat_Of 1 (by decide) _).mono ?_; rintro e w1 ⟨r1, z1, rfl, o1, m1, e1, k1, b1⟩
    have E1 := Lib.hid e1; clear e1
    go_wp2_with fail
    go_loopw [6, 7] (fun ov iv wr => ∃ (j : Nat) (zs : List Nat), j ≤ 63 ∧ iv = .int .i64 ((j : Int) - 1) ∧ PowRel w wr (nv W64 xs) n j ov zs) (fun _ iv _ => (intOf iv + 1).toNat)
    case atStart => exact ⟨63, z1, by omega, rfl, o1, b1, m1, by rw [E1.out, Nat.div_eq_of_lt (Nat.lt_of_lt_of_le hn2 (by decide))]; rfl⟩
    case round =>
      obtain ⟨j, zs, hj, rfl, ho, hbl, hnz, hval⟩ := hrel
      have hl := HLEN.out zs (n / 2 ^ j) hnz hval (Nat.div_le_self _ _)
      have HV := Lib.hid hval; clear hval
      by_cases hj0 : 0 < j
      · obtain ⟨i, rfl⟩ : ∃ i, j = i + 1 := ⟨j - 1, by omega⟩
        have hph := pow_half (nv W64 xs) n i
        have hbt := bit_test n i
        have hle2 : n / 2 ^ (i + 1) + n / 2 ^ (i + 1) ≤ n := by
          have h1 : n / 2 ^ (i + 1) ≤ n / 2 := by
            rw [Nat.pow_succ, Nat.mul_comm, ← Nat.div_div_eq_div_mul]; exact Nat.div_le_self _ _
          omega
        obtain ⟨bt, ebt⟩ : ∃ bt, bt = n / 2 ^ i % 2 := ⟨_, rfl⟩
        rw [← ebt] at hbt hph
        have hb2 : bt = 0 ∨ bt = 1 := by omega
        have HPH := Lib.hid hph
        have HLE := Lib.hid hle2
        have hb3 := hbl.size
        clear ebt hph hle2
        go_wp2_with fail
        refine (mul_Square _ zs _ ho.sl (by omega) hnz.1).mono ?_; rintro e w2 ⟨r2, z2, rfl, o2, m2, e2, k2, b2⟩
        have hv2 : nv W64 z2 = nv W64 xs ^ (n / 2 ^ (i + 1) + n / 2 ^ (i + 1)) := by rw [e2, HV.out]; exact (Nat.pow_add _ _ _).symm
        have hl2 := HLEN.out z2 _ m2 hv2 HLE.out
        have E2 := Lib.hid e2
        have V2 := Lib.hid hv2
        clear e2 hv2 k2
        rcases hb2 with rfl | rfl
        · have ht : (bits .and .i64 ((n : Int) / 2 ^ i) 1 == 1) = false := by rw [hbt]; rfl
          have HPH2 : Hid (nv W64 z2 = nv W64 xs ^ (n / 2 ^ i)) := by
            rw [HPH.out, E2.out, HV.out, Nat.pow_zero, Nat.mul_one]; exact Lib.hid rfl
          clear hbt
          go_wp2
          go_roundw
          case rel => exact ⟨i, z2, by omega, rfl, o2.mono hb3, hbl.trans (b2.mono hb3), m2, HPH2.out⟩
          case measure => simp [intOf] <;> omega
        · have ht : (bits .and .i64 ((n : Int) / 2 ^ i) 1 == 1) = true := by rw [hbt]; rfl
          clear hbt
          have hvw := (hv.below hbl (Nat.le_refl _)).next b2
          go_wp2_with fail
          refine (mul_Mul _ v z2 xs _ o2.sl hvw (by omega) (by omega) m2.1 hx).mono ?_; rintro e w3 ⟨r3, z3, rfl, o3, m3, e3, k3, b3⟩
          have HPH2 : Hid (nv W64 z3 = nv W64 xs ^ (n / 2 ^ i)) := by
            rw [HPH.out, e3, E2.out, HV.out, Nat.pow_one]; exact Lib.hid rfl
          clear e3 k3
          go_wp2
          go_roundw
          case rel => exact ⟨i, z3, by omega, rfl, (o3.mono b2.size).mono hb3, hbl.trans ((b2.trans (b3.mono b2.size)).mono hb3), m3, HPH2.out⟩
          case measure => simp [intOf] <;> omega
      · obtain rfl : j = 0 := by omega
        go_wp2
        go_ret2
        exact ⟨_, zs, rfl, ho, hnz, by rw [HV.out]; simp, hl, hbl⟩
  · have hd := hdiv hc
    have hn1 : ¬ (0 : Int) < n := by omega
    have HN := Lib.hid hn
    clear hn hdiv hb1 h
    by_cases hc1 : c ≤ 1
    · go_enter Try.func40, Try.ntmps40
      go_wp2_with fail
      refine HB.out.mono ?_; rintro e w' ⟨rfl, rfl⟩
      go_wp2_with fail
      refine HB.out.mono ?_; rintro e w' ⟨rfl, rfl⟩
      go_wp2_with fail
      refine HB.out.mono ?_; rintro e w' ⟨rfl, rfl⟩
      go_wp2_with fail
      refine (nat_Of 1 (by decide) _).mono ?_; rintro e w1 ⟨r1, z1, rfl, o1, m1, e1, k1, b1⟩
      have E1 := Lib.hid e1; clear e1
      go_wp2_with fail
      go_loopw [6, 7] (fun ov iv wr => ∃ (j : Nat) (zs : List Nat), j ≤ 63 ∧ iv = .int .i64 ((j : Int) - 1) ∧ PowRel w wr (nv W64 xs) n j ov zs) (fun _ iv _ => (intOf iv + 1).toNat)
      case atStart => exact ⟨63, z1, by omega, rfl, o1, b1, m1, by rw [E1.out, Nat.div_eq_of_lt (Nat.lt_of_lt_of_le hn2 (by decide))]; rfl⟩
      case round =>
        obtain ⟨j, zs, hj, rfl, ho, hbl, hnz, hval⟩ := hrel
        have hl := HLEN.out zs (n / 2 ^ j) hnz hval (Nat.div_le_self _ _)
        have HV := Lib.hid hval; clear hval
        by_cases hj0 : 0 < j
        · obtain ⟨i, rfl⟩ : ∃ i, j = i + 1 := ⟨j - 1, by omega⟩
          have hph := pow_half (nv W64 xs) n i
          have hbt := bit_test n i
          have hle2 : n / 2 ^ (i + 1) + n / 2 ^ (i + 1) ≤ n := by
            have h1 : n / 2 ^ (i + 1) ≤ n / 2 := by
              rw [Nat.pow_succ, Nat.mul_comm, ← Nat.div_div_eq_div_mul]; exact Nat.div_le_self _ _
            omega
          obtain ⟨bt, ebt⟩ : ∃ bt, bt = n / 2 ^ i % 2 := ⟨_, rfl⟩
          rw [← ebt] at hbt hph
          have hb2 : bt = 0 ∨ bt = 1 := by omega
          have HPH := Lib.hid hph
          have HLE := Lib.hid hle2
          have hb3 := hbl.size
          clear ebt hph hle2
          go_wp2_with fail
          refine (mul_Square _ zs _ ho.sl (by omega) hnz.1).mono ?_; rintro e w2 ⟨r2, z2, rfl, o2, m2, e2, k2, b2⟩
          have hv2 : nv W64 z2 = nv W64 xs ^ (n / 2 ^ (i + 1) + n / 2 ^ (i + 1)) := by rw [e2, HV.out]; exact (Nat.pow_add _ _ _).symm
          have hl2 := HLEN.out z2 _ m2 hv2 HLE.out
          have E2 := Lib.hid e2
          have V2 := Lib.hid hv2
          clear e2 hv2 k2
          rcases hb2 with rfl | rfl
          · have ht : (bits .and .i64 ((n : Int) / 2 ^ i) 1 == 1) = false := by rw [hbt]; rfl
            have HPH2 : Hid (nv W64 z2 = nv W64 xs ^ (n / 2 ^ i)) := by
              rw [HPH.out, E2.out, HV.out, Nat.pow_zero, Nat.mul_one]; exact Lib.hid rfl
            clear hbt
            go_wp2
            go_roundw
            case rel => exact ⟨i, z2, by omega, rfl, o2.mono hb3, hbl.trans (b2.mono hb3), m2, HPH2.out⟩
            case measure => simp [intOf] <;> omega
          · have ht : (bits .and .i64 ((n : Int) / 2 ^ i) 1 == 1) = true := by rw [hbt]; rfl
            clear hbt
            have hvw := (hv.below hbl (Nat.le_refl _)).next b2
            go_wp2_with fail
            refine (mul_Mul _ v z2 xs _ o2.sl hvw (by omega) (by omega) m2.1 hx).mono ?_; rintro e w3 ⟨r3, z3, rfl, o3, m3, e3, k3, b3⟩
            have HPH2 : Hid (nv W64 z3 = nv W64 xs ^ (n / 2 ^ i)) := by
              rw [HPH.out, e3, E2.out, HV.out, Nat.pow_one]; exact Lib.hid rfl
            clear e3 k3
            go_wp2
            go_roundw
            case rel => exact ⟨i, z3, by omega, rfl, (o3.mono b2.size).mono hb3, hbl.trans ((b2.trans (b3.mono b2.size)).mono hb3), m3, HPH2.out⟩
            case measure => simp [intOf] <;> omega
        · obtain rfl : j = 0 := by omega
          go_wp2
          go_ret2
          exact ⟨_, zs, rfl, ho, hnz, by rw [HV.out]; simp, hl, hbl⟩
    · go_enter Try.func40, Try.ntmps40
      go_wp2_with fail
      refine HB.out.mono ?_; rintro e w' ⟨rfl, rfl⟩
      go_wp2_with fail
      refine HB.out.mono ?_; rintro e w' ⟨rfl, rfl⟩
      go_wp2_with fail
      refine HB.out.mono ?_; rintro e w' ⟨rfl, rfl⟩
      go_wp2_with fail
      refine (nat_Of 1 (by decide) _).mono ?_; rintro e w1 ⟨r1, z1, rfl, o1, m1, e1, k1, b1⟩
      have E1 := Lib.hid e1; clear e1
      go_wp2_with fail
      go_loopw [6, 7] (fun ov iv wr => ∃ (j : Nat) (zs : List Nat), j ≤ 63 ∧ iv = .int .i64 ((j : Int) - 1) ∧ PowRel w wr (nv W64 xs) n j ov zs) (fun _ iv _ => (intOf iv + 1).toNat)
      case atStart => exact ⟨63, z1, by omega, rfl, o1, b1, m1, by rw [E1.out, Nat.div_eq_of_lt (Nat.lt_of_lt_of_le hn2 (by decide))]; rfl⟩
      case round =>
        obtain ⟨j, zs, hj, rfl, ho, hbl, hnz, hval⟩ := hrel
        have hl := HLEN.out zs (n / 2 ^ j) hnz hval (Nat.div_le_self _ _)
        have HV := Lib.hid hval; clear hval
        by_cases hj0 : 0 < j
        · obtain ⟨i, rfl⟩ : ∃ i, j = i + 1 := ⟨j - 1, by omega⟩
          have hph := pow_half (nv W64 xs) n i
          have hbt := bit_test n i
          have hle2 : n / 2 ^ (i + 1) + n / 2 ^ (i + 1) ≤ n := by
            have h1 : n / 2 ^ (i + 1) ≤ n / 2 := by
              rw [Nat.pow_succ, Nat.mul_comm, ← Nat.div_div_eq_div_mul]; exact Nat.div_le_self _ _
            omega
          obtain ⟨bt, ebt⟩ : ∃ bt, bt = n / 2 ^ i % 2 := ⟨_, rfl⟩
          rw [← ebt] at hbt hph
          have hb2 : bt = 0 ∨ bt = 1 := by omega
          have HPH := Lib.hid hph
          have HLE := Lib.hid hle2
          have hb3 := hbl.size
          clear ebt hph hle2
          go_wp2_with fail
          refine (mul_Square _ zs _ ho.sl (by omega) hnz.1).mono ?_; rintro e w2 ⟨r2, z2, rfl, o2, m2, e2, k2, b2⟩
          have hv2 : nv W64 z2 = nv W64 xs ^ (n / 2 ^ (i + 1) + n / 2 ^ (i + 1)) := by rw [e2, HV.out]; exact (Nat.pow_add _ _ _).symm
          have hl2 := HLEN.out z2 _ m2 hv2 HLE.out
          have E2 := Lib.hid e2
          have V2 := Lib.hid hv2
          clear e2 hv2 k2
          rcases hb2 with rfl | rfl
          · have ht : (bits .and .i64 ((n : Int) / 2 ^ i) 1 == 1) = false := by rw [hbt]; rfl
            have HPH2 : Hid (nv W64 z2 = nv W64 xs ^ (n / 2 ^ i)) := by
              rw [HPH.out, E2.out, HV.out, Nat.pow_zero, Nat.mul_one]; exact Lib.hid rfl
            clear hbt
            go_wp2
            go_roundw
            case rel => exact ⟨i, z2, by omega, rfl, o2.mono hb3, hbl.trans (b2.mono hb3), m2, HPH2.out⟩
            case measure => simp [intOf] <;> omega
          · have ht : (bits .and .i64 ((n : Int) / 2 ^ i) 1 == 1) = true := by rw [hbt]; rfl
            clear hbt
            have hvw := (hv.below hbl (Nat.le_refl _)).next b2
            go_wp2_with fail
            refine (mul_Mul _ v z2 xs _ o2.sl hvw (by omega) (by omega) m2.1 hx).mono ?_; rintro e w3 ⟨r3, z3, rfl, o3, m3, e3, k3, b3⟩
            have HPH2 : Hid (nv W64 z3 = nv W64 xs ^ (n / 2 ^ i)) := by
              rw [HPH.out, e3, E2.out, HV.out, Nat.pow_one]; exact Lib.hid rfl
            clear e3 k3
            go_wp2
            go_roundw
            case rel => exact ⟨i, z3, by omega, rfl, (o3.mono b2.size).mono hb3, hbl.trans ((b2.trans (b3.mono b2.size)).mono hb3), m3, HPH2.out⟩
            case measure => simp [intOf] <;> omega
        · obtain rfl : j = 0 := by omega
          go_wp2
          go_ret2
          exact ⟨_, zs, rfl, ho, hnz, by rw [HV.out]; simp, hl, hbl⟩
  · have hd := hdiv (by omega)
    clear hb1 h hdiv
    go_enter Try.func40, Try.ntmps40
    go_wp2_with fail
    refine HB.out.mono ?_; rintro e w' ⟨rfl, rfl⟩
    go_wp2_with fail
    refine HB.out.mono ?_; rintro e w' ⟨rfl, rfl⟩
    go_wp2_with fail
    refine HB.out.mono ?_; rintro e w' ⟨rfl, rfl⟩
    go_wp2_with fail
    refine (nat_Of 1 (by decide) _).mono ?_; rintro e w1 ⟨r1, z1, rfl, o1, m1, e1, k1, b1⟩
    have E1 := Lib.hid e1; clear e1
    go_wp2_with fail
    go_loopw [6, 7] (fun ov iv wr => ∃ (j : Nat) (zs : List Nat), j ≤ 63 ∧ iv = .int .i64 ((j : Int) - 1) ∧ PowRel w wr (nv W64 xs) n j ov zs) (fun _ iv _ => (intOf iv + 1).toNat)
    case atStart => exact ⟨63, z1, by omega, rfl, o1, b1, m1, by rw [E1.out, Nat.div_eq_of_lt (Nat.lt_of_lt_of_le hn2 (by decide))]; rfl⟩
    case round =>
      obtain ⟨j, zs, hj, rfl, ho, hbl, hnz, hval⟩ := hrel
      have hl := HLEN.out zs (n / 2 ^ j) hnz hval (Nat.div_le_self _ _)
      have HV := Lib.hid hval; clear hval
      by_cases hj0 : 0 < j
      · obtain ⟨i, rfl⟩ : ∃ i, j = i + 1 := ⟨j - 1, by omega⟩
        have hph := pow_half (nv W64 xs) n i
        have hbt := bit_test n i
        have hle2 : n / 2 ^ (i + 1) + n / 2 ^ (i + 1) ≤ n := by
          have h1 : n / 2 ^ (i + 1) ≤ n / 2 := by
            rw [Nat.pow_succ, Nat.mul_comm, ← Nat.div_div_eq_div_mul]; exact Nat.div_le_self _ _
          omega
        obtain ⟨bt, ebt⟩ : ∃ bt, bt = n / 2 ^ i % 2 := ⟨_, rfl⟩
        rw [← ebt] at hbt hph
        have hb2 : bt = 0 ∨ bt = 1 := by omega
        have HPH := Lib.hid hph
        have HLE := Lib.hid hle2
        have hb3 := hbl.size
        clear ebt hph hle2
        go_wp2_with fail
        refine (mul_Square _ zs _ ho.sl (by omega) hnz.1).mono ?_; rintro e w2 ⟨r2, z2, rfl, o2, m2, e2, k2, b2⟩
        have hv2 : nv W64 z2 = nv W64 xs ^ (n / 2 ^ (i + 1) + n / 2 ^ (i + 1)) := by rw [e2, HV.out]; exact (Nat.pow_add _ _ _).symm
        have hl2 := HLEN.out z2 _ m2 hv2 HLE.out
        have E2 := Lib.hid e2
        have V2 := Lib.hid hv2
        clear e2 hv2 k2
        rcases hb2 with rfl | rfl
        · have ht : (bits .and .i64 ((n : Int) / 2 ^ i) 1 == 1) = false := by rw [hbt]; rfl
          have HPH2 : Hid (nv W64 z2 = nv W64 xs ^ (n / 2 ^ i)) := by
            rw [HPH.out, E2.out, HV.out, Nat.pow_zero, Nat.mul_one]; exact Lib.hid rfl
          clear hbt
          go_wp2
          go_roundw
          case rel => exact ⟨i, z2, by omega, rfl, o2.mono hb3, hbl.trans (b2.mono hb3), m2, HPH2.out⟩
          case measure => simp [intOf] <;> omega
        · have ht : (bits .and .i64 ((n : Int) / 2 ^ i) 1 == 1) = true := by rw [hbt]; rfl
          clear hbt
          have hvw := (hv.below hbl (Nat.le_refl _)).next b2
          go_wp2_with fail
          refine (mul_Mul _ v z2 xs _ o2.sl hvw (by omega) (by omega) m2.1 hx).mono ?_; rintro e w3 ⟨r3, z3, rfl, o3, m3, e3, k3, b3⟩
          have HPH2 : Hid (nv W64 z3 = nv W64 xs ^ (n / 2 ^ i)) := by
            rw [HPH.out, e3, E2.out, HV.out, Nat.pow_one]; exact Lib.hid rfl
          clear e3 k3
          go_wp2
          go_roundw
          case rel => exact ⟨i, z3, by omega, rfl, (o3.mono b2.size).mono hb3, hbl.trans ((b2.trans (b3.mono b2.size)).mono hb3), m3, HPH2.out⟩
          case measure => simp [intOf] <;> omega
      · obtain rfl : j = 0 := by omega
        go_wp2
        go_ret2
        exact ⟨_, zs, rfl, ho, hnz, by rw [HV.out]; simp, hl, hbl⟩

end Go.Proofs.Ytnnidjhhcnmnnaa
