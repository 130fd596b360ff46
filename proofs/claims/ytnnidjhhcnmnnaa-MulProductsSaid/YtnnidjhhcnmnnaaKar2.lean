/- Package mul: Mul, Square. -/
import Derived.Test.YtnnidjhhcnmnnaaKar
namespace Go.Proofs.Ytnnidjhhcnmnnaa
open Go.RowKit

theorem mul_len {xs ys zs : List Nat} (hx : wf W64 xs) (hy : wf W64 ys) (hz : Nrm W64 zs) (hv : nv W64 zs = nv W64 xs * nv W64 ys) : zs.length ≤ xs.length + ys.length := by
  refine nrm_len_le (by decide) hz ?_
  rw [hv, Nat.pow_add]
  exact Nat.mul_lt_mul'' (nv_lt xs hx) (nv_lt ys hy)

theorem nv_split (xs : List Nat) (n : Nat) : nv W64 xs = nv W64 (xs.take n) + W64 ^ n * nv W64 (xs.drop n) := by
  by_cases h : n ≤ xs.length
  · exact nv_take_drop W64 xs n h
  · rw [List.take_of_length_le (by omega), List.drop_eq_nil_of_le (by omega)]; simp [nv]

theorem add_len {xs ys zs : List Nat} {n : Nat} (hx : wf W64 xs) (hy : wf W64 ys) (hz : Nrm W64 zs) (hv : nv W64 zs = nv W64 xs + nv W64 ys) (lx : xs.length ≤ n) (ly : ys.length ≤ n) : zs.length ≤ n + 1 := by
  refine nrm_len_le (by decide) hz ?_
  have h1 := nv_lt xs hx
  have h2 := nv_lt ys hy
  have h3 : W64 ^ xs.length ≤ W64 ^ n := Nat.pow_le_pow_right (by decide) lx
  have h4 : W64 ^ ys.length ≤ W64 ^ n := Nat.pow_le_pow_right (by decide) ly
  rw [hv, Nat.pow_succ]
  have h5 : W64 ^ n * 2 ≤ W64 ^ n * W64 := Nat.mul_le_mul_left _ (by decide)
  omega

theorem kar_arith (P Q R S N : Nat) : P * R + N * ((P + Q) * (R + S) - P * R - Q * S) + N ^ 2 * (Q * S) = (P + N * Q) * (R + N * S) := by
  have e : (P + Q) * (R + S) - P * R - Q * S = P * S + Q * R := by
    have : (P + Q) * (R + S) = P * R + Q * S + (P * S + Q * R) := by simp [Nat.add_mul, Nat.mul_add]; omega
    omega
  rw [e]
  simp only [Nat.add_mul, Nat.mul_add, Nat.pow_two]
  have h1 : P * (N * S) = N * (P * S) := by simp [Nat.mul_left_comm]
  have h2 : N * Q * R = N * (Q * R) := by simp [Nat.mul_assoc]
  have h3 : N * Q * (N * S) = N * N * (Q * S) := by simp [Nat.mul_assoc, Nat.mul_left_comm]
  rw [h1, h2, h3]; omega

theorem kar_le1 (P Q R S : Nat) : P * R ≤ (P + Q) * (R + S) := Nat.mul_le_mul (by omega) (by omega)
theorem kar_le2 (P Q R S : Nat) : Q * S ≤ (P + Q) * (R + S) - P * R := by
  have : (P + Q) * (R + S) = P * R + Q * S + (P * S + Q * R) := by simp [Nat.add_mul, Nat.mul_add]; omega
  omega

set_option maxHeartbeats 4000000 in
theorem mul_Mul_aux (k : Nat) : ∀ (v u : Value) (xs ys : List Nat) (w : World), Sl .u64 w v xs → Sl .u64 w u ys → xs.length ≤ k → ys.length ≤ k → k ≤ 100000 → wf W64 xs → wf W64 ys →
    Calls Try.prog 37 #[v, u] w (RetN w (xs.length + ys.length) (nv W64 xs * nv W64 ys)) := by
  induction k using Nat.strongRecOn with
  | ind k ih =>
    intro v u xs ys w s0 s1 l0 l1 hk f0 f1
    have IH := Lib.hid ih; clear ih
    go_enter Try.func37, Try.ntmps37
    go_wp2_with fail
    refine (nat_Norm v xs _ s0 (by omega) f0).mono ?_; rintro e w1 ⟨r1, z1, rfl, o1, m1, e1, k1, b1⟩
    have E1 := Lib.hid e1; clear e1
    replace s1 := s1.next b1
    go_wp2_with fail
    refine (nat_Norm u ys _ s1 (by omega) f1).mono ?_; rintro e w2 ⟨r2, z2, rfl, o2, m2, e2, k2, b2⟩
    have E2 := Lib.hid e2; clear e2
    have B := b1.trans (b2.mono b1.size)
    have t1 := (o1.next b2).sl
    have t2 := o2.sl
    clear o1 o2 s0 s1
    obtain ⟨a1, p1, q1, c1, rfl, g1, i1⟩ := t1
    obtain ⟨a2, p2, q2, c2, rfl, g2, i2⟩ := t2
    have t1 : Sl .u64 w2 (.slice a1 z1.length c1) z1 := ⟨a1, p1, q1, c1, rfl, g1, i1⟩
    have t2 : Sl .u64 w2 (.slice a2 z2.length c2) z2 := ⟨a2, p2, q2, c2, rfl, g2, i2⟩
    clear i1 i2
    by_cases h : z1.length ≤ 8 ∨ z2.length ≤ 8
    · by_cases hc : z2.length < z1.length
      all_goals
        have h8 : z2.length ≤ 8 ∨ z1.length ≤ 8 := by omega
        first
          | (have hs : (z2.length : Int) ≤ 8 := by omega
             clear h h8
             go_wp2_with fail
             refine (nat_Mul _ _ z1 z2 _ t1 t2 (by omega) (by omega) m1.1 m2.1).mono ?_; rintro e w3 ⟨r3, z3, rfl, o3, m3, e3, k3, b3⟩)
          | (have hs : (z1.length : Int) ≤ 8 := by omega
             clear h h8
             go_wp2_with fail
             refine (nat_Mul _ _ z1 z2 _ t1 t2 (by omega) (by omega) m1.1 m2.1).mono ?_; rintro e w3 ⟨r3, z3, rfl, o3, m3, e3, k3, b3⟩)
        have hl := mul_len m1.1 m2.1 m3 e3
        have E3 := Lib.hid e3; clear e3
        go_wp2
        go_ret
        exact ⟨_, z3, rfl, o3.mono B.size, m3, by rw [E3.out, E1.out, E2.out], by omega, B.trans (b3.mono B.size)⟩
    · have h1 : 8 < z1.length := by omega
      have h2 : 8 < z2.length := by omega
      clear h
      obtain ⟨n, hn1, hn2, hn3, hn4⟩ : ∃ n : Nat, z1.length ≤ 2 * n ∧ z2.length ≤ 2 * n ∧ n + 1 < k ∧ ((z1.length < z2.length ∧ n = (z2.length + 1) / 2) ∨ (z2.length ≤ z1.length ∧ n = (z1.length + 1) / 2)) := by
        by_cases hc : z1.length < z2.length
        · exact ⟨(z2.length + 1) / 2, by omega, by omega, by omega, .inl ⟨hc, rfl⟩⟩
        · exact ⟨(z1.length + 1) / 2, by omega, by omega, by omega, .inr ⟨by omega, rfl⟩⟩
      have v1 := nv_split z1 n
      have v2 := nv_split z2 n
      have dl1 : (z1.drop n).length ≤ n := by simp; omega
      have dl2 : (z2.drop n).length ≤ n := by simp; omega
      have tl1 : (z1.take n).length ≤ n := by simp; omega
      have tl2 : (z2.take n).length ≤ n := by simp; omega
      have wp := wf_take m1.1 n
      have wq := wf_drop m1.1 n
      have wr := wf_take m2.1 n
      have ws := wf_drop m2.1 n
      have lowp := mul_low _ z1 n _ t1
      have higq := mul_high _ z1 n _ t1
      have lowr := mul_low _ z2 n _ t2
      have higs := mul_high _ z2 n _ t2
      generalize z1.take n = P at *
      generalize z1.drop n = Q at *
      generalize z2.take n = R at *
      generalize z2.drop n = S at *
      have LP := Lib.hid lowp
      have HQ := Lib.hid higq
      have LR := Lib.hid lowr
      have HS := Lib.hid higs
      have V1 := Lib.hid v1
      have V2 := Lib.hid v2
      clear lowp higq lowr higs v1 v2
      rcases hn4 with ⟨hc, hn⟩ | ⟨hc, hn⟩
      all_goals
        first
          | (have hd : ((z2.length : Int) + 1) / 2 = (n : Int) := by omega
             have hs : (8 : Int) < z1.length := by omega
             have hcc : ¬ z2.length < z1.length := by omega
             have HN := Lib.hid hn; clear hn
             go_wp2_with fail
             refine LP.out.mono ?_)
          | (have hd : ((z1.length : Int) + 1) / 2 = (n : Int) := by omega
             have hcc : ¬ z1.length < z2.length := by omega
             have HN := Lib.hid hn; clear hn
             by_cases hce : z2.length < z1.length
             all_goals
               go_wp2_with fail
               refine LP.out.mono ?_)
        all_goals
          rintro e w' ⟨vp, rfl, sp, rfl⟩
          go_wp2_with fail
          refine HQ.out.mono ?_; rintro e w' ⟨vq, rfl, sq, rfl⟩
          go_wp2_with fail
          refine LR.out.mono ?_; rintro e w' ⟨vr, rfl, sr, rfl⟩
          go_wp2_with fail
          refine HS.out.mono ?_; rintro e w' ⟨vs, rfl, ss, rfl⟩
          clear t1 t2
          go_wp2_with fail
          refine (IH.out n (by omega) vp vr P R _ sp sr tl1 tl2 (by omega) wp wr).mono ?_; rintro e w3 ⟨r3, z3, rfl, o3, m3, e3, k3, b3⟩
          have E3 := Lib.hid e3; clear e3
          replace sp := sp.next b3
          replace sq := sq.next b3
          replace sr := sr.next b3
          replace ss := ss.next b3
          replace B := B.trans (b3.mono B.size)
          go_wp2_with fail
          refine (IH.out n (by omega) vq vs Q S _ sq ss dl1 dl2 (by omega) wq ws).mono ?_; rintro e w4 ⟨r4, z4, rfl, o4, m4, e4, k4, b4⟩
          have E4 := Lib.hid e4; clear e4
          replace sp := sp.next b4
          replace sq := sq.next b4
          replace sr := sr.next b4
          replace ss := ss.next b4
          replace o3 := o3.next b4
          replace B := B.trans (b4.mono B.size)
          go_wp2_with fail
          refine (nat_Add vp vq P Q _ sp sq (by omega) (by omega) wp wq).mono ?_; rintro e w5 ⟨r5, z5, rfl, o5, m5, e5, k5, b5⟩
          have j5 := add_len wp wq m5 e5 tl1 dl1
          have E5 := Lib.hid e5; clear e5 k5
          replace sr := sr.next b5
          replace ss := ss.next b5
          replace o3 := o3.next b5
          replace o4 := o4.next b5
          replace B := B.trans (b5.mono B.size)
          clear sp sq
          go_wp2_with fail
          refine (nat_Add vr vs R S _ sr ss (by omega) (by omega) wr ws).mono ?_; rintro e w6 ⟨r6, z6, rfl, o6, m6, e6, k6, b6⟩
          have j6 := add_len wr ws m6 e6 tl2 dl2
          have E6 := Lib.hid e6; clear e6 k6
          replace o3 := o3.next b6
          replace o4 := o4.next b6
          replace o5 := o5.next b6
          replace B := B.trans (b6.mono B.size)
          clear sr ss
          go_wp2_with fail
          refine (IH.out (n + 1) (by omega) r5 r6 z5 z6 _ o5.sl o6.sl j5 j6 (by omega) m5.1 m6.1).mono ?_; rintro e w7 ⟨r7, z7, rfl, o7, m7, e7, k7, b7⟩
          have E7 := Lib.hid e7; clear e7
          replace o3 := o3.next b7
          replace o4 := o4.next b7
          replace B := B.trans (b7.mono B.size)
          clear o5 o6
          go_wp2_with fail
          refine (mul_less r7 r3 z7 z3 _ o7.sl o3.sl (by omega) (by omega) m7.1 m3.1 (by rw [E7.out, E5.out, E6.out, E3.out]; exact kar_le1 _ _ _ _)).mono ?_; rintro e w8 ⟨r8, z8, rfl, o8, m8, e8, k8, b8⟩
          have E8 := Lib.hid e8; clear e8
          replace o3 := o3.next b8
          replace o4 := o4.next b8
          replace B := B.trans (b8.mono B.size)
          clear o7
          go_wp2_with fail
          refine (mul_less r8 r4 z8 z4 _ o8.sl o4.sl (by omega) (by omega) m8.1 m4.1 (by rw [E8.out, E7.out, E5.out, E6.out, E3.out, E4.out]; exact kar_le2 _ _ _ _)).mono ?_; rintro e w9 ⟨r9, z9, rfl, o9, m9, e9, k9, b9⟩
          have E9 := Lib.hid e9; clear e9
          replace o3 := o3.next b9
          replace o4 := o4.next b9
          replace B := B.trans (b9.mono B.size)
          clear o8
          go_wp2_with fail
          refine (mul_joined r3 r9 r4 z3 z9 z4 n _ o3.sl o9.sl o4.sl (by omega) (by omega) (by omega) (by omega) m3.1 m9.1 m4.1).mono ?_; rintro e w10 ⟨ra, za, rfl, oa, ma, ea, ba⟩
          have hval : nv W64 za = nv W64 z1 * nv W64 z2 := by
            rw [ea, E9.out, E8.out, E7.out, E5.out, E6.out, E3.out, E4.out, V1.out, V2.out, Nat.mul_comm 2 n, Nat.pow_mul]
            exact kar_arith _ _ _ _ _
          have hl := mul_len m1.1 m2.1 ma hval
          have EA := Lib.hid hval; clear hval ea
          go_wp2
          go_ret
          exact ⟨_, za, rfl, oa.mono B.size, ma, by rw [EA.out, E1.out, E2.out], by omega, B.trans (ba.mono B.size)⟩

end Go.Proofs.Ytnnidjhhcnmnnaa
