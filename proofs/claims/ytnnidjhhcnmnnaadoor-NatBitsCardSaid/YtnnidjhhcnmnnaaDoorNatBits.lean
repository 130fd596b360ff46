/- For all naturals and whole numbers the law NatBits returns true, whatever they are; what the table of bits.TrailingZeros64 holds is tied to the program's text. -/
import Derived.Test.YtnnidjhhcnmnnaaDoorCards
import Derived.Test.YtnnidjhhcnmnnaaDoorTie
import Derived.ProofKit
import Derived.OpenShut
import Derived.Deep.DeepHandedRow
import Derived.Lib.LaidTab
import Derived.Test.YtnnidjhhcnmnnaaDoorOpen
import Derived.Test.YtnnidjhhcnmnnaaDoorZeros
namespace Go.Proofs.YtnnidjhhcnmnnaaDoor.natBits
open Go.ChangeShapes Go.WideShapes Go.ChangeAt Go.RowKit
open Go.ChangeMaps (open_string shut_string)

theorem own : ownKnob Tryd.prog.godebug = none := by kernel_rfl
theorem laidOut : laidOutB Tryd.prog = true := by kernel_rfl
theorem odd_head {zs : List Nat} (h : 0 < zs.length) : zs.getD 0 0 % 2 = nv D16 zs % 2 := by
  match zs, h with
  | x :: xs, _ =>
    rw [nv_cons, show D16 = 2 * 32768 from rfl, Nat.mul_assoc]
    simp only [List.getD_cons_zero]
    omega
theorem big_bit {x0 : List Nat} {N i : Nat} (f0 : wf W64 x0) (hN : N = nv W64 x0) (hl : x0.length ≤ 20) (hi : 1280 ≤ i) : N / 2 ^ i % 2 = 0 := by
  rw [hN, bit_none f0 (by omega)]

set_option maxRecDepth 20000 in
set_option maxHeartbeats 1000000 in
theorem w_neg_zero (v0 : Value) (x0 : List Nat) (i : Int) (w : World) (s0 : Sl .u64 w v0 x0) (f0 : wf W64 x0) (hl : x0.length ≤ 20) (hT : Tz w) (N : Nat) (hN : N = nv W64 x0) (hz : N = 0) (hi : i < 0) :
    Calls Tryd.prog 3 #[v0, .int .i64 i] w (LawOk w) := by
  obtain ⟨ao, b, off, cap, hv, hcap, hcs⟩ := s0
  have s0 : Sl .u64 w (.slice ao x0.length cap) x0 := ⟨ao, b, off, cap, rfl, hcap, hcs⟩
  subst hv
  clear hcs
  have B := Below.refl w.heap.size w
  have HN := Lib.hid hN; clear hN
  obtain ⟨n, en⟩ : ∃ n, n = bl N := ⟨_, rfl⟩
  have hn20 : n ≤ 1280 := by rw [en, HN.out]; have := bl_len (B := W64) (k := 64) rfl f0; omega
  have EN := Lib.hid en
  have nn0 : ((n : Int) != (n : Int)) = false := by simp
  have hn0 : n = 0 := by rw [en]; exact bl_zero.2 hz
  clear en
  subst hn0
  subst hz
  go_enter Tryd.func3, Tryd.ntmps3
  go_wp2_with fail
  refine (law1_awake _).mono ?_; rintro e w1 ⟨rfl, b1⟩
  replace s0 := s0.next b1
  replace hT := hT.next b1
  replace B := B.trans (b1.mono B.size)
  clear b1
  go_wp2_with fail
  refine (ref_From _ x0 _ s0 (by omega) f0).mono ?_; rintro e w2 ⟨r2, z2, rfl, o2, m2, v2, l2, b2⟩; have V2 := Lib.hid (v2.trans HN.out.symm); clear v2; have t2 := o2.sl; obtain ⟨a2, k2, rfl⟩ : ∃ a k, r2 = .slice a z2.length k := by (obtain ⟨a, _, _, k, e, _⟩ := t2; exact ⟨a, k, e⟩)
  replace s0 := s0.next b2
  replace hT := hT.next b2
  replace B := B.trans (b2.mono B.size)
  clear b2
  clear o2
  go_wp2_with fail
  have CB : Calls Tryd.prog 6 #[.slice a2 z2.length k2] w2 fun e w' => e = .returned (.int .i64 (0 : Nat)) ∧ Below w2.heap.size w2 w' := by have h := ref_Bits _ z2 w2 t2 (by omega) m2.1; rw [V2.out, ← EN.out] at h; exact h
  refine (CB).mono ?_; rintro e w3 ⟨rfl, b3⟩
  replace s0 := s0.next b3
  replace hT := hT.next b3
  replace t2 := t2.next b3
  replace B := B.trans (b3.mono B.size)
  clear b3
  clear CB
  go_wp2_with fail
  refine (nat_Zeros _ x0 _ s0 (by omega) f0 hT).mono ?_; rintro e wx ⟨z, rfl, hz0, hz1, rfl⟩
  obtain rfl : z = 0 := hz0 HN.out.symm
  clear hz0 hz1
  go_wp2_with fail
  have CW : Calls Tryd.prog 8 #[.slice ao x0.length cap] w3 fun e w' => e = .returned (.tuple #[.int .u64 0, .bool true]) ∧ w3 = w' := by have h := nat_Word_yes _ x0 w3 s0 (by omega) f0 (by rw [← HN.out]; decide); rw [← HN.out] at h; exact h
  refine (CW).mono ?_; rintro e wx ⟨rfl, rfl⟩
  clear CW
  have q1 := True.intro
  go_wp2_with fail
  have CB : Calls Tryd.prog 10 #[.slice ao x0.length cap] w3 fun e w' => e = .returned (.int .i64 0) ∧ w3 = w' := by have h := nat_Bits _ x0 w3 s0 (by omega) f0; rw [← HN.out] at h; exact h
  refine (CB).mono ?_; rintro e wx ⟨rfl, rfl⟩
  clear CB
  go_wp2_with fail
  refine (nat_Bit_neg _ i _ hi).mono ?_; rintro e wx ⟨rfl, rfl⟩
  go_wp2_with fail
  refine (nat_Of 0 (by decide) _).mono ?_; rintro e w4 ⟨r5, z5, rfl, o5, m5, v5, l5, b4⟩; have V5 := Lib.hid v5; clear v5; have t5 := o5.sl; clear o5
  replace s0 := s0.next b4
  replace hT := hT.next b4
  replace t2 := t2.next b4
  replace B := B.trans (b4.mono B.size)
  clear b4
  go_wp2_with fail
  refine (law1_is _ _ z5 z2 _ t5 t2 (by omega) (by omega) m2.1 m5 (by rw [V5.out, V2.out])).mono ?_; rintro e w5 ⟨rfl, b5⟩
  replace s0 := s0.next b5
  replace hT := hT.next b5
  replace t2 := t2.next b5
  replace t5 := t5.next b5
  replace B := B.trans (b5.mono B.size)
  clear b5
  clear t5
  go_wp2
  go_ret
  exact ⟨rfl, B⟩

set_option maxRecDepth 20000 in
set_option maxHeartbeats 1000000 in
theorem w_neg_word (v0 : Value) (x0 : List Nat) (i : Int) (w : World) (s0 : Sl .u64 w v0 x0) (f0 : wf W64 x0) (hl : x0.length ≤ 20) (hT : Tz w) (N : Nat) (hN : N = nv W64 x0) (hz : N ≠ 0) (hw : N < W64) (hi : i < 0) :
    Calls Tryd.prog 3 #[v0, .int .i64 i] w (LawOk w) := by
  obtain ⟨ao, b, off, cap, hv, hcap, hcs⟩ := s0
  have s0 : Sl .u64 w (.slice ao x0.length cap) x0 := ⟨ao, b, off, cap, rfl, hcap, hcs⟩
  subst hv
  clear hcs
  have B := Below.refl w.heap.size w
  have HN := Lib.hid hN; clear hN
  obtain ⟨n, en⟩ : ∃ n, n = bl N := ⟨_, rfl⟩
  have hn20 : n ≤ 1280 := by rw [en, HN.out]; have := bl_len (B := W64) (k := 64) rfl f0; omega
  have EN := Lib.hid en
  have nn0 : ((n : Int) != (n : Int)) = false := by simp
  have hnz : ((n : Int) == 0) = false := by have := mt bl_zero.1 hz; simp; omega
  have hn64 : decide ((n : Int) ≤ 64) = true := by have := bl_64.2 hw; simp; omega
  have HW := Lib.hid hw; clear hw
  have HZ := Lib.hid hz; clear hz en
  go_enter Tryd.func3, Tryd.ntmps3
  go_wp2_with fail
  refine (law1_awake _).mono ?_; rintro e w1 ⟨rfl, b1⟩
  replace s0 := s0.next b1
  replace hT := hT.next b1
  replace B := B.trans (b1.mono B.size)
  clear b1
  go_wp2_with fail
  refine (ref_From _ x0 _ s0 (by omega) f0).mono ?_; rintro e w2 ⟨r2, z2, rfl, o2, m2, v2, l2, b2⟩; have V2 := Lib.hid (v2.trans HN.out.symm); clear v2; have t2 := o2.sl; obtain ⟨a2, k2, rfl⟩ : ∃ a k, r2 = .slice a z2.length k := by (obtain ⟨a, _, _, k, e, _⟩ := t2; exact ⟨a, k, e⟩)
  replace s0 := s0.next b2
  replace hT := hT.next b2
  replace B := B.trans (b2.mono B.size)
  clear b2
  clear o2
  go_wp2_with fail
  have CB : Calls Tryd.prog 6 #[.slice a2 z2.length k2] w2 fun e w' => e = .returned (.int .i64 (n : Nat)) ∧ Below w2.heap.size w2 w' := by have h := ref_Bits _ z2 w2 t2 (by omega) m2.1; rw [V2.out, ← EN.out] at h; exact h
  refine (CB).mono ?_; rintro e w3 ⟨rfl, b3⟩
  replace s0 := s0.next b3
  replace hT := hT.next b3
  replace t2 := t2.next b3
  replace B := B.trans (b3.mono B.size)
  clear b3
  clear CB
  go_wp2_with fail
  refine (nat_Zeros _ x0 _ s0 (by omega) f0 hT).mono ?_; rintro e wx ⟨z, rfl, hz0, hz1, rfl⟩
  have IZ := Lib.hid (show IsZ N z by rw [HN.out]; exact hz1 (by rw [← HN.out]; exact HZ.out))
  clear hz0 hz1
  have hzn : z < n := by rw [EN.out]; exact IZ.out.lt
  have hzn2 : (0 : Int) ≤ (z : Int) := Int.natCast_nonneg _
  go_wp2_with fail
  have CW : Calls Tryd.prog 8 #[.slice ao x0.length cap] w3 fun e w' => e = .returned (.tuple #[.int .u64 (N : Nat), .bool true]) ∧ w3 = w' := by have h := nat_Word_yes _ x0 w3 s0 (by omega) f0 (by rw [← HN.out]; exact HW.out); rw [← HN.out] at h; exact h
  refine (CW).mono ?_; rintro e wx ⟨rfl, rfl⟩
  clear CW
  have q1 := True.intro
  go_wp2_with fail
  have CB : Calls Tryd.prog 10 #[.slice ao x0.length cap] w3 fun e w' => e = .returned (.int .i64 (n : Nat)) ∧ w3 = w' := by have h := nat_Bits _ x0 w3 s0 (by omega) f0; rw [← HN.out, ← EN.out] at h; exact h
  refine (CB).mono ?_; rintro e wx ⟨rfl, rfl⟩
  clear CB
  go_wp2_with fail
  refine (nat_Bit_neg _ i _ hi).mono ?_; rintro e wx ⟨rfl, rfl⟩
  go_wp2_with fail
  refine (nat_Of N (by exact HW.out) _).mono ?_; rintro e w4 ⟨r5, z5, rfl, o5, m5, v5, l5, b4⟩; have V5 := Lib.hid v5; clear v5; have t5 := o5.sl; clear o5
  replace s0 := s0.next b4
  replace hT := hT.next b4
  replace t2 := t2.next b4
  replace B := B.trans (b4.mono B.size)
  clear b4
  go_wp2_with fail
  refine (law1_is _ _ z5 z2 _ t5 t2 (by omega) (by omega) m2.1 m5 (by rw [V5.out, V2.out])).mono ?_; rintro e w5 ⟨rfl, b5⟩
  replace s0 := s0.next b5
  replace hT := hT.next b5
  replace t2 := t2.next b5
  replace t5 := t5.next b5
  replace B := B.trans (b5.mono B.size)
  clear b5
  clear t5
  go_wp2_with fail
  refine (ref_Half _ z2 z _ t2 (by omega) m2.1 (by omega)).mono ?_; rintro e w6 ⟨r8, z8, rfl, o8, m8, v8, l8, b6⟩; have V8 := Lib.hid (v8.trans (by rw [V2.out])); clear v8
  replace s0 := s0.next b6
  replace hT := hT.next b6
  replace t2 := t2.next b6
  replace B := B.trans (b6.mono B.size)
  clear b6
  have hl8 : 0 < z8.length := List.length_pos_iff.2 (fun h => by have h1 := IZ.out.half.1; rw [← V8.out, h] at h1; exact absurd h1 (by decide))
  obtain ⟨a8, bb8, oo8, k8, rfl, -, t8⟩ := o8.sl
  obtain rfl := t8.ao (fun h => by rw [h] at hl8; simp at hl8)
  have q8 := t8.cell 0 hl8
  obtain ⟨d8, ed8⟩ : ∃ d, d = z8.getD 0 0 := ⟨_, rfl⟩
  rw [← ed8, Nat.add_zero] at q8
  have hd8 : ((d8 : Int) % 2 == 1) = true := by
    have h1 : d8 % 2 = 1 := by rw [ed8, odd_head hl8, V8.out]; exact IZ.out.half.1
    simp; omega
  have hd80 : (0 : Int) ≤ (d8 : Int) := Int.natCast_nonneg _
  clear ed8 t8
  go_wp2_with fail
  refine (ref_Twice _ z8 z _ _ o8 (by omega) m8.1 (by omega)).mono ?_; rintro e w7 ⟨r9, z9, rfl, o9, m9, v9, l9, b7⟩; have V9 := Lib.hid (show nv D16 z9 = N by rw [v9, V8.out]; exact IZ.out.half.2); clear v9; have t9 := o9.sl; clear o9 q8
  replace s0 := s0.next b7
  replace hT := hT.next b7
  replace t2 := t2.next b7
  replace B := B.trans (b7.mono B.size)
  clear b7
  go_wp2_with fail
  have CC : Calls Tryd.prog 14 #[r9, .slice a2 z2.length k2] w7 (RetQ w7 (.int .i64 0)) := by have h := ref_Cmp _ _ z9 z2 w7 t9 t2 (by omega) (by omega) m9.1 m2.1; rw [cmpN_eq (by rw [V9.out, V2.out])] at h; exact h
  refine CC.mono ?_; rintro e w8 ⟨rfl, q8⟩
  clear CC
  have b8 := q8.below w7.heap.size; clear q8
  replace s0 := s0.next b8
  replace hT := hT.next b8
  replace t2 := t2.next b8
  replace t9 := t9.next b8
  replace B := B.trans (b8.mono B.size)
  go_wp2
  go_ret
  exact ⟨rfl, B⟩

set_option maxRecDepth 20000 in
set_option maxHeartbeats 1000000 in
theorem w_neg_long (v0 : Value) (x0 : List Nat) (i : Int) (w : World) (s0 : Sl .u64 w v0 x0) (f0 : wf W64 x0) (hl : x0.length ≤ 20) (hT : Tz w) (N : Nat) (hN : N = nv W64 x0) (hz : N ≠ 0) (hw : ¬ N < W64) (hi : i < 0) :
    Calls Tryd.prog 3 #[v0, .int .i64 i] w (LawOk w) := by
  obtain ⟨ao, b, off, cap, hv, hcap, hcs⟩ := s0
  have s0 : Sl .u64 w (.slice ao x0.length cap) x0 := ⟨ao, b, off, cap, rfl, hcap, hcs⟩
  subst hv
  clear hcs
  have B := Below.refl w.heap.size w
  have HN := Lib.hid hN; clear hN
  obtain ⟨n, en⟩ : ∃ n, n = bl N := ⟨_, rfl⟩
  have hn20 : n ≤ 1280 := by rw [en, HN.out]; have := bl_len (B := W64) (k := 64) rfl f0; omega
  have EN := Lib.hid en
  have nn0 : ((n : Int) != (n : Int)) = false := by simp
  have hnz : ((n : Int) == 0) = false := by have := mt bl_zero.1 hz; simp; omega
  have hn64 : decide ((n : Int) ≤ 64) = false := by have := mt bl_64.1 hw; simp; omega
  have HW := Lib.hid hw; clear hw
  have HZ := Lib.hid hz; clear hz en
  go_enter Tryd.func3, Tryd.ntmps3
  go_wp2_with fail
  refine (law1_awake _).mono ?_; rintro e w1 ⟨rfl, b1⟩
  replace s0 := s0.next b1
  replace hT := hT.next b1
  replace B := B.trans (b1.mono B.size)
  clear b1
  go_wp2_with fail
  refine (ref_From _ x0 _ s0 (by omega) f0).mono ?_; rintro e w2 ⟨r2, z2, rfl, o2, m2, v2, l2, b2⟩; have V2 := Lib.hid (v2.trans HN.out.symm); clear v2; have t2 := o2.sl; obtain ⟨a2, k2, rfl⟩ : ∃ a k, r2 = .slice a z2.length k := by (obtain ⟨a, _, _, k, e, _⟩ := t2; exact ⟨a, k, e⟩)
  replace s0 := s0.next b2
  replace hT := hT.next b2
  replace B := B.trans (b2.mono B.size)
  clear b2
  clear o2
  go_wp2_with fail
  have CB : Calls Tryd.prog 6 #[.slice a2 z2.length k2] w2 fun e w' => e = .returned (.int .i64 (n : Nat)) ∧ Below w2.heap.size w2 w' := by have h := ref_Bits _ z2 w2 t2 (by omega) m2.1; rw [V2.out, ← EN.out] at h; exact h
  refine (CB).mono ?_; rintro e w3 ⟨rfl, b3⟩
  replace s0 := s0.next b3
  replace hT := hT.next b3
  replace t2 := t2.next b3
  replace B := B.trans (b3.mono B.size)
  clear b3
  clear CB
  go_wp2_with fail
  refine (nat_Zeros _ x0 _ s0 (by omega) f0 hT).mono ?_; rintro e wx ⟨z, rfl, hz0, hz1, rfl⟩
  have IZ := Lib.hid (show IsZ N z by rw [HN.out]; exact hz1 (by rw [← HN.out]; exact HZ.out))
  clear hz0 hz1
  have hzn : z < n := by rw [EN.out]; exact IZ.out.lt
  have hzn2 : (0 : Int) ≤ (z : Int) := Int.natCast_nonneg _
  go_wp2_with fail
  refine (nat_Word_no _ x0 _ s0 (by omega) f0 (by rw [← HN.out]; exact HW.out)).mono ?_; rintro e wx ⟨rfl, rfl⟩
  have q1 := True.intro
  go_wp2_with fail
  have CB : Calls Tryd.prog 10 #[.slice ao x0.length cap] w3 fun e w' => e = .returned (.int .i64 (n : Nat)) ∧ w3 = w' := by have h := nat_Bits _ x0 w3 s0 (by omega) f0; rw [← HN.out, ← EN.out] at h; exact h
  refine (CB).mono ?_; rintro e wx ⟨rfl, rfl⟩
  clear CB
  go_wp2_with fail
  refine (nat_Bit_neg _ i _ hi).mono ?_; rintro e wx ⟨rfl, rfl⟩
  go_wp2_with fail
  refine (ref_Half _ z2 z _ t2 (by omega) m2.1 (by omega)).mono ?_; rintro e w4 ⟨r8, z8, rfl, o8, m8, v8, l8, b4⟩; have V8 := Lib.hid (v8.trans (by rw [V2.out])); clear v8
  replace s0 := s0.next b4
  replace hT := hT.next b4
  replace t2 := t2.next b4
  replace B := B.trans (b4.mono B.size)
  clear b4
  have hl8 : 0 < z8.length := List.length_pos_iff.2 (fun h => by have h1 := IZ.out.half.1; rw [← V8.out, h] at h1; exact absurd h1 (by decide))
  obtain ⟨a8, bb8, oo8, k8, rfl, -, t8⟩ := o8.sl
  obtain rfl := t8.ao (fun h => by rw [h] at hl8; simp at hl8)
  have q8 := t8.cell 0 hl8
  obtain ⟨d8, ed8⟩ : ∃ d, d = z8.getD 0 0 := ⟨_, rfl⟩
  rw [← ed8, Nat.add_zero] at q8
  have hd8 : ((d8 : Int) % 2 == 1) = true := by
    have h1 : d8 % 2 = 1 := by rw [ed8, odd_head hl8, V8.out]; exact IZ.out.half.1
    simp; omega
  have hd80 : (0 : Int) ≤ (d8 : Int) := Int.natCast_nonneg _
  clear ed8 t8
  go_wp2_with fail
  refine (ref_Twice _ z8 z _ _ o8 (by omega) m8.1 (by omega)).mono ?_; rintro e w5 ⟨r9, z9, rfl, o9, m9, v9, l9, b5⟩; have V9 := Lib.hid (show nv D16 z9 = N by rw [v9, V8.out]; exact IZ.out.half.2); clear v9; have t9 := o9.sl; clear o9 q8
  replace s0 := s0.next b5
  replace hT := hT.next b5
  replace t2 := t2.next b5
  replace B := B.trans (b5.mono B.size)
  clear b5
  go_wp2_with fail
  have CC : Calls Tryd.prog 14 #[r9, .slice a2 z2.length k2] w5 (RetQ w5 (.int .i64 0)) := by have h := ref_Cmp _ _ z9 z2 w5 t9 t2 (by omega) (by omega) m9.1 m2.1; rw [cmpN_eq (by rw [V9.out, V2.out])] at h; exact h
  refine CC.mono ?_; rintro e w6 ⟨rfl, q6⟩
  clear CC
  have b6 := q6.below w5.heap.size; clear q6
  replace s0 := s0.next b6
  replace hT := hT.next b6
  replace t2 := t2.next b6
  replace t9 := t9.next b6
  replace B := B.trans (b6.mono B.size)
  go_wp2
  go_ret
  exact ⟨rfl, B⟩

set_option maxRecDepth 20000 in
set_option maxHeartbeats 1000000 in
theorem w_none_zero (v0 : Value) (x0 : List Nat) (i : Nat) (w : World) (s0 : Sl .u64 w v0 x0) (f0 : wf W64 x0) (hl : x0.length ≤ 20) (hT : Tz w) (N : Nat) (hN : N = nv W64 x0) (hz : N = 0) (hi : i < 1280) (HH : N / 2 ^ i = 0) :
    Calls Tryd.prog 3 #[v0, .int .i64 i] w (LawOk w) := by
  obtain ⟨ao, b, off, cap, hv, hcap, hcs⟩ := s0
  have s0 : Sl .u64 w (.slice ao x0.length cap) x0 := ⟨ao, b, off, cap, rfl, hcap, hcs⟩
  subst hv
  clear hcs
  have B := Below.refl w.heap.size w
  have HN := Lib.hid hN; clear hN
  obtain ⟨n, en⟩ : ∃ n, n = bl N := ⟨_, rfl⟩
  have hn20 : n ≤ 1280 := by rw [en, HN.out]; have := bl_len (B := W64) (k := 64) rfl f0; omega
  have EN := Lib.hid en
  have nn0 : ((n : Int) != (n : Int)) = false := by simp
  have hn0 : n = 0 := by rw [en]; exact bl_zero.2 hz
  clear en
  subst hn0
  subst hz
  have hi0 : (0 : Int) ≤ (i : Int) := Int.natCast_nonneg _
  obtain ⟨c, ec⟩ : ∃ c, c = 0 / 2 ^ i % 2 := ⟨_, rfl⟩
  have EC := Lib.hid ec; clear ec
  have HI := Lib.hid hi; clear hi
  have hi : (i : Int) < 1280 := by have := HI.out; omega
  have HH1 := Lib.hid HH; clear HH
  go_enter Tryd.func3, Tryd.ntmps3
  go_wp2_with fail
  refine (law1_awake _).mono ?_; rintro e w1 ⟨rfl, b1⟩
  replace s0 := s0.next b1
  replace hT := hT.next b1
  replace B := B.trans (b1.mono B.size)
  clear b1
  go_wp2_with fail
  refine (ref_From _ x0 _ s0 (by omega) f0).mono ?_; rintro e w2 ⟨r2, z2, rfl, o2, m2, v2, l2, b2⟩; have V2 := Lib.hid (v2.trans HN.out.symm); clear v2; have t2 := o2.sl; obtain ⟨a2, k2, rfl⟩ : ∃ a k, r2 = .slice a z2.length k := by (obtain ⟨a, _, _, k, e, _⟩ := t2; exact ⟨a, k, e⟩)
  replace s0 := s0.next b2
  replace hT := hT.next b2
  replace B := B.trans (b2.mono B.size)
  clear b2
  clear o2
  go_wp2_with fail
  have CB : Calls Tryd.prog 6 #[.slice a2 z2.length k2] w2 fun e w' => e = .returned (.int .i64 (0 : Nat)) ∧ Below w2.heap.size w2 w' := by have h := ref_Bits _ z2 w2 t2 (by omega) m2.1; rw [V2.out, ← EN.out] at h; exact h
  refine (CB).mono ?_; rintro e w3 ⟨rfl, b3⟩
  replace s0 := s0.next b3
  replace hT := hT.next b3
  replace t2 := t2.next b3
  replace B := B.trans (b3.mono B.size)
  clear b3
  clear CB
  go_wp2_with fail
  refine (nat_Zeros _ x0 _ s0 (by omega) f0 hT).mono ?_; rintro e wx ⟨z, rfl, hz0, hz1, rfl⟩
  obtain rfl : z = 0 := hz0 HN.out.symm
  clear hz0 hz1
  go_wp2_with fail
  have CW : Calls Tryd.prog 8 #[.slice ao x0.length cap] w3 fun e w' => e = .returned (.tuple #[.int .u64 0, .bool true]) ∧ w3 = w' := by have h := nat_Word_yes _ x0 w3 s0 (by omega) f0 (by rw [← HN.out]; decide); rw [← HN.out] at h; exact h
  refine (CW).mono ?_; rintro e wx ⟨rfl, rfl⟩
  clear CW
  go_wp2_with fail
  refine (ref_Half _ z2 i _ t2 (by omega) m2.1 (by omega)).mono ?_; rintro e w4 ⟨r7, z7, rfl, o7, m7, v7, l7, b4⟩; have V7 := Lib.hid (v7.trans (by rw [V2.out])); clear v7
  replace s0 := s0.next b4
  replace hT := hT.next b4
  replace t2 := t2.next b4
  replace B := B.trans (b4.mono B.size)
  clear b4
  obtain rfl : z7 = [] := nrm_nv_zero (by decide) m7 (V7.out.trans HH1.out)
  obtain ⟨a7, k7, rfl⟩ : ∃ a k, r7 = .slice a 0 k := by (obtain ⟨a, _, _, k, e, _⟩ := o7.sl; exact ⟨a, k, e⟩)
  clear o7 m7 l7
  obtain rfl : 0 = c := by rw [EC.out, HH1.out]
  have q1 := True.intro
  go_wp2_with fail
  have CB : Calls Tryd.prog 10 #[.slice ao x0.length cap] w4 fun e w' => e = .returned (.int .i64 0) ∧ w4 = w' := by have h := nat_Bits _ x0 w4 s0 (by omega) f0; rw [← HN.out] at h; exact h
  refine (CB).mono ?_; rintro e wx ⟨rfl, rfl⟩
  clear CB
  go_wp2_with fail
  have CT : Calls Tryd.prog 11 #[.slice ao x0.length cap, .int .i64 i] w4 fun e w' => e = .returned (.int .i64 0) ∧ w4 = w' := by have h := nat_Bit _ x0 i w4 s0 (by omega) f0 (by omega); rw [← HN.out, ← EC.out] at h; exact h
  refine (CT).mono ?_; rintro e wx ⟨rfl, rfl⟩
  clear CT
  go_wp2_with fail
  refine (nat_Of 0 (by decide) _).mono ?_; rintro e w5 ⟨r5, z5, rfl, o5, m5, v5, l5, b5⟩; have V5 := Lib.hid v5; clear v5; have t5 := o5.sl; clear o5
  replace s0 := s0.next b5
  replace hT := hT.next b5
  replace t2 := t2.next b5
  replace B := B.trans (b5.mono B.size)
  clear b5
  go_wp2_with fail
  refine (law1_is _ _ z5 z2 _ t5 t2 (by omega) (by omega) m2.1 m5 (by rw [V5.out, V2.out])).mono ?_; rintro e w6 ⟨rfl, b6⟩
  replace s0 := s0.next b6
  replace hT := hT.next b6
  replace t2 := t2.next b6
  replace t5 := t5.next b6
  replace B := B.trans (b6.mono B.size)
  clear b6
  clear t5
  go_wp2
  go_ret
  exact ⟨rfl, B⟩

set_option maxRecDepth 20000 in
set_option maxHeartbeats 1000000 in
theorem w_none_word (v0 : Value) (x0 : List Nat) (i : Nat) (w : World) (s0 : Sl .u64 w v0 x0) (f0 : wf W64 x0) (hl : x0.length ≤ 20) (hT : Tz w) (N : Nat) (hN : N = nv W64 x0) (hz : N ≠ 0) (hw : N < W64) (hi : i < 1280) (HH : N / 2 ^ i = 0) :
    Calls Tryd.prog 3 #[v0, .int .i64 i] w (LawOk w) := by
  obtain ⟨ao, b, off, cap, hv, hcap, hcs⟩ := s0
  have s0 : Sl .u64 w (.slice ao x0.length cap) x0 := ⟨ao, b, off, cap, rfl, hcap, hcs⟩
  subst hv
  clear hcs
  have B := Below.refl w.heap.size w
  have HN := Lib.hid hN; clear hN
  obtain ⟨n, en⟩ : ∃ n, n = bl N := ⟨_, rfl⟩
  have hn20 : n ≤ 1280 := by rw [en, HN.out]; have := bl_len (B := W64) (k := 64) rfl f0; omega
  have EN := Lib.hid en
  have nn0 : ((n : Int) != (n : Int)) = false := by simp
  have hnz : ((n : Int) == 0) = false := by have := mt bl_zero.1 hz; simp; omega
  have hn64 : decide ((n : Int) ≤ 64) = true := by have := bl_64.2 hw; simp; omega
  have HW := Lib.hid hw; clear hw
  have HZ := Lib.hid hz; clear hz en
  have hi0 : (0 : Int) ≤ (i : Int) := Int.natCast_nonneg _
  obtain ⟨c, ec⟩ : ∃ c, c = N / 2 ^ i % 2 := ⟨_, rfl⟩
  have EC := Lib.hid ec; clear ec
  have HI := Lib.hid hi; clear hi
  have hi : (i : Int) < 1280 := by have := HI.out; omega
  have HH1 := Lib.hid HH; clear HH
  go_enter Tryd.func3, Tryd.ntmps3
  go_wp2_with fail
  refine (law1_awake _).mono ?_; rintro e w1 ⟨rfl, b1⟩
  replace s0 := s0.next b1
  replace hT := hT.next b1
  replace B := B.trans (b1.mono B.size)
  clear b1
  go_wp2_with fail
  refine (ref_From _ x0 _ s0 (by omega) f0).mono ?_; rintro e w2 ⟨r2, z2, rfl, o2, m2, v2, l2, b2⟩; have V2 := Lib.hid (v2.trans HN.out.symm); clear v2; have t2 := o2.sl; obtain ⟨a2, k2, rfl⟩ : ∃ a k, r2 = .slice a z2.length k := by (obtain ⟨a, _, _, k, e, _⟩ := t2; exact ⟨a, k, e⟩)
  replace s0 := s0.next b2
  replace hT := hT.next b2
  replace B := B.trans (b2.mono B.size)
  clear b2
  clear o2
  go_wp2_with fail
  have CB : Calls Tryd.prog 6 #[.slice a2 z2.length k2] w2 fun e w' => e = .returned (.int .i64 (n : Nat)) ∧ Below w2.heap.size w2 w' := by have h := ref_Bits _ z2 w2 t2 (by omega) m2.1; rw [V2.out, ← EN.out] at h; exact h
  refine (CB).mono ?_; rintro e w3 ⟨rfl, b3⟩
  replace s0 := s0.next b3
  replace hT := hT.next b3
  replace t2 := t2.next b3
  replace B := B.trans (b3.mono B.size)
  clear b3
  clear CB
  go_wp2_with fail
  refine (nat_Zeros _ x0 _ s0 (by omega) f0 hT).mono ?_; rintro e wx ⟨z, rfl, hz0, hz1, rfl⟩
  have IZ := Lib.hid (show IsZ N z by rw [HN.out]; exact hz1 (by rw [← HN.out]; exact HZ.out))
  clear hz0 hz1
  have hzn : z < n := by rw [EN.out]; exact IZ.out.lt
  have hzn2 : (0 : Int) ≤ (z : Int) := Int.natCast_nonneg _
  go_wp2_with fail
  have CW : Calls Tryd.prog 8 #[.slice ao x0.length cap] w3 fun e w' => e = .returned (.tuple #[.int .u64 (N : Nat), .bool true]) ∧ w3 = w' := by have h := nat_Word_yes _ x0 w3 s0 (by omega) f0 (by rw [← HN.out]; exact HW.out); rw [← HN.out] at h; exact h
  refine (CW).mono ?_; rintro e wx ⟨rfl, rfl⟩
  clear CW
  go_wp2_with fail
  refine (ref_Half _ z2 i _ t2 (by omega) m2.1 (by omega)).mono ?_; rintro e w4 ⟨r7, z7, rfl, o7, m7, v7, l7, b4⟩; have V7 := Lib.hid (v7.trans (by rw [V2.out])); clear v7
  replace s0 := s0.next b4
  replace hT := hT.next b4
  replace t2 := t2.next b4
  replace B := B.trans (b4.mono B.size)
  clear b4
  obtain rfl : z7 = [] := nrm_nv_zero (by decide) m7 (V7.out.trans HH1.out)
  obtain ⟨a7, k7, rfl⟩ : ∃ a k, r7 = .slice a 0 k := by (obtain ⟨a, _, _, k, e, _⟩ := o7.sl; exact ⟨a, k, e⟩)
  clear o7 m7 l7
  obtain rfl : 0 = c := by rw [EC.out, HH1.out]
  have q1 := True.intro
  go_wp2_with fail
  have CB : Calls Tryd.prog 10 #[.slice ao x0.length cap] w4 fun e w' => e = .returned (.int .i64 (n : Nat)) ∧ w4 = w' := by have h := nat_Bits _ x0 w4 s0 (by omega) f0; rw [← HN.out, ← EN.out] at h; exact h
  refine (CB).mono ?_; rintro e wx ⟨rfl, rfl⟩
  clear CB
  go_wp2_with fail
  have CT : Calls Tryd.prog 11 #[.slice ao x0.length cap, .int .i64 i] w4 fun e w' => e = .returned (.int .i64 0) ∧ w4 = w' := by have h := nat_Bit _ x0 i w4 s0 (by omega) f0 (by omega); rw [← HN.out, ← EC.out] at h; exact h
  refine (CT).mono ?_; rintro e wx ⟨rfl, rfl⟩
  clear CT
  go_wp2_with fail
  refine (nat_Of N (by exact HW.out) _).mono ?_; rintro e w5 ⟨r5, z5, rfl, o5, m5, v5, l5, b5⟩; have V5 := Lib.hid v5; clear v5; have t5 := o5.sl; clear o5
  replace s0 := s0.next b5
  replace hT := hT.next b5
  replace t2 := t2.next b5
  replace B := B.trans (b5.mono B.size)
  clear b5
  go_wp2_with fail
  refine (law1_is _ _ z5 z2 _ t5 t2 (by omega) (by omega) m2.1 m5 (by rw [V5.out, V2.out])).mono ?_; rintro e w6 ⟨rfl, b6⟩
  replace s0 := s0.next b6
  replace hT := hT.next b6
  replace t2 := t2.next b6
  replace t5 := t5.next b6
  replace B := B.trans (b6.mono B.size)
  clear b6
  clear t5
  go_wp2_with fail
  refine (ref_Half _ z2 z _ t2 (by omega) m2.1 (by omega)).mono ?_; rintro e w7 ⟨r8, z8, rfl, o8, m8, v8, l8, b7⟩; have V8 := Lib.hid (v8.trans (by rw [V2.out])); clear v8
  replace s0 := s0.next b7
  replace hT := hT.next b7
  replace t2 := t2.next b7
  replace B := B.trans (b7.mono B.size)
  clear b7
  have hl8 : 0 < z8.length := List.length_pos_iff.2 (fun h => by have h1 := IZ.out.half.1; rw [← V8.out, h] at h1; exact absurd h1 (by decide))
  obtain ⟨a8, bb8, oo8, k8, rfl, -, t8⟩ := o8.sl
  obtain rfl := t8.ao (fun h => by rw [h] at hl8; simp at hl8)
  have q8 := t8.cell 0 hl8
  obtain ⟨d8, ed8⟩ : ∃ d, d = z8.getD 0 0 := ⟨_, rfl⟩
  rw [← ed8, Nat.add_zero] at q8
  have hd8 : ((d8 : Int) % 2 == 1) = true := by
    have h1 : d8 % 2 = 1 := by rw [ed8, odd_head hl8, V8.out]; exact IZ.out.half.1
    simp; omega
  have hd80 : (0 : Int) ≤ (d8 : Int) := Int.natCast_nonneg _
  clear ed8 t8
  go_wp2_with fail
  refine (ref_Twice _ z8 z _ _ o8 (by omega) m8.1 (by omega)).mono ?_; rintro e w8 ⟨r9, z9, rfl, o9, m9, v9, l9, b8⟩; have V9 := Lib.hid (show nv D16 z9 = N by rw [v9, V8.out]; exact IZ.out.half.2); clear v9; have t9 := o9.sl; clear o9 q8
  replace s0 := s0.next b8
  replace hT := hT.next b8
  replace t2 := t2.next b8
  replace B := B.trans (b8.mono B.size)
  clear b8
  go_wp2_with fail
  have CC : Calls Tryd.prog 14 #[r9, .slice a2 z2.length k2] w8 (RetQ w8 (.int .i64 0)) := by have h := ref_Cmp _ _ z9 z2 w8 t9 t2 (by omega) (by omega) m9.1 m2.1; rw [cmpN_eq (by rw [V9.out, V2.out])] at h; exact h
  refine CC.mono ?_; rintro e w9 ⟨rfl, q9⟩
  clear CC
  have b9 := q9.below w8.heap.size; clear q9
  replace s0 := s0.next b9
  replace hT := hT.next b9
  replace t2 := t2.next b9
  replace t9 := t9.next b9
  replace B := B.trans (b9.mono B.size)
  go_wp2
  go_ret
  exact ⟨rfl, B⟩

set_option maxRecDepth 20000 in
set_option maxHeartbeats 1000000 in
theorem w_none_long (v0 : Value) (x0 : List Nat) (i : Nat) (w : World) (s0 : Sl .u64 w v0 x0) (f0 : wf W64 x0) (hl : x0.length ≤ 20) (hT : Tz w) (N : Nat) (hN : N = nv W64 x0) (hz : N ≠ 0) (hw : ¬ N < W64) (hi : i < 1280) (HH : N / 2 ^ i = 0) :
    Calls Tryd.prog 3 #[v0, .int .i64 i] w (LawOk w) := by
  obtain ⟨ao, b, off, cap, hv, hcap, hcs⟩ := s0
  have s0 : Sl .u64 w (.slice ao x0.length cap) x0 := ⟨ao, b, off, cap, rfl, hcap, hcs⟩
  subst hv
  clear hcs
  have B := Below.refl w.heap.size w
  have HN := Lib.hid hN; clear hN
  obtain ⟨n, en⟩ : ∃ n, n = bl N := ⟨_, rfl⟩
  have hn20 : n ≤ 1280 := by rw [en, HN.out]; have := bl_len (B := W64) (k := 64) rfl f0; omega
  have EN := Lib.hid en
  have nn0 : ((n : Int) != (n : Int)) = false := by simp
  have hnz : ((n : Int) == 0) = false := by have := mt bl_zero.1 hz; simp; omega
  have hn64 : decide ((n : Int) ≤ 64) = false := by have := mt bl_64.1 hw; simp; omega
  have HW := Lib.hid hw; clear hw
  have HZ := Lib.hid hz; clear hz en
  have hi0 : (0 : Int) ≤ (i : Int) := Int.natCast_nonneg _
  obtain ⟨c, ec⟩ : ∃ c, c = N / 2 ^ i % 2 := ⟨_, rfl⟩
  have EC := Lib.hid ec; clear ec
  have HI := Lib.hid hi; clear hi
  have hi : (i : Int) < 1280 := by have := HI.out; omega
  have HH1 := Lib.hid HH; clear HH
  go_enter Tryd.func3, Tryd.ntmps3
  go_wp2_with fail
  refine (law1_awake _).mono ?_; rintro e w1 ⟨rfl, b1⟩
  replace s0 := s0.next b1
  replace hT := hT.next b1
  replace B := B.trans (b1.mono B.size)
  clear b1
  go_wp2_with fail
  refine (ref_From _ x0 _ s0 (by omega) f0).mono ?_; rintro e w2 ⟨r2, z2, rfl, o2, m2, v2, l2, b2⟩; have V2 := Lib.hid (v2.trans HN.out.symm); clear v2; have t2 := o2.sl; obtain ⟨a2, k2, rfl⟩ : ∃ a k, r2 = .slice a z2.length k := by (obtain ⟨a, _, _, k, e, _⟩ := t2; exact ⟨a, k, e⟩)
  replace s0 := s0.next b2
  replace hT := hT.next b2
  replace B := B.trans (b2.mono B.size)
  clear b2
  clear o2
  go_wp2_with fail
  have CB : Calls Tryd.prog 6 #[.slice a2 z2.length k2] w2 fun e w' => e = .returned (.int .i64 (n : Nat)) ∧ Below w2.heap.size w2 w' := by have h := ref_Bits _ z2 w2 t2 (by omega) m2.1; rw [V2.out, ← EN.out] at h; exact h
  refine (CB).mono ?_; rintro e w3 ⟨rfl, b3⟩
  replace s0 := s0.next b3
  replace hT := hT.next b3
  replace t2 := t2.next b3
  replace B := B.trans (b3.mono B.size)
  clear b3
  clear CB
  go_wp2_with fail
  refine (nat_Zeros _ x0 _ s0 (by omega) f0 hT).mono ?_; rintro e wx ⟨z, rfl, hz0, hz1, rfl⟩
  have IZ := Lib.hid (show IsZ N z by rw [HN.out]; exact hz1 (by rw [← HN.out]; exact HZ.out))
  clear hz0 hz1
  have hzn : z < n := by rw [EN.out]; exact IZ.out.lt
  have hzn2 : (0 : Int) ≤ (z : Int) := Int.natCast_nonneg _
  go_wp2_with fail
  refine (nat_Word_no _ x0 _ s0 (by omega) f0 (by rw [← HN.out]; exact HW.out)).mono ?_; rintro e wx ⟨rfl, rfl⟩
  go_wp2_with fail
  refine (ref_Half _ z2 i _ t2 (by omega) m2.1 (by omega)).mono ?_; rintro e w4 ⟨r7, z7, rfl, o7, m7, v7, l7, b4⟩; have V7 := Lib.hid (v7.trans (by rw [V2.out])); clear v7
  replace s0 := s0.next b4
  replace hT := hT.next b4
  replace t2 := t2.next b4
  replace B := B.trans (b4.mono B.size)
  clear b4
  obtain rfl : z7 = [] := nrm_nv_zero (by decide) m7 (V7.out.trans HH1.out)
  obtain ⟨a7, k7, rfl⟩ : ∃ a k, r7 = .slice a 0 k := by (obtain ⟨a, _, _, k, e, _⟩ := o7.sl; exact ⟨a, k, e⟩)
  clear o7 m7 l7
  obtain rfl : 0 = c := by rw [EC.out, HH1.out]
  have q1 := True.intro
  go_wp2_with fail
  have CB : Calls Tryd.prog 10 #[.slice ao x0.length cap] w4 fun e w' => e = .returned (.int .i64 (n : Nat)) ∧ w4 = w' := by have h := nat_Bits _ x0 w4 s0 (by omega) f0; rw [← HN.out, ← EN.out] at h; exact h
  refine (CB).mono ?_; rintro e wx ⟨rfl, rfl⟩
  clear CB
  go_wp2_with fail
  have CT : Calls Tryd.prog 11 #[.slice ao x0.length cap, .int .i64 i] w4 fun e w' => e = .returned (.int .i64 0) ∧ w4 = w' := by have h := nat_Bit _ x0 i w4 s0 (by omega) f0 (by omega); rw [← HN.out, ← EC.out] at h; exact h
  refine (CT).mono ?_; rintro e wx ⟨rfl, rfl⟩
  clear CT
  go_wp2_with fail
  refine (ref_Half _ z2 z _ t2 (by omega) m2.1 (by omega)).mono ?_; rintro e w5 ⟨r8, z8, rfl, o8, m8, v8, l8, b5⟩; have V8 := Lib.hid (v8.trans (by rw [V2.out])); clear v8
  replace s0 := s0.next b5
  replace hT := hT.next b5
  replace t2 := t2.next b5
  replace B := B.trans (b5.mono B.size)
  clear b5
  have hl8 : 0 < z8.length := List.length_pos_iff.2 (fun h => by have h1 := IZ.out.half.1; rw [← V8.out, h] at h1; exact absurd h1 (by decide))
  obtain ⟨a8, bb8, oo8, k8, rfl, -, t8⟩ := o8.sl
  obtain rfl := t8.ao (fun h => by rw [h] at hl8; simp at hl8)
  have q8 := t8.cell 0 hl8
  obtain ⟨d8, ed8⟩ : ∃ d, d = z8.getD 0 0 := ⟨_, rfl⟩
  rw [← ed8, Nat.add_zero] at q8
  have hd8 : ((d8 : Int) % 2 == 1) = true := by
    have h1 : d8 % 2 = 1 := by rw [ed8, odd_head hl8, V8.out]; exact IZ.out.half.1
    simp; omega
  have hd80 : (0 : Int) ≤ (d8 : Int) := Int.natCast_nonneg _
  clear ed8 t8
  go_wp2_with fail
  refine (ref_Twice _ z8 z _ _ o8 (by omega) m8.1 (by omega)).mono ?_; rintro e w6 ⟨r9, z9, rfl, o9, m9, v9, l9, b6⟩; have V9 := Lib.hid (show nv D16 z9 = N by rw [v9, V8.out]; exact IZ.out.half.2); clear v9; have t9 := o9.sl; clear o9 q8
  replace s0 := s0.next b6
  replace hT := hT.next b6
  replace t2 := t2.next b6
  replace B := B.trans (b6.mono B.size)
  clear b6
  go_wp2_with fail
  have CC : Calls Tryd.prog 14 #[r9, .slice a2 z2.length k2] w6 (RetQ w6 (.int .i64 0)) := by have h := ref_Cmp _ _ z9 z2 w6 t9 t2 (by omega) (by omega) m9.1 m2.1; rw [cmpN_eq (by rw [V9.out, V2.out])] at h; exact h
  refine CC.mono ?_; rintro e w7 ⟨rfl, q7⟩
  clear CC
  have b7 := q7.below w6.heap.size; clear q7
  replace s0 := s0.next b7
  replace hT := hT.next b7
  replace t2 := t2.next b7
  replace t9 := t9.next b7
  replace B := B.trans (b7.mono B.size)
  go_wp2
  go_ret
  exact ⟨rfl, B⟩

set_option maxRecDepth 20000 in
set_option maxHeartbeats 1000000 in
theorem w_one_word (v0 : Value) (x0 : List Nat) (i : Nat) (w : World) (s0 : Sl .u64 w v0 x0) (f0 : wf W64 x0) (hl : x0.length ≤ 20) (hT : Tz w) (N : Nat) (hN : N = nv W64 x0) (hz : N ≠ 0) (hw : N < W64) (hi : i < 1280) (HH : N / 2 ^ i ≠ 0) :
    Calls Tryd.prog 3 #[v0, .int .i64 i] w (LawOk w) := by
  obtain ⟨ao, b, off, cap, hv, hcap, hcs⟩ := s0
  have s0 : Sl .u64 w (.slice ao x0.length cap) x0 := ⟨ao, b, off, cap, rfl, hcap, hcs⟩
  subst hv
  clear hcs
  have B := Below.refl w.heap.size w
  have HN := Lib.hid hN; clear hN
  obtain ⟨n, en⟩ : ∃ n, n = bl N := ⟨_, rfl⟩
  have hn20 : n ≤ 1280 := by rw [en, HN.out]; have := bl_len (B := W64) (k := 64) rfl f0; omega
  have EN := Lib.hid en
  have nn0 : ((n : Int) != (n : Int)) = false := by simp
  have hnz : ((n : Int) == 0) = false := by have := mt bl_zero.1 hz; simp; omega
  have hn64 : decide ((n : Int) ≤ 64) = true := by have := bl_64.2 hw; simp; omega
  have HW := Lib.hid hw; clear hw
  have HZ := Lib.hid hz; clear hz en
  have hi0 : (0 : Int) ≤ (i : Int) := Int.natCast_nonneg _
  obtain ⟨c, ec⟩ : ∃ c, c = N / 2 ^ i % 2 := ⟨_, rfl⟩
  have EC := Lib.hid ec; clear ec
  have HI := Lib.hid hi; clear hi
  have hi : (i : Int) < 1280 := by have := HI.out; omega
  have HH1 := Lib.hid HH; clear HH
  go_enter Tryd.func3, Tryd.ntmps3
  go_wp2_with fail
  refine (law1_awake _).mono ?_; rintro e w1 ⟨rfl, b1⟩
  replace s0 := s0.next b1
  replace hT := hT.next b1
  replace B := B.trans (b1.mono B.size)
  clear b1
  go_wp2_with fail
  refine (ref_From _ x0 _ s0 (by omega) f0).mono ?_; rintro e w2 ⟨r2, z2, rfl, o2, m2, v2, l2, b2⟩; have V2 := Lib.hid (v2.trans HN.out.symm); clear v2; have t2 := o2.sl; obtain ⟨a2, k2, rfl⟩ : ∃ a k, r2 = .slice a z2.length k := by (obtain ⟨a, _, _, k, e, _⟩ := t2; exact ⟨a, k, e⟩)
  replace s0 := s0.next b2
  replace hT := hT.next b2
  replace B := B.trans (b2.mono B.size)
  clear b2
  clear o2
  go_wp2_with fail
  have CB : Calls Tryd.prog 6 #[.slice a2 z2.length k2] w2 fun e w' => e = .returned (.int .i64 (n : Nat)) ∧ Below w2.heap.size w2 w' := by have h := ref_Bits _ z2 w2 t2 (by omega) m2.1; rw [V2.out, ← EN.out] at h; exact h
  refine (CB).mono ?_; rintro e w3 ⟨rfl, b3⟩
  replace s0 := s0.next b3
  replace hT := hT.next b3
  replace t2 := t2.next b3
  replace B := B.trans (b3.mono B.size)
  clear b3
  clear CB
  go_wp2_with fail
  refine (nat_Zeros _ x0 _ s0 (by omega) f0 hT).mono ?_; rintro e wx ⟨z, rfl, hz0, hz1, rfl⟩
  have IZ := Lib.hid (show IsZ N z by rw [HN.out]; exact hz1 (by rw [← HN.out]; exact HZ.out))
  clear hz0 hz1
  have hzn : z < n := by rw [EN.out]; exact IZ.out.lt
  have hzn2 : (0 : Int) ≤ (z : Int) := Int.natCast_nonneg _
  go_wp2_with fail
  have CW : Calls Tryd.prog 8 #[.slice ao x0.length cap] w3 fun e w' => e = .returned (.tuple #[.int .u64 (N : Nat), .bool true]) ∧ w3 = w' := by have h := nat_Word_yes _ x0 w3 s0 (by omega) f0 (by rw [← HN.out]; exact HW.out); rw [← HN.out] at h; exact h
  refine (CW).mono ?_; rintro e wx ⟨rfl, rfl⟩
  clear CW
  go_wp2_with fail
  refine (ref_Half _ z2 i _ t2 (by omega) m2.1 (by omega)).mono ?_; rintro e w4 ⟨r7, z7, rfl, o7, m7, v7, l7, b4⟩; have V7 := Lib.hid (v7.trans (by rw [V2.out])); clear v7
  replace s0 := s0.next b4
  replace hT := hT.next b4
  replace t2 := t2.next b4
  replace B := B.trans (b4.mono B.size)
  clear b4
  have hl7 : 0 < z7.length := List.length_pos_iff.2 (fun h => HH1.out (by rw [← V7.out, h]; rfl))
  obtain ⟨a7, bb7, oo7, k7, rfl, -, t7⟩ := o7.sl
  obtain rfl := t7.ao (fun h => by rw [h] at hl7; simp at hl7)
  have q7 := t7.cell 0 hl7
  obtain ⟨d, ed⟩ : ∃ d, d = z7.getD 0 0 := ⟨_, rfl⟩
  rw [← ed, Nat.add_zero] at q7
  have hdc : ((c : Int) != (d : Int) % 2) = false := by
    have h1 : c = d % 2 := by rw [EC.out, ed, ← V7.out]; exact (odd_head hl7).symm
    rw [h1]; simp
  have hd0 : (0 : Int) ≤ (d : Int) := Int.natCast_nonneg _
  clear ed t7 o7 m7 l7
  have q1 := True.intro
  go_wp2_with fail
  have CB : Calls Tryd.prog 10 #[.slice ao x0.length cap] w4 fun e w' => e = .returned (.int .i64 (n : Nat)) ∧ w4 = w' := by have h := nat_Bits _ x0 w4 s0 (by omega) f0; rw [← HN.out, ← EN.out] at h; exact h
  refine (CB).mono ?_; rintro e wx ⟨rfl, rfl⟩
  clear CB
  go_wp2_with fail
  have CT : Calls Tryd.prog 11 #[.slice ao x0.length cap, .int .i64 i] w4 fun e w' => e = .returned (.int .i64 (c : Nat)) ∧ w4 = w' := by have h := nat_Bit _ x0 i w4 s0 (by omega) f0 (by omega); rw [← HN.out, ← EC.out] at h; exact h
  refine (CT).mono ?_; rintro e wx ⟨rfl, rfl⟩
  clear CT
  clear q7
  go_wp2_with fail
  refine (nat_Of N (by exact HW.out) _).mono ?_; rintro e w5 ⟨r5, z5, rfl, o5, m5, v5, l5, b5⟩; have V5 := Lib.hid v5; clear v5; have t5 := o5.sl; clear o5
  replace s0 := s0.next b5
  replace hT := hT.next b5
  replace t2 := t2.next b5
  replace B := B.trans (b5.mono B.size)
  clear b5
  go_wp2_with fail
  refine (law1_is _ _ z5 z2 _ t5 t2 (by omega) (by omega) m2.1 m5 (by rw [V5.out, V2.out])).mono ?_; rintro e w6 ⟨rfl, b6⟩
  replace s0 := s0.next b6
  replace hT := hT.next b6
  replace t2 := t2.next b6
  replace t5 := t5.next b6
  replace B := B.trans (b6.mono B.size)
  clear b6
  clear t5
  go_wp2_with fail
  refine (ref_Half _ z2 z _ t2 (by omega) m2.1 (by omega)).mono ?_; rintro e w7 ⟨r8, z8, rfl, o8, m8, v8, l8, b7⟩; have V8 := Lib.hid (v8.trans (by rw [V2.out])); clear v8
  replace s0 := s0.next b7
  replace hT := hT.next b7
  replace t2 := t2.next b7
  replace B := B.trans (b7.mono B.size)
  clear b7
  have hl8 : 0 < z8.length := List.length_pos_iff.2 (fun h => by have h1 := IZ.out.half.1; rw [← V8.out, h] at h1; exact absurd h1 (by decide))
  obtain ⟨a8, bb8, oo8, k8, rfl, -, t8⟩ := o8.sl
  obtain rfl := t8.ao (fun h => by rw [h] at hl8; simp at hl8)
  have q8 := t8.cell 0 hl8
  obtain ⟨d8, ed8⟩ : ∃ d, d = z8.getD 0 0 := ⟨_, rfl⟩
  rw [← ed8, Nat.add_zero] at q8
  have hd8 : ((d8 : Int) % 2 == 1) = true := by
    have h1 : d8 % 2 = 1 := by rw [ed8, odd_head hl8, V8.out]; exact IZ.out.half.1
    simp; omega
  have hd80 : (0 : Int) ≤ (d8 : Int) := Int.natCast_nonneg _
  clear ed8 t8
  go_wp2_with fail
  refine (ref_Twice _ z8 z _ _ o8 (by omega) m8.1 (by omega)).mono ?_; rintro e w8 ⟨r9, z9, rfl, o9, m9, v9, l9, b8⟩; have V9 := Lib.hid (show nv D16 z9 = N by rw [v9, V8.out]; exact IZ.out.half.2); clear v9; have t9 := o9.sl; clear o9 q8
  replace s0 := s0.next b8
  replace hT := hT.next b8
  replace t2 := t2.next b8
  replace B := B.trans (b8.mono B.size)
  clear b8
  go_wp2_with fail
  have CC : Calls Tryd.prog 14 #[r9, .slice a2 z2.length k2] w8 (RetQ w8 (.int .i64 0)) := by have h := ref_Cmp _ _ z9 z2 w8 t9 t2 (by omega) (by omega) m9.1 m2.1; rw [cmpN_eq (by rw [V9.out, V2.out])] at h; exact h
  refine CC.mono ?_; rintro e w9 ⟨rfl, q9⟩
  clear CC
  have b9 := q9.below w8.heap.size; clear q9
  replace s0 := s0.next b9
  replace hT := hT.next b9
  replace t2 := t2.next b9
  replace t9 := t9.next b9
  replace B := B.trans (b9.mono B.size)
  go_wp2
  go_ret
  exact ⟨rfl, B⟩

set_option maxRecDepth 20000 in
set_option maxHeartbeats 1000000 in
theorem w_one_long (v0 : Value) (x0 : List Nat) (i : Nat) (w : World) (s0 : Sl .u64 w v0 x0) (f0 : wf W64 x0) (hl : x0.length ≤ 20) (hT : Tz w) (N : Nat) (hN : N = nv W64 x0) (hz : N ≠ 0) (hw : ¬ N < W64) (hi : i < 1280) (HH : N / 2 ^ i ≠ 0) :
    Calls Tryd.prog 3 #[v0, .int .i64 i] w (LawOk w) := by
  obtain ⟨ao, b, off, cap, hv, hcap, hcs⟩ := s0
  have s0 : Sl .u64 w (.slice ao x0.length cap) x0 := ⟨ao, b, off, cap, rfl, hcap, hcs⟩
  subst hv
  clear hcs
  have B := Below.refl w.heap.size w
  have HN := Lib.hid hN; clear hN
  obtain ⟨n, en⟩ : ∃ n, n = bl N := ⟨_, rfl⟩
  have hn20 : n ≤ 1280 := by rw [en, HN.out]; have := bl_len (B := W64) (k := 64) rfl f0; omega
  have EN := Lib.hid en
  have nn0 : ((n : Int) != (n : Int)) = false := by simp
  have hnz : ((n : Int) == 0) = false := by have := mt bl_zero.1 hz; simp; omega
  have hn64 : decide ((n : Int) ≤ 64) = false := by have := mt bl_64.1 hw; simp; omega
  have HW := Lib.hid hw; clear hw
  have HZ := Lib.hid hz; clear hz en
  have hi0 : (0 : Int) ≤ (i : Int) := Int.natCast_nonneg _
  obtain ⟨c, ec⟩ : ∃ c, c = N / 2 ^ i % 2 := ⟨_, rfl⟩
  have EC := Lib.hid ec; clear ec
  have HI := Lib.hid hi; clear hi
  have hi : (i : Int) < 1280 := by have := HI.out; omega
  have HH1 := Lib.hid HH; clear HH
  go_enter Tryd.func3, Tryd.ntmps3
  go_wp2_with fail
  refine (law1_awake _).mono ?_; rintro e w1 ⟨rfl, b1⟩
  replace s0 := s0.next b1
  replace hT := hT.next b1
  replace B := B.trans (b1.mono B.size)
  clear b1
  go_wp2_with fail
  refine (ref_From _ x0 _ s0 (by omega) f0).mono ?_; rintro e w2 ⟨r2, z2, rfl, o2, m2, v2, l2, b2⟩; have V2 := Lib.hid (v2.trans HN.out.symm); clear v2; have t2 := o2.sl; obtain ⟨a2, k2, rfl⟩ : ∃ a k, r2 = .slice a z2.length k := by (obtain ⟨a, _, _, k, e, _⟩ := t2; exact ⟨a, k, e⟩)
  replace s0 := s0.next b2
  replace hT := hT.next b2
  replace B := B.trans (b2.mono B.size)
  clear b2
  clear o2
  go_wp2_with fail
  have CB : Calls Tryd.prog 6 #[.slice a2 z2.length k2] w2 fun e w' => e = .returned (.int .i64 (n : Nat)) ∧ Below w2.heap.size w2 w' := by have h := ref_Bits _ z2 w2 t2 (by omega) m2.1; rw [V2.out, ← EN.out] at h; exact h
  refine (CB).mono ?_; rintro e w3 ⟨rfl, b3⟩
  replace s0 := s0.next b3
  replace hT := hT.next b3
  replace t2 := t2.next b3
  replace B := B.trans (b3.mono B.size)
  clear b3
  clear CB
  go_wp2_with fail
  refine (nat_Zeros _ x0 _ s0 (by omega) f0 hT).mono ?_; rintro e wx ⟨z, rfl, hz0, hz1, rfl⟩
  have IZ := Lib.hid (show IsZ N z by rw [HN.out]; exact hz1 (by rw [← HN.out]; exact HZ.out))
  clear hz0 hz1
  have hzn : z < n := by rw [EN.out]; exact IZ.out.lt
  have hzn2 : (0 : Int) ≤ (z : Int) := Int.natCast_nonneg _
  go_wp2_with fail
  refine (nat_Word_no _ x0 _ s0 (by omega) f0 (by rw [← HN.out]; exact HW.out)).mono ?_; rintro e wx ⟨rfl, rfl⟩
  go_wp2_with fail
  refine (ref_Half _ z2 i _ t2 (by omega) m2.1 (by omega)).mono ?_; rintro e w4 ⟨r7, z7, rfl, o7, m7, v7, l7, b4⟩; have V7 := Lib.hid (v7.trans (by rw [V2.out])); clear v7
  replace s0 := s0.next b4
  replace hT := hT.next b4
  replace t2 := t2.next b4
  replace B := B.trans (b4.mono B.size)
  clear b4
  have hl7 : 0 < z7.length := List.length_pos_iff.2 (fun h => HH1.out (by rw [← V7.out, h]; rfl))
  obtain ⟨a7, bb7, oo7, k7, rfl, -, t7⟩ := o7.sl
  obtain rfl := t7.ao (fun h => by rw [h] at hl7; simp at hl7)
  have q7 := t7.cell 0 hl7
  obtain ⟨d, ed⟩ : ∃ d, d = z7.getD 0 0 := ⟨_, rfl⟩
  rw [← ed, Nat.add_zero] at q7
  have hdc : ((c : Int) != (d : Int) % 2) = false := by
    have h1 : c = d % 2 := by rw [EC.out, ed, ← V7.out]; exact (odd_head hl7).symm
    rw [h1]; simp
  have hd0 : (0 : Int) ≤ (d : Int) := Int.natCast_nonneg _
  clear ed t7 o7 m7 l7
  have q1 := True.intro
  go_wp2_with fail
  have CB : Calls Tryd.prog 10 #[.slice ao x0.length cap] w4 fun e w' => e = .returned (.int .i64 (n : Nat)) ∧ w4 = w' := by have h := nat_Bits _ x0 w4 s0 (by omega) f0; rw [← HN.out, ← EN.out] at h; exact h
  refine (CB).mono ?_; rintro e wx ⟨rfl, rfl⟩
  clear CB
  go_wp2_with fail
  have CT : Calls Tryd.prog 11 #[.slice ao x0.length cap, .int .i64 i] w4 fun e w' => e = .returned (.int .i64 (c : Nat)) ∧ w4 = w' := by have h := nat_Bit _ x0 i w4 s0 (by omega) f0 (by omega); rw [← HN.out, ← EC.out] at h; exact h
  refine (CT).mono ?_; rintro e wx ⟨rfl, rfl⟩
  clear CT
  clear q7
  go_wp2_with fail
  refine (ref_Half _ z2 z _ t2 (by omega) m2.1 (by omega)).mono ?_; rintro e w5 ⟨r8, z8, rfl, o8, m8, v8, l8, b5⟩; have V8 := Lib.hid (v8.trans (by rw [V2.out])); clear v8
  replace s0 := s0.next b5
  replace hT := hT.next b5
  replace t2 := t2.next b5
  replace B := B.trans (b5.mono B.size)
  clear b5
  have hl8 : 0 < z8.length := List.length_pos_iff.2 (fun h => by have h1 := IZ.out.half.1; rw [← V8.out, h] at h1; exact absurd h1 (by decide))
  obtain ⟨a8, bb8, oo8, k8, rfl, -, t8⟩ := o8.sl
  obtain rfl := t8.ao (fun h => by rw [h] at hl8; simp at hl8)
  have q8 := t8.cell 0 hl8
  obtain ⟨d8, ed8⟩ : ∃ d, d = z8.getD 0 0 := ⟨_, rfl⟩
  rw [← ed8, Nat.add_zero] at q8
  have hd8 : ((d8 : Int) % 2 == 1) = true := by
    have h1 : d8 % 2 = 1 := by rw [ed8, odd_head hl8, V8.out]; exact IZ.out.half.1
    simp; omega
  have hd80 : (0 : Int) ≤ (d8 : Int) := Int.natCast_nonneg _
  clear ed8 t8
  go_wp2_with fail
  refine (ref_Twice _ z8 z _ _ o8 (by omega) m8.1 (by omega)).mono ?_; rintro e w6 ⟨r9, z9, rfl, o9, m9, v9, l9, b6⟩; have V9 := Lib.hid (show nv D16 z9 = N by rw [v9, V8.out]; exact IZ.out.half.2); clear v9; have t9 := o9.sl; clear o9 q8
  replace s0 := s0.next b6
  replace hT := hT.next b6
  replace t2 := t2.next b6
  replace B := B.trans (b6.mono B.size)
  clear b6
  go_wp2_with fail
  have CC : Calls Tryd.prog 14 #[r9, .slice a2 z2.length k2] w6 (RetQ w6 (.int .i64 0)) := by have h := ref_Cmp _ _ z9 z2 w6 t9 t2 (by omega) (by omega) m9.1 m2.1; rw [cmpN_eq (by rw [V9.out, V2.out])] at h; exact h
  refine CC.mono ?_; rintro e w7 ⟨rfl, q7⟩
  clear CC
  have b7 := q7.below w6.heap.size; clear q7
  replace s0 := s0.next b7
  replace hT := hT.next b7
  replace t2 := t2.next b7
  replace t9 := t9.next b7
  replace B := B.trans (b7.mono B.size)
  go_wp2
  go_ret
  exact ⟨rfl, B⟩

set_option maxRecDepth 20000 in
set_option maxHeartbeats 1000000 in
theorem w_big_zero (v0 : Value) (x0 : List Nat) (i : Nat) (w : World) (s0 : Sl .u64 w v0 x0) (f0 : wf W64 x0) (hl : x0.length ≤ 20) (hT : Tz w) (N : Nat) (hN : N = nv W64 x0) (hz : N = 0) (hi : 1280 ≤ i) (hi1 : (i : Int) ≤ 9223372036854775807) :
    Calls Tryd.prog 3 #[v0, .int .i64 i] w (LawOk w) := by
  obtain ⟨ao, b, off, cap, hv, hcap, hcs⟩ := s0
  have s0 : Sl .u64 w (.slice ao x0.length cap) x0 := ⟨ao, b, off, cap, rfl, hcap, hcs⟩
  subst hv
  clear hcs
  have B := Below.refl w.heap.size w
  have HN := Lib.hid hN; clear hN
  obtain ⟨n, en⟩ : ∃ n, n = bl N := ⟨_, rfl⟩
  have hn20 : n ≤ 1280 := by rw [en, HN.out]; have := bl_len (B := W64) (k := 64) rfl f0; omega
  have EN := Lib.hid en
  have nn0 : ((n : Int) != (n : Int)) = false := by simp
  have hn0 : n = 0 := by rw [en]; exact bl_zero.2 hz
  clear en
  subst hn0
  subst hz
  have hi0 : (0 : Int) ≤ (i : Int) := Int.natCast_nonneg _
  have HI := Lib.hid hi; clear hi
  have hi : ¬ (i : Int) < 1280 := by have := HI.out; omega
  have HI2 := Lib.hid hi1; clear hi1
  go_enter Tryd.func3, Tryd.ntmps3
  go_wp2_with fail
  refine (law1_awake _).mono ?_; rintro e w1 ⟨rfl, b1⟩
  replace s0 := s0.next b1
  replace hT := hT.next b1
  replace B := B.trans (b1.mono B.size)
  clear b1
  go_wp2_with fail
  refine (ref_From _ x0 _ s0 (by omega) f0).mono ?_; rintro e w2 ⟨r2, z2, rfl, o2, m2, v2, l2, b2⟩; have V2 := Lib.hid (v2.trans HN.out.symm); clear v2; have t2 := o2.sl; obtain ⟨a2, k2, rfl⟩ : ∃ a k, r2 = .slice a z2.length k := by (obtain ⟨a, _, _, k, e, _⟩ := t2; exact ⟨a, k, e⟩)
  replace s0 := s0.next b2
  replace hT := hT.next b2
  replace B := B.trans (b2.mono B.size)
  clear b2
  clear o2
  go_wp2_with fail
  have CB : Calls Tryd.prog 6 #[.slice a2 z2.length k2] w2 fun e w' => e = .returned (.int .i64 (0 : Nat)) ∧ Below w2.heap.size w2 w' := by have h := ref_Bits _ z2 w2 t2 (by omega) m2.1; rw [V2.out, ← EN.out] at h; exact h
  refine (CB).mono ?_; rintro e w3 ⟨rfl, b3⟩
  replace s0 := s0.next b3
  replace hT := hT.next b3
  replace t2 := t2.next b3
  replace B := B.trans (b3.mono B.size)
  clear b3
  clear CB
  go_wp2_with fail
  refine (nat_Zeros _ x0 _ s0 (by omega) f0 hT).mono ?_; rintro e wx ⟨z, rfl, hz0, hz1, rfl⟩
  obtain rfl : z = 0 := hz0 HN.out.symm
  clear hz0 hz1
  go_wp2_with fail
  have CW : Calls Tryd.prog 8 #[.slice ao x0.length cap] w3 fun e w' => e = .returned (.tuple #[.int .u64 0, .bool true]) ∧ w3 = w' := by have h := nat_Word_yes _ x0 w3 s0 (by omega) f0 (by rw [← HN.out]; decide); rw [← HN.out] at h; exact h
  refine (CW).mono ?_; rintro e wx ⟨rfl, rfl⟩
  clear CW
  have q1 := True.intro
  go_wp2_with fail
  have CB : Calls Tryd.prog 10 #[.slice ao x0.length cap] w3 fun e w' => e = .returned (.int .i64 0) ∧ w3 = w' := by have h := nat_Bits _ x0 w3 s0 (by omega) f0; rw [← HN.out] at h; exact h
  refine (CB).mono ?_; rintro e wx ⟨rfl, rfl⟩
  clear CB
  go_wp2_with fail
  have CT : Calls Tryd.prog 11 #[.slice ao x0.length cap, .int .i64 i] w3 fun e w' => e = .returned (.int .i64 0) ∧ w3 = w' := by have h := nat_Bit _ x0 i w3 s0 (by omega) f0 (HI2.out); rw [← HN.out, big_bit f0 HN.out hl HI.out] at h; exact h
  refine (CT).mono ?_; rintro e wx ⟨rfl, rfl⟩
  clear CT
  go_wp2_with fail
  refine (nat_Of 0 (by decide) _).mono ?_; rintro e w4 ⟨r5, z5, rfl, o5, m5, v5, l5, b4⟩; have V5 := Lib.hid v5; clear v5; have t5 := o5.sl; clear o5
  replace s0 := s0.next b4
  replace hT := hT.next b4
  replace t2 := t2.next b4
  replace B := B.trans (b4.mono B.size)
  clear b4
  go_wp2_with fail
  refine (law1_is _ _ z5 z2 _ t5 t2 (by omega) (by omega) m2.1 m5 (by rw [V5.out, V2.out])).mono ?_; rintro e w5 ⟨rfl, b5⟩
  replace s0 := s0.next b5
  replace hT := hT.next b5
  replace t2 := t2.next b5
  replace t5 := t5.next b5
  replace B := B.trans (b5.mono B.size)
  clear b5
  clear t5
  go_wp2
  go_ret
  exact ⟨rfl, B⟩

set_option maxRecDepth 20000 in
set_option maxHeartbeats 1000000 in
theorem w_big_word (v0 : Value) (x0 : List Nat) (i : Nat) (w : World) (s0 : Sl .u64 w v0 x0) (f0 : wf W64 x0) (hl : x0.length ≤ 20) (hT : Tz w) (N : Nat) (hN : N = nv W64 x0) (hz : N ≠ 0) (hw : N < W64) (hi : 1280 ≤ i) (hi1 : (i : Int) ≤ 9223372036854775807) :
    Calls Tryd.prog 3 #[v0, .int .i64 i] w (LawOk w) := by
  obtain ⟨ao, b, off, cap, hv, hcap, hcs⟩ := s0
  have s0 : Sl .u64 w (.slice ao x0.length cap) x0 := ⟨ao, b, off, cap, rfl, hcap, hcs⟩
  subst hv
  clear hcs
  have B := Below.refl w.heap.size w
  have HN := Lib.hid hN; clear hN
  obtain ⟨n, en⟩ : ∃ n, n = bl N := ⟨_, rfl⟩
  have hn20 : n ≤ 1280 := by rw [en, HN.out]; have := bl_len (B := W64) (k := 64) rfl f0; omega
  have EN := Lib.hid en
  have nn0 : ((n : Int) != (n : Int)) = false := by simp
  have hnz : ((n : Int) == 0) = false := by have := mt bl_zero.1 hz; simp; omega
  have hn64 : decide ((n : Int) ≤ 64) = true := by have := bl_64.2 hw; simp; omega
  have HW := Lib.hid hw; clear hw
  have HZ := Lib.hid hz; clear hz en
  have hi0 : (0 : Int) ≤ (i : Int) := Int.natCast_nonneg _
  have HI := Lib.hid hi; clear hi
  have hi : ¬ (i : Int) < 1280 := by have := HI.out; omega
  have HI2 := Lib.hid hi1; clear hi1
  go_enter Tryd.func3, Tryd.ntmps3
  go_wp2_with fail
  refine (law1_awake _).mono ?_; rintro e w1 ⟨rfl, b1⟩
  replace s0 := s0.next b1
  replace hT := hT.next b1
  replace B := B.trans (b1.mono B.size)
  clear b1
  go_wp2_with fail
  refine (ref_From _ x0 _ s0 (by omega) f0).mono ?_; rintro e w2 ⟨r2, z2, rfl, o2, m2, v2, l2, b2⟩; have V2 := Lib.hid (v2.trans HN.out.symm); clear v2; have t2 := o2.sl; obtain ⟨a2, k2, rfl⟩ : ∃ a k, r2 = .slice a z2.length k := by (obtain ⟨a, _, _, k, e, _⟩ := t2; exact ⟨a, k, e⟩)
  replace s0 := s0.next b2
  replace hT := hT.next b2
  replace B := B.trans (b2.mono B.size)
  clear b2
  clear o2
  go_wp2_with fail
  have CB : Calls Tryd.prog 6 #[.slice a2 z2.length k2] w2 fun e w' => e = .returned (.int .i64 (n : Nat)) ∧ Below w2.heap.size w2 w' := by have h := ref_Bits _ z2 w2 t2 (by omega) m2.1; rw [V2.out, ← EN.out] at h; exact h
  refine (CB).mono ?_; rintro e w3 ⟨rfl, b3⟩
  replace s0 := s0.next b3
  replace hT := hT.next b3
  replace t2 := t2.next b3
  replace B := B.trans (b3.mono B.size)
  clear b3
  clear CB
  go_wp2_with fail
  refine (nat_Zeros _ x0 _ s0 (by omega) f0 hT).mono ?_; rintro e wx ⟨z, rfl, hz0, hz1, rfl⟩
  have IZ := Lib.hid (show IsZ N z by rw [HN.out]; exact hz1 (by rw [← HN.out]; exact HZ.out))
  clear hz0 hz1
  have hzn : z < n := by rw [EN.out]; exact IZ.out.lt
  have hzn2 : (0 : Int) ≤ (z : Int) := Int.natCast_nonneg _
  go_wp2_with fail
  have CW : Calls Tryd.prog 8 #[.slice ao x0.length cap] w3 fun e w' => e = .returned (.tuple #[.int .u64 (N : Nat), .bool true]) ∧ w3 = w' := by have h := nat_Word_yes _ x0 w3 s0 (by omega) f0 (by rw [← HN.out]; exact HW.out); rw [← HN.out] at h; exact h
  refine (CW).mono ?_; rintro e wx ⟨rfl, rfl⟩
  clear CW
  have q1 := True.intro
  go_wp2_with fail
  have CB : Calls Tryd.prog 10 #[.slice ao x0.length cap] w3 fun e w' => e = .returned (.int .i64 (n : Nat)) ∧ w3 = w' := by have h := nat_Bits _ x0 w3 s0 (by omega) f0; rw [← HN.out, ← EN.out] at h; exact h
  refine (CB).mono ?_; rintro e wx ⟨rfl, rfl⟩
  clear CB
  go_wp2_with fail
  have CT : Calls Tryd.prog 11 #[.slice ao x0.length cap, .int .i64 i] w3 fun e w' => e = .returned (.int .i64 0) ∧ w3 = w' := by have h := nat_Bit _ x0 i w3 s0 (by omega) f0 (HI2.out); rw [← HN.out, big_bit f0 HN.out hl HI.out] at h; exact h
  refine (CT).mono ?_; rintro e wx ⟨rfl, rfl⟩
  clear CT
  go_wp2_with fail
  refine (nat_Of N (by exact HW.out) _).mono ?_; rintro e w4 ⟨r5, z5, rfl, o5, m5, v5, l5, b4⟩; have V5 := Lib.hid v5; clear v5; have t5 := o5.sl; clear o5
  replace s0 := s0.next b4
  replace hT := hT.next b4
  replace t2 := t2.next b4
  replace B := B.trans (b4.mono B.size)
  clear b4
  go_wp2_with fail
  refine (law1_is _ _ z5 z2 _ t5 t2 (by omega) (by omega) m2.1 m5 (by rw [V5.out, V2.out])).mono ?_; rintro e w5 ⟨rfl, b5⟩
  replace s0 := s0.next b5
  replace hT := hT.next b5
  replace t2 := t2.next b5
  replace t5 := t5.next b5
  replace B := B.trans (b5.mono B.size)
  clear b5
  clear t5
  go_wp2_with fail
  refine (ref_Half _ z2 z _ t2 (by omega) m2.1 (by omega)).mono ?_; rintro e w6 ⟨r8, z8, rfl, o8, m8, v8, l8, b6⟩; have V8 := Lib.hid (v8.trans (by rw [V2.out])); clear v8
  replace s0 := s0.next b6
  replace hT := hT.next b6
  replace t2 := t2.next b6
  replace B := B.trans (b6.mono B.size)
  clear b6
  have hl8 : 0 < z8.length := List.length_pos_iff.2 (fun h => by have h1 := IZ.out.half.1; rw [← V8.out, h] at h1; exact absurd h1 (by decide))
  obtain ⟨a8, bb8, oo8, k8, rfl, -, t8⟩ := o8.sl
  obtain rfl := t8.ao (fun h => by rw [h] at hl8; simp at hl8)
  have q8 := t8.cell 0 hl8
  obtain ⟨d8, ed8⟩ : ∃ d, d = z8.getD 0 0 := ⟨_, rfl⟩
  rw [← ed8, Nat.add_zero] at q8
  have hd8 : ((d8 : Int) % 2 == 1) = true := by
    have h1 : d8 % 2 = 1 := by rw [ed8, odd_head hl8, V8.out]; exact IZ.out.half.1
    simp; omega
  have hd80 : (0 : Int) ≤ (d8 : Int) := Int.natCast_nonneg _
  clear ed8 t8
  go_wp2_with fail
  refine (ref_Twice _ z8 z _ _ o8 (by omega) m8.1 (by omega)).mono ?_; rintro e w7 ⟨r9, z9, rfl, o9, m9, v9, l9, b7⟩; have V9 := Lib.hid (show nv D16 z9 = N by rw [v9, V8.out]; exact IZ.out.half.2); clear v9; have t9 := o9.sl; clear o9 q8
  replace s0 := s0.next b7
  replace hT := hT.next b7
  replace t2 := t2.next b7
  replace B := B.trans (b7.mono B.size)
  clear b7
  go_wp2_with fail
  have CC : Calls Tryd.prog 14 #[r9, .slice a2 z2.length k2] w7 (RetQ w7 (.int .i64 0)) := by have h := ref_Cmp _ _ z9 z2 w7 t9 t2 (by omega) (by omega) m9.1 m2.1; rw [cmpN_eq (by rw [V9.out, V2.out])] at h; exact h
  refine CC.mono ?_; rintro e w8 ⟨rfl, q8⟩
  clear CC
  have b8 := q8.below w7.heap.size; clear q8
  replace s0 := s0.next b8
  replace hT := hT.next b8
  replace t2 := t2.next b8
  replace t9 := t9.next b8
  replace B := B.trans (b8.mono B.size)
  go_wp2
  go_ret
  exact ⟨rfl, B⟩

set_option maxRecDepth 20000 in
set_option maxHeartbeats 1000000 in
theorem w_big_long (v0 : Value) (x0 : List Nat) (i : Nat) (w : World) (s0 : Sl .u64 w v0 x0) (f0 : wf W64 x0) (hl : x0.length ≤ 20) (hT : Tz w) (N : Nat) (hN : N = nv W64 x0) (hz : N ≠ 0) (hw : ¬ N < W64) (hi : 1280 ≤ i) (hi1 : (i : Int) ≤ 9223372036854775807) :
    Calls Tryd.prog 3 #[v0, .int .i64 i] w (LawOk w) := by
  obtain ⟨ao, b, off, cap, hv, hcap, hcs⟩ := s0
  have s0 : Sl .u64 w (.slice ao x0.length cap) x0 := ⟨ao, b, off, cap, rfl, hcap, hcs⟩
  subst hv
  clear hcs
  have B := Below.refl w.heap.size w
  have HN := Lib.hid hN; clear hN
  obtain ⟨n, en⟩ : ∃ n, n = bl N := ⟨_, rfl⟩
  have hn20 : n ≤ 1280 := by rw [en, HN.out]; have := bl_len (B := W64) (k := 64) rfl f0; omega
  have EN := Lib.hid en
  have nn0 : ((n : Int) != (n : Int)) = false := by simp
  have hnz : ((n : Int) == 0) = false := by have := mt bl_zero.1 hz; simp; omega
  have hn64 : decide ((n : Int) ≤ 64) = false := by have := mt bl_64.1 hw; simp; omega
  have HW := Lib.hid hw; clear hw
  have HZ := Lib.hid hz; clear hz en
  have hi0 : (0 : Int) ≤ (i : Int) := Int.natCast_nonneg _
  have HI := Lib.hid hi; clear hi
  have hi : ¬ (i : Int) < 1280 := by have := HI.out; omega
  have HI2 := Lib.hid hi1; clear hi1
  go_enter Tryd.func3, Tryd.ntmps3
  go_wp2_with fail
  refine (law1_awake _).mono ?_; rintro e w1 ⟨rfl, b1⟩
  replace s0 := s0.next b1
  replace hT := hT.next b1
  replace B := B.trans (b1.mono B.size)
  clear b1
  go_wp2_with fail
  refine (ref_From _ x0 _ s0 (by omega) f0).mono ?_; rintro e w2 ⟨r2, z2, rfl, o2, m2, v2, l2, b2⟩; have V2 := Lib.hid (v2.trans HN.out.symm); clear v2; have t2 := o2.sl; obtain ⟨a2, k2, rfl⟩ : ∃ a k, r2 = .slice a z2.length k := by (obtain ⟨a, _, _, k, e, _⟩ := t2; exact ⟨a, k, e⟩)
  replace s0 := s0.next b2
  replace hT := hT.next b2
  replace B := B.trans (b2.mono B.size)
  clear b2
  clear o2
  go_wp2_with fail
  have CB : Calls Tryd.prog 6 #[.slice a2 z2.length k2] w2 fun e w' => e = .returned (.int .i64 (n : Nat)) ∧ Below w2.heap.size w2 w' := by have h := ref_Bits _ z2 w2 t2 (by omega) m2.1; rw [V2.out, ← EN.out] at h; exact h
  refine (CB).mono ?_; rintro e w3 ⟨rfl, b3⟩
  replace s0 := s0.next b3
  replace hT := hT.next b3
  replace t2 := t2.next b3
  replace B := B.trans (b3.mono B.size)
  clear b3
  clear CB
  go_wp2_with fail
  refine (nat_Zeros _ x0 _ s0 (by omega) f0 hT).mono ?_; rintro e wx ⟨z, rfl, hz0, hz1, rfl⟩
  have IZ := Lib.hid (show IsZ N z by rw [HN.out]; exact hz1 (by rw [← HN.out]; exact HZ.out))
  clear hz0 hz1
  have hzn : z < n := by rw [EN.out]; exact IZ.out.lt
  have hzn2 : (0 : Int) ≤ (z : Int) := Int.natCast_nonneg _
  go_wp2_with fail
  refine (nat_Word_no _ x0 _ s0 (by omega) f0 (by rw [← HN.out]; exact HW.out)).mono ?_; rintro e wx ⟨rfl, rfl⟩
  have q1 := True.intro
  go_wp2_with fail
  have CB : Calls Tryd.prog 10 #[.slice ao x0.length cap] w3 fun e w' => e = .returned (.int .i64 (n : Nat)) ∧ w3 = w' := by have h := nat_Bits _ x0 w3 s0 (by omega) f0; rw [← HN.out, ← EN.out] at h; exact h
  refine (CB).mono ?_; rintro e wx ⟨rfl, rfl⟩
  clear CB
  go_wp2_with fail
  have CT : Calls Tryd.prog 11 #[.slice ao x0.length cap, .int .i64 i] w3 fun e w' => e = .returned (.int .i64 0) ∧ w3 = w' := by have h := nat_Bit _ x0 i w3 s0 (by omega) f0 (HI2.out); rw [← HN.out, big_bit f0 HN.out hl HI.out] at h; exact h
  refine (CT).mono ?_; rintro e wx ⟨rfl, rfl⟩
  clear CT
  go_wp2_with fail
  refine (ref_Half _ z2 z _ t2 (by omega) m2.1 (by omega)).mono ?_; rintro e w4 ⟨r8, z8, rfl, o8, m8, v8, l8, b4⟩; have V8 := Lib.hid (v8.trans (by rw [V2.out])); clear v8
  replace s0 := s0.next b4
  replace hT := hT.next b4
  replace t2 := t2.next b4
  replace B := B.trans (b4.mono B.size)
  clear b4
  have hl8 : 0 < z8.length := List.length_pos_iff.2 (fun h => by have h1 := IZ.out.half.1; rw [← V8.out, h] at h1; exact absurd h1 (by decide))
  obtain ⟨a8, bb8, oo8, k8, rfl, -, t8⟩ := o8.sl
  obtain rfl := t8.ao (fun h => by rw [h] at hl8; simp at hl8)
  have q8 := t8.cell 0 hl8
  obtain ⟨d8, ed8⟩ : ∃ d, d = z8.getD 0 0 := ⟨_, rfl⟩
  rw [← ed8, Nat.add_zero] at q8
  have hd8 : ((d8 : Int) % 2 == 1) = true := by
    have h1 : d8 % 2 = 1 := by rw [ed8, odd_head hl8, V8.out]; exact IZ.out.half.1
    simp; omega
  have hd80 : (0 : Int) ≤ (d8 : Int) := Int.natCast_nonneg _
  clear ed8 t8
  go_wp2_with fail
  refine (ref_Twice _ z8 z _ _ o8 (by omega) m8.1 (by omega)).mono ?_; rintro e w5 ⟨r9, z9, rfl, o9, m9, v9, l9, b5⟩; have V9 := Lib.hid (show nv D16 z9 = N by rw [v9, V8.out]; exact IZ.out.half.2); clear v9; have t9 := o9.sl; clear o9 q8
  replace s0 := s0.next b5
  replace hT := hT.next b5
  replace t2 := t2.next b5
  replace B := B.trans (b5.mono B.size)
  clear b5
  go_wp2_with fail
  have CC : Calls Tryd.prog 14 #[r9, .slice a2 z2.length k2] w5 (RetQ w5 (.int .i64 0)) := by have h := ref_Cmp _ _ z9 z2 w5 t9 t2 (by omega) (by omega) m9.1 m2.1; rw [cmpN_eq (by rw [V9.out, V2.out])] at h; exact h
  refine CC.mono ?_; rintro e w6 ⟨rfl, q6⟩
  clear CC
  have b6 := q6.below w5.heap.size; clear q6
  replace s0 := s0.next b6
  replace hT := hT.next b6
  replace t2 := t2.next b6
  replace t9 := t9.next b6
  replace B := B.trans (b6.mono B.size)
  go_wp2
  go_ret
  exact ⟨rfl, B⟩

theorem walk (v0 : Value) (x0 : List Nat) (i : Int) (w : World) (s0 : Sl .u64 w v0 x0) (f0 : wf W64 x0) (bn : -9223372036854775808 ≤ i ∧ i ≤ 9223372036854775807) (hT : Tz w) :
    Calls Tryd.prog 3 #[v0, .int .i64 i] w (LawOk w) := by
  by_cases h : x0.length ≤ 20
  · obtain ⟨N, hN⟩ : ∃ N, N = nv W64 x0 := ⟨_, rfl⟩
    by_cases hneg : i < 0
    · by_cases hz : N = 0
      · exact w_neg_zero v0 x0 _ w s0 f0 h hT N hN hz hneg
      · by_cases hw : N < W64
        · exact w_neg_word v0 x0 _ w s0 f0 h hT N hN hz hw hneg
        · exact w_neg_long v0 x0 _ w s0 f0 h hT N hN hz hw hneg
    · obtain ⟨m, rfl⟩ := Int.eq_ofNat_of_zero_le (show 0 ≤ i by omega)
      by_cases hi : m < 1280
      · by_cases HH : N / 2 ^ m = 0
        · by_cases hz : N = 0
          · exact w_none_zero v0 x0 _ w s0 f0 h hT N hN hz hi HH
          · by_cases hw : N < W64
            · exact w_none_word v0 x0 _ w s0 f0 h hT N hN hz hw hi HH
            · exact w_none_long v0 x0 _ w s0 f0 h hT N hN hz hw hi HH
        · by_cases hz : N = 0
          · exact absurd (by rw [hz]; exact Nat.zero_div _) HH
          · by_cases hw : N < W64
            · exact w_one_word v0 x0 _ w s0 f0 h hT N hN hz hw hi HH
            · exact w_one_long v0 x0 _ w s0 f0 h hT N hN hz hw hi HH
      · by_cases hz : N = 0
        · exact w_big_zero v0 x0 _ w s0 f0 h hT N hN hz (by omega) bn.2
        · by_cases hw : N < W64
          · exact w_big_word v0 x0 _ w s0 f0 h hT N hN hz hw (by omega) bn.2
          · exact w_big_long v0 x0 _ w s0 f0 h hT N hN hz hw (by omega) bn.2
  · obtain ⟨ao, b, off, cap, rfl, -, -⟩ := s0
    clear bn
    go_enter Tryd.func3, Tryd.ntmps3
    go_wp2_with fail
    refine (law1_awake w).mono ?_; rintro e w1 ⟨rfl, b1⟩
    go_wp2_with fail
    refine (law1_awake w1).mono ?_; rintro e w2 ⟨rfl, b2⟩
    go_wp2
    go_ret
    exact ⟨rfl, b1.trans (b2.mono b1.size)⟩

theorem gTab : Tryd.prog.globalNamed "math/bits.deBruijn64tab" = some 0 := by kernel_rfl
theorem gTabType : (Tryd.prog.globals[0]?).map (·.type) = some 48 := by kernel_rfl
theorem cellsT : Tryd.prog.cellsOf 48 = 64 := by kernel_rfl
theorem cellsE : Tryd.prog.cellsOf 5 = 1 := by kernel_rfl
/-- What the row's list gives: the table's cells hold its numbers. -/
theorem table {W : World} (h : laidMetH Tryd.prog Rows.natBitsRow.laid W) : Lib.TabIs Tryd.prog W "math/bits.deBruijn64tab" .u8 (Lib.deBruijn64tab.map fun (n : Nat) => (n : Int)) :=
  Lib.tabIs_of_head (rest := []) gTab gTabType Tryd.underlying48 Tryd.underlying5 cellsE cellsT h
theorem tz_of {W : World} (h : laidMetH Tryd.prog Rows.natBitsRow.laid W) : Tz W := fun j hj => by
  have h1 := (table h).cell gTab j (by simpa using hj)
  rw [h1]
  simp [List.getD, hj]

theorem contract (H : Type) (enc : TypeId × Value → H) (W : World) (base : Nat) (args : Array Value) (ds gs : List (DataW H)) (before : List MemPlace)
    (hval0 : ∀ (j : Nat) t v, Tryd.f3.params[j]? = some t → args[j]? = some v → Value.okWide Tryd.prog W .any base t v)
    (hW : DataW.Whole enc Tryd.prog Tryd.f3.params.toList Rows.natBitsSpec.vars false W args.toList ds gs before) (hL : laidMetH Tryd.prog Rows.natBitsRow.laid W) :
    Calls Tryd.prog 3 args W fun e W' => ∃ v, e = .returned v ∧ Rows.natBitsSpec.post enc Tryd.prog Tryd.f3 false true false false W args v W' := by
  have hval : ∀ (j : Nat) t v, Tryd.f3.params[j]? = some t → args[j]? = some v → Value.okWide Tryd.prog W .any base t v := hval0
  have hW' := hW
  obtain ⟨p, q, hA0, hV, rfl, hfz, hnd⟩ := hW
  have hA : DataW.TrodAll enc Tryd.prog W 0 (fun _ => true) true Tryd.f3.params.toList args.toList ds p := hA0
  rw [Tryd.params3] at hA hval
  obtain ⟨v0, vs0, d0, ds0, p0, q0, hargs, rfl, rfl, h0, r0⟩ := trodAll_cons hA
  obtain ⟨v1, vs1, d1, ds1, p1, q1, rfl, rfl, rfl, h1, r1⟩ := trodAll_cons r0
  obtain ⟨rfl, rfl, rfl⟩ := trodAll_nil r1
  obtain rfl : args = #[v0, v1] := by cases args; simp_all
  obtain ⟨rfl, rfl⟩ := trodVars_none hV
  have k0 := h0
  have lt0 : ∀ x ∈ p0, x.block < W.heap.size := by obtain ⟨m, hm⟩ := k0; exact DataW.trod_lt m _ _ _ hm
  obtain ⟨x0, s0, f0⟩ := open_words Tryd.underlying23 Tryd.underlying29 (by kernel_rfl) (hval 0 23 v0 rfl rfl) h0
  have k1 := h1
  have lt1 : ∀ x ∈ p1, x.block < W.heap.size := by obtain ⟨m, hm⟩ := k1; exact DataW.trod_lt m _ _ _ hm
  obtain ⟨x1, rfl, rfl, rfl, wi1⟩ := open_int Tryd.underlying3 (hval 1 3 v1 rfl rfl) h1
  clear hA0 hval0
  refine (walk v0 x0 x1 W s0 f0 (wf_i64_bounds wi1) (tz_of hL)).mono fun e W' ⟨he, bel⟩ => ?_
  subst he
  exact ⟨_, rfl, _, _, _, [], _, [], hW', trodAll_mk1 (shut_bool Tryd.underlying4 _), (trodAll_cons_mk (Below.trod laidOut (by kernel_rfl) (of_decide_eq_true (by kernel_rfl)) k0 bel lt0) (trodAll_cons_mk (Below.trod laidOut (by kernel_rfl) (of_decide_eq_true (by kernel_rfl)) k1 bel lt1) trodAll_mk0)), rfl, bel.frame _, fun h => by cases h⟩

/-- A world for the witness: the settled one, the table (block 0) holding what its initialiser lays. -/
noncomputable def laidWorld (os : Os) : World :=
  { World.holding Tryd.prog os ⟨#[], #[], []⟩ with heap := (World.holding Tryd.prog os ⟨#[], #[], []⟩).heap.modify 0 fun
      | .cells _ t frozen => .cells (Lib.deBruijn64tab.map fun (n : Nat) => Value.int .u8 (n : Int)).toArray t frozen
      | o => o }
theorem laid_met (os : Os) : laidMet Tryd.prog Rows.natBitsRow.laid ((laidWorld os).forCall (fun _ _ => 0) ⟨#[], #[.slice none 0 0, .int .i64 0], []⟩).memory :=
  laidMet_of_run' 8 (by kernel_rfl) (by kernel_rfl)
theorem reads (os : Os) {H : Type} (enc : TypeId × Value → H) : ∃ ds places, DataW.whole enc Tryd.prog ((laidWorld os).forCall (fun _ _ => 0) ⟨#[], #[.slice none 0 0, .int .i64 0], []⟩).memory Tryd.f3.params.toList Rows.natBitsSpec.vars false #[Value.slice none 0 0, Value.int .i64 0].toList 8 = some (ds, [], places) :=
  ⟨[.nil, .lit (.int .i64 0)], [], by kernel_rfl⟩

set_option maxRecDepth 100000 in
theorem lifted (os : Os) (started : os.Started) (H : Type) (enc : TypeId × Value → H) (F : Stop.Interp) :
    ReturnsInHanded {} Tryd.checked os 3 .any ((OpenSpec.ofChange Rows.natBitsSpec).preRow enc Tryd.prog Tryd.f3 Rows.natBitsRow.domain false Rows.natBitsRow.laid) (((OpenSpec.ofChange Rows.natBitsSpec).at F).post enc Tryd.prog Tryd.f3 false true false false) := by
  obtain ⟨ds, places, hx⟩ := reads os enc
  refine returnsInHanded_of_row (C := Tryd.checked) (s := OpenSpec.ofChange Rows.natBitsSpec) own started (by kernel_rfl) Tryd.func3
    (witness_row_at (enc := enc) (C := Tryd.checked) false (laidWorld os) #[.slice none 0 0, .int .i64 0] rfl (by kernel_rfl) (by kernel_rfl) (by kernel_rfl)
      (OpenSpec.preRow_of_cond 8 hx (by kernel_rfl) (fun k hk => by cases hk) (by kernel_rfl) (laid_met os))) ?_
  intro W base args ds gs before hval hW _ _ _ hL _ _
  exact contract H enc W base args ds gs before hval hW hL
theorem said : Rows.NatBitsSaid :=
  OpenClaim.holds_of_cond 3 Tryd.f3 rfl rfl rfl rfl rfl rfl rfl ⟨rfl, rfl, rfl, rfl, rfl⟩ rfl rfl rfl rfl rfl (by kernel_rfl) Tryd.func3 (by kernel_rfl)
    (of_decide_eq_true (by kernel_rfl)) (by unfold Func.isWrapper; first | (rw [if_pos (by decide +kernel)]; kernel_rfl) | (rw [if_neg (by decide +kernel)]; exact ⟨rfl, rfl⟩))
    (fun os started H enc _ F => by rw [OpenClaim.pre_eq_preRow]; exact lifted os started H enc F)
theorem plain (f : FuncId) (fn : Func) (hf : Tryd.pinned.checked.prog.funcNamed "quincunx/quincunxlaw01.NatBits" = some f) (hfn : Tryd.pinned.checked.prog.funcs[f]? = some fn) :
    false = Tryd.pinned.checked.prog.looks [] ∧ ∀ (j : Nat) t, fn.params[j]? = some t → Tryd.pinned.checked.prog.wantsStandIn t = false := by
  obtain rfl : f = 3 := Option.some.inj ((show Tryd.prog.funcNamed "quincunx/quincunxlaw01.NatBits" = some 3 by kernel_rfl).symm.trans hf) |>.symm
  obtain rfl : fn = Tryd.f3 := (Option.some.inj (Tryd.func3.symm.trans hfn)).symm
  refine ⟨by kernel_rfl, fun j t ht => ?_⟩
  rw [Tryd.params3] at ht
  have h1 : t = 23 ∨ t = 3 := by have := Array.mem_of_getElem? ht; simpa using this
  rcases h1 with rfl | rfl
  · exact (show Tryd.prog.wantsStandIn 23 = false by kernel_rfl)
  · exact (show Tryd.prog.wantsStandIn 3 = false by kernel_rfl)
/-- The card. -/
theorem proved : Rows.NatBitsCardSaid :=
  Claim7.holds_tied_plain_at .later [] _ _ _ _ said (fun _ h => by cases h) (by kernel_rfl) (fun _ h => by cases h) natBits_row_tie rfl ⟨rfl, rfl⟩ (by kernel_rfl) rfl plain (by kernel_rfl)
#print axioms proved
end Go.Proofs.YtnnidjhhcnmnnaaDoor.natBits
