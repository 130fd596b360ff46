/- Package quincunxref01: Bits; package quincunxref02: Pow. -/
import Derived.Test.YtnnidjhhcnmnnaaRef5
import Derived.Test.YtnnidjhhcnmnnaaBits
namespace Go.Proofs.Ytnnidjhhcnmnnaa
open Go.RowKit

theorem ref_Trim_sl (v : Value) (xs : List Nat) (w : World) (ho : Sl .i64 w v xs) (hm : xs.length ≤ 1000000000) :
    Calls Try.prog 44 #[v] w fun e w' => ∃ r, e = .returned r ∧ Sl .i64 w r (tr xs) ∧ w = w' := by
  obtain ⟨ao, b, off, cap, rfl, hl, hcs⟩ := ho
  refine (ref_Trim ao b off cap xs w hcs hl hm).mono fun e w' ⟨he, hw⟩ => ⟨_, he, ?_, hw⟩
  refine ⟨ao, b, off, cap, rfl, by have := tr_len xs; omega, fun h => hcs.ao (by intro h0; subst h0; exact h rfl), fun j hj => ?_⟩
  have e2 : (tr xs).getD j 0 = xs.getD j 0 := by
    have h3 := tr_take xs
    rw [h3, List.getD, List.getD, List.getElem?_take_of_lt hj]
  rw [e2]
  exact hcs.cell j (by have := tr_len xs; omega)

theorem bl_done {N n : Nat} (h1 : n ≤ bl N) (h2 : N / 2 ^ n = 0) : bl N = n := by
  have h3 : N < 2 ^ n := by
    rcases Nat.div_eq_zero_iff.mp h2 with h | h
    · have := Nat.pow_pos (n := n) (show 0 < 2 by decide); omega
    · exact h
  have := bl_le_of_lt h3
  omega

theorem bl_more {N n : Nat} (h2 : N / 2 ^ n ≠ 0) : n + 1 ≤ bl N := by
  rcases Nat.lt_or_ge n (bl N) with h | h
  · exact h
  · exfalso; apply h2
    have h3 := (isBl_bl N).1
    have h4 : 2 ^ bl N ≤ 2 ^ n := Nat.pow_le_pow_right (by decide) h
    exact Nat.div_eq_of_lt (by omega)

theorem bl_len {B k : Nat} {xs : List Nat} (hB : B = 2 ^ k) (h : wf B xs) : bl (nv B xs) ≤ k * xs.length := by
  have h1 := nv_lt xs h
  rw [hB, ← Nat.pow_mul] at h1
  rw [hB]
  exact bl_le_of_lt h1

set_option maxHeartbeats 1000000 in
theorem ref_Bits (v : Value) (xs : List Nat) (w : World) (hv : Sl .i64 w v xs) (hm : xs.length ≤ 100000000) (hx : wf D16 xs) :
    Calls Try.prog 39 #[v] w fun e w' => e = .returned (.int .i64 (bl (nv D16 xs))) ∧ Below w.heap.size w w' := by
  have hbl : bl (nv D16 xs) ≤ 16 * xs.length := bl_len rfl hx
  have HL := Lib.hid hbl; clear hbl
  have ht := ref_Trim_sl v xs w hv (by omega)
  have HT := Lib.hid ht; clear ht
  obtain ⟨ao, b, off, cap, rfl, hl, hcs⟩ := hv
  go_enter Try.func39, Try.ntmps39
  go_wp2_with fail
  refine HT.out.mono ?_; rintro e w' ⟨r, rfl, hr, rfl⟩
  go_wp2
  go_loopw [3, 4] (fun dv nvv wr => ∃ n zs, nvv = .int .i64 (n : Nat) ∧ n ≤ bl (nv D16 xs) ∧ Sl .i64 wr dv zs ∧ zs.length ≤ xs.length ∧ Nrm D16 zs ∧ nv D16 zs = nv D16 xs / 2 ^ n ∧ Below w.heap.size w wr) (fun _ iv _ => bl (nv D16 xs) - (intOf iv).toNat)
  case atStart => exact ⟨0, tr xs, rfl, by omega, hr, tr_len xs, nrm_tr hx, by rw [nv_tr]; simp, Below.refl _ _⟩
  case round =>
    obtain ⟨n, zs, rfl, hn, hz, hzl, hzn, hval, hb⟩ := hrel
    have HV := Lib.hid hval; clear hval
    by_cases h0 : zs = []
    · subst h0
      have hd := bl_done hn (by rw [← HV.out]; rfl)
      have HD := Lib.hid hd; clear hd
      obtain ⟨bo, c, pff, dap, rfl, kl, kcs⟩ := hz
      clear HL hn
      go_wp2
      go_ret
      refine ⟨?_, hb⟩
      rw [HD.out]; rfl
    · have h1 : nv D16 xs / 2 ^ n ≠ 0 := by
        rw [← HV.out]; intro h; exact h0 (nrm_nv_zero (by decide) hzn h)
      have h2 := bl_more h1
      have hpos : 0 < zs.length := List.length_pos_iff.mpr h0
      have H1 := Lib.hid h1; clear h1
      have H2 := Lib.hid h2; clear h2
      have hn16 : n < 16 * xs.length + 1 := by have := HL.out; omega
      have HN := Lib.hid hn; clear hn
      have hh := ref_half _ zs wr hz (by omega) hzn.1
      have HH := Lib.hid hh; clear hh
      obtain ⟨bo, c, pff, dap, rfl, kl, kcs⟩ := hz
      go_wp2_with fail
      refine HH.out.mono ?_; rintro e w2 ⟨r2, z2, rfl, hr2, nr2, vr2, lr2, br2⟩
      have V2 := Lib.hid vr2; clear vr2
      have L2 := Lib.hid lr2; clear lr2
      go_wp2_with fail
      refine (ref_Trim_sl _ _ _ hr2.sl (by rw [L2.out]; omega)).mono ?_; rintro e w' ⟨r3, rfl, hr3, rfl⟩
      go_wp2
      go_roundw
      case rel => exact ⟨n + 1, tr z2, by go_num, H2.out, hr3, by have := tr_len z2; have := L2.out; omega, nrm_tr nr2, by rw [nv_tr, V2.out, HV.out, Nat.div_div_eq_div_mul, Nat.pow_succ], hb.trans (br2.mono hb.size)⟩
      case measure => have := H2.out; simp [intOf]; omega

set_option maxHeartbeats 1000000 in
theorem ref2_Pow (v : Value) (xs : List Nat) (n : Nat) (w : World) (hv : Sl .i64 w v xs) (hm : xs.length ≤ 1000) (hx : wf D16 xs) (hn : n ≤ 100) :
    Calls Try.prog 41 #[v, .int .i64 n] w (RetD w (1 + n * xs.length) (nv D16 xs ^ n)) := by
  have hpb : n * xs.length ≤ 100000 := Nat.mul_le_mul hn hm
  have ho0 : Own .i64 3 (w.alloc (.cells #[.int .i64 1] 3)) w.heap.size (.slice (some ⟨w.heap.size, 0, none⟩) 1 1) [1] := World.ownsRow_lit w #[.int .i64 1] 1 (Nat.le_refl _) (by unfold maxLen; omega) rfl
  go_enter Try.func41, Try.ntmps41
  go_wp2
  go_loopw [5, 6] (fun ov iv wr => ∃ i zs, i ≤ n ∧ iv = .int .i64 (i : Nat) ∧ Own .i64 3 wr w.heap.size ov zs ∧ Below w.heap.size w wr ∧ Nrm D16 zs ∧ zs.length ≤ 1 + i * xs.length ∧ nv D16 zs = nv D16 xs ^ i) (fun _ iv _ => n - (intOf iv).toNat)
  case atStart => exact ⟨0, [1], by omega, rfl, ho0, (Below.refl _ _).alloc (Nat.le_refl _) _, ⟨wf_cons (by decide) (wf_nil _), rfl⟩, by simp, by simp [nv]⟩
  case round =>
    obtain ⟨i, zs, hi, rfl, ho, hb, hz, hl, hval⟩ := hrel
    have HV := Lib.hid hval; clear hval
    have hl2 : zs.length ≤ 200000 := by
      have := Nat.mul_le_mul_right xs.length hi
      omega
    by_cases hlt : i < n
    · go_wp2_with fail
      refine (ref_Mul _ v zs xs _ ho.sl (hv.next hb) (by omega) (by omega) hz.1 hx).mono ?_; rintro e w2 ⟨r2, z2, rfl, hr2, nr2, vr2, lr2, br2⟩
      have V2 := Lib.hid vr2; clear vr2
      have L2 := Lib.hid lr2; clear lr2
      go_wp2
      go_roundw
      case rel => exact ⟨i + 1, z2, by omega, by go_num, hr2.mono hb.size, hb.trans (br2.mono hb.size), nr2, by rw [Nat.add_mul]; have := L2.out; omega, by rw [V2.out, HV.out, Nat.pow_succ]⟩
      case measure => simp [intOf]; omega
    · obtain rfl : i = n := by omega
      go_wp2
      go_ret
      exact ⟨_, zs, rfl, ho, hz, HV.out, hl, hb⟩

end Go.Proofs.Ytnnidjhhcnmnnaa
