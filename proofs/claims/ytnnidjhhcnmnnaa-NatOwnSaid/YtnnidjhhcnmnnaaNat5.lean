/- More functions of package nat: Shl, Shr. -/
import Derived.Test.YtnnidjhhcnmnnaaNat4
namespace Go.Proofs.Ytnnidjhhcnmnnaa
open Go.RowKit

/-- Where the loop of Shl stands. -/
def ShlRel (w wr : World) (g n : Nat) (X : List Nat) (wd s i h : Nat) (zs : List Nat) : Prop :=
  Own .u64 32 wr g (.slice (some ⟨g, 0, none⟩) n n) zs ∧ Below g w wr ∧ zs.length = n ∧ wf W64 zs ∧ zs.getD (wd + i) 0 = h ∧ h < 2 ^ s ∧ (∀ j, wd + i < j → zs.getD j 0 = 0) ∧
    nv W64 (zs.take (wd + i)) + W64 ^ (wd + i) * h = nv W64 (X.take i) * 2 ^ s * W64 ^ wd

theorem or_add (h x s : Nat) (hs : s < 64) (hh : h < 2 ^ s) : bits BinOp.or IntKind.u64 (h : Int) (IntKind.u64.wrap ((x : Int) * 2 ^ s)) = ((h + x * 2 ^ s % W64 : Nat) : Int) := by
  have e1 : IntKind.u64.wrap ((x : Int) * 2 ^ s) = ((x * 2 ^ s % W64 : Nat) : Int) := by
    rw [IntKind.wrap_u64, show ((x : Int) * 2 ^ s) = ((x * 2 ^ s : Nat) : Int) from by simp]; rfl
  have hl : x * 2 ^ s % W64 < W64 := Nat.mod_lt _ (by decide)
  have hhl : h < W64 := Nat.lt_of_lt_of_le hh (by rw [show W64 = 2 ^ 64 from rfl]; exact Nat.pow_le_pow_right (by decide) (by omega))
  rw [e1, bits_or_u64_nat h _ hhl hl]
  have e2 : x * 2 ^ s % W64 = 2 ^ s * (x % 2 ^ (64 - s)) := by
    rw [show W64 = 2 ^ s * 2 ^ (64 - s) from by rw [← Nat.pow_add, show s + (64 - s) = 64 from by omega]; rfl, Nat.mul_comm x, Nat.mul_mod_mul_left]
  rw [e2, Nat.or_comm, ← Nat.two_pow_add_eq_or_of_lt hh, Nat.add_comm]

theorem shl_split (x s : Nat) (hs : s < 64) : x * 2 ^ s % W64 + W64 * (x / 2 ^ (64 - s)) = x * 2 ^ s := by
  have e : x / 2 ^ (64 - s) = x * 2 ^ s / W64 := by
    rw [show W64 = 2 ^ (64 - s) * 2 ^ s from by rw [← Nat.pow_add, show (64 - s) + s = 64 from by omega]; rfl, Nat.mul_div_mul_right _ _ (Nat.two_pow_pos s)]
  rw [e]; exact Nat.mod_add_div _ _
theorem shl_lo_lt (h x s : Nat) (hs : s < 64) (hh : h < 2 ^ s) : h + x * 2 ^ s % W64 < W64 := by
  have e2 : x * 2 ^ s % W64 = 2 ^ s * (x % 2 ^ (64 - s)) := by
    rw [show W64 = 2 ^ s * 2 ^ (64 - s) from by rw [← Nat.pow_add, show s + (64 - s) = 64 from by omega]; rfl, Nat.mul_comm x, Nat.mul_mod_mul_left]
  have h1 : x % 2 ^ (64 - s) + 1 ≤ 2 ^ (64 - s) := Nat.mod_lt _ (Nat.two_pow_pos _)
  have h2 : 2 ^ s * (x % 2 ^ (64 - s) + 1) ≤ 2 ^ s * 2 ^ (64 - s) := Nat.mul_le_mul_left _ h1
  rw [← Nat.pow_add, show s + (64 - s) = 64 from by omega, Nat.mul_succ] at h2
  have h3 : (2 : Nat) ^ 64 = W64 := rfl
  omega
theorem shl_hi_lt (x s : Nat) (hs : s < 64) (hx : x < W64) : x / 2 ^ (64 - s) < 2 ^ s := by
  refine Nat.div_lt_of_lt_mul ?_
  rw [← Nat.pow_add, show (64 - s) + s = 64 from by omega]; exact hx

theorem getD_replicate0 (n j : Nat) : (List.replicate n 0).getD j 0 = 0 := by
  simp only [List.getD, List.getElem?_replicate]; split <;> rfl
theorem getD_set_ne (zs : List Nat) (i j x : Nat) (h : i ≠ j) : (zs.set i x).getD j 0 = zs.getD j 0 := by
  simp [List.getD, h]
theorem getD_set_eq (zs : List Nat) (i x : Nat) (h : i < zs.length) : (zs.set i x).getD i 0 = x := by
  simp [List.getD, h]

theorem ShlRel.step {w wr : World} {g n : Nat} {X : List Nat} {wd s i h x q : Nat} {zs : List Nat} (ho : Own .u64 32 wr g (.slice (some ⟨g, 0, none⟩) n n) zs) (hb : Below g w wr) (hl : zs.length = n) (hw : wf W64 zs)
    (hz : ∀ j, wd + i < j → zs.getD j 0 = 0) (hv : nv W64 (zs.take (wd + i)) + W64 ^ (wd + i) * h = nv W64 (X.take i) * 2 ^ s * W64 ^ wd)
    (hs : s < 64) (hh : h < 2 ^ s) (hx : x < W64) (ex : x = X.getD i 0) (eq : q = h + x * 2 ^ s % W64) (hi : wd + i + 1 < n) :
    ShlRel w ((wr.setCell ⟨g, wd + i, none⟩ (.int .u64 (q : Nat))).setCell ⟨g, wd + i + 1, none⟩ (.int .u64 (x / 2 ^ (64 - s) : Nat))) g n X wd s (i + 1) (x / 2 ^ (64 - s)) ((zs.set (wd + i) q).set (wd + i + 1) (x / 2 ^ (64 - s))) := by
  have hq : q < W64 := by rw [eq]; exact shl_lo_lt h x s hs hh
  have hhi := shl_hi_lt x s hs hx
  have hhw : x / 2 ^ (64 - s) < W64 := Nat.lt_of_le_of_lt (Nat.div_le_self _ _) hx
  refine ⟨((ho.store _ _).1.store _ _).1, (hb.setCell (Nat.le_refl _) _).setCell (Nat.le_refl _) _, by simp [hl], wf_set (wf_set hw _ _ hq) _ _ hhw, ?_, hhi, ?_, ?_⟩
  · rw [show wd + (i + 1) = wd + i + 1 from by omega, getD_set_eq _ _ _ (by simp [hl]; omega)]
  · intro j hj
    rw [getD_set_ne _ _ _ _ (by omega), getD_set_ne _ _ _ _ (by omega)]; exact hz j (by omega)
  · rw [show wd + (i + 1) = wd + i + 1 from by omega, List.take_set, List.set_eq_of_length_le (by simp; omega), nv_set_succ _ _ _ _ (by omega), nv_take_succ', ← ex, Nat.add_mul, Nat.add_mul, ← hv, eq, Nat.pow_succ]
    have h1 := shl_split x s hs
    have h2 : W64 ^ (wd + i) * (x * 2 ^ s % W64 + W64 * (x / 2 ^ (64 - s))) = W64 ^ (wd + i) * (x * 2 ^ s) := by rw [h1]
    have h3 : W64 ^ i * x * 2 ^ s * W64 ^ wd = W64 ^ (wd + i) * (x * 2 ^ s) := by rw [Nat.pow_add]; simp [Nat.mul_assoc, Nat.mul_comm, Nat.mul_left_comm]
    simp only [Nat.mul_add, Nat.mul_assoc] at h2 h3 ⊢
    omega

theorem set_same (zs : List Nat) (j : Nat) (h : zs.getD j 0 = 0) : zs.set j 0 = zs := by
  apply List.ext_getElem?
  intro i
  rw [List.getElem?_set]
  split
  · rename_i e; subst e
    split
    · rename_i h2; simp only [List.getD, List.getElem?_eq_getElem h2, Option.getD_some] at h; rw [List.getElem?_eq_getElem h2, h]
    · rename_i h2; rw [List.getElem?_eq_none (by omega)]
  · rfl

theorem ShlRel.step0 {w wr : World} {g n : Nat} {X : List Nat} {wd i h x q : Nat} {zs : List Nat} (ho : Own .u64 32 wr g (.slice (some ⟨g, 0, none⟩) n n) zs) (hb : Below g w wr) (hl : zs.length = n) (hw : wf W64 zs)
    (hz : ∀ j, wd + i < j → zs.getD j 0 = 0) (hv : nv W64 (zs.take (wd + i)) + W64 ^ (wd + i) * h = nv W64 (X.take i) * 2 ^ 0 * W64 ^ wd)
    (hh : h < 2 ^ 0) (hx : x < W64) (ex : x = X.getD i 0) (eq : q = h + x * 2 ^ 0 % W64) (hi : wd + i + 1 < n) :
    ShlRel w (wr.setCell ⟨g, wd + i, none⟩ (.int .u64 (q : Nat))) g n X wd 0 (i + 1) 0 (zs.set (wd + i) q) := by
  have hd : x / 2 ^ (64 - 0) = 0 := Nat.div_eq_of_lt hx
  obtain ⟨_, _, h3, h4, h5, h6, h7, h8⟩ := ShlRel.step ho hb hl hw hz hv (by omega) hh hx ex eq hi
  have e : (zs.set (wd + i) q).set (wd + i + 1) 0 = zs.set (wd + i) q := set_same _ _ (by rw [getD_set_ne _ _ _ _ (by omega)]; exact hz _ (by omega))
  rw [hd] at h3 h4 h5 h6 h7 h8
  rw [e] at h3 h4 h5 h7 h8
  exact ⟨(ho.store _ _).1, hb.setCell (Nat.le_refl _) _, h3, h4, h5, h6, h7, h8⟩

set_option maxHeartbeats 800000 in
theorem nat_Shl (v : Value) (xs : List Nat) (n : Nat) (w : World) (hv : Sl .u64 w v xs) (hm : xs.length ≤ 100000000) (hx : wf W64 xs) (hn : n ≤ 1048576) :
    Calls Try.prog 17 #[v, .int .i64 n] w (RetNB w (xs.length + n / 64 + 1) (nv W64 xs * 2 ^ n)) := by
  obtain ⟨ao, b, off, cap, rfl, hl, hcs⟩ := hv
  have hlx := tr_len xs
  obtain ⟨X, eX⟩ : ∃ X, X = tr xs := ⟨_, rfl⟩
  have wX : wf W64 X := by rw [eX]; exact wf_tr hx
  have hX : Cs .u64 w ao b off X := by rw [eX]; exact hcs.trim
  have e1 : nv W64 xs = nv W64 X := by rw [eX, nv_tr]
  rw [e1]
  have c1 := nat_trim ao b off cap xs w hcs hl (by omega)
  rw [← eX] at c1 hlx
  have C1 := Lib.hid c1
  clear c1 e1 eX hcs
  obtain ⟨wd, ewd⟩ : ∃ wd, wd = n / 64 := ⟨_, rfl⟩
  obtain ⟨s, es⟩ : ∃ s, s = n % 64 := ⟨_, rfl⟩
  have hs : s < 64 := by omega
  have hwd : wd ≤ 16384 := by omega
  have d1 : (n : Int) / 64 = wd := by omega
  have d2 : (n : Int) % 64 = s := by omega
  have EW := Lib.hid ewd
  have ES := Lib.hid es
  clear ewd es
  go_enter Try.func17, Try.ntmps17
  go_wp2_with (first | (at_make; refine wp_make .u64 23 32 8 Try.underlying23 (by kernel_rfl) (by decide) rfl _ _ rfl .i64 .i64 (X.length + wd + 1) (by omega) _ _ _ rfl rfl (by omega) (by omega) ?_; intro w1 hown hbel hsz) | (go_at_call 45; refine C1.out.mono ?_; rintro e w' ⟨rfl, rfl⟩))
  go_loopw [32] (fun ix wr => ∃ i h zs, i ≤ X.length ∧ ix = .int .i64 (i : Nat) ∧ ShlRel w wr w.heap.size (X.length + wd + 1) X wd s i h zs) (fun ix _ => X.length - (intOf ix).toNat)
  case atStart => exact ⟨0, 0, List.replicate (X.length + wd + 1) 0, by omega, rfl, hown, hbel, by simp, wf_replicate0 (by decide) _, getD_replicate0 _ _, Nat.two_pow_pos _, fun j _ => getD_replicate0 _ _, by rw [List.take_replicate, nv_replicate0]; simp [nv]⟩
  case round =>
    obtain ⟨i, h, zs, hi, rfl, ho, hb, hl2, hw, hh, hhl, hz0, hzv⟩ := hrel
    by_cases hlt : i < X.length
    · obtain rfl := hX.ao (by intro h; subst h; simp at hlt)
      obtain ⟨x, ex⟩ : ∃ x, x = X.getD i 0 := ⟨_, rfl⟩
      have hcx := (hX.below hb (Nat.le_refl _)).cell i hlt
      have hco := ho.cellAt (wd + i) (by omega)
      have hfo := ho.frozenAt (wd + i)
      rw [hh] at hco
      rw [← ex] at hcx
      have hxl : x < W64 := by rw [ex]; exact wf_getD wX (by decide) i
      have hor := or_add h x s hs hhl
      obtain ⟨q, eq⟩ : ∃ q, q = h + x * 2 ^ s % W64 := ⟨_, rfl⟩
      rw [← eq] at hor
      have HV := Lib.hid hzv
      have HL := Lib.hid hl2
      have HH := Lib.hid hh
      have HZ := Lib.hid hz0
      have HHL := Lib.hid hhl
      have EX := Lib.hid ex
      have EQ := Lib.hid eq
      clear hzv hl2 hh hz0 hhl ex eq
      by_cases h0 : 0 < s
      · have ho1 := (ho.store (wd + i) q).1
        have hc2 := ho1.cellAt (wd + i + 1) (by simp [HL.out]; omega)
        have hf2 := ho1.frozenAt (wd + i + 1)
        have hz1 : (zs.set (wd + i) q).getD (wd + i + 1) 0 = 0 := by
          have := HZ.out (wd + i + 1) (by omega)
          simpa [List.getD, List.getElem?_set] using this
        rw [hz1] at hc2
        clear hz1
        go_wp2
        go_roundw
        case rel => exact ⟨i + 1, x / 2 ^ (64 - s), _, by omega, by go_num, by
          have R := ShlRel.step ho hb HL.out hw HZ.out HV.out hs HHL.out hxl EX.out EQ.out (by omega)
          simpa using R⟩
        case measure => simp [intOf]; omega
      · obtain rfl : s = 0 := by omega
        rw [show ((x : Int) * 2 ^ 0) = x from by simp] at hor
        go_wp2
        go_roundw
        case rel => exact ⟨i + 1, 0, _, by omega, by go_num, ShlRel.step0 ho hb HL.out hw HZ.out HV.out HHL.out hxl EX.out EQ.out (by omega)⟩
        case measure => simp [intOf]; omega
    · obtain rfl : i = X.length := by omega
      have HV := Lib.hid hzv
      have HL := Lib.hid hl2
      have HH := Lib.hid hh
      clear hzv hl2 hh hz0
      go_wp2_with (go_at_call 46; refine (nat_normal_own _ _ _ _ _ _ ho HL.out (Nat.le_refl _) (by omega)).mono ?_; rintro e w' ⟨r, rfl, hr, rfl⟩)
      go_ret2
      refine ⟨_, tr zs, rfl, hr, nrm_tr hw, ?_, by have := tr_len zs; rw [HL.out] at this; omega, hb⟩
      have e3 := nv_take_succ' W64 zs (wd + X.length)
      rw [List.take_of_length_le (by rw [HL.out]; omega), HH.out, HV.out, List.take_length] at e3
      rw [nv_tr, e3, Nat.mul_assoc, show W64 = 2 ^ 64 from rfl, ← Nat.pow_mul, ← Nat.pow_add]
      congr 2
      have := EW.out; have := ES.out; omega

/-- Where the loop of Shr stands: A is what is left behind the whole words. -/
def ShrRel (w wr : World) (g n : Nat) (A : List Nat) (s i : Nat) (zs : List Nat) : Prop :=
  Own .u64 32 wr g (.slice (some ⟨g, 0, none⟩) n n) zs ∧ Below g w wr ∧ zs.length = n ∧ wf W64 zs ∧
    2 ^ s * nv W64 (zs.take i) + A.getD 0 0 % 2 ^ s = nv W64 (A.take i) + W64 ^ i * (A.getD i 0 % 2 ^ s)

theorem ShrRel.arith {zs A : List Nat} {s i x y z : Nat} (hs : s < 64) (hl : i < zs.length) (hw : wf W64 zs) (hv : 2 ^ s * nv W64 (zs.take i) + A.getD 0 0 % 2 ^ s = nv W64 (A.take i) + W64 ^ i * (A.getD i 0 % 2 ^ s))
    (hx : x = A.getD i 0) (hy : y = A.getD (i + 1) 0) (hxl : x < W64) (hz : z = x / 2 ^ s + 2 ^ (64 - s) * (y % 2 ^ s)) :
    z < W64 ∧ wf W64 (zs.set i z) ∧ 2 ^ s * nv W64 ((zs.set i z).take (i + 1)) + A.getD 0 0 % 2 ^ s = nv W64 (A.take (i + 1)) + W64 ^ (i + 1) * (A.getD (i + 1) 0 % 2 ^ s) := by
  have hW : W64 = 2 ^ s * 2 ^ (64 - s) := by rw [← Nat.pow_add, show s + (64 - s) = 64 from by omega]; rfl
  have h1 : x / 2 ^ s < 2 ^ (64 - s) := Nat.div_lt_of_lt_mul (by rw [← hW]; exact hxl)
  have h2 : y % 2 ^ s + 1 ≤ 2 ^ s := Nat.mod_lt _ (Nat.two_pow_pos _)
  have h3 : 2 ^ (64 - s) * (y % 2 ^ s + 1) ≤ W64 := by rw [hW, Nat.mul_comm (2 ^ s)]; exact Nat.mul_le_mul_left _ h2
  have hzl : z < W64 := by rw [Nat.mul_succ] at h3; omega
  refine ⟨hzl, wf_set hw _ _ hzl, ?_⟩
  rw [nv_set_succ _ _ _ _ hl, nv_take_succ', ← hx, ← hy, Nat.pow_succ]
  have h4 : 2 ^ s * z + x % 2 ^ s = x + W64 * (y % 2 ^ s) := by
    rw [hz, hW, Nat.mul_add, ← Nat.mul_assoc]
    have := Nat.mod_add_div x (2 ^ s)
    omega
  have h5 : W64 ^ i * (2 ^ s * z + x % 2 ^ s) = W64 ^ i * (x + W64 * (y % 2 ^ s)) := by rw [h4]
  rw [← hx] at hv
  have h6 : 2 ^ s * (W64 ^ i * z) = W64 ^ i * (2 ^ s * z) := by simp [Nat.mul_left_comm]
  simp only [Nat.mul_add, Nat.mul_assoc] at h5 hv ⊢
  rw [h6]
  omega

theorem shr_end {zs A : List Nat} {s : Nat} (hv : 2 ^ s * nv W64 (zs.take A.length) + A.getD 0 0 % 2 ^ s = nv W64 (A.take A.length) + W64 ^ A.length * (A.getD A.length 0 % 2 ^ s)) (hl : zs.length = A.length) : nv W64 zs = nv W64 A / 2 ^ s := by
  have h0 : A.getD A.length 0 = 0 := by unfold List.getD; rw [List.getElem?_eq_none (by omega)]; rfl
  rw [h0, List.take_length, List.take_of_length_le (by omega), Nat.zero_mod, Nat.mul_zero, Nat.add_zero] at hv
  rw [← hv]
  have h1 : A.getD 0 0 % 2 ^ s < 2 ^ s := Nat.mod_lt _ (Nat.two_pow_pos _)
  rw [Nat.mul_comm, Nat.add_comm, Nat.add_mul_div_right _ _ (Nat.two_pow_pos _), Nat.div_eq_of_lt h1, Nat.zero_add]

theorem nv_drop (xs : List Nat) (k : Nat) (hx : wf W64 xs) : nv W64 (xs.drop k) = nv W64 xs / W64 ^ k := by
  by_cases hk : k ≤ xs.length
  · rw [nv_take_drop W64 xs k hk, Nat.add_mul_div_left _ _ (Nat.pow_pos (by decide))]
    have h1 := nv_lt (xs.take k) (wf_take hx k)
    have e1 : (xs.take k).length = k := by simp; omega
    rw [e1] at h1
    rw [Nat.div_eq_of_lt h1]; simp
  · rw [List.drop_eq_nil_of_le (by omega)]
    have h1 := nv_lt xs hx
    have h2 : W64 ^ xs.length ≤ W64 ^ k := Nat.pow_le_pow_right (by decide) (by omega)
    rw [Nat.div_eq_of_lt (by omega)]; rfl

set_option maxHeartbeats 1600000 in
theorem nat_Shr (v : Value) (xs : List Nat) (n : Nat) (w : World) (hv : Sl .u64 w v xs) (hm : xs.length ≤ 100000000) (hx : wf W64 xs) (hn : (n : Int) ≤ 9223372036854775807) :
    Calls Try.prog 18 #[v, .int .i64 n] w (RetNB w xs.length (nv W64 xs / 2 ^ n)) := by
  obtain ⟨ao, b, off, cap, rfl, hl, hcs⟩ := hv
  have hlx := tr_len xs
  obtain ⟨X, eX⟩ : ∃ X, X = tr xs := ⟨_, rfl⟩
  have wX : wf W64 X := by rw [eX]; exact wf_tr hx
  have hX : Cs .u64 w ao b off X := by rw [eX]; exact hcs.trim
  have e1 : nv W64 xs = nv W64 X := by rw [eX, nv_tr]
  rw [e1]
  have c1 := nat_trim ao b off cap xs w hcs hl (by omega)
  rw [← eX] at c1 hlx
  have C1 := Lib.hid c1
  clear c1 e1 eX hcs
  obtain ⟨wd, ewd⟩ : ∃ wd, wd = n / 64 := ⟨_, rfl⟩
  obtain ⟨s, es⟩ : ∃ s, s = n % 64 := ⟨_, rfl⟩
  have hs : s < 64 := by omega
  have d1 : (n : Int) / 64 = wd := by omega
  have d2 : (n : Int) % 64 = s := by omega
  have hpow : nv W64 X / 2 ^ n = nv W64 (X.drop wd) / 2 ^ s := by
    rw [nv_drop X wd wX, Nat.div_div_eq_div_mul, show W64 = 2 ^ 64 from rfl, ← Nat.pow_mul, ← Nat.pow_add]
    congr 2; omega
  rw [hpow]
  have hn0 : (0 : Int) ≤ (n : Int) := Int.natCast_nonneg _
  clear ewd es hpow
  by_cases hge : X.length ≤ wd
  · have hz : X.drop wd = [] := List.drop_eq_nil_of_le hge
    rw [hz]
    clear hz
    go_enter Try.func18, Try.ntmps18
    go_wp2_with (go_at_call 45; refine C1.out.mono ?_; rintro e w' ⟨rfl, rfl⟩)
    go_ret2
    exact ⟨_, [], rfl, Own.nil _ _ _ _, nrm_nil _, by simp [nv], by simp, Below.refl _ _⟩
  · obtain ⟨A, eA⟩ : ∃ A, A = X.drop wd := ⟨_, rfl⟩
    rw [← eA]
    have lA : A.length = X.length - wd := by rw [eA]; simp
    have hA0 : 0 < A.length := by omega
    have hA : ∀ j, j < A.length → A.getD j 0 = X.getD (wd + j) 0 := fun j _ => by rw [eA]; simp [List.getD, List.getElem?_drop]
    have wA : wf W64 A := by rw [eA]; exact wf_drop wX wd
    obtain rfl := hX.ao (by intro h; subst h; simp at hge)
    have LA := Lib.hid lA
    have HA := Lib.hid hA
    have hXA : X.length = wd + A.length := by omega
    rw [hXA] at C1
    have hcA : Cs .u64 w (some ⟨b, off + wd, none⟩) b (off + wd) A := ⟨fun _ => rfl, fun j hj => by rw [hA j hj, Nat.add_assoc]; exact hX.cell (wd + j) (by omega)⟩
    have hcap : wd + A.length ≤ cap := by omega
    have hAx : A.length ≤ xs.length := by omega
    clear lA hA eA hX wX hge hXA
    have hlA : A.length ≤ 100000000 := by have := LA.out; omega
    go_enter Try.func18, Try.ntmps18
    go_wp2_with (first | (at_make; refine wp_make .u64 23 32 8 Try.underlying23 (by kernel_rfl) (by decide) rfl _ _ rfl .i64 .i64 A.length (by omega) _ _ _ rfl rfl (by omega) (by omega) ?_; intro w1 hown hbel hsz) | (go_at_call 45; refine C1.out.mono ?_; rintro e w' ⟨rfl, rfl⟩))
    go_loopw [32] (fun ix wr => ∃ i zs, i ≤ A.length ∧ ix = .int .i64 (i : Nat) ∧ ShrRel w wr w.heap.size A.length A s i zs) (fun ix _ => A.length - (intOf ix).toNat)
    case atStart => exact ⟨0, List.replicate A.length 0, by omega, rfl, hown, hbel, by simp, wf_replicate0 (by decide) _, by simp [nv]⟩
    case round =>
      obtain ⟨i, zs, hi, rfl, ho, hb, hl2, hw, hzv⟩ := hrel
      have HV := Lib.hid hzv; clear hzv
      have HL := Lib.hid hl2; clear hl2
      by_cases hlt : i < A.length
      · obtain ⟨x, ex⟩ : ∃ x, x = A.getD i 0 := ⟨_, rfl⟩
        obtain ⟨y, ey⟩ : ∃ y, y = A.getD (i + 1) 0 := ⟨_, rfl⟩
        have hcx := (hcA.below hb (Nat.le_refl _)).cell i hlt
        have hco := ho.cellAt i (by rw [HL.out]; omega)
        have hfo := ho.frozenAt i
        rw [← ex] at hcx
        have hxl : x < W64 := by rw [ex]; exact wf_getD wA (by decide) i
        have EX := Lib.hid ex; clear ex
        have hbw : b < w.heap.size := by have := hcA.lt (by intro h; rw [h] at hlt; simp at hlt); exact this
        by_cases h0 : 0 < s
        · by_cases hlt2 : i + 1 < A.length
          · have hcy := (hcA.below hb (Nat.le_refl _)).cell (i + 1) hlt2
            rw [← ey] at hcy
            have EY := Lib.hid ey; clear ey
            obtain ⟨h, eh⟩ : ∃ h, h = x / 2 ^ s := ⟨_, rfl⟩
            have hdv : (x : Int) / 2 ^ s = (h : Int) := by rw [eh]; simp
            have hhl : h < 2 ^ (64 - s) := by rw [eh]; exact Nat.div_lt_of_lt_mul (by rw [← Nat.pow_add, show s + (64 - s) = 64 from by omega]; exact hxl)
            obtain ⟨z, ez⟩ : ∃ z, z = h + y * 2 ^ (64 - s) % W64 := ⟨_, rfl⟩
            have hor := or_add h y (64 - s) (by omega) hhl
            rw [← ez] at hor
            have hzv2 : z = x / 2 ^ s + 2 ^ (64 - s) * (y % 2 ^ s) := by
              rw [ez, eh, show W64 = 2 ^ s * 2 ^ (64 - s) from by rw [← Nat.pow_add, show s + (64 - s) = 64 from by omega]; rfl, Nat.mul_mod_mul_right, Nat.mul_comm (y % 2 ^ s)]
            have AR := ShrRel.arith hs (by rw [HL.out]; omega) hw HV.out EX.out EY.out hxl hzv2
            have HAR := Lib.hid AR
            have EH := Lib.hid eh
            have HHL := Lib.hid hhl
            clear AR eh hhl ez hzv2
            have i0 : (0 : Int) ≤ (i : Int) := Int.natCast_nonneg _
            have i1 : (i : Int) < (A.length : Int) := by omega
            have i2 : (i : Int) + 1 < (A.length : Int) := by omega
            go_upto_region 14 with (fail)
            have ho1 := (ho.store i h).1
            have hb1 : Below w.heap.size w (wr.setCell ⟨w.heap.size, i, none⟩ (.int .u64 (h : Int))) := hb.setCell (Nat.le_refl _) _
            have hco1 := ho1.cellAt i (by simp [HL.out]; omega)
            have hfo1 := ho1.frozenAt i
            rw [getD_set_eq _ _ _ (by rw [HL.out]; omega)] at hco1
            have hcy1 : (wr.setCell ⟨w.heap.size, i, none⟩ (.int .u64 (h : Int))).cell? ⟨b, off + wd + (i + 1), none⟩ = some (.int .u64 y) := (World.cell?_setCell_other _ _ _ _ (by intro e; simp at e <;> omega)).trans hcy
            clear ho hb hco hfo hcx hcy
            generalize wr.setCell ⟨w.heap.size, i, none⟩ (.int .u64 (h : Int)) = w1 at *
            go_region
            have hs2 := ho1.store i z
            go_wp2
            go_roundw
            case rel =>
              refine ⟨i + 1, zs.set i z, by omega, by go_num, ?_, ?_, by simp [HL.out], HAR.out.2.1, HAR.out.2.2⟩
              · have e : (zs.set i h).set i z = zs.set i z := by simp
                rw [e] at hs2
                exact hs2.1.drawn ⟨1, rfl⟩
              · exact (hb1.setCell (Nat.le_refl _) _).trans (Drawn.below ⟨1, rfl⟩ _)
            case measure => simp [intOf]; omega
          · have hy0 : y = 0 := by rw [ey]; unfold List.getD; rw [List.getElem?_eq_none (by omega)]; rfl
            have AR := ShrRel.arith (z := x / 2 ^ s) hs (by rw [HL.out]; omega) hw HV.out EX.out ey hxl (by rw [hy0]; simp)
            have HAR := Lib.hid AR
            clear AR ey hy0
            have hnl : ¬ ((i : Int) + 1 < (A.length : Int)) := by omega
            go_wp2
            go_roundw
            case rel => exact ⟨i + 1, zs.set i (x / 2 ^ s), by omega, by go_num, by have R := (ho.store i (x / 2 ^ s)).1; simpa using R, hb.setCell (Nat.le_refl _) _, by simp [HL.out], HAR.out.2.1, HAR.out.2.2⟩
            case measure => simp [intOf]; omega
        · obtain rfl : s = 0 := by omega
          have AR := ShrRel.arith (z := x) hs (by rw [HL.out]; omega) hw HV.out EX.out ey hxl (by simp [Nat.mod_one])
          have HAR := Lib.hid AR
          clear AR ey
          go_wp2
          go_roundw
          case rel => exact ⟨i + 1, zs.set i x, by omega, by go_num, (ho.store i x).1, hb.setCell (Nat.le_refl _) _, by simp [HL.out], HAR.out.2.1, HAR.out.2.2⟩
          case measure => simp [intOf]; omega
      · obtain rfl : i = A.length := by omega
        go_wp2_with (go_at_call 46; refine (nat_normal_own _ _ _ _ _ _ ho HL.out (Nat.le_refl _) (by omega)).mono ?_; rintro e w' ⟨r, rfl, hr, rfl⟩)
        go_ret2
        exact ⟨_, tr zs, rfl, hr, nrm_tr hw, by rw [nv_tr]; exact shr_end HV.out HL.out, by have h1 := tr_len zs; have h2 := HL.out; omega, hb⟩

end Go.Proofs.Ytnnidjhhcnmnnaa
