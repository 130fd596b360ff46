/- The references of layer 1: Trim, at, Carried, From. -/
import Derived.Test.YtnnidjhhcnmnnaaNat4
namespace Go.Proofs.Ytnnidjhhcnmnnaa
open Go.RowKit

/-- 2^16, kept behind a name. -/
def D16 : Nat := 65536

set_option maxHeartbeats 400000 in
theorem ref_Trim (ao : Option Addr) (b off cap : Nat) (xs : List Nat) (w : World) (hcs : Cs .i64 w ao b off xs) (hl : xs.length ≤ cap) (hm : xs.length ≤ 1000000000) :
    Calls Try.prog 44 #[.slice ao xs.length cap] w fun e w' => e = .returned (.slice ao (tr xs).length cap) ∧ w = w' := by
  obtain ⟨hao, hc⟩ := hcs
  go_enter Try.func44, Try.ntmps44
  go_wp2
  go_loop [3] (fun i => ∃ k : Nat, k ≤ xs.length ∧ i = .int .i64 k ∧ tr xs = tr (xs.take k)) (fun i => (intOf i).toNat)
  case atStart => exact ⟨xs.length, Nat.le_refl _, rfl, by rw [List.take_length]⟩
  case round =>
    obtain ⟨k, hk, rfl, ht⟩ := hrel
    have HT := Lib.hid ht; clear ht
    by_cases h0 : 0 < k
    · obtain rfl := hao (by intro h; subst h; simp at hk; omega)
      have hcell := hc (k-1) (by omega)
      have hts : xs.take k = xs.take (k - 1) ++ [xs.getD (k - 1) 0] := by
        have := take_snoc xs (k - 1) (by omega)
        rwa [Nat.sub_add_cancel h0] at this
      have HS := Lib.hid hts; clear hts
      by_cases hz : xs.getD (k - 1) 0 = 0
      · have HZ := Lib.hid hz
        have hz' : (((xs[k - 1]?.getD 0 : Nat) : Int) == 0) = true := by simpa using hz
        clear hz
        go_wp2
        go_round
        case rel => exact ⟨k - 1, by omega, by go_num, by rw [HT.out, HS.out, HZ.out, tr_snoc0]⟩
        case measure => simp [intOf]; omega
      · have HZ := Lib.hid hz
        have hz' : (((xs[k - 1]?.getD 0 : Nat) : Int) == 0) = false := by simpa using hz
        clear hz
        go_wp2
        go_ret
        refine ⟨?_, rfl⟩
        have e : (tr xs).length = k := by rw [HT.out, HS.out, tr_snoc _ _ HZ.out]; simp; omega
        rw [e]; rfl
    · have e : (tr xs).length = k := by rw [HT.out]; obtain rfl : k = 0 := by omega
                                        simp [tr]
      have E := Lib.hid e; clear e
      go_wp2
      go_ret
      exact ⟨by rw [E.out]; rfl, rfl⟩

theorem ref_Trim_own (v : Value) (xs : List Nat) (w : World) (base : Nat) (ho : Own .i64 3 w base v xs) (hm : xs.length ≤ 1000000000) :
    Calls Try.prog 44 #[v] w fun e w' => ∃ r, e = .returned r ∧ Own .i64 3 w base r (tr xs) ∧ w = w' := by
  obtain ⟨ao, b, off, cap, rfl, hl, hcs⟩ := ho.sl
  refine (ref_Trim ao b off cap xs w hcs hl hm).mono fun e w' ⟨he, hw⟩ => ⟨_, he, ?_, hw⟩
  have := ho.take' (tr xs).length (tr_len xs)
  rwa [← tr_take] at this

set_option maxHeartbeats 400000 in
theorem ref_at (v : Value) (xs : List Nat) (i : Nat) (w : World) (hv : Sl .i64 w v xs) :
    Calls Try.prog 53 #[v, .int .i64 i] w fun e w' => e = .returned (.int .i64 (xs.getD i 0 : Nat)) ∧ w = w' := by
  obtain ⟨ao, b, off, cap, rfl, hl, hcs⟩ := hv
  obtain ⟨z, ez⟩ : ∃ z, z = xs.getD i 0 := ⟨_, rfl⟩
  rw [← ez]
  by_cases h : i < xs.length
  · obtain rfl := hcs.ao (by intro h0; subst h0; simp at h)
    have hc := hcs.cell i h
    rw [← ez] at hc
    clear ez
    go_enter Try.func53, Try.ntmps53
    go_wp2
    go_ret
    exact ⟨rfl, rfl⟩
  · have hz : z = 0 := by rw [ez]; unfold List.getD; rw [List.getElem?_eq_none (by omega)]; rfl
    subst hz
    clear ez
    go_enter Try.func53, Try.ntmps53
    go_wp2
    go_ret
    exact ⟨rfl, rfl⟩

/-- New digits are returned: normal, of the value N, of at most L places. -/
def RetD (w : World) (L N : Nat) (e : Ending) (w' : World) : Prop :=
  ∃ r zs, e = .returned r ∧ Own .i64 3 w' w.heap.size r zs ∧ Nrm D16 zs ∧ nv D16 zs = N ∧ zs.length ≤ L ∧ Below w.heap.size w w'

/-- Where the loop of Carried stands. -/
def CarRel (w wr : World) (xs : List Nat) (i c : Nat) (v : Value) (zs : List Nat) : Prop :=
  Own .i64 3 wr w.heap.size v zs ∧ Below w.heap.size w wr ∧ zs.length = i ∧ i ≤ xs.length + 3 ∧ wf D16 zs ∧ c * D16 ^ (i - xs.length) ≤ 1099511627776 ∧
    nv D16 zs + D16 ^ i * c = nv D16 (xs.take i)

theorem CarRel.arith {xs zs : List Nat} {i c d : Nat} (hl : zs.length = i) (hi : i ≤ xs.length + 3) (hwz : wf D16 zs) (hc : c * D16 ^ (i - xs.length) ≤ 1099511627776)
    (hv : nv D16 zs + D16 ^ i * c = nv D16 (xs.take i)) (hx : wf 1099511627776 xs) (hd : d = xs.getD i 0) (hgo : i < xs.length ∨ 0 < c) :
    (zs ++ [(c + d) % 65536]).length = i + 1 ∧ i + 1 ≤ xs.length + 3 ∧ wf D16 (zs ++ [(c + d) % 65536]) ∧ (c + d) / 65536 * D16 ^ (i + 1 - xs.length) ≤ 1099511627776 ∧
      nv D16 (zs ++ [(c + d) % 65536]) + D16 ^ (i + 1) * ((c + d) / 65536) = nv D16 (xs.take (i + 1)) := by
  refine ⟨by simp [hl], ?_, wf_append hwz (wf_cons (Nat.mod_lt _ (by decide)) (wf_nil _)), ?_, ?_⟩
  · by_cases h : i < xs.length
    · omega
    · have hc0 : 0 < c := by omega
      by_cases h2 : i = xs.length + 3
      · exfalso
        rw [show i - xs.length = 3 from by omega] at hc
        have : 1 * D16 ^ 3 ≤ c * D16 ^ 3 := Nat.mul_le_mul_right _ hc0
        have h3 : D16 ^ 3 = 281474976710656 := by decide
        omega
      · omega
  · by_cases h : i < xs.length
    · have h1 : i - xs.length = 0 := by omega
      have h2 : i + 1 - xs.length = 0 := by omega
      rw [h1] at hc; rw [h2]
      simp only [Nat.pow_zero, Nat.mul_one] at hc ⊢
      have : d < 1099511627776 := by rw [hd]; exact wf_getD hx (by decide) i
      omega
    · have h0 : d = 0 := by rw [hd]; unfold List.getD; rw [List.getElem?_eq_none (by omega)]; rfl
      rw [h0, Nat.add_zero, show i + 1 - xs.length = (i - xs.length) + 1 from by omega, Nat.pow_succ]
      have h1 : c / 65536 * D16 ≤ c := Nat.div_mul_le_self c 65536
      have h2 : c / 65536 * (D16 ^ (i - xs.length) * D16) = (c / 65536 * D16) * D16 ^ (i - xs.length) := by
        simp [Nat.mul_assoc, Nat.mul_comm, Nat.mul_left_comm]
      rw [h2]
      exact Nat.le_trans (Nat.mul_le_mul_right _ h1) hc
  · rw [nv_snoc, hl, nv_take_succ', ← hd, ← hv, Nat.pow_succ]
    have h1 : D16 ^ i * ((c + d) % 65536 + D16 * ((c + d) / 65536)) = D16 ^ i * (c + d) := by
      congr 1; unfold D16; exact Nat.mod_add_div _ _
    simp only [Nat.mul_add, Nat.mul_assoc] at h1 ⊢
    omega

set_option maxHeartbeats 1000000 in
theorem ref_Carried (v : Value) (xs : List Nat) (w : World) (hv : Sl .i64 w v xs) (hm : xs.length ≤ 100000000) (hx : wf 1099511627776 xs) :
    Calls Try.prog 50 #[v] w (RetD w (xs.length + 3) (nv D16 xs)) := by
  obtain ⟨ao, b, off, cap, rfl, hl, hcs⟩ := hv
  go_enter Try.func50, Try.ntmps50
  go_wp2
  go_loopw [3, 4, 5] (fun ov cv iv wr => ∃ i c zs, iv = .int .i64 (i : Nat) ∧ cv = .int .i64 (c : Nat) ∧ CarRel w wr xs i c ov zs) (fun _ _ iv _ => xs.length + 4 - (intOf iv).toNat)
  case atStart => exact ⟨0, 0, [], rfl, rfl, Own.nil _ _ _ _, Below.refl _ _, rfl, by omega, wf_nil _, by simp, by simp [nv]⟩
  case round =>
    obtain ⟨i, c, zs, rfl, rfl, ho, hb, hzl, hi, hwz, hc, hval⟩ := hrel
    have hcb : c ≤ 1099511627776 := by
      have : c * 1 ≤ c * D16 ^ (i - xs.length) := Nat.mul_le_mul_left _ (Nat.pow_pos (by decide))
      omega
    obtain ⟨d, ed⟩ : ∃ d, d = xs.getD i 0 := ⟨_, rfl⟩
    have hdb : d < 1099511627776 := by rw [ed]; exact wf_getD hx (by decide) i
    have hat := ref_at (.slice ao xs.length cap) xs i wr ⟨ao, b, off, cap, rfl, hl, hcs.below hb (Nat.le_refl _)⟩
    rw [← ed] at hat
    have HAT := Lib.hid hat; clear hat
    have HV := Lib.hid hval; clear hval
    have HL := Lib.hid hzl; clear hzl
    have ED := Lib.hid ed; clear ed
    have HC := Lib.hid hc; clear hc
    by_cases hgo : i < xs.length ∨ 0 < c
    · have AR := CarRel.arith HL.out hi hwz HC.out HV.out hx ED.out hgo
      have HAR := Lib.hid AR; clear AR
      by_cases hlt : i < xs.length
      · go_wp2_with (first | (at_builtin; refine wp_app1 .i64 25 3 8 Try.underlying25 (by kernel_rfl) (by decide) rfl _ _ rfl wr w.heap.size _ zs ((c + d) % 65536) _ (by omega) ho (by rw [HL.out]; omega) hb.size rfl rfl ?_; intro v' w1 hown' hbel' hgr' _) | (go_at_call 53; refine HAT.out.mono ?_; rintro e w' ⟨rfl, rfl⟩))
        go_roundw
        case rel => exact ⟨i + 1, (c + d) / 65536, zs ++ [(c + d) % 65536], by go_num, by go_num, hown', hb.trans hbel', HAR.out.1, HAR.out.2.1, HAR.out.2.2.1, HAR.out.2.2.2.1, HAR.out.2.2.2.2⟩
        case measure => simp [intOf]; omega
      · have hc0 : 0 < c := by omega
        have hd0 : d = 0 := by rw [ED.out]; unfold List.getD; rw [List.getElem?_eq_none (by omega)]; rfl
        clear hgo
        · go_wp2_with (first | (at_builtin; refine wp_app1 .i64 25 3 8 Try.underlying25 (by kernel_rfl) (by decide) rfl _ _ rfl wr w.heap.size _ zs ((c + d) % 65536) _ (by omega) ho (by rw [HL.out]; omega) hb.size rfl rfl ?_; intro v' w1 hown' hbel' hgr' _) | (go_at_call 53; refine HAT.out.mono ?_; rintro e w' ⟨rfl, rfl⟩))
          go_roundw
          case rel => exact ⟨i + 1, (c + d) / 65536, zs ++ [(c + d) % 65536], by go_num, by go_num, hown', hb.trans hbel', HAR.out.1, HAR.out.2.1, HAR.out.2.2.1, HAR.out.2.2.2.1, HAR.out.2.2.2.2⟩
          case measure => simp [intOf]; omega
    · have h1 : ¬ i < xs.length := fun h => hgo (.inl h)
      obtain rfl : c = 0 := by omega
      clear hgo
      go_wp2_with (go_at_call 44; refine (ref_Trim_own _ _ _ _ ho (by rw [HL.out]; omega)).mono ?_; rintro e w' ⟨r, rfl, hr, rfl⟩)
      go_ret
      refine ⟨_, tr zs, rfl, hr, nrm_tr hwz, ?_, by have := tr_len zs; rw [HL.out] at this; omega, hb⟩
      have := HV.out
      rw [List.take_of_length_le (by omega)] at this
      rw [nv_tr]; simpa using this

theorem D16_4 : D16 ^ 4 = W64 := by decide
theorem D16_4i (i : Nat) : D16 ^ (4 * i) = W64 ^ i := by rw [Nat.pow_mul, D16_4]

theorem wrap_div16 (y : Nat) (h : y < W64) : IntKind.u64.wrap ((y : Int) / 65536) = ((y / 65536 : Nat) : Int) := by
  rw [show ((y : Int) / 65536) = ((y / 65536 : Nat) : Int) from by omega]
  exact wrap_nat _ (by omega)
theorem D16_le4 (j : Nat) : D16 ^ (4 - j) ≤ W64 := by rw [← D16_4]; exact Nat.pow_le_pow_right (by decide) (by omega)

/-- Where the loops of From stand. -/
def FromRel (w wr : World) (xs : List Nat) (i : Nat) (v : Value) (zs : List Nat) : Prop :=
  Own .i64 3 wr w.heap.size v zs ∧ Below w.heap.size w wr ∧ zs.length = 4 * i ∧ wf D16 zs ∧ nv D16 zs = nv W64 (xs.take i)
def FromIn (w wr : World) (xs : List Nat) (i j x : Nat) (v : Value) (zs : List Nat) : Prop :=
  Own .i64 3 wr w.heap.size v zs ∧ Below w.heap.size w wr ∧ zs.length = 4 * i + j ∧ wf D16 zs ∧ nv D16 zs + D16 ^ (4 * i + j) * x = nv W64 (xs.take (i + 1)) ∧ x < D16 ^ (4 - j)

theorem FromIn.arith {xs zs : List Nat} {i j x : Nat} (hl : zs.length = 4 * i + j) (hw : wf D16 zs) (hv : nv D16 zs + D16 ^ (4 * i + j) * x = nv W64 (xs.take (i + 1))) (hx : x < D16 ^ (4 - j)) (hj : j < 4) :
    (zs ++ [x % 65536]).length = 4 * i + (j + 1) ∧ wf D16 (zs ++ [x % 65536]) ∧ nv D16 (zs ++ [x % 65536]) + D16 ^ (4 * i + (j + 1)) * (x / 65536) = nv W64 (xs.take (i + 1)) ∧ x / 65536 < D16 ^ (4 - (j + 1)) := by
  refine ⟨by simp [hl]; omega, wf_append hw (wf_cons (Nat.mod_lt _ (by decide)) (wf_nil _)), ?_, ?_⟩
  · rw [nv_snoc, hl, ← hv, show 4 * i + (j + 1) = (4 * i + j) + 1 from by omega, Nat.pow_succ]
    have h1 : D16 ^ (4 * i + j) * (x % 65536 + D16 * (x / 65536)) = D16 ^ (4 * i + j) * x := by
      congr 1; unfold D16; exact Nat.mod_add_div _ _
    simp only [Nat.mul_add, Nat.mul_assoc] at h1 ⊢
    omega
  · rw [show 4 - j = (4 - (j + 1)) + 1 from by omega, Nat.pow_succ] at hx
    exact (Nat.div_lt_iff_lt_mul (by decide)).2 hx

set_option maxHeartbeats 1000000 in
theorem ref_From (v : Value) (xs : List Nat) (w : World) (hv : Sl .u64 w v xs) (hm : xs.length ≤ 100000000) (hx : wf W64 xs) :
    Calls Try.prog 16 #[v] w (RetD w (4 * xs.length) (nv W64 xs)) := by
  obtain ⟨ao, b, off, cap, rfl, hl, hcs⟩ := hv
  go_enter Try.func16, Try.ntmps16
  go_wp2
  go_loopw [3, 4] (fun ov iv wr => ∃ i zs, i ≤ xs.length ∧ iv = .int .i64 (i : Nat) ∧ FromRel w wr xs i ov zs) (fun _ iv _ => xs.length - (intOf iv).toNat)
  case atStart => exact ⟨0, [], by omega, rfl, Own.nil _ _ _ _, Below.refl _ _, rfl, wf_nil _, by simp [nv]⟩
  case round =>
    obtain ⟨i, zs, hi, rfl, ho, hb, hzl, hwz, hval⟩ := hrel
    have HV := Lib.hid hval; clear hval
    have HL := Lib.hid hzl; clear hzl
    by_cases hlt : i < xs.length
    · obtain rfl := hcs.ao (by intro h0; subst h0; simp at hlt)
      obtain ⟨x, ex⟩ : ∃ x, x = xs.getD i 0 := ⟨_, rfl⟩
      have hc := (hcs.below hb (Nat.le_refl _)).cell i hlt
      rw [← ex] at hc
      have hxl : x < W64 := by rw [ex]; exact wf_getD hx (by decide) i
      have EX := Lib.hid ex; clear ex
      obtain ⟨wo, rfl⟩ : ∃ wo : World, wo = wr := ⟨_, rfl⟩
      go_wp2
      go_loopw [3, 5, 6] (fun ov xv jv wr => ∃ j x zs, j ≤ 4 ∧ jv = .int .i64 (j : Nat) ∧ xv = .int .u64 (x : Nat) ∧ FromIn w wr xs i j x ov zs) (fun _ _ jv _ => 4 - (intOf jv).toNat)
      case atStart => exact ⟨0, x, zs, by omega, rfl, rfl, ho, hb, by rw [HL.out]; omega, hwz, by rw [Nat.add_zero, D16_4i, HV.out, nv_take_succ', ← EX.out], by rw [Nat.sub_zero, D16_4]; exact hxl⟩
      case round =>
        obtain ⟨j, y, zz, hj, rfl, rfl, ho2, hb2, hl2, hw2, hv2, hy⟩ := hrel
        have HV2 := Lib.hid hv2; clear hv2
        have HL2 := Lib.hid hl2; clear hl2
        have HY := Lib.hid hy; clear hy
        by_cases hj4 : j < 4
        · have AR := FromIn.arith HL2.out hw2 HV2.out HY.out hj4
          have HAR := Lib.hid AR; clear AR
          go_wp2_with (at_builtin; refine wp_app1 .i64 25 3 8 Try.underlying25 (by kernel_rfl) (by decide) rfl _ _ rfl wr w.heap.size _ zz (y % 65536) _ (by omega) ho2 (by rw [HL2.out]; omega) hb2.size rfl rfl ?_; intro v' w1 hown' hbel' hgr' _)
          go_roundw
          case rel => exact ⟨j + 1, y / 65536, zz ++ [y % 65536], by omega, by go_num, by rw [wrap_div16 y (Nat.lt_of_lt_of_le HY.out (D16_le4 j))], hown', hb2.trans hbel', HAR.out.1, HAR.out.2.1, HAR.out.2.2.1, HAR.out.2.2.2⟩
          case measure => simp [intOf]; omega
        · obtain rfl : j = 4 := by omega
          have hy0 : y = 0 := by have := HY.out; simp at this; exact this
          subst hy0
          go_wp2
          go_roundw
          case rel => exact ⟨i + 1, zz, by omega, by go_num, ho2, hb2, by rw [HL2.out]; omega, hw2, by have := HV2.out; simpa using this⟩
          case measure => simp [intOf]; omega
    · obtain rfl : i = xs.length := by omega
      go_wp2_with (go_at_call 44; refine (ref_Trim_own _ _ _ _ ho (by rw [HL.out]; omega)).mono ?_; rintro e w' ⟨r, rfl, hr, rfl⟩)
      go_ret
      refine ⟨_, tr zs, rfl, hr, nrm_tr hwz, ?_, by have := tr_len zs; rw [HL.out] at this; omega, hb⟩
      rw [nv_tr, HV.out, List.take_length]

end Go.Proofs.Ytnnidjhhcnmnnaa
