/- The references of layer 1: To, Same; and a statement's is. -/
import Derived.Test.YtnnidjhhcnmnnaaRef3
import Derived.Test.YtnnidjhhcnmnnaaLaw1
namespace Go.Proofs.Ytnnidjhhcnmnnaa
open Go.RowKit

theorem nv_chunk (d : List Nat) (m j : Nat) : nv D16 ((d.drop m).take (j + 1)) = d.getD m 0 + D16 * nv D16 ((d.drop (m + 1)).take j) := by
  by_cases h : m < d.length
  · rw [List.drop_eq_getElem_cons h, List.take_succ_cons, getD_lt d m h]; rfl
  · have h1 : d.getD m 0 = 0 := by unfold List.getD; rw [List.getElem?_eq_none (by omega)]; rfl
    rw [List.drop_eq_nil_of_le (by omega), List.drop_eq_nil_of_le (by omega), h1]; simp [nv]

theorem nv_chunk_lt (d : List Nat) (m j : Nat) (hd : wf D16 d) : nv D16 ((d.drop m).take j) < D16 ^ j := by
  have h := nv_lt ((d.drop m).take j) (wf_take (wf_drop hd m) j)
  exact Nat.lt_of_lt_of_le h (Nat.pow_le_pow_right (by decide) (by simp; omega))

theorem nv_take_add (d : List Nat) (i j : Nat) (hi : i ≤ d.length) : nv D16 (d.take (i + j)) = nv D16 (d.take i) + D16 ^ i * nv D16 ((d.drop i).take j) := by
  rw [List.take_add, nv_append]; simp [Nat.min_eq_left hi]

theorem wrap_mul16 (x : Nat) (h : x * 65536 < W64) : IntKind.u64.wrap ((x : Int) * 65536) = ((x * 65536 : Nat) : Int) := by
  rw [show ((x : Int) * 65536) = ((x * 65536 : Nat) : Int) from by simp]; exact wrap_nat _ h
theorem wrap_add2 (x y : Nat) (h : x + y < W64) : IntKind.u64.wrap ((x : Int) + (y : Int)) = ((x + y : Nat) : Int) := by
  rw [show ((x : Int) + (y : Int)) = ((x + y : Nat) : Int) from by simp]; exact wrap_nat _ h

/-- Where the outer loop of To stands. -/
def ToRel (w wr : World) (d : List Nat) (m : Nat) (v : Value) (zs : List Nat) : Prop :=
  Own .u64 32 wr w.heap.size v zs ∧ Below w.heap.size w wr ∧ zs.length = m ∧ wf W64 zs ∧ nv W64 zs = nv D16 (d.take (4 * m))

/-- A list of words is returned: normal, of the value N. -/
def RetW (w : World) (N : Nat) (e : Ending) (w' : World) : Prop :=
  ∃ r zs, e = .returned r ∧ Own .u64 32 w' w.heap.size r zs ∧ Nrm W64 zs ∧ nv W64 zs = N ∧ Below w.heap.size w w'

set_option maxHeartbeats 2000000 in
theorem ref_To (v : Value) (d : List Nat) (w : World) (hv : Sl .i64 w v d) (hm : d.length ≤ 100000000) (hd : wf D16 d) :
    Calls Try.prog 47 #[v] w (RetW w (nv D16 d)) := by
  obtain ⟨ao, b, off, cap, rfl, hl, hcs⟩ := hv
  go_enter Try.func47, Try.ntmps47
  go_wp2
  go_loopw [3, 4] (fun ov iv wr => ∃ (m : Nat) (zs : List Nat), 4 * m ≤ d.length + 3 ∧ iv = .int .i64 (4 * (m : Int)) ∧ ToRel w wr d m ov zs) (fun _ iv _ => d.length + 4 - (intOf iv).toNat)
  case atStart => exact ⟨0, [], by omega, rfl, Own.nil _ _ _ _, Below.refl _ _, rfl, wf_nil _, by simp [nv]⟩
  case round =>
    obtain ⟨m, zs, hm2, rfl, ho, hb, hzl, hwz, hval⟩ := hrel
    have HV := Lib.hid hval; clear hval
    have HL := Lib.hid hzl; clear hzl
    obtain ⟨wo, rfl⟩ : ∃ wo : World, wo = wr := ⟨_, rfl⟩
    by_cases hlt : 4 * m < d.length
    · obtain rfl := hcs.ao (by intro h0; subst h0; simp at hlt)
      go_wp2
      go_loop [5, 6] (fun xv kv => ∃ (j x : Nat), j ≤ 4 ∧ kv = .int .i64 (3 - (j : Int)) ∧ xv = .int .u64 (x : Nat) ∧ x = nv D16 ((d.drop (4 * m + 4 - j)).take j)) (fun _ kv => (intOf kv + 1).toNat)
      case atStart => exact ⟨0, 0, by omega, rfl, rfl, by simp [nv]⟩
      case round =>
        obtain ⟨j, x, hj, rfl, rfl, hx⟩ := hrel
        have HX := Lib.hid hx; clear hx
        by_cases hj4 : j < 4
        · have hs := nv_chunk d (4 * m + 3 - j) j
          rw [show 4 * m + 3 - j + 1 = 4 * m + 4 - j from by omega, ← HX.out] at hs
          have hlt2 := nv_chunk_lt d (4 * m + 3 - j) (j + 1) hd
          rw [hs] at hlt2
          have h4 : D16 ^ (j + 1) ≤ W64 := by rw [← D16_4]; exact Nat.pow_le_pow_right (by decide) (by omega)
          obtain ⟨z, ez⟩ : ∃ z, z = d.getD (4 * m + 3 - j) 0 := ⟨_, rfl⟩
          rw [← ez] at hs hlt2
          have h5 : x * 65536 + z < W64 := by unfold D16 at hlt2 h4; omega
          have hz16 : z < 65536 := by have h := wf_getD hd (show 0 < D16 by decide) (4 * m + 3 - j); rw [← ez] at h; unfold D16 at h; omega
          obtain ⟨y, ey⟩ : ∃ y, y = x * 65536 + z := ⟨_, rfl⟩
          have hw1 := wrap_mul16 x (Nat.lt_of_le_of_lt (Nat.le_add_right _ _) h5)
          rw [show ((x * 65536 : Nat) : Int) = (x : Int) * 65536 from by simp] at hw1
          have hw2 : IntKind.u64.wrap ((x : Int) * 65536 + (z : Int)) = (y : Int) := by
            rw [ey, ← wrap_nat _ h5]; congr 1
          have hyv : y = nv D16 ((d.drop (4 * m + 4 - (j + 1))).take (j + 1)) := by
            rw [show 4 * m + 4 - (j + 1) = 4 * m + 3 - j from by omega, hs, ey]; unfold D16; omega
          have HY := Lib.hid hyv
          have EY := Lib.hid ey
          have EZ := Lib.hid ez
          clear hyv hs hlt2 h4 h5 ey ez
          by_cases hin : 4 * m + (3 - j) < d.length
          · have hc := (hcs.below hb (Nat.le_refl _)).cell (4 * m + (3 - j)) hin
            have hgz : d.getD (4 * m + (3 - j)) 0 = z := by rw [EZ.out]; congr 1; omega
            rw [hgz] at hc
            clear hgz
            go_wp2
            go_round
            case rel => exact ⟨j + 1, y, by omega, by go_num, rfl, HY.out⟩
            case measure => simp [intOf]; omega
          · have hz0 : z = 0 := by rw [EZ.out]; unfold List.getD; rw [List.getElem?_eq_none (by omega)]; rfl
            go_wp2
            go_round
            case rel => exact ⟨j + 1, y, by omega, by go_num, by rw [EY.out, hz0]; simp, HY.out⟩
            case measure => simp [intOf]; omega
        · obtain rfl : j = 4 := by omega
          rw [show 4 * m + 4 - 4 = 4 * m from by omega] at HX
          have hxl : x < W64 := by rw [HX.out, ← D16_4]; exact nv_chunk_lt d (4 * m) 4 hd
          have hnv : nv W64 (zs ++ [x]) = nv D16 (d.take (4 * (m + 1))) := by
            rw [nv_snoc, HL.out, HV.out, Nat.mul_add, Nat.mul_one, nv_take_add d (4 * m) 4 (by omega), ← HX.out, D16_4i]
          have HN := Lib.hid hnv; clear hnv
          go_wp2_with (at_builtin; refine wp_app1 .u64 22 32 8 Try.underlying22 (by kernel_rfl) (by decide) rfl _ _ rfl wo w.heap.size _ zs x _ (by rfl) ho (by rw [HL.out]; omega) hb.size rfl rfl ?_; intro v' w1 hown' hbel' hgr' _)
          go_roundw
          case rel => exact ⟨m + 1, zs ++ [x], by omega, by go_num, hown', hb.trans hbel', by simp [HL.out], wf_append hwz (wf_cons hxl (wf_nil _)), HN.out⟩
          case measure => simp [intOf]; omega
    · rw [List.take_of_length_le (by omega)] at HV
      go_wp2
      obtain ⟨ao2, b2, off2, cap2, rfl, hl2, hcs2⟩ := ho.sl
      rw [HL.out] at hl2
      go_loop [3] (fun ov => ∃ k : Nat, k ≤ m ∧ ov = .slice ao2 k cap2 ∧ tr zs = tr (zs.take k)) (fun ov => match ov with | .slice _ k _ => k | _ => 0)
      case atStart => exact ⟨m, Nat.le_refl _, by rw [HL.out], by rw [← HL.out, List.take_length]⟩
      case round =>
        obtain ⟨k, hk, rfl, ht⟩ := hrel
        have HT := Lib.hid ht; clear ht
        by_cases h0 : 0 < k
        · obtain rfl := hcs2.ao (by intro h; subst h; have := HL.out; simp at this; omega)
          have hcell := hcs2.cell (k-1) (by rw [HL.out]; omega)
          have hts : zs.take k = zs.take (k - 1) ++ [zs.getD (k - 1) 0] := by
            have := take_snoc zs (k - 1) (by rw [HL.out]; omega)
            rwa [Nat.sub_add_cancel h0] at this
          have HS := Lib.hid hts; clear hts
          obtain ⟨z, ez⟩ : ∃ z, z = zs.getD (k - 1) 0 := ⟨_, rfl⟩
          rw [← ez] at hcell
          have EZ := Lib.hid ez; clear ez
          by_cases hz : z = 0
          · subst hz
            go_wp2
            go_round
            case rel => exact ⟨k - 1, by omega, rfl, by rw [HT.out, HS.out, ← EZ.out, tr_snoc0]⟩
            case measure => simp; omega
          · have hz' : ((z : Int) == 0) = false := by simpa using hz
            have HZ := Lib.hid hz; clear hz
            go_wp2
            go_ret
            have e : tr zs = zs.take k := by rw [HT.out, HS.out, ← EZ.out, tr_snoc _ _ HZ.out]
            refine ⟨_, tr zs, rfl, ?_, nrm_tr hwz, by rw [nv_tr, HV.out], hb⟩
            rw [e]
            exact Own.take' ho k (by rw [HL.out]; omega)
        · obtain rfl : k = 0 := by omega
          go_wp2
          go_ret
          refine ⟨_, tr zs, rfl, ?_, nrm_tr hwz, by rw [nv_tr, HV.out], hb⟩
          have e : tr zs = zs.take 0 := by rw [HT.out]; simp [tr]
          rw [e]
          exact Own.take' ho 0 (by omega)

set_option maxHeartbeats 800000 in
theorem ref_Same_yes (v u : Value) (xs : List Nat) (w : World) (hv : Sl .u64 w v xs) (hu : Sl .u64 w u xs) (hm : xs.length ≤ 1000000000) :
    Calls Try.prog 34 #[v, u] w (RetQ w (.bool true)) := by
  obtain ⟨ao, b, off, cap, rfl, hl, hcs⟩ := hv
  obtain ⟨bo, c, pff, dap, rfl, kl, kcs⟩ := hu
  go_enter Try.func34, Try.ntmps34
  go_wp2
  go_loopw [5] (fun i wr => ∃ k : Nat, k ≤ xs.length ∧ i = .int .i64 (k : Nat) ∧ Drawn w wr) (fun i _ => xs.length - (intOf i).toNat)
  case atStart => exact ⟨0, by omega, rfl, Drawn.refl _⟩
  case round =>
    obtain ⟨k, hk, rfl, hq⟩ := hrel
    by_cases hlt : k < xs.length
    · obtain rfl := hcs.ao (by intro h; subst h; simp at hlt)
      obtain rfl := kcs.ao (by intro h; subst h; simp at hlt)
      have hcx := (hcs.drawn hq).cell k hlt
      have hcy := (kcs.drawn hq).cell k hlt
      obtain ⟨x, ex⟩ : ∃ x, x = xs.getD k 0 := ⟨_, rfl⟩
      rw [← ex] at hcx hcy
      clear ex
      have k0 : (0 : Int) ≤ (k : Int) := Int.natCast_nonneg _
      have k1 : (k : Int) < (xs.length : Int) := by omega
      go_wp2
      go_quiet (fail)
      go_wp2
      go_roundw
      case rel => exact ⟨k + 1, by omega, by go_num, hq.add _⟩
      case measure => simp [intOf]; omega
    · go_wp2
      go_ret
      exact ⟨rfl, hq⟩

set_option maxHeartbeats 800000 in
theorem law1_is (v u : Value) (xs d : List Nat) (w : World) (hv : Sl .u64 w v xs) (hu : Sl .i64 w u d) (hm : xs.length ≤ 1000000000) (hn : d.length ≤ 100000000) (hd : wf D16 d) (hx : Nrm W64 xs) (he : nv W64 xs = nv D16 d) :
    Calls Try.prog 19 #[v, u] w (LawOk w) := by
  have HE := Lib.hid he; clear he
  go_enter Try.func19, Try.ntmps19
  go_wp2_with fail
  refine (ref_To u d _ hu hn hd).mono ?_; rintro e w1 ⟨r, z, rfl, hr, nr, vr, br⟩
  have hz : z = xs := nrm_inj (by decide) nr hx (by rw [vr, HE.out])
  subst hz
  clear vr
  go_wp2_with fail
  refine (ref_Same_yes v r z _ (hv.next br) hr.sl hm).mono ?_; rintro e w2 ⟨rfl, q2⟩
  go_wp2
  go_ret
  exact ⟨rfl, br.trans (q2.below _)⟩

end Go.Proofs.Ytnnidjhhcnmnnaa
