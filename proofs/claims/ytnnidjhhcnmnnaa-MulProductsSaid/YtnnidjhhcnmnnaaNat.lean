/- The functions of package nat, walked once each. -/
import Derived.Test.YtnnidjhhcnmnnaaProg
import Derived.Test.YtnnidjhhcnmnnaaLib
namespace Go.Proofs.Ytnnidjhhcnmnnaa
open Go.RowKit

set_option maxHeartbeats 400000 in
theorem nat_trim (ao : Option Addr) (b off cap : Nat) (xs : List Nat) (w : World) (hcs : Cs .u64 w ao b off xs) (hl : xs.length ≤ cap) (hm : xs.length ≤ 1000000000) :
    Calls Try.prog 45 #[.slice ao xs.length cap] w fun e w' => e = .returned (.slice ao (tr xs).length cap) ∧ w = w' := by
  obtain ⟨hao, hc⟩ := hcs
  go_enter Try.func45, Try.ntmps45
  go_wp2
  go_loop [3] (fun i => ∃ k : Nat, k ≤ xs.length ∧ i = .int .i64 k ∧ tr xs = tr (xs.take k)) (fun i => (intOf i).toNat)
  case atStart => exact ⟨xs.length, Nat.le_refl _, rfl, by rw [List.take_length]⟩
  case round =>
    obtain ⟨k, hk, rfl, ht⟩ := hrel
    have HT := Lib.hid ht; clear ht
    by_cases h0 : 0 < k
    · obtain rfl := hao (by intro h; subst h; simp at hk; omega)
      have hcell := hc (k-1) (by omega)
      have hts : xs.take k = xs.take (k - 1) ++ [xs.getD (k - 1) 0] := by
        have := take_snoc xs (k - 1) (by omega)
        rwa [Nat.sub_add_cancel h0] at this
      have HS := Lib.hid hts; clear hts
      by_cases hz : xs.getD (k - 1) 0 = 0
      · have HZ := Lib.hid hz
        have hz' : (((xs[k - 1]?.getD 0 : Nat) : Int) == 0) = true := by simpa using hz
        clear hz
        go_wp2
        go_round
        case rel => exact ⟨k - 1, by omega, by go_num, by rw [HT.out, HS.out, HZ.out, tr_snoc0]⟩
        case measure => simp [intOf]; omega
      · have HZ := Lib.hid hz
        have hz' : (((xs[k - 1]?.getD 0 : Nat) : Int) == 0) = false := by simpa using hz
        clear hz
        go_wp2
        go_ret
        refine ⟨?_, rfl⟩
        have e : (tr xs).length = k := by rw [HT.out, HS.out, tr_snoc _ _ HZ.out]; simp; omega
        rw [e]; rfl
    · have e : (tr xs).length = k := by rw [HT.out]; obtain rfl : k = 0 := by omega
                                        simp [tr]
      have E := Lib.hid e; clear e
      go_wp2
      go_ret
      exact ⟨by rw [E.out]; rfl, rfl⟩

def ads (x y c : Nat) : Nat := (x + y + c) % W64
def adc (x y c : Nat) : Nat := (x + y + c) / W64

theorem bits_Add64 (x y c : Nat) (hc : c ≤ 1) (w : World) :
    (callFunc 52 #[.int .u64 x, .int .u64 y, .int .u64 c]).run Try.prog w = .ok (.value (.tuple #[.int .u64 (ads x y c : Nat), .int .u64 (adc x y c : Nat)])) w := by
  rw [run_callFunc_extern Try.func52 (by kernel_rfl) (by kernel_rfl) (by kernel_rfl) (e := add64Entry) (by kernel_rfl), run_add64 x y c (by omega) (by omega) (by omega) (by omega)]
  simp only [Result.andThen, ads, adc, W64]
  congr 5 <;> omega

set_option maxHeartbeats 400000 in
theorem nat_normal (ao : Option Addr) (b off cap : Nat) (xs : List Nat) (w : World) (hcs : Cs .u64 w ao b off xs) (hl : xs.length ≤ cap) (hm : xs.length ≤ 1000000000) :
    Calls Try.prog 46 #[.slice ao xs.length cap] w fun e w' => e = .returned (if tr xs = [] then .slice none 0 0 else .slice ao (tr xs).length cap) ∧ w = w' := by
  by_cases h0 : tr xs = []
  · have h1 : ((((tr xs).length : Nat) : Int) == 0) = true := by simp [h0]
    go_enter Try.func46, Try.ntmps46
    go_wp2_with (go_at_call 45; refine (nat_trim ao b off cap xs _ hcs hl hm).mono ?_; rintro e w' ⟨rfl, rfl⟩)
    go_ret
    exact ⟨rfl, rfl⟩
  · have h1 : ((((tr xs).length : Nat) : Int) == 0) = false := by simpa using h0
    go_enter Try.func46, Try.ntmps46
    go_wp2_with (go_at_call 45; refine (nat_trim ao b off cap xs _ hcs hl hm).mono ?_; rintro e w' ⟨rfl, rfl⟩)
    go_ret
    exact ⟨rfl, rfl⟩

theorem nat_normal_own (g n cap : Nat) (xs : List Nat) (w : World) (base : Nat) (ho : Own .u64 32 w base (.slice (some ⟨g, 0, none⟩) n cap) xs) (hl : xs.length = n) (hn : n ≤ cap) (hm : n ≤ 1000000000) :
    Calls Try.prog 46 #[.slice (some ⟨g, 0, none⟩) n cap] w fun e w' => ∃ r, e = .returned r ∧ Own .u64 32 w base r (tr xs) ∧ w = w' := by
  subst hl
  exact (nat_normal _ g 0 cap xs w ho.cs hn hm).mono fun e w' ⟨he, hw⟩ => ⟨_, he, ho.normal, hw⟩

/-- A new natural is returned: normal, of the value N, of at most L words; nothing that was there has changed. -/
def RetN (w : World) (L N : Nat) (e : Ending) (w' : World) : Prop :=
  ∃ r zs, e = .returned r ∧ Own .u64 32 w' w.heap.size r zs ∧ Nrm W64 zs ∧ nv W64 zs = N ∧ zs.length ≤ L ∧ Below w.heap.size w w'

/-- Behind the exchange: the longer one first. -/
def AddCut (w wc : World) (xs ys : List Nat) (s0 s1 : Value) : Prop :=
  w = wc ∧ ∃ ao b off cap X bo c pff dap Y, s0 = .slice ao (List.length X) cap ∧ s1 = .slice bo (List.length Y) dap ∧ Cs .u64 w ao b off X ∧ Cs .u64 w bo c pff Y ∧ Y.length ≤ X.length ∧ X.length ≤ xs.length + ys.length ∧
    wf W64 X ∧ wf W64 Y ∧ nv W64 X + nv W64 Y = nv W64 xs + nv W64 ys

/-- Where the loop of Add stands: k places are done, c is carried. -/
def AddRel (w wr : World) (B : Nat) (X Y : List Nat) (k c : Nat) (zs : List Nat) : Prop :=
  c ≤ 1 ∧ Own .u64 32 wr B (.slice (some ⟨B, 0, none⟩) (X.length + 1) (X.length + 1)) zs ∧ Below B w wr ∧ zs.length = X.length + 1 ∧ wf W64 zs ∧
    nv W64 (zs.take k) + W64 ^ k * c = nv W64 (X.take k) + nv W64 (Y.take k)

theorem ads_lt (x y c : Nat) : ads x y c < W64 := Nat.mod_lt _ (by decide)
theorem adc_le (x y c : Nat) (hx : x < W64) (hy : y < W64) (hc : c ≤ 1) : adc x y c ≤ 1 := by unfold adc; unfold W64 at *; omega
theorem ads_adc (x y c : Nat) : ads x y c + W64 * adc x y c = x + y + c := by unfold ads adc; have := Nat.mod_add_div (x + y + c) W64; omega

theorem AddRel.step {w wr : World} {B : Nat} {X Y : List Nat} {k c : Nat} {zs : List Nat} (hc : c ≤ 1) (ho : Own .u64 32 wr B (.slice (some ⟨B, 0, none⟩) (X.length + 1) (X.length + 1)) zs) (hb : Below B w wr)
    (hl : zs.length = X.length + 1) (hw : wf W64 zs) (hv : nv W64 (zs.take k) + W64 ^ k * c = nv W64 (X.take k) + nv W64 (Y.take k)) (hk : k < X.length) {x y : Nat} (hx : x = X.getD k 0) (hy : y = Y.getD k 0) (wX : wf W64 X) (wY : wf W64 Y) :
    AddRel w (wr.setCell ⟨B, k, none⟩ (.int .u64 (ads x y c : Nat))) B X Y (k + 1) (adc x y c) (zs.set k (ads x y c)) := by
  have h1 : x < W64 := by rw [hx]; exact wf_getD wX (by decide) k
  have h2 : y < W64 := by rw [hy]; exact wf_getD wY (by decide) k
  refine ⟨adc_le x y c h1 h2 hc, (ho.store k (ads x y c)).1, hb.setCell (Nat.le_refl _) _, by simp [hl], wf_set hw _ _ (ads_lt _ _ _), ?_⟩
  rw [nv_set_succ _ _ _ _ (by omega), nv_take_succ', nv_take_succ', ← hx, ← hy, Nat.pow_succ]
  have h3 := ads_adc x y c
  have h4 : W64 ^ k * (ads x y c + W64 * adc x y c) = W64 ^ k * (x + y + c) := by rw [h3]
  simp only [Nat.mul_add] at h4
  rw [Nat.mul_assoc]
  omega

set_option maxHeartbeats 400000 in
theorem nat_Add (v u : Value) (xs ys : List Nat) (w : World) (hv : Sl .u64 w v xs) (hu : Sl .u64 w u ys) (hm : xs.length ≤ 100000000) (hn : ys.length ≤ 100000000) (hx : wf W64 xs) (hy : wf W64 ys) :
    Calls Try.prog 30 #[v, u] w (RetN w (xs.length + ys.length + 1) (nv W64 xs + nv W64 ys)) := by
  obtain ⟨ao, b, off, cap, rfl, hl, hcs⟩ := hv
  obtain ⟨bo, c, pff, dap, rfl, kl, kcs⟩ := hu
  go_enter Try.func30, Try.ntmps30
  go_upto_if 17 with (first | (go_at_call_of 45 (Value.slice ao xs.length cap); refine (nat_trim ao b off cap xs _ hcs hl (by omega)).mono ?_; rintro e w' ⟨rfl, rfl⟩) | (go_at_call_of 45 (Value.slice bo ys.length dap); refine (nat_trim bo c pff dap ys _ kcs kl (by omega)).mono ?_; rintro e w' ⟨rfl, rfl⟩))
  go_cut [0, 1] (fun s0 s1 wc => AddCut w wc xs ys s0 s1)
  case first =>
    go_wp2_with fail
    · have hlt : (tr xs).length < (tr ys).length := by assumption
      go_meet
      exact ⟨rfl, _, _, _, _, tr ys, _, _, _, _, tr xs, rfl, rfl, kcs.trim, hcs.trim, by omega, by have := tr_len ys; omega, wf_tr hy, wf_tr hx, by rw [nv_tr, nv_tr, Nat.add_comm]⟩
    · have hlt : ¬ (tr xs).length < (tr ys).length := by assumption
      go_meet
      exact ⟨rfl, _, _, _, _, tr xs, _, _, _, _, tr ys, rfl, rfl, hcs.trim, kcs.trim, by omega, by have := tr_len xs; omega, wf_tr hx, wf_tr hy, by rw [nv_tr, nv_tr]⟩
  case rest =>
    obtain ⟨rfl, ao', b', off', cap', X, bo', c', pff', dap', Y, rfl, rfl, hX, hY, hXY, hXl, wX, wY, hs⟩ := hcut
    have HS := Lib.hid hs; clear hs
    go_wp2_with (at_make; refine wp_make .u64 23 32 8 Try.underlying23 (by kernel_rfl) (by decide) rfl _ _ rfl .i64 .i64 (X.length + 1) (by omega) _ _ _ rfl rfl (by omega) (by omega) ?_; intro w1 hown hbel hsz)
    go_loopw [6, 26] (fun cv i wr => ∃ k c zs, k ≤ X.length ∧ i = .int .i64 (k : Nat) ∧ cv = .int .u64 (c : Nat) ∧ AddRel w wr w.heap.size X Y k c zs) (fun _ i _ => X.length - (intOf i).toNat)
    case atStart => exact ⟨0, 0, List.replicate (X.length + 1) 0, by omega, rfl, rfl, by omega, hown, hbel, by simp, wf_replicate0 (by decide) _, by simp [nv]⟩
    case round =>
      obtain ⟨k, c, zs, hk, rfl, rfl, hc, ho, hb, hzl, hzw, hzv⟩ := hrel
      have HV := Lib.hid hzv; clear hzv
      have HL := Lib.hid hzl; clear hzl
      by_cases hlt : k < X.length
      · obtain rfl := hX.ao (by intro h; subst h; simp at hlt)
        obtain ⟨x, ex⟩ : ∃ x, x = X.getD k 0 := ⟨_, rfl⟩
        obtain ⟨y, ey⟩ : ∃ y, y = Y.getD k 0 := ⟨_, rfl⟩
        have hcx := (hX.below hb (Nat.le_refl _)).cell k hlt
        have hco := ho.cellAt k (by rw [HL.out]; omega)
        have hfo := ho.frozenAt k
        have hadd := bits_Add64 x y c hc
        rw [← ex] at hcx
        have EX := Lib.hid ex; clear ex
        by_cases hlt2 : k < Y.length
        · obtain rfl := hY.ao (by intro h; subst h; simp at hlt2)
          have hcy := (hY.below hb (Nat.le_refl _)).cell k hlt2
          rw [← ey] at hcy
          have EY := Lib.hid ey; clear ey
          go_wp2
          go_roundw
          case rel => exact ⟨k + 1, adc x y c, _, by omega, by go_num, rfl, AddRel.step hc ho hb HL.out hzw HV.out hlt EX.out EY.out wX wY⟩
          case measure => simp [intOf]; omega
        · have hy0 : y = 0 := by rw [ey]; unfold List.getD; rw [List.getElem?_eq_none (by omega)]; rfl
          subst hy0
          rw [show ((0 : Nat) : Int) = 0 from rfl] at hadd
          have EY := Lib.hid ey; clear ey
          go_wp2
          go_roundw
          case rel => exact ⟨k + 1, adc x 0 c, _, by omega, by go_num, rfl, AddRel.step hc ho hb HL.out hzw HV.out hlt EX.out EY.out wX wY⟩
          case measure => simp [intOf]; omega
      · obtain rfl : k = X.length := by omega
        have hco := ho.cellAt X.length (by rw [HL.out]; omega)
        have hfo := ho.frozenAt X.length
        have hs := ho.store X.length c
        have hs1 := hs.1
        have hll : (zs.set X.length c).length = X.length + 1 := by simp [HL.out]
        have HLL := Lib.hid hll; clear hll
        go_wp2_with (go_at_call 46; refine (nat_normal_own _ _ _ _ _ _ hs1 HLL.out (Nat.le_refl _) (by omega)).mono ?_; rintro e w' ⟨r, rfl, hr, rfl⟩)
        go_ret
        refine ⟨_, tr (zs.set X.length c), rfl, hr, nrm_tr (wf_set hzw _ _ (by unfold W64; omega)), ?_, ?_, hb.setCell (Nat.le_refl _) _⟩
        · rw [nv_tr]
          have e1 := nv_set_succ W64 zs X.length c (by rw [HL.out]; omega)
          rw [List.take_of_length_le (by rw [HLL.out]; exact Nat.le_refl _)] at e1
          have e2 := HV.out
          rw [List.take_length, List.take_of_length_le hXY] at e2
          rw [e1, e2, HS.out]
        · have := tr_len (zs.set X.length c)
          rw [HLL.out] at this; omega

end Go.Proofs.Ytnnidjhhcnmnnaa
