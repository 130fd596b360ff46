/- More functions of package nat: row, Mul, MulAdd. -/
import Derived.Test.YtnnidjhhcnmnnaaNat3
namespace Go.Proofs.Ytnnidjhhcnmnnaa
open Go.RowKit

def mhi (x y : Nat) : Nat := x * y / W64
def mlo (x y : Nat) : Nat := x * y % W64

theorem bits_Mul64 (x y : Nat) (hx : x < W64) (hy : y < W64) (w : World) :
    Calls Try.prog 51 #[.int .u64 x, .int .u64 y] w fun e w' => e = .returned (.tuple #[.int .u64 (mhi x y : Nat), .int .u64 (mlo x y : Nat)]) ∧ w = w' :=
  (bits_Mul64_raw x y hx hy w).mono fun _ _ ⟨he, hw⟩ => ⟨he, hw.symm⟩

theorem mhi_mlo (x y : Nat) : mlo x y + W64 * mhi x y = x * y := by unfold mlo mhi; exact Nat.mod_add_div _ _
theorem mlo_lt (x y : Nat) : mlo x y < W64 := Nat.mod_lt _ (by decide)

/-- The carry of a step of row. -/
def rhi (x y z c : Nat) : Nat := mhi x y + adc (mlo x y) z 0 + adc (ads (mlo x y) z 0) c 0
def rlo (x y z c : Nat) : Nat := ads (ads (mlo x y) z 0) c 0

theorem rlo_rhi (x y z c : Nat) : rlo x y z c + W64 * rhi x y z c = x * y + z + c := by
  unfold rlo rhi
  have h1 := ads_adc (mlo x y) z 0
  have h2 := ads_adc (ads (mlo x y) z 0) c 0
  have h3 := mhi_mlo x y
  simp only [Nat.mul_add]
  omega
theorem rlo_lt (x y z c : Nat) : rlo x y z c < W64 := ads_lt _ _ _
theorem rhi_lt (x y z c : Nat) (hx : x < W64) (hy : y < W64) (hz : z < W64) (hc : c < W64) : rhi x y z c < W64 := by
  have h := rlo_rhi x y z c
  have h1 : x * y ≤ (W64 - 1) * (W64 - 1) := Nat.mul_le_mul (by omega) (by omega)
  have h2 : (W64 - 1) * (W64 - 1) + (W64 - 1) + (W64 - 1) < W64 * W64 := by decide
  have h3 : W64 * rhi x y z c < W64 * W64 := by omega
  exact Nat.lt_of_mul_lt_mul_left h3

theorem wrap_nat (a : Nat) (h : a < W64) : IntKind.u64.wrap (a : Int) = a := by
  rw [IntKind.wrap_u64]; unfold W64 at h; omega

theorem wrap_rhi (x y z c : Nat) (hx : x < W64) (hy : y < W64) (hz : z < W64) (hc : c < W64) :
    IntKind.u64.wrap (IntKind.u64.wrap ((mhi x y : Int) + (adc (mlo x y) z 0 : Nat)) + (adc (ads (mlo x y) z 0) c 0 : Nat)) = (rhi x y z c : Nat) := by
  have h := rhi_lt x y z c hx hy hz hc
  unfold rhi at h ⊢
  rw [show ((mhi x y : Int) + (adc (mlo x y) z 0 : Nat)) = ((mhi x y + adc (mlo x y) z 0 : Nat) : Int) from rfl, wrap_nat _ (by omega)]
  exact wrap_nat _ h

/-- Where row stands. -/
def RowRel (w wr : World) (g i n : Nat) (A zs0 : List Nat) (x k c : Nat) (zs : List Nat) : Prop :=
  c < W64 ∧ Own .u64 32 wr g (.slice (some ⟨g, 0, none⟩) n n) zs ∧ w.grownBy wr (some g) ∧ zs.length = n ∧ wf W64 zs ∧
    nv W64 (zs.take (i + k)) + W64 ^ (i + k) * c = nv W64 (zs0.take (i + k)) + W64 ^ i * (x * nv W64 (A.take k)) ∧ zs.drop (i + k) = zs0.drop (i + k)

theorem RowRel.step {w wr : World} {g i n : Nat} {A zs0 : List Nat} {x k c : Nat} {zs : List Nat} (hc : c < W64) (ho : Own .u64 32 wr g (.slice (some ⟨g, 0, none⟩) n n) zs) (hg : w.grownBy wr (some g))
    (hl : zs.length = n) (hw : wf W64 zs) (hv : nv W64 (zs.take (i + k)) + W64 ^ (i + k) * c = nv W64 (zs0.take (i + k)) + W64 ^ i * (x * nv W64 (A.take k))) (hd : zs.drop (i + k) = zs0.drop (i + k))
    (hk : i + k < n) (hx : x < W64) (wA : wf W64 A) {y z : Nat} (hy : y = A.getD k 0) (hz : z = zs.getD (i + k) 0) :
    RowRel w (wr.setCell ⟨g, i + k, none⟩ (.int .u64 (rlo x y z c : Nat))) g i n A zs0 x (k + 1) (rhi x y z c) (zs.set (i + k) (rlo x y z c)) := by
  have h2 : y < W64 := by rw [hy]; exact wf_getD wA (by decide) k
  have h3 : z < W64 := by rw [hz]; exact wf_getD hw (by decide) _
  refine ⟨rhi_lt x y z c hx h2 h3 hc, (ho.store _ _).1, grown_trans hg (ho.store _ _).2, by simp [hl], wf_set hw _ _ (rlo_lt _ _ _ _), ?_, ?_⟩
  · have e0 : i + (k + 1) = (i + k) + 1 := by omega
    rw [e0, nv_set_succ _ _ _ _ (by omega), nv_take_succ', nv_take_succ', ← hy, ← drop_get hd, ← hz, Nat.pow_succ]
    have h4 := rlo_rhi x y z c
    have h5 : W64 ^ (i + k) * (rlo x y z c + W64 * rhi x y z c) = W64 ^ (i + k) * (x * y + z + c) := by rw [h4]
    simp only [Nat.mul_add] at h5 ⊢
    rw [Nat.mul_assoc]
    have h6 : W64 ^ i * (x * (W64 ^ k * y)) = W64 ^ (i + k) * (x * y) := by rw [Nat.pow_add]; simp [Nat.mul_assoc, Nat.mul_left_comm, Nat.mul_comm]
    omega
  · have e0 : i + (k + 1) = (i + k) + 1 := by omega
    rw [e0, drop_set_lt _ _ _ _ (by omega)]; exact drop_succ_eq hd

/-- What row leaves. -/
def RowPost (w : World) (g i n : Nat) (A zs0 : List Nat) (x : Nat) (e : Ending) (w' : World) : Prop :=
  e = .returned (.tuple #[]) ∧ ∃ zs, Own .u64 32 w' g (.slice (some ⟨g, 0, none⟩) n n) zs ∧ w.grownBy w' (some g) ∧ zs.length = n ∧ wf W64 zs ∧
    nv W64 (zs.take (i + A.length + 1)) = nv W64 (zs0.take (i + A.length)) + W64 ^ i * (x * nv W64 A) ∧ zs.drop (i + A.length + 1) = zs0.drop (i + A.length + 1)

set_option maxHeartbeats 800000 in
theorem nat_row (g i n : Nat) (ao : Option Addr) (b off cap : Nat) (A zs : List Nat) (x : Nat) (w : World) (hA : Cs .u64 w ao b off A) (hne : A ≠ [] → b ≠ g) (ho : Own .u64 32 w g (.slice (some ⟨g, 0, none⟩) n n) zs)
    (hzl : zs.length = n) (hn : n ≤ 1000000000) (hi : i + A.length < n) (hx : x < W64) (wA : wf W64 A) (wz : wf W64 zs) :
    Calls Try.prog 49 #[.slice (some ⟨g, i, none⟩) (n - i) (n - i), .slice ao A.length cap, .int .u64 x] w (RowPost w g i n A zs x) := by
  go_enter Try.func49, Try.ntmps49
  go_wp2
  go_loopw [6, 14] (fun cv ix wr => ∃ k c zz, k ≤ A.length ∧ ix = .int .i64 (k : Nat) ∧ cv = .int .u64 (c : Nat) ∧ RowRel w wr g i n A zs x k c zz) (fun _ ix _ => A.length - (intOf ix).toNat)
  case atStart => exact ⟨0, 0, zs, by omega, rfl, rfl, by decide, ho, World.grownBy.refl _ _, hzl, wz, by simp [nv], rfl⟩
  case round =>
    obtain ⟨k, c, zz, hk, rfl, rfl, hc, hoz, hg, hl, hw, hzv, hd⟩ := hrel
    have HV := Lib.hid hzv; clear hzv
    have HL := Lib.hid hl; clear hl
    have HD := Lib.hid hd; clear hd
    by_cases hlt : k < A.length
    · obtain rfl := hA.ao (by intro h; subst h; simp at hlt)
      obtain ⟨y, ey⟩ : ∃ y, y = A.getD k 0 := ⟨_, rfl⟩
      obtain ⟨z, ez⟩ : ∃ z, z = zz.getD (i + k) 0 := ⟨_, rfl⟩
      have hcy := (hA.grown hg hne).cell k hlt
      have hcz := hoz.cellAt (i + k) (by rw [HL.out]; omega)
      have hfz := hoz.frozenAt (i + k)
      have hyl : y < W64 := by rw [ey]; exact wf_getD wA (by decide) k
      have a1 := bits_Add64 (mlo x y) z 0 (by omega)
      have a2 := bits_Add64 (ads (mlo x y) z 0) c 0 (by omega)
      rw [show ((0 : Nat) : Int) = 0 from rfl] at a1 a2
      rw [← ey] at hcy
      rw [← ez] at hcz
      have EY := Lib.hid ey; clear ey
      have EZ := Lib.hid ez; clear ez
      go_wp2_with (go_at_call 51; refine (bits_Mul64 x y hx hyl _).mono ?_; rintro e w' ⟨rfl, rfl⟩)
      go_roundw
      case rel => exact ⟨k + 1, rhi x y z c, _, by omega, by go_num, by rw [wrap_rhi x y z c hx hyl (by rw [EZ.out]; exact wf_getD hw (by decide) _) hc], RowRel.step hc hoz hg HL.out hw HV.out HD.out (by omega) hx wA EY.out EZ.out⟩
      case measure => simp [intOf]; omega
    · obtain rfl : k = A.length := by omega
      have hco := hoz.cellAt (i + A.length) (by rw [HL.out]; omega)
      have hfo := hoz.frozenAt (i + A.length)
      have hs := hoz.store (i + A.length) c
      have HSS := Lib.hid hs; clear hs
      go_wp2
      go_end0
      refine ⟨rfl, zz.set (i + A.length) c, HSS.out.1, grown_trans hg HSS.out.2, by simp [HL.out], wf_set hw _ _ hc, ?_, ?_⟩
      · rw [nv_set_succ _ _ _ _ (by rw [HL.out]; omega), HV.out, List.take_length]
      · rw [drop_set_lt _ _ _ _ (by omega)]; exact drop_succ_eq HD.out

/-- Where the loop of Mul stands. -/
def MulRel (w wr : World) (g n : Nat) (A B : List Nat) (i : Nat) (zs : List Nat) : Prop :=
  Own .u64 32 wr g (.slice (some ⟨g, 0, none⟩) n n) zs ∧ Below g w wr ∧ zs.length = n ∧ wf W64 zs ∧
    nv W64 (zs.take (i + A.length)) = nv W64 A * nv W64 (B.take i) ∧ zs.drop (i + A.length) = List.replicate (n - (i + A.length)) 0

set_option maxHeartbeats 800000 in
theorem nat_Mul (v u : Value) (xs ys : List Nat) (w : World) (hv : Sl .u64 w v xs) (hu : Sl .u64 w u ys) (hm : xs.length ≤ 100000000) (hn : ys.length ≤ 100000000) (hx : wf W64 xs) (hy : wf W64 ys) :
    Calls Try.prog 23 #[v, u] w (RetN w (xs.length + ys.length + 1) (nv W64 xs * nv W64 ys)) := by
  obtain ⟨ao, b, off, cap, rfl, hl, hcs⟩ := hv
  obtain ⟨bo, c, pff, dap, rfl, kl, kcs⟩ := hu
  have hlx := tr_len xs
  have hly := tr_len ys
  obtain ⟨X, eX⟩ : ∃ X, X = tr xs := ⟨_, rfl⟩
  obtain ⟨Y, eY⟩ : ∃ Y, Y = tr ys := ⟨_, rfl⟩
  have wX : wf W64 X := by rw [eX]; exact wf_tr hx
  have wY : wf W64 Y := by rw [eY]; exact wf_tr hy
  have hX : Cs .u64 w ao b off X := by rw [eX]; exact hcs.trim
  have hY : Cs .u64 w bo c pff Y := by rw [eY]; exact kcs.trim
  have e1 : nv W64 xs = nv W64 X := by rw [eX, nv_tr]
  have e2 : nv W64 ys = nv W64 Y := by rw [eY, nv_tr]
  rw [e1, e2]
  have c1 := nat_trim ao b off cap xs w hcs hl (by omega)
  have c2 := nat_trim bo c pff dap ys w kcs kl (by omega)
  rw [← eX] at c1 hlx
  rw [← eY] at c2 hly
  have C1 := Lib.hid c1
  have C2 := Lib.hid c2
  clear c1 c2 e1 e2 eX eY hcs kcs
  go_enter Try.func23, Try.ntmps23
  go_wp2_with (first | (at_make; refine wp_make .u64 23 32 8 Try.underlying23 (by kernel_rfl) (by decide) rfl _ _ rfl .i64 .i64 (X.length + Y.length + 1) (by omega) _ _ _ rfl rfl (by omega) (by omega) ?_; intro w1 hown hbel hsz) | (go_at_call_of 45 (Value.slice ao xs.length cap); refine C1.out.mono ?_; rintro e w' ⟨rfl, rfl⟩) | (go_at_call_of 45 (Value.slice bo ys.length dap); refine C2.out.mono ?_; rintro e w' ⟨rfl, rfl⟩))
  go_loopw [21] (fun ix wr => ∃ k zs, k ≤ Y.length ∧ ix = .int .i64 (k : Nat) ∧ MulRel w wr w.heap.size (X.length + Y.length + 1) X Y k zs) (fun ix _ => Y.length - (intOf ix).toNat)
  case atStart => exact ⟨0, List.replicate (X.length + Y.length + 1) 0, by omega, rfl, hown, hbel, by simp, wf_replicate0 (by decide) _, by rw [List.take_replicate, nv_replicate0]; simp [nv], by simp⟩
  case round =>
    obtain ⟨k, zs, hk, rfl, ho, hb, hl2, hw, hzv, hd⟩ := hrel
    have HV := Lib.hid hzv; clear hzv
    have HL := Lib.hid hl2; clear hl2
    have HD := Lib.hid hd; clear hd
    by_cases hlt : k < Y.length
    · obtain rfl := hY.ao (by intro h; subst h; simp at hlt)
      obtain ⟨y, ey⟩ : ∃ y, y = Y.getD k 0 := ⟨_, rfl⟩
      have hcy := (hY.below hb (Nat.le_refl _)).cell k hlt
      have hyl : y < W64 := by rw [ey]; exact wf_getD wY (by decide) k
      rw [← ey] at hcy
      have EY := Lib.hid ey; clear ey
      have hrow := nat_row w.heap.size k (X.length + Y.length + 1) ao b off cap X zs y wr (hX.below hb (Nat.le_refl _)) (fun h => by have := hX.lt h; omega) ho HL.out (by omega) (by omega) hyl wX hw
      have HR := Lib.hid hrow; clear hrow
      go_wp2_with fail
      refine HR.out.mono ?_; rintro e w2 ⟨rfl, zs2, ho2, hg2, hl2, hw2, hv2, hd2⟩
      have HV2 := Lib.hid hv2; clear hv2
      have HL2 := Lib.hid hl2; clear hl2
      have HD2 := Lib.hid hd2; clear hd2
      go_wp2
      go_roundw
      case rel =>
        refine ⟨k + 1, zs2, by omega, by go_num, ho2, hb.trans (grown_below hg2 (Nat.le_refl _) (by have := hb.size; omega)), HL2.out, hw2, ?_, ?_⟩
        · rw [show k + 1 + X.length = k + X.length + 1 from by omega, HV2.out, HV.out, nv_take_succ', ← EY.out, Nat.mul_add]
          congr 1; simp [Nat.mul_left_comm, Nat.mul_comm, Nat.mul_assoc]
        · rw [show k + 1 + X.length = k + X.length + 1 from by omega, HD2.out]
          have := congrArg (List.drop 1) HD.out
          rw [List.drop_drop, List.drop_replicate] at this
          rw [this]; congr 1
      case measure => simp [intOf]; omega
    · obtain rfl : k = Y.length := by omega
      go_wp2_with (go_at_call 46; refine (nat_normal_own _ _ _ _ _ _ ho HL.out (Nat.le_refl _) (by omega)).mono ?_; rintro e w' ⟨r, rfl, hr, rfl⟩)
      go_ret
      refine ⟨_, tr zs, rfl, hr, nrm_tr hw, ?_, by have := tr_len zs; rw [HL.out] at this; omega, hb⟩
      rw [nv_tr, nv_take_drop W64 zs (Y.length + X.length) (by rw [HL.out]; omega), HV.out, HD.out, nv_replicate0, List.take_length]
      simp

/-- Where the loop of MulAdd stands. -/
def MulAddRel (w wr : World) (g n : Nat) (A : List Nat) (x y k c : Nat) (zs : List Nat) : Prop :=
  c < W64 ∧ Own .u64 32 wr g (.slice (some ⟨g, 0, none⟩) n n) zs ∧ Below g w wr ∧ zs.length = n ∧ wf W64 zs ∧
    nv W64 (zs.take k) + W64 ^ k * c = nv W64 (A.take k) * x + y

theorem MulAddRel.step {w wr : World} {g n : Nat} {A : List Nat} {x y k c : Nat} {zs : List Nat} (hc : c < W64) (ho : Own .u64 32 wr g (.slice (some ⟨g, 0, none⟩) n n) zs) (hb : Below g w wr)
    (hl : zs.length = n) (hw : wf W64 zs) (hv : nv W64 (zs.take k) + W64 ^ k * c = nv W64 (A.take k) * x + y)
    (hk : k < n) (hx : x < W64) (wA : wf W64 A) {z : Nat} (hz : z = A.getD k 0) :
    MulAddRel w (wr.setCell ⟨g, k, none⟩ (.int .u64 (ads (mlo x z) c 0 : Nat))) g n A x y (k + 1) (mhi x z + adc (mlo x z) c 0) (zs.set k (ads (mlo x z) c 0)) := by
  have h2 : z < W64 := by rw [hz]; exact wf_getD wA (by decide) k
  have h1 := ads_adc (mlo x z) c 0
  have h3 := mhi_mlo x z
  refine ⟨?_, (ho.store _ _).1, hb.setCell (Nat.le_refl _) _, by simp [hl], wf_set hw _ _ (ads_lt _ _ _), ?_⟩
  · have h4 : x * z ≤ (W64 - 1) * (W64 - 1) := Nat.mul_le_mul (by omega) (by omega)
    have h5 : (W64 - 1) * (W64 - 1) + (W64 - 1) < W64 * W64 := by decide
    have h6 : W64 * (mhi x z + adc (mlo x z) c 0) < W64 * W64 := by rw [Nat.mul_add]; omega
    exact Nat.lt_of_mul_lt_mul_left h6
  · rw [nv_set_succ _ _ _ _ (by omega), nv_take_succ', ← hz, Nat.pow_succ]
    have h5 : W64 ^ k * (ads (mlo x z) c 0 + W64 * (mhi x z + adc (mlo x z) c 0)) = W64 ^ k * (x * z + c) := by
      congr 1; rw [Nat.mul_add]; omega
    simp only [Nat.mul_add, Nat.add_mul] at h5 ⊢
    simp only [Nat.mul_assoc]
    have h6 : W64 ^ k * (x * z) = W64 ^ k * (z * x) := by rw [Nat.mul_comm x z]
    omega

set_option maxHeartbeats 800000 in
theorem nat_MulAdd (v : Value) (xs : List Nat) (x y : Nat) (w : World) (hv : Sl .u64 w v xs) (hm : xs.length ≤ 100000000) (hx : wf W64 xs) (hxl : x < W64) (hyl : y < W64) :
    Calls Try.prog 25 #[v, .int .u64 x, .int .u64 y] w (RetN w (xs.length + 1) (nv W64 xs * x + y)) := by
  obtain ⟨ao, b, off, cap, rfl, hl, hcs⟩ := hv
  have hlx := tr_len xs
  obtain ⟨X, eX⟩ : ∃ X, X = tr xs := ⟨_, rfl⟩
  have wX : wf W64 X := by rw [eX]; exact wf_tr hx
  have hX : Cs .u64 w ao b off X := by rw [eX]; exact hcs.trim
  have e1 : nv W64 xs = nv W64 X := by rw [eX, nv_tr]
  rw [e1]
  have c1 := nat_trim ao b off cap xs w hcs hl (by omega)
  rw [← eX] at c1 hlx
  have C1 := Lib.hid c1
  clear c1 e1 eX hcs
  go_enter Try.func25, Try.ntmps25
  go_wp2_with (first | (at_make; refine wp_make .u64 23 32 8 Try.underlying23 (by kernel_rfl) (by decide) rfl _ _ rfl .i64 .i64 (X.length + 1) (by omega) _ _ _ rfl rfl (by omega) (by omega) ?_; intro w1 hown hbel hsz) | (go_at_call 45; refine C1.out.mono ?_; rintro e w' ⟨rfl, rfl⟩))
  go_loopw [8, 23] (fun cv ix wr => ∃ k c zs, k ≤ X.length ∧ ix = .int .i64 (k : Nat) ∧ cv = .int .u64 (c : Nat) ∧ MulAddRel w wr w.heap.size (X.length + 1) X x y k c zs) (fun _ ix _ => X.length - (intOf ix).toNat)
  case atStart => exact ⟨0, y, List.replicate (X.length + 1) 0, by omega, rfl, rfl, hyl, hown, hbel, by simp, wf_replicate0 (by decide) _, by simp [nv]⟩
  case round =>
    obtain ⟨k, c, zs, hk, rfl, rfl, hc, ho, hb, hl2, hw, hzv⟩ := hrel
    have HV := Lib.hid hzv; clear hzv
    have HL := Lib.hid hl2; clear hl2
    by_cases hlt : k < X.length
    · obtain rfl := hX.ao (by intro h; subst h; simp at hlt)
      obtain ⟨z, ez⟩ : ∃ z, z = X.getD k 0 := ⟨_, rfl⟩
      have hcz := (hX.below hb (Nat.le_refl _)).cell k hlt
      have hco := ho.cellAt k (by rw [HL.out]; omega)
      have hfo := ho.frozenAt k
      have hzl : z < W64 := by rw [ez]; exact wf_getD wX (by decide) k
      have a1 := bits_Add64 (mlo x z) c 0 (by omega)
      rw [show ((0 : Nat) : Int) = 0 from rfl] at a1
      rw [← ez] at hcz
      have EZ := Lib.hid ez; clear ez
      go_wp2_with (go_at_call 51; refine (bits_Mul64 x z hxl hzl _).mono ?_; rintro e w' ⟨rfl, rfl⟩)
      go_roundw
      case rel =>
        have R := MulAddRel.step (k := k) hc ho hb HL.out hw HV.out (by omega) hxl wX EZ.out
        exact ⟨k + 1, mhi x z + adc (mlo x z) c 0, _, by omega, by go_num, by rw [← wrap_nat _ R.1]; rfl, R⟩
      case measure => simp [intOf]; omega
    · obtain rfl : k = X.length := by omega
      have hco := ho.cellAt X.length (by rw [HL.out]; omega)
      have hfo := ho.frozenAt X.length
      have hs := (ho.store X.length c).1
      have hll : (zs.set X.length c).length = X.length + 1 := by simp [HL.out]
      have HLL := Lib.hid hll; clear hll
      go_wp2_with (go_at_call 46; refine (nat_normal_own _ _ _ _ _ _ hs HLL.out (Nat.le_refl _) (by omega)).mono ?_; rintro e w' ⟨r, rfl, hr, rfl⟩)
      go_ret
      refine ⟨_, tr (zs.set X.length c), rfl, hr, nrm_tr (wf_set hw _ _ hc), ?_, by have := tr_len (zs.set X.length c); rw [HLL.out] at this; omega, hb.setCell (Nat.le_refl _) _⟩
      have e1 := nv_set_succ W64 zs X.length c (by rw [HL.out]; omega)
      rw [List.take_of_length_le (by rw [HLL.out]; exact Nat.le_refl _), HV.out, List.take_length] at e1
      rw [nv_tr, e1]

end Go.Proofs.Ytnnidjhhcnmnnaa
