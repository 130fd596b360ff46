/- More functions of package nat: Sub, row, Mul, MulAdd. -/
import Derived.Test.YtnnidjhhcnmnnaaNat2
import Derived.Test.YtnnidjhhcnmnnaaMul64
namespace Go.Proofs.Ytnnidjhhcnmnnaa
open Go.RowKit

def sbs (x y b : Nat) : Nat := (x + W64 - y - b) % W64
def sbb (x y b : Nat) : Nat := if x < y + b then 1 else 0

/-- The model's entry for Sub64. -/
def sub64Ent : Array Value → Sem Value := fun args => do
  let (x, y, b) ← Extern.MathBitsCarry.three "Sub64" args
  pure (Extern.MathBitsCarry.pair ((x + Extern.MathBitsCarry.m64 - y - b) % Extern.MathBitsCarry.m64) (if x < y + b then 1 else 0))

theorem bits_Sub64 (x y b : Nat) (hb : b ≤ 1) (w : World) :
    (callFunc 54 #[.int .u64 x, .int .u64 y, .int .u64 b]).run Try.prog w = .ok (.value (.tuple #[.int .u64 (sbs x y b : Nat), .int .u64 (sbb x y b : Nat)])) w := by
  rw [run_callFunc_extern Try.func54 (by kernel_rfl) (by kernel_rfl) (by kernel_rfl) (e := sub64Ent) (by kernel_rfl)]
  have : b = 0 ∨ b = 1 := by omega
  rcases this with rfl | rfl <;> rfl

theorem sbs_lt (x y b : Nat) : sbs x y b < W64 := Nat.mod_lt _ (by decide)
theorem sbb_le (x y b : Nat) : sbb x y b ≤ 1 := by unfold sbb; split <;> omega
theorem sbs_sbb (x y b : Nat) (hx : x < W64) (hy : y < W64) (hb : b ≤ 1) : x + W64 * sbb x y b = sbs x y b + y + b := by
  unfold sbs sbb; unfold W64 at *; split <;> omega

/-- A new natural is returned, and true. -/
def RetNB (w : World) (L N : Nat) (e : Ending) (w' : World) : Prop :=
  ∃ r zs, e = .returned (.tuple #[r, .bool true]) ∧ Own .u64 32 w' w.heap.size r zs ∧ Nrm W64 zs ∧ nv W64 zs = N ∧ zs.length ≤ L ∧ Below w.heap.size w w'

/-- Where the loop of Sub stands. -/
def SubRel (w wr : World) (B : Nat) (X Y : List Nat) (k c : Nat) (zs : List Nat) : Prop :=
  c ≤ 1 ∧ Own .u64 32 wr B (.slice (some ⟨B, 0, none⟩) X.length X.length) zs ∧ Below B w wr ∧ zs.length = X.length ∧ wf W64 zs ∧
    nv W64 (X.take k) + W64 ^ k * c = nv W64 (zs.take k) + nv W64 (Y.take k)

theorem SubRel.step {w wr : World} {B : Nat} {X Y : List Nat} {k c : Nat} {zs : List Nat} (hc : c ≤ 1) (ho : Own .u64 32 wr B (.slice (some ⟨B, 0, none⟩) X.length X.length) zs) (hb : Below B w wr)
    (hl : zs.length = X.length) (hw : wf W64 zs) (hv : nv W64 (X.take k) + W64 ^ k * c = nv W64 (zs.take k) + nv W64 (Y.take k)) (hk : k < X.length) {x y : Nat} (hx : x = X.getD k 0) (hy : y = Y.getD k 0) (wX : wf W64 X) (wY : wf W64 Y) :
    SubRel w (wr.setCell ⟨B, k, none⟩ (.int .u64 (sbs x y c : Nat))) B X Y (k + 1) (sbb x y c) (zs.set k (sbs x y c)) := by
  have h1 : x < W64 := by rw [hx]; exact wf_getD wX (by decide) k
  have h2 : y < W64 := by rw [hy]; exact wf_getD wY (by decide) k
  refine ⟨sbb_le x y c, (ho.store k (sbs x y c)).1, hb.setCell (Nat.le_refl _) _, by simp [hl], wf_set hw _ _ (sbs_lt _ _ _), ?_⟩
  rw [nv_set_succ _ _ _ _ (by omega), nv_take_succ', nv_take_succ', ← hx, ← hy, Nat.pow_succ]
  have h3 := sbs_sbb x y c h1 h2 hc
  have h4 : W64 ^ k * (x + W64 * sbb x y c) = W64 ^ k * (sbs x y c + y + c) := by rw [h3]
  simp only [Nat.mul_add] at h4
  rw [Nat.mul_assoc]
  omega

set_option maxHeartbeats 400000 in
theorem nat_Sub_no (v u : Value) (xs ys : List Nat) (w : World) (hv : Sl .u64 w v xs) (hu : Sl .u64 w u ys) (hm : xs.length ≤ 100000000) (hn : ys.length ≤ 100000000) (hx : wf W64 xs) (hy : wf W64 ys)
    (hlt : nv W64 xs < nv W64 ys) :
    Calls Try.prog 28 #[v, u] w (RetQ w (.tuple #[.slice none 0 0, .bool false])) := by
  have hc := nat_Cmp v u xs ys w hv hu (by omega) (by omega) hx hy
  rw [cmpN_lt hlt] at hc
  have HC := Lib.hid hc; clear hc
  go_enter Try.func28, Try.ntmps28
  go_wp2_with fail
  refine HC.out.mono ?_; rintro e w' ⟨rfl, hq⟩
  go_wp2
  go_ret2
  exact ⟨rfl, hq⟩

set_option maxHeartbeats 1000000 in
theorem nat_Sub_yes (v u : Value) (xs ys : List Nat) (w : World) (hv : Sl .u64 w v xs) (hu : Sl .u64 w u ys) (hm : xs.length ≤ 100000000) (hn : ys.length ≤ 100000000) (hx : wf W64 xs) (hy : wf W64 ys)
    (hge : nv W64 ys ≤ nv W64 xs) :
    Calls Try.prog 28 #[v, u] w (RetNB w xs.length (nv W64 xs - nv W64 ys)) := by
  have hc := nat_Cmp v u xs ys w hv hu (by omega) (by omega) hx hy
  have HC := Lib.hid hc; clear hc
  obtain ⟨t, ht, ht0⟩ : ∃ t : Int, t = cmpN (nv W64 xs) (nv W64 ys) ∧ 0 ≤ t := ⟨_, rfl, by unfold cmpN; split <;> (try split) <;> omega⟩
  rw [← ht] at HC
  clear ht
  obtain ⟨ao, b, off, cap, rfl, hl, hcs⟩ := hv
  obtain ⟨bo, c, pff, dap, rfl, kl, kcs⟩ := hu
  have hlx := tr_len xs
  have hly := tr_len ys
  obtain ⟨X, eX⟩ : ∃ X, X = tr xs := ⟨_, rfl⟩
  obtain ⟨Y, eY⟩ : ∃ Y, Y = tr ys := ⟨_, rfl⟩
  have nX : Nrm W64 X := by rw [eX]; exact nrm_tr hx
  have nY : Nrm W64 Y := by rw [eY]; exact nrm_tr hy
  have hX0 : Cs .u64 w ao b off X := by rw [eX]; exact hcs.trim
  have hY0 : Cs .u64 w bo c pff Y := by rw [eY]; exact kcs.trim
  have e1 : nv W64 xs = nv W64 X := by rw [eX, nv_tr]
  have e2 : nv W64 ys = nv W64 Y := by rw [eY, nv_tr]
  rw [e1, e2] at hge ⊢
  have hYX : Y.length ≤ X.length := by
    by_cases h : X.length < Y.length
    · have := nrm_lt_len (by decide) nX nY h; omega
    · omega
  rw [← eX] at hlx
  rw [← eY] at hly
  have EX := Lib.hid eX
  have EY := Lib.hid eY
  clear e1 e2 eX eY
  go_enter Try.func28, Try.ntmps28
  go_wp2_with fail
  refine HC.out.mono ?_; rintro e w1 ⟨rfl, hq⟩
  have hX := hX0.drawn hq
  have hY := hY0.drawn hq
  have c1 := nat_trim ao b off cap xs w1 (hcs.drawn hq) hl (by omega)
  have c2 := nat_trim bo c pff dap ys w1 (kcs.drawn hq) kl (by omega)
  rw [← EX.out] at c1
  rw [← EY.out] at c2
  have C1 := Lib.hid c1
  have C2 := Lib.hid c2
  have hsz := hq.size
  have HS := Lib.hid hsz
  clear c1 c2 hcs kcs hX0 hY0 hsz
  go_wp2_with (first | (at_make; refine wp_make .u64 23 32 8 Try.underlying23 (by kernel_rfl) (by decide) rfl _ _ rfl .i64 .i64 X.length (by omega) _ _ _ rfl rfl rfl rfl ?_; intro w2 hown hbel hsz) | (go_at_call_of 45 (Value.slice ao xs.length cap); refine C1.out.mono ?_; rintro e w' ⟨rfl, rfl⟩) | (go_at_call_of 45 (Value.slice bo ys.length dap); refine C2.out.mono ?_; rintro e w' ⟨rfl, rfl⟩))
  go_loopw [7, 23] (fun cv i wr => ∃ k c zs, k ≤ X.length ∧ i = .int .i64 (k : Nat) ∧ cv = .int .u64 (c : Nat) ∧ SubRel w1 wr w1.heap.size X Y k c zs) (fun _ i _ => X.length - (intOf i).toNat)
  case atStart => exact ⟨0, 0, List.replicate X.length 0, by omega, rfl, rfl, by omega, hown, hbel, by simp, wf_replicate0 (by decide) _, by simp [nv]⟩
  case round =>
    obtain ⟨k, c, zs, hk, rfl, rfl, hc, ho, hb, hzl, hzw, hzv⟩ := hrel
    have HV := Lib.hid hzv; clear hzv
    have HL := Lib.hid hzl; clear hzl
    by_cases hlt : k < X.length
    · obtain rfl := hX.ao (by intro h; subst h; simp at hlt)
      obtain ⟨x, ex⟩ : ∃ x, x = X.getD k 0 := ⟨_, rfl⟩
      obtain ⟨y, ey⟩ : ∃ y, y = Y.getD k 0 := ⟨_, rfl⟩
      have hcx := (hX.below hb (Nat.le_refl _)).cell k hlt
      have hco := ho.cellAt k (by rw [HL.out]; omega)
      have hfo := ho.frozenAt k
      have hadd := bits_Sub64 x y c hc
      rw [← ex] at hcx
      have EX := Lib.hid ex; clear ex
      by_cases hlt2 : k < Y.length
      · obtain rfl := hY.ao (by intro h; subst h; simp at hlt2)
        have hcy := (hY.below hb (Nat.le_refl _)).cell k hlt2
        rw [← ey] at hcy
        have EY := Lib.hid ey; clear ey
        go_wp2
        go_roundw
        case rel => exact ⟨k + 1, sbb x y c, _, by omega, by go_num, rfl, SubRel.step hc ho hb HL.out hzw HV.out hlt EX.out EY.out nX.1 nY.1⟩
        case measure => simp [intOf]; omega
      · have hy0 : y = 0 := by rw [ey]; unfold List.getD; rw [List.getElem?_eq_none (by omega)]; rfl
        subst hy0
        rw [show ((0 : Nat) : Int) = 0 from rfl] at hadd
        have EY := Lib.hid ey; clear ey
        go_wp2
        go_roundw
        case rel => exact ⟨k + 1, sbb x 0 c, _, by omega, by go_num, rfl, SubRel.step hc ho hb HL.out hzw HV.out hlt EX.out EY.out nX.1 nY.1⟩
        case measure => simp [intOf]; omega
    · obtain rfl : k = X.length := by omega
      go_wp2_with (go_at_call 46; refine (nat_normal_own _ _ _ _ _ _ ho HL.out (Nat.le_refl _) (by omega)).mono ?_; rintro e w' ⟨r, rfl, hr, rfl⟩)
      go_ret2
      have e1 := HV.out
      rw [List.take_length, List.take_of_length_le (by rw [HL.out]; exact Nat.le_refl _), List.take_of_length_le hYX] at e1
      have h2 := nv_lt zs hzw
      rw [HL.out] at h2
      have hc0 : c = 0 := by
        have : c = 0 ∨ c = 1 := by omega
        rcases this with h | h
        · exact h
        · subst h; omega
      subst hc0
      refine ⟨_, tr zs, rfl, by rw [← HS.out]; exact hr, nrm_tr hzw, by rw [nv_tr]; omega, by have := tr_len zs; rw [HL.out] at this; omega, (hq.below _).trans (hb.mono (by rw [HS.out]; exact Nat.le_refl _))⟩

end Go.Proofs.Ytnnidjhhcnmnnaa
