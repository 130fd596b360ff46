/- The references of layer 1: Mul. -/
import Derived.Test.YtnnidjhhcnmnnaaRef2
import Derived.Test.YtnnidjhhcnmnnaaStep
import Derived.IntWalk
namespace Go.Proofs.Ytnnidjhhcnmnnaa
open Go.RowKit

theorem nv_map_mul (B c : Nat) (xs : List Nat) : nv B (xs.map (· * c)) = nv B xs * c := by
  induction xs with
  | nil => simp [nv]
  | cons x xs ih => simp [nv, ih, Nat.add_mul, Nat.mul_assoc]

/-- The line of a product. -/
def lineOf (i c : Nat) (xs : List Nat) : List Nat := List.replicate i 0 ++ xs.map (· * c)
theorem lineOf_nv (i c : Nat) (xs : List Nat) : nv D16 (lineOf i c xs) = D16 ^ i * (nv D16 xs * c) := by
  unfold lineOf; rw [nv_append, nv_replicate0, nv_map_mul, List.length_replicate]; omega
theorem lineOf_len (i c : Nat) (xs : List Nat) : (lineOf i c xs).length = i + xs.length := by simp [lineOf]
theorem lineOf_snoc (i c : Nat) (xs : List Nat) (k : Nat) (hk : k < xs.length) : lineOf i c (xs.take k) ++ [xs.getD k 0 * c] = lineOf i c (xs.take (k + 1)) := by
  unfold lineOf; rw [take_snoc xs k hk, List.map_append, List.append_assoc]; rfl
theorem lineOf_wf (i c : Nat) (xs : List Nat) (hx : wf D16 xs) (hc : c < D16) : wf 1099511627776 (lineOf i c xs) := by
  unfold lineOf
  refine wf_append (wf_replicate0 (by decide) _) ?_
  intro y hy
  simp only [List.mem_map] at hy
  obtain ⟨z, hz, rfl⟩ := hy
  have h1 := hx z hz
  have h2 : z * c ≤ 65535 * 65535 := Nat.mul_le_mul (by unfold D16 at h1; omega) (by unfold D16 at hc; omega)
  omega

/-- Where the outer loop of Mul stands. -/
def RMulRel (w wr : World) (xs ys : List Nat) (i : Nat) (v : Value) (zs : List Nat) : Prop :=
  Own .i64 3 wr w.heap.size v zs ∧ Below w.heap.size w wr ∧ Nrm D16 zs ∧ nv D16 zs = nv D16 xs * nv D16 (ys.take i)

theorem RMulRel.len {xs ys zs : List Nat} {i : Nat} (hn : Nrm D16 zs) (hv : nv D16 zs = nv D16 xs * nv D16 (ys.take i)) (hx : wf D16 xs) (hy : wf D16 ys) : zs.length ≤ xs.length + ys.length := by
  refine nrm_len_le (by decide) hn ?_
  rw [hv, Nat.pow_add]
  have h1 := nv_lt xs hx
  have h2 := nv_lt (ys.take i) (wf_take hy i)
  have h3 : D16 ^ (ys.take i).length ≤ D16 ^ ys.length := Nat.pow_le_pow_right (by decide) (by simp; omega)
  exact Nat.mul_lt_mul'' h1 (Nat.lt_of_lt_of_le h2 h3)

/-- Where the inner loops stand: the line as far as it is. -/
def LineRel (wo wr : World) (v : Value) (zs : List Nat) : Prop := Own .i64 3 wr wo.heap.size v zs ∧ Below wo.heap.size wo wr

set_option maxHeartbeats 2000000 in
theorem ref_Mul (v u : Value) (xs ys : List Nat) (w : World) (hv : Sl .i64 w v xs) (hu : Sl .i64 w u ys) (hm : xs.length ≤ 1000000) (hn : ys.length ≤ 1000000) (hx : wf D16 xs) (hy : wf D16 ys) :
    Calls Try.prog 24 #[v, u] w (RetD w (xs.length + ys.length) (nv D16 xs * nv D16 ys)) := by
  obtain ⟨ao, b, off, cap, rfl, hl, hcs⟩ := hv
  obtain ⟨bo, c, pff, dap, rfl, kl, kcs⟩ := hu
  go_enter Try.func24, Try.ntmps24
  go_wp2
  go_loopw [5, 6] (fun ov iv wr => ∃ i zs, i ≤ ys.length ∧ iv = .int .i64 (i : Nat) ∧ RMulRel w wr xs ys i ov zs) (fun _ iv _ => ys.length - (intOf iv).toNat)
  case atStart => exact ⟨0, [], by omega, rfl, Own.nil _ _ _ _, Below.refl _ _, nrm_nil _, by simp [nv]⟩
  case round =>
    obtain ⟨i, zs, hi, rfl, ho, hb, hnz, hval⟩ := hrel
    have hzl := RMulRel.len hnz hval hx hy
    have HV := Lib.hid hval; clear hval
    obtain ⟨wo, rfl⟩ : ∃ wo : World, wo = wr := ⟨_, rfl⟩
    by_cases hlt : i < ys.length
    · obtain rfl := kcs.ao (by intro h0; subst h0; simp at hlt)
      obtain ⟨y, ey⟩ : ∃ y, y = ys.getD i 0 := ⟨_, rfl⟩
      have hyl : y < 65536 := by rw [ey]; exact wf_getD hy (by decide) i
      have hcyo := (kcs.below hb (Nat.le_refl _)).cell i hlt
      rw [← ey] at hcyo
      have EY := Lib.hid ey; clear ey
      go_wp2
      go_loopw [7, 8] (fun lv kv wr => ∃ k, k ≤ i ∧ kv = .int .i64 (k : Nat) ∧ LineRel wo wr lv (List.replicate k 0)) (fun _ kv _ => i - (intOf kv).toNat)
      case atStart => exact ⟨0, by omega, rfl, Own.nil _ _ _ _, Below.refl _ _⟩
      case round =>
        obtain ⟨k, hk, rfl, hol, hbl⟩ := hrel
        by_cases hki : k < i
        · go_wp2_with (at_builtin; refine wp_app1 .i64 25 3 8 Try.underlying25 (by kernel_rfl) (by decide) rfl _ _ rfl wr wo.heap.size _ (List.replicate k 0) 0 _ (by rfl) hol (by simp; omega) hbl.size rfl rfl ?_; intro v' w1 hown' hbel' hgr' _)
          go_roundw
          case rel => exact ⟨k + 1, by omega, by go_num, by rw [List.replicate_succ']; exact hown', hbl.trans hbel'⟩
          case measure => simp [intOf]; omega
        · obtain rfl : k = i := by omega
          go_wp2
          go_loopw [7, 9] (fun lv kv wr => ∃ j, j ≤ xs.length ∧ kv = .int .i64 (j : Nat) ∧ LineRel wo wr lv (lineOf k y (xs.take j))) (fun _ kv _ => xs.length - (intOf kv).toNat)
          case atStart => exact ⟨0, by omega, rfl, by simpa [lineOf] using hol, hbl⟩
          case round =>
            obtain ⟨j, hj, rfl, hol2, hbl2⟩ := hrel
            by_cases hjl : j < xs.length
            · obtain rfl := hcs.ao (by intro h0; subst h0; simp at hjl)
              obtain ⟨x, ex⟩ : ∃ x, x = xs.getD j 0 := ⟨_, rfl⟩
              have hxl : x < 65536 := by rw [ex]; exact wf_getD hx (by decide) j
              have hcx := ((hcs.below hb (Nat.le_refl _)).below hbl2 (Nat.le_refl _)).cell j hjl
              have hcy := ((kcs.below hb (Nat.le_refl _)).below hbl2 (Nat.le_refl _)).cell k hlt
              rw [← EY.out] at hcy
              rw [← ex] at hcx
              have EX := Lib.hid ex; clear ex
              have hb1 : b < wo.heap.size := by have := hcs.lt (by intro h0; subst h0; simp at hjl); have := hb.size; omega
              have hb2 : c < wo.heap.size := by have := kcs.lt (by intro h0; subst h0; simp at hlt); have := hb.size; omega
              have hprod : x * y ≤ 65535 * 65535 := Nat.mul_le_mul (by omega) (by omega)
              obtain ⟨p, ep⟩ : ∃ p, p = x * y := ⟨_, rfl⟩
              have hmul : IntKind.i64.wrap ((x : Int) * (y : Int)) = (p : Int) := by
                rw [ep, IntWalk.i64_in _ ⟨by omega, by omega⟩]
                simp
              have EP := Lib.hid ep; clear ep hprod
              have hlen : (lineOf k y (xs.take j)).length ≤ 2000000 := by rw [lineOf_len]; simp; omega
              obtain ⟨L, eL⟩ : ∃ L, L = lineOf k y (xs.take j) := ⟨_, rfl⟩
              rw [← eL] at hlen hol2
              have EL := Lib.hid eL; clear eL
              have j0 : (0 : Int) ≤ (j : Int) := Int.natCast_nonneg _
              have j1 : (j : Int) < (xs.length : Int) := by omega
              have k0 : (0 : Int) ≤ (k : Int) := Int.natCast_nonneg _
              have k1 : (k : Int) < (ys.length : Int) := by omega
              go_wp2
              go_region_held3 (fun w' => w'.cell? ⟨b, off + j, none⟩ = some (.int .i64 (x : Int)) ∧ w'.cell? ⟨c, pff + k, none⟩ = some (.int .i64 (y : Int))) (first | go_keep | (go_split_ands; exact ⟨(hbel1.cell (p := ⟨b, off + j, none⟩) hb1).trans (by assumption), (hbel1.cell (p := ⟨c, pff + k, none⟩) hb2).trans (by assumption)⟩))
                ((refine step_app1 .i64 25 3 8 Try.underlying25 (by kernel_rfl) (by decide) (by rfl) _ _ (by rfl) wr wo.heap.size _ L p _ (by rfl) hol2 (by omega) hbl2.size (by rfl) (by rfl) ?_; intro g cap1 w1 hown1 hbel1))
              have hs : L ++ [p] = lineOf k y (xs.take (j + 1)) := by
                rw [EL.out, EP.out, EX.out]; exact lineOf_snoc k y xs j hjl
              have HS := Lib.hid hs; clear hs
              go_wp2
              go_roundw
              case rel => exact ⟨j + 1, by omega, by go_num, by rw [← HS.out]; exact hown1, hbl2.trans hbel1⟩
              case measure => simp [intOf]; omega
            · obtain rfl : j = xs.length := by omega
              rw [List.take_length] at hol2
              have hlen : (lineOf k y xs).length = k + xs.length := lineOf_len _ _ _
              have hnvl := lineOf_nv k y xs
              have hwl := lineOf_wf k y xs hx hyl
              obtain ⟨L, eL⟩ : ∃ L, L = lineOf k y xs := ⟨_, rfl⟩
              rw [← eL] at hlen hol2 hnvl hwl
              have EL := Lib.hid eL; clear eL
              have HN := Lib.hid hnvl; clear hnvl
              have HLN := Lib.hid hlen; clear hlen
              have ho3 := ho.below hbl2 (Nat.le_refl _)
              go_wp2_with fail
              refine (ref_Carried _ L _ hol2.sl (by rw [HLN.out]; omega) hwl).mono ?_; rintro e w2 ⟨r, z, rfl, hr, nr, vr, lr, br⟩
              have VR := Lib.hid vr; clear vr
              have hzl2 : z.length ≤ 4000000 := by have := HLN.out; omega
              clear lr
              have ho4 := ho3.next br
              go_wp2_with fail
              refine (ref_Add _ r zs z _ ho4.sl hr.sl (by omega) (by omega) hnz.1 nr.1).mono ?_; rintro e w3 ⟨r2, z2, rfl, hr2, nr2, vr2, lr2, br2⟩
              have VR2 := Lib.hid vr2; clear vr2
              have hbw := (hb.trans (hbl2.mono hb.size)).trans (br.mono (Nat.le_trans hb.size hbl2.size))
              go_wp2
              go_roundw
              case rel =>
                refine ⟨k + 1, z2, by omega, by go_num, hr2.mono hbw.size, hbw.trans (br2.mono hbw.size), nr2, ?_⟩
                rw [VR2.out, VR.out, HN.out, HV.out, nv_take_succ', ← EY.out, Nat.mul_add]
                congr 1; simp [Nat.mul_left_comm, Nat.mul_comm, Nat.mul_assoc]
              case measure => simp [intOf]; omega
    · obtain rfl : i = ys.length := by omega
      go_wp2
      go_ret
      exact ⟨_, zs, rfl, ho, hnz, by rw [HV.out, List.take_length], hzl, hb⟩

end Go.Proofs.Ytnnidjhhcnmnnaa
