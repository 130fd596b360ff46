/- The references of layer 1: Add, Cmp, Sub. -/
import Derived.Test.YtnnidjhhcnmnnaaRef1
namespace Go.Proofs.Ytnnidjhhcnmnnaa
open Go.RowKit

/-- Where the loop of Add stands. -/
def RAddRel (w wr : World) (xs ys : List Nat) (i : Nat) (v : Value) (zs : List Nat) : Prop :=
  Own .i64 3 wr w.heap.size v zs ∧ Below w.heap.size w wr ∧ zs.length = i ∧ (i ≤ xs.length ∨ i ≤ ys.length) ∧ wf 1099511627776 zs ∧ nv D16 zs = nv D16 (xs.take i) + nv D16 (ys.take i)

theorem RAddRel.arith {xs ys zs : List Nat} {i x y : Nat} (hl : zs.length = i) (hw : wf 1099511627776 zs) (hv : nv D16 zs = nv D16 (xs.take i) + nv D16 (ys.take i)) (hx : x = xs.getD i 0) (hy : y = ys.getD i 0) (wx : wf D16 xs) (wy : wf D16 ys) :
    (zs ++ [x + y]).length = i + 1 ∧ wf 1099511627776 (zs ++ [x + y]) ∧ nv D16 (zs ++ [x + y]) = nv D16 (xs.take (i + 1)) + nv D16 (ys.take (i + 1)) := by
  have h1 : x < D16 := by rw [hx]; exact wf_getD wx (by decide) i
  have h2 : y < D16 := by rw [hy]; exact wf_getD wy (by decide) i
  refine ⟨by simp [hl], wf_append hw (wf_cons (by unfold D16 at *; omega) (wf_nil _)), ?_⟩
  rw [nv_snoc, hl, hv, nv_take_succ', nv_take_succ', ← hx, ← hy, Nat.mul_add]; omega

set_option maxHeartbeats 1000000 in
theorem ref_Add (v u : Value) (xs ys : List Nat) (w : World) (hv : Sl .i64 w v xs) (hu : Sl .i64 w u ys) (hm : xs.length ≤ 40000000) (hn : ys.length ≤ 40000000) (hx : wf D16 xs) (hy : wf D16 ys) :
    Calls Try.prog 26 #[v, u] w (RetD w (xs.length + ys.length + 3) (nv D16 xs + nv D16 ys)) := by
  obtain ⟨ao, b, off, cap, rfl, hl, hcs⟩ := hv
  obtain ⟨bo, c, pff, dap, rfl, kl, kcs⟩ := hu
  go_enter Try.func26, Try.ntmps26
  go_wp2
  go_loopw [5, 6] (fun ov iv wr => ∃ i zs, iv = .int .i64 (i : Nat) ∧ RAddRel w wr xs ys i ov zs) (fun _ iv _ => xs.length + ys.length - (intOf iv).toNat)
  case atStart => exact ⟨0, [], rfl, Own.nil _ _ _ _, Below.refl _ _, rfl, by omega, wf_nil _, by simp [nv]⟩
  case round =>
    obtain ⟨i, zs, rfl, ho, hb, hzl, hi, hwz, hval⟩ := hrel
    obtain ⟨x, ex⟩ : ∃ x, x = xs.getD i 0 := ⟨_, rfl⟩
    obtain ⟨y, ey⟩ : ∃ y, y = ys.getD i 0 := ⟨_, rfl⟩
    have hxl : x < 65536 := by rw [ex]; exact wf_getD hx (by decide) i
    have hyl : y < 65536 := by rw [ey]; exact wf_getD hy (by decide) i
    have a1 := ref_at (.slice ao xs.length cap) xs i wr ⟨ao, b, off, cap, rfl, hl, hcs.below hb (Nat.le_refl _)⟩
    have a2 := ref_at (.slice bo ys.length dap) ys i wr ⟨bo, c, pff, dap, rfl, kl, kcs.below hb (Nat.le_refl _)⟩
    rw [← ex] at a1
    rw [← ey] at a2
    have A1 := Lib.hid a1
    have A2 := Lib.hid a2
    clear a1 a2
    have HV := Lib.hid hval; clear hval
    have HL := Lib.hid hzl; clear hzl
    have EX := Lib.hid ex; clear ex
    have EY := Lib.hid ey; clear ey
    have AR := RAddRel.arith HL.out hwz HV.out EX.out EY.out hx hy
    have HAR := Lib.hid AR; clear AR
    by_cases h1 : i < xs.length
    · have hi2 : i + 1 ≤ xs.length ∨ i + 1 ≤ ys.length := by omega
      have HI := Lib.hid hi2; clear hi2 hi
      go_wp2_with fail
      refine A1.out.mono ?_; rintro e w' ⟨rfl, rfl⟩
      go_wp2_with fail
      refine A2.out.mono ?_; rintro e w' ⟨rfl, rfl⟩
      go_wp2_with (at_builtin; refine wp_app1 .i64 25 3 8 Try.underlying25 (by kernel_rfl) (by decide) rfl _ _ rfl wr w.heap.size _ zs (x + y) _ (by omega) ho (by rw [HL.out]; omega) hb.size rfl rfl ?_; intro v' w1 hown' hbel' hgr' _)
      go_roundw
      case rel => exact ⟨i + 1, zs ++ [x + y], by go_num, hown', hb.trans hbel', HAR.out.1, HI.out, HAR.out.2.1, HAR.out.2.2⟩
      case measure => simp [intOf]; omega
    · by_cases h2 : i < ys.length
      · have hi2 : i + 1 ≤ xs.length ∨ i + 1 ≤ ys.length := by omega
        have HI := Lib.hid hi2; clear hi2 hi
        go_wp2_with fail
        refine A1.out.mono ?_; rintro e w' ⟨rfl, rfl⟩
        go_wp2_with fail
        refine A2.out.mono ?_; rintro e w' ⟨rfl, rfl⟩
        go_wp2_with (at_builtin; refine wp_app1 .i64 25 3 8 Try.underlying25 (by kernel_rfl) (by decide) rfl _ _ rfl wr w.heap.size _ zs (x + y) _ (by omega) ho (by rw [HL.out]; omega) hb.size rfl rfl ?_; intro v' w1 hown' hbel' hgr' _)
        go_roundw
        case rel => exact ⟨i + 1, zs ++ [x + y], by go_num, hown', hb.trans hbel', HAR.out.1, HI.out, HAR.out.2.1, HAR.out.2.2⟩
        case measure => simp [intOf]; omega
      · have hz1 : zs.length ≤ xs.length + ys.length := by rw [HL.out]; omega
        have HZ := Lib.hid hz1; clear hz1 hi
        go_wp2_with (go_at_call 50; refine (ref_Carried _ zs _ ho.sl (by have := HZ.out; omega) hwz).mono ?_; rintro e w' ⟨r, zz, rfl, hr, nr, vr, lr, br⟩)
        go_ret
        refine ⟨_, zz, rfl, hr.mono hb.size, nr, ?_, by have := HZ.out; omega, hb.trans (br.mono hb.size)⟩
        rw [vr, HV.out, List.take_of_length_le (by omega), List.take_of_length_le (by omega)]

set_option maxHeartbeats 800000 in
theorem ref_Cmp (v u : Value) (xs ys : List Nat) (w : World) (hv : Sl .i64 w v xs) (hu : Sl .i64 w u ys) (hm : xs.length ≤ 1000000000) (hn : ys.length ≤ 1000000000) (hx : wf D16 xs) (hy : wf D16 ys) :
    Calls Try.prog 27 #[v, u] w (RetQ w (.int .i64 (cmpN (nv D16 xs) (nv D16 ys)))) := by
  obtain ⟨ao, b, off, cap, rfl, hl, hcs⟩ := hv
  obtain ⟨bo, c, pff, dap, rfl, kl, kcs⟩ := hu
  have hlx := tr_len xs
  have hly := tr_len ys
  obtain ⟨X, eX⟩ : ∃ X, X = tr xs := ⟨_, rfl⟩
  obtain ⟨Y, eY⟩ : ∃ Y, Y = tr ys := ⟨_, rfl⟩
  have nX : Nrm D16 X := by rw [eX]; exact nrm_tr hx
  have nY : Nrm D16 Y := by rw [eY]; exact nrm_tr hy
  have hX : Cs .i64 w ao b off X := by rw [eX]; exact hcs.trim
  have hY : Cs .i64 w bo c pff Y := by rw [eY]; exact kcs.trim
  have e1 : nv D16 xs = nv D16 X := by rw [eX, nv_tr]
  have e2 : nv D16 ys = nv D16 Y := by rw [eY, nv_tr]
  rw [e1, e2]
  have c1 := ref_Trim ao b off cap xs w hcs hl (by omega)
  have c2 := ref_Trim bo c pff dap ys w kcs kl (by omega)
  rw [← eX] at c1 hlx
  rw [← eY] at c2 hly
  have C1 := Lib.hid c1
  have C2 := Lib.hid c2
  clear c1 c2 e1 e2 eX eY hcs kcs
  rcases Nat.lt_trichotomy X.length Y.length with hlen | hlen | hlen
  · have hf : cmpN (nv D16 X) (nv D16 Y) = -1 := cmpN_lt (nrm_lt_len (by decide) nX nY hlen)
    rw [hf]; clear hf
    have hne : (((X.length : Nat) : Int) != (Y.length : Nat)) = true := by simp; omega
    go_enter Try.func27, Try.ntmps27
    go_wp2_with (first | (go_at_call_of 44 (Value.slice ao xs.length cap); refine C1.out.mono ?_; rintro e w' ⟨rfl, rfl⟩) | (go_at_call_of 44 (Value.slice bo ys.length dap); refine C2.out.mono ?_; rintro e w' ⟨rfl, rfl⟩))
    go_ret
    exact ⟨rfl, Drawn.refl _⟩
  · have hne : (((X.length : Nat) : Int) != (Y.length : Nat)) = false := by simp [hlen]
    have HL := Lib.hid hlen
    have hl1 : X.length ≤ Y.length := by omega
    have hl2 : Y.length ≤ X.length := by omega
    clear hlen
    go_enter Try.func27, Try.ntmps27
    go_wp2_with (first | (go_at_call_of 44 (Value.slice ao xs.length cap); refine C1.out.mono ?_; rintro e w' ⟨rfl, rfl⟩) | (go_at_call_of 44 (Value.slice bo ys.length dap); refine C2.out.mono ?_; rintro e w' ⟨rfl, rfl⟩))
    go_loopw [7] (fun i wr => ∃ k : Nat, k ≤ X.length ∧ i = .int .i64 ((k : Int) - 1) ∧ Drawn w wr ∧ X.drop k = Y.drop k) (fun i _ => (intOf i + 1).toNat)
    case atStart => exact ⟨X.length, Nat.le_refl _, rfl, Drawn.refl _, by rw [List.drop_length, HL.out, List.drop_length]⟩
    case round =>
      obtain ⟨k, hk, rfl, hq, hd⟩ := hrel
      have HD := Lib.hid hd; clear hd
      by_cases h0 : 0 < k
      · obtain rfl := hX.ao (by intro h; subst h; simp at hk; omega)
        obtain rfl := hY.ao (by intro h; subst h; simp at hl1; simp [hl1] at hk; omega)
        have hcx := (hX.drawn hq).cell (k - 1) (by omega)
        have hcy := (hY.drawn hq).cell (k - 1) (by omega)
        obtain ⟨x, ex⟩ : ∃ x, x = X.getD (k - 1) 0 := ⟨_, rfl⟩
        obtain ⟨y, ey⟩ : ∃ y, y = Y.getD (k - 1) 0 := ⟨_, rfl⟩
        rw [← ex] at hcx
        rw [← ey] at hcy
        have EX := Lib.hid ex; clear ex
        have EY := Lib.hid ey; clear ey
        have hlk : k - 1 < X.length := by omega
        have hdk : X.drop (k - 1) = x :: X.drop k := by
          have := List.drop_eq_getElem_cons hlk
          rw [this, EX.out, getD_lt X _ hlk, Nat.sub_add_cancel h0]
        have hdk2 : Y.drop (k - 1) = y :: Y.drop k := by
          have hlk2 : k - 1 < Y.length := by omega
          have := List.drop_eq_getElem_cons hlk2
          rw [this, EY.out, getD_lt Y _ hlk2, Nat.sub_add_cancel h0]
        have HDX := Lib.hid hdk; clear hdk
        have HDY := Lib.hid hdk2; clear hdk2
        have hkk : k - 1 + 1 = k := by omega
        have HKK := Lib.hid hkk; clear hkk
        rcases Nat.lt_trichotomy x y with hxy | hxy | hxy
        · have hf : cmpN (nv D16 X) (nv D16 Y) = -1 := cmpN_lt (nv_cmp_of X Y (k - 1) nX.1 HL.out hlk (by rw [HKK.out]; exact HD.out) (by rw [← EX.out, ← EY.out]; exact hxy))
          have HF := Lib.hid hf; clear hf
          go_wp2
          go_quiet (fail)
          go_wp2
          go_ret
          exact ⟨ret_i64 HF.out.symm, hq.add nq⟩
        · have HXY := Lib.hid hxy
          subst hxy
          go_wp2
          go_quiet (fail)
          go_wp2
          have hq2 := hq.add nq
          have hcx2 : (wr.drewN nq).cell? _ = _ := hcx
          have hcy2 : (wr.drewN nq).cell? _ = _ := hcy
          clear hcx hcy hq
          generalize wr.drewN nq = w2 at *
          go_quiet (fail)
          go_wp2
          go_roundw
          case rel => exact ⟨k - 1, by omega, by go_num, hq2.add _, by rw [HDX.out, HDY.out, HD.out]⟩
          case measure => simp [intOf]; omega
        · have hf : cmpN (nv D16 X) (nv D16 Y) = 1 := cmpN_gt (nv_cmp_of Y X (k - 1) nY.1 HL.out.symm (by omega) (by rw [HKK.out]; exact HD.out.symm) (by rw [← EX.out, ← EY.out]; exact hxy))
          have HF := Lib.hid hf; clear hf
          go_wp2
          go_quiet (fail)
          go_wp2
          have hq2 := hq.add nq
          have hcx2 : (wr.drewN nq).cell? _ = _ := hcx
          have hcy2 : (wr.drewN nq).cell? _ = _ := hcy
          clear hcx hcy hq
          generalize wr.drewN nq = w2 at *
          go_quiet (fail)
          go_wp2
          go_ret
          exact ⟨ret_i64 HF.out.symm, hq2.add _⟩
      · obtain rfl : k = 0 := by omega
        have hf : cmpN (nv D16 X) (nv D16 Y) = 0 := cmpN_eq (by have := HD.out; simp at this; rw [this])
        have HF := Lib.hid hf; clear hf
        go_wp2
        go_ret
        exact ⟨ret_i64 HF.out.symm, hq⟩
  · have hf : cmpN (nv D16 X) (nv D16 Y) = 1 := cmpN_gt (nrm_lt_len (by decide) nY nX hlen)
    rw [hf]; clear hf
    have hne : (((X.length : Nat) : Int) != (Y.length : Nat)) = true := by simp; omega
    go_enter Try.func27, Try.ntmps27
    go_wp2_with (first | (go_at_call_of 44 (Value.slice ao xs.length cap); refine C1.out.mono ?_; rintro e w' ⟨rfl, rfl⟩) | (go_at_call_of 44 (Value.slice bo ys.length dap); refine C2.out.mono ?_; rintro e w' ⟨rfl, rfl⟩))
    go_ret
    exact ⟨rfl, Drawn.refl _⟩

/-- Where the loop of Sub stands. -/
def RSubRel (w wr : World) (xs ys : List Nat) (i c : Nat) (v : Value) (zs : List Nat) : Prop :=
  Own .i64 3 wr w.heap.size v zs ∧ Below w.heap.size w wr ∧ zs.length = i ∧ i ≤ xs.length ∧ c ≤ 1 ∧ wf D16 zs ∧ nv D16 (xs.take i) + D16 ^ i * c = nv D16 zs + nv D16 (ys.take i)

theorem RSubRel.arith {xs ys zs : List Nat} {i c x y z c2 : Nat} (hl : zs.length = i) (hw : wf D16 zs) (hv : nv D16 (xs.take i) + D16 ^ i * c = nv D16 zs + nv D16 (ys.take i)) (hx : x = xs.getD i 0) (hy : y = ys.getD i 0)
    (hz : z < D16) (he : x + D16 * c2 = z + y + c) :
    (zs ++ [z]).length = i + 1 ∧ wf D16 (zs ++ [z]) ∧ nv D16 (xs.take (i + 1)) + D16 ^ (i + 1) * c2 = nv D16 (zs ++ [z]) + nv D16 (ys.take (i + 1)) := by
  refine ⟨by simp [hl], wf_append hw (wf_cons hz (wf_nil _)), ?_⟩
  rw [nv_snoc, hl, nv_take_succ', nv_take_succ', ← hx, ← hy, Nat.pow_succ, Nat.mul_assoc]
  have h1 : D16 ^ i * (x + D16 * c2) = D16 ^ i * (z + y + c) := by rw [he]
  simp only [Nat.mul_add] at h1
  omega

set_option maxHeartbeats 1000000 in
theorem ref_Sub (v u : Value) (xs ys : List Nat) (w : World) (hv : Sl .i64 w v xs) (hu : Sl .i64 w u ys) (hm : xs.length ≤ 40000000) (hx : wf D16 xs) (hy : Nrm D16 ys) (hge : nv D16 ys ≤ nv D16 xs) :
    Calls Try.prog 32 #[v, u] w (RetD w xs.length (nv D16 xs - nv D16 ys)) := by
  have hly : ys.length ≤ xs.length := nrm_len_le (by decide) hy (Nat.lt_of_le_of_lt hge (nv_lt xs hx))
  obtain ⟨ao, b, off, cap, rfl, hl, hcs⟩ := hv
  obtain ⟨bo, c, pff, dap, rfl, kl, kcs⟩ := hu
  go_enter Try.func32, Try.ntmps32
  go_wp2
  go_loopw [5, 6, 7] (fun ov cv iv wr => ∃ i c zs, iv = .int .i64 (i : Nat) ∧ cv = .int .i64 (c : Nat) ∧ RSubRel w wr xs ys i c ov zs) (fun _ _ iv _ => xs.length - (intOf iv).toNat)
  case atStart => exact ⟨0, 0, [], rfl, rfl, Own.nil _ _ _ _, Below.refl _ _, rfl, by omega, by omega, wf_nil _, by simp [nv]⟩
  case round =>
    obtain ⟨i, c, zs, rfl, rfl, ho, hb, hzl, hi, hc1, hwz, hval⟩ := hrel
    have HV := Lib.hid hval; clear hval
    have HL := Lib.hid hzl; clear hzl
    by_cases hlt : i < xs.length
    · obtain rfl := hcs.ao (by intro h0; subst h0; simp at hlt)
      obtain ⟨x, ex⟩ : ∃ x, x = xs.getD i 0 := ⟨_, rfl⟩
      obtain ⟨y, ey⟩ : ∃ y, y = ys.getD i 0 := ⟨_, rfl⟩
      have hxl : x < 65536 := by rw [ex]; exact wf_getD hx (by decide) i
      have hyl : y < 65536 := by rw [ey]; exact wf_getD hy.1 (by decide) i
      have hcx := (hcs.below hb (Nat.le_refl _)).cell i hlt
      have a2 := fun n => ref_at (.slice bo ys.length dap) ys i (wr.drewN n) (Sl.drawn ⟨bo, _, pff, dap, rfl, kl, kcs.below hb (Nat.le_refl _)⟩ ⟨n, rfl⟩)
      rw [← ex] at hcx
      rw [← ey] at a2
      have A2 := Lib.hid a2
      clear a2
      have EX := Lib.hid ex; clear ex
      have EY := Lib.hid ey; clear ey
      by_cases hneg : (x : Int) - y - c < 0
      · have he : x + D16 * 1 = (x + 65536 - y - c) + y + c := by unfold D16; omega
        have AR := RSubRel.arith HL.out hwz HV.out EX.out EY.out (by unfold D16; omega) he
        have HAR := Lib.hid AR; clear AR he
        go_wp2
        go_quiet ((go_at_call 53; exact quiet_left (A2.out _)))
        have ho2 := ho.drawn ⟨nq, rfl⟩
        have hb2 := hb.trans (Drawn.below ⟨nq, rfl⟩ _)
        clear ho hb hcx A2
        generalize wr.drewN nq = w2 at *
        go_wp2_with (at_builtin; refine wp_app1 .i64 25 3 8 Try.underlying25 (by kernel_rfl) (by decide) rfl _ _ rfl w2 w.heap.size _ zs (x + 65536 - y - c) _ (by omega) ho2 (by rw [HL.out]; omega) hb2.size rfl rfl ?_; intro v' w1 hown' hbel' hgr' _)
        go_roundw
        case rel => exact ⟨i + 1, 1, zs ++ [x + 65536 - y - c], by go_num, by go_num, hown', hb2.trans hbel', HAR.out.1, by omega, by omega, HAR.out.2.1, HAR.out.2.2⟩
        case measure => simp [intOf]; omega
      · have he : x + D16 * 0 = (x - y - c) + y + c := by omega
        have AR := RSubRel.arith HL.out hwz HV.out EX.out EY.out (by unfold D16; omega) he
        have HAR := Lib.hid AR; clear AR he
        go_wp2
        go_quiet ((go_at_call 53; exact quiet_left (A2.out _)))
        have ho2 := ho.drawn ⟨nq, rfl⟩
        have hb2 := hb.trans (Drawn.below ⟨nq, rfl⟩ _)
        clear ho hb hcx A2
        generalize wr.drewN nq = w2 at *
        go_wp2_with (at_builtin; refine wp_app1 .i64 25 3 8 Try.underlying25 (by kernel_rfl) (by decide) rfl _ _ rfl w2 w.heap.size _ zs (x - y - c) _ (by omega) ho2 (by rw [HL.out]; omega) hb2.size rfl rfl ?_; intro v' w1 hown' hbel' hgr' _)
        go_roundw
        case rel => exact ⟨i + 1, 0, zs ++ [x - y - c], by go_num, by go_num, hown', hb2.trans hbel', HAR.out.1, by omega, by omega, HAR.out.2.1, HAR.out.2.2⟩
        case measure => simp [intOf]; omega
    · obtain rfl : i = xs.length := by omega
      go_wp2_with (go_at_call 44; refine (ref_Trim_own _ _ _ _ ho (by rw [HL.out]; omega)).mono ?_; rintro e w' ⟨r, rfl, hr, rfl⟩)
      go_ret
      have e1 := HV.out
      rw [List.take_length, List.take_of_length_le hly] at e1
      have h2 := nv_lt zs hwz
      rw [HL.out] at h2
      have hc0 : c = 0 := by
        have : c = 0 ∨ c = 1 := by omega
        rcases this with h | h
        · exact h
        · subst h; omega
      subst hc0
      exact ⟨_, tr zs, rfl, hr, nrm_tr hwz, by rw [nv_tr]; omega, by have := tr_len zs; rw [HL.out] at this; omega, hb⟩

end Go.Proofs.Ytnnidjhhcnmnnaa
