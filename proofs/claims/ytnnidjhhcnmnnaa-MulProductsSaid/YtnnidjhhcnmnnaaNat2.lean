/- More functions of package nat: Of, Norm, Cmp, Sub. -/
import Derived.Test.YtnnidjhhcnmnnaaNat
namespace Go.Proofs.Ytnnidjhhcnmnnaa
open Go.RowKit

set_option maxHeartbeats 400000 in
theorem nat_Of (x : Nat) (hx : x < W64) (w : World) : Calls Try.prog 33 #[.int .u64 x] w (RetN w 1 x) := by
  by_cases h0 : x = 0
  · subst h0
    go_enter Try.func33, Try.ntmps33
    go_wp2
    go_ret
    exact ⟨_, [], rfl, Own.nil _ _ _ _, nrm_nil _, rfl, by simp, Below.refl _ _⟩
  · have h1 : ((x : Int) == 0) = false := by simpa using h0
    go_enter Try.func33, Try.ntmps33
    go_wp2
    go_ret
    refine ⟨_, [x], rfl, ?_, ⟨wf_cons hx (wf_nil _), by simp [tr, h0]⟩, by simp [nv], by simp, (Below.refl _ _).alloc (Nat.le_refl _) _⟩
    exact World.ownsRow_lit w #[.int .u64 x] 1 (Nat.le_refl _) (by unfold maxLen; omega) rfl

set_option maxHeartbeats 400000 in
theorem slices_Clone (v : Value) (xs : List Nat) (w : World) (hv : Sl .u64 w v xs) (hm : xs.length ≤ 1000000000) :
    Calls Try.prog 55 #[v] w fun e w' => ∃ r, e = .returned r ∧ Own .u64 32 w' w.heap.size r xs ∧ Below w.heap.size w w' := by
  obtain ⟨ao, b, off, cap, rfl, hl, hcs⟩ := hv
  have heq := fun w => Lib.run_eql_slice_nil (P := Try.prog) w 23 32 ao xs.length cap 0 0 Try.underlying23
  cases ao with
  | none =>
    obtain rfl : xs = [] := by
      by_cases h : xs = []
      · exact h
      · have := hcs.ao h; simp at this
    simp only [List.length_nil] at heq
    go_enter Try.func55, Try.ntmps55
    go_wp2
    go_ret
    exact ⟨_, rfl, Own.nil _ _ _ _, Below.refl _ _⟩
  | some ad =>
    go_enter Try.func55, Try.ntmps55
    have hb0 : Below w.heap.size w (w.alloc (.cells #[] 32)) := (Below.refl _ _).alloc (Nat.le_refl _) _
    have hcs1 := hcs.below hb0 (Nat.le_refl _)
    have ho0 := Own.lit0 .u64 32 w w.heap.size (Nat.le_refl _)
    go_wp2_with (at_builtin; go_loud (refine wp_appS .u64 23 32 8 Try.underlying23 (by kernel_rfl) (by decide) rfl _ _ rfl _ w.heap.size _ [] xs ho0 (by simp; omega) (by simp) rfl ad b off cap rfl hcs1 ?_); intro v' w1 hown hbel hgr)
    go_ret
    exact ⟨_, rfl, hown, hb0.trans hbel⟩

theorem Own.of_nil {k : IntKind} {e : TypeId} {w : World} {base : Nat} {v : Value} {xs : List Nat} (h : Own k e w base v xs) (h0 : v = .slice none 0 0) : xs = [] := by
  rcases h.shape with ⟨_, h⟩ | ⟨g, cap, h, _⟩
  · exact h
  · rw [h0] at h; simp at h

/-- 'normal' of what is owned, nil or not. -/
theorem nat_normal_any (v : Value) (xs : List Nat) (w : World) (base : Nat) (ho : Own .u64 32 w base v xs) (hm : xs.length ≤ 1000000000) :
    Calls Try.prog 46 #[v] w fun e w' => ∃ r, e = .returned r ∧ Own .u64 32 w base r (tr xs) ∧ w = w' := by
  rcases ho.shape with ⟨rfl, rfl⟩ | ⟨g, cap, rfl, h1, h2, h3, h4⟩
  · exact (nat_normal none 0 0 0 [] w ⟨fun h => absurd rfl h, fun j hj => by simp at hj⟩ (by simp) (by simp)).mono fun e w' ⟨he, hw⟩ => ⟨_, he, Own.nil _ _ _ _, hw⟩
  · exact nat_normal_own g _ cap xs w base ho rfl h3 hm

set_option maxHeartbeats 400000 in
theorem nat_Norm (v : Value) (xs : List Nat) (w : World) (hv : Sl .u64 w v xs) (hm : xs.length ≤ 1000000000) (hx : wf W64 xs) :
    Calls Try.prog 31 #[v] w (RetN w xs.length (nv W64 xs)) := by
  obtain ⟨ao, b, off, cap, rfl, hl, hcs⟩ := hv
  have htl := tr_len xs
  have hs2 : Sl .u64 w (.slice ao (tr xs).length cap) (tr xs) := ⟨ao, b, off, cap, rfl, by omega, hcs.trim⟩
  go_enter Try.func31, Try.ntmps31
  go_wp2_with fail
  refine (nat_trim ao b off cap xs _ hcs hl (by omega)).mono ?_; rintro e w' ⟨rfl, rfl⟩
  go_wp2_with fail
  refine (slices_Clone _ (tr xs) _ hs2 (by omega)).mono ?_; rintro e w1 ⟨r, rfl, hr, hb⟩
  go_wp2_with fail
  refine (nat_normal_any r (tr xs) _ _ hr (by omega)).mono ?_; rintro e w2 ⟨r', rfl, hr', rfl⟩
  go_wp2
  go_ret
  exact ⟨_, _, rfl, hr', nrm_tr (wf_tr hx), by rw [nv_tr, nv_tr], by have := tr_len (tr xs); omega, hb⟩

/-- The order of numbers. -/
def cmpN (a b : Nat) : Int := if a < b then -1 else if b < a then 1 else 0
theorem cmpN_lt {a b : Nat} (h : a < b) : cmpN a b = -1 := by unfold cmpN; rw [if_pos h]
theorem cmpN_gt {a b : Nat} (h : b < a) : cmpN a b = 1 := by unfold cmpN; rw [if_neg (by omega), if_pos h]
theorem cmpN_eq {a b : Nat} (h : a = b) : cmpN a b = 0 := by unfold cmpN; rw [if_neg (by omega), if_neg (by omega)]

theorem ret_i64 {a b : Int} (h : a = b) : Ending.returned (.int .i64 a) = Ending.returned (.int .i64 b) := by rw [h]

set_option maxHeartbeats 800000 in
theorem nat_Cmp (v u : Value) (xs ys : List Nat) (w : World) (hv : Sl .u64 w v xs) (hu : Sl .u64 w u ys) (hm : xs.length ≤ 1000000000) (hn : ys.length ≤ 1000000000) (hx : wf W64 xs) (hy : wf W64 ys) :
    Calls Try.prog 29 #[v, u] w (RetQ w (.int .i64 (cmpN (nv W64 xs) (nv W64 ys)))) := by
  obtain ⟨ao, b, off, cap, rfl, hl, hcs⟩ := hv
  obtain ⟨bo, c, pff, dap, rfl, kl, kcs⟩ := hu
  have hlx := tr_len xs
  have hly := tr_len ys
  obtain ⟨X, eX⟩ : ∃ X, X = tr xs := ⟨_, rfl⟩
  obtain ⟨Y, eY⟩ : ∃ Y, Y = tr ys := ⟨_, rfl⟩
  have nX : Nrm W64 X := by rw [eX]; exact nrm_tr hx
  have nY : Nrm W64 Y := by rw [eY]; exact nrm_tr hy
  have hX : Cs .u64 w ao b off X := by rw [eX]; exact hcs.trim
  have hY : Cs .u64 w bo c pff Y := by rw [eY]; exact kcs.trim
  have e1 : nv W64 xs = nv W64 X := by rw [eX, nv_tr]
  have e2 : nv W64 ys = nv W64 Y := by rw [eY, nv_tr]
  rw [e1, e2]
  have c1 := nat_trim ao b off cap xs w hcs hl (by omega)
  have c2 := nat_trim bo c pff dap ys w kcs kl (by omega)
  rw [← eX] at c1 hlx
  rw [← eY] at c2 hly
  have C1 := Lib.hid c1
  have C2 := Lib.hid c2
  clear c1 c2 e1 e2 eX eY hcs kcs
  rcases Nat.lt_trichotomy X.length Y.length with hlen | hlen | hlen
  · have hf : cmpN (nv W64 X) (nv W64 Y) = -1 := cmpN_lt (nrm_lt_len (by decide) nX nY hlen)
    rw [hf]; clear hf
    have hne : (((X.length : Nat) : Int) != (Y.length : Nat)) = true := by simp; omega
    go_enter Try.func29, Try.ntmps29
    go_wp2_with (first | (go_at_call_of 45 (Value.slice ao xs.length cap); refine C1.out.mono ?_; rintro e w' ⟨rfl, rfl⟩) | (go_at_call_of 45 (Value.slice bo ys.length dap); refine C2.out.mono ?_; rintro e w' ⟨rfl, rfl⟩))
    go_ret
    exact ⟨rfl, Drawn.refl _⟩
  · have hne : (((X.length : Nat) : Int) != (Y.length : Nat)) = false := by simp [hlen]
    have HL := Lib.hid hlen
    have hl1 : X.length ≤ Y.length := by omega
    have hl2 : Y.length ≤ X.length := by omega
    clear hlen
    go_enter Try.func29, Try.ntmps29
    go_wp2_with (first | (go_at_call_of 45 (Value.slice ao xs.length cap); refine C1.out.mono ?_; rintro e w' ⟨rfl, rfl⟩) | (go_at_call_of 45 (Value.slice bo ys.length dap); refine C2.out.mono ?_; rintro e w' ⟨rfl, rfl⟩))
    go_loopw [5] (fun i wr => ∃ k : Nat, k ≤ X.length ∧ i = .int .i64 ((k : Int) - 1) ∧ Drawn w wr ∧ X.drop k = Y.drop k) (fun i _ => (intOf i + 1).toNat)
    case atStart => exact ⟨X.length, Nat.le_refl _, rfl, Drawn.refl _, by rw [List.drop_length, HL.out, List.drop_length]⟩
    case round =>
      obtain ⟨k, hk, rfl, hq, hd⟩ := hrel
      have HD := Lib.hid hd; clear hd
      by_cases h0 : 0 < k
      · obtain rfl := hX.ao (by intro h; subst h; simp at hk; omega)
        obtain rfl := hY.ao (by intro h; subst h; simp at hl1; simp [hl1] at hk; omega)
        have hcx := (hX.drawn hq).cell (k - 1) (by omega)
        have hcy := (hY.drawn hq).cell (k - 1) (by omega)
        obtain ⟨x, ex⟩ : ∃ x, x = X.getD (k - 1) 0 := ⟨_, rfl⟩
        obtain ⟨y, ey⟩ : ∃ y, y = Y.getD (k - 1) 0 := ⟨_, rfl⟩
        rw [← ex] at hcx
        rw [← ey] at hcy
        have EX := Lib.hid ex; clear ex
        have EY := Lib.hid ey; clear ey
        have hlk : k - 1 < X.length := by omega
        have hdk : X.drop (k - 1) = x :: X.drop k := by
          have := List.drop_eq_getElem_cons hlk
          rw [this, EX.out, getD_lt X _ hlk, Nat.sub_add_cancel h0]
        have hdk2 : Y.drop (k - 1) = y :: Y.drop k := by
          have hlk2 : k - 1 < Y.length := by omega
          have := List.drop_eq_getElem_cons hlk2
          rw [this, EY.out, getD_lt Y _ hlk2, Nat.sub_add_cancel h0]
        have HDX := Lib.hid hdk; clear hdk
        have HDY := Lib.hid hdk2; clear hdk2
        have hkk : k - 1 + 1 = k := by omega
        have HKK := Lib.hid hkk; clear hkk
        rcases Nat.lt_trichotomy x y with hxy | hxy | hxy
        · have hf : cmpN (nv W64 X) (nv W64 Y) = -1 := cmpN_lt (nv_cmp_of X Y (k - 1) nX.1 HL.out hlk (by rw [HKK.out]; exact HD.out) (by rw [← EX.out, ← EY.out]; exact hxy))
          have HF := Lib.hid hf; clear hf
          go_wp2
          go_quiet (fail)
          go_wp2
          go_ret
          exact ⟨ret_i64 HF.out.symm, hq.add nq⟩
        · have HXY := Lib.hid hxy
          subst hxy
          go_wp2
          go_quiet (fail)
          go_wp2
          have hq2 := hq.add nq
          have hcx2 : (wr.drewN nq).cell? _ = _ := hcx
          have hcy2 : (wr.drewN nq).cell? _ = _ := hcy
          clear hcx hcy hq
          generalize wr.drewN nq = w2 at *
          go_quiet (fail)
          go_wp2
          go_roundw
          case rel => exact ⟨k - 1, by omega, by go_num, hq2.add _, by rw [HDX.out, HDY.out, HD.out]⟩
          case measure => simp [intOf]; omega
        · have hf : cmpN (nv W64 X) (nv W64 Y) = 1 := cmpN_gt (nv_cmp_of Y X (k - 1) nY.1 HL.out.symm (by omega) (by rw [HKK.out]; exact HD.out.symm) (by rw [← EX.out, ← EY.out]; exact hxy))
          have HF := Lib.hid hf; clear hf
          go_wp2
          go_quiet (fail)
          go_wp2
          have hq2 := hq.add nq
          have hcx2 : (wr.drewN nq).cell? _ = _ := hcx
          have hcy2 : (wr.drewN nq).cell? _ = _ := hcy
          clear hcx hcy hq
          generalize wr.drewN nq = w2 at *
          go_quiet (fail)
          go_wp2
          go_ret
          exact ⟨ret_i64 HF.out.symm, hq2.add _⟩
      · obtain rfl : k = 0 := by omega
        have hf : cmpN (nv W64 X) (nv W64 Y) = 0 := cmpN_eq (by have := HD.out; simp at this; rw [this])
        have HF := Lib.hid hf; clear hf
        go_wp2
        go_ret
        exact ⟨ret_i64 HF.out.symm, hq⟩
  · have hf : cmpN (nv W64 X) (nv W64 Y) = 1 := cmpN_gt (nrm_lt_len (by decide) nY nX hlen)
    rw [hf]; clear hf
    have hne : (((X.length : Nat) : Int) != (Y.length : Nat)) = true := by simp; omega
    go_enter Try.func29, Try.ntmps29
    go_wp2_with (first | (go_at_call_of 45 (Value.slice ao xs.length cap); refine C1.out.mono ?_; rintro e w' ⟨rfl, rfl⟩) | (go_at_call_of 45 (Value.slice bo ys.length dap); refine C2.out.mono ?_; rintro e w' ⟨rfl, rfl⟩))
    go_ret
    exact ⟨rfl, Drawn.refl _⟩

end Go.Proofs.Ytnnidjhhcnmnnaa
