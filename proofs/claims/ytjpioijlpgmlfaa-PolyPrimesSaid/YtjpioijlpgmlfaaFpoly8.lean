/- Package fpoly: PowMod; the statements' divides. -/
import Derived.Test.YtjpioijlpgmlfaaFpoly7
namespace Go.Proofs.Ytjpioijlpgmlfaa
open Go.RowKit

def Cg {p : Nat} (m f g : Pol (Zp p)) : Prop := Dv m (f - g)

theorem Cg.refl {p : Nat} (m f : Pol (Zp p)) : Cg m f f := ⟨0, by rw [CR.sub_self, CR.mul_zero]⟩
theorem Cg.symm {p : Nat} {m f g : Pol (Zp p)} (h : Cg m f g) : Cg m g f := by
  obtain ⟨c, hc⟩ := h
  exact ⟨-c, by rw [CR.mul_neg, ← hc]; exact by_ring [f, g] (X1 - X0) (-(X0 - X1)) rfl⟩
theorem Cg.trans {p : Nat} {m f g h : Pol (Zp p)} (a : Cg m f g) (b : Cg m g h) : Cg m f h := by
  have := Dv.add a b
  rwa [show f - g + (g - h) = f - h from by_ring [f, g, h] (X0 - X1 + (X1 - X2)) (X0 - X2) rfl] at this
theorem Cg.mul {p : Nat} {m f g f' g' : Pol (Zp p)} (a : Cg m f g) (b : Cg m f' g') : Cg m (f * f') (g * g') := by
  have := (Dv.mul a f').add (Dv.mul b g)
  rwa [show f' * (f - g) + g * (f' - g') = f * f' - g * g' from by_ring [f, g, f', g'] (X2 * (X0 - X1) + X1 * (X2 - X3)) (X0 * X2 - X1 * X3) rfl] at this
theorem Cg.of_rem {p : Nat} {m f r q : Pol (Zp p)} (h : f = q * m + r) : Cg m r f := by
  refine Cg.symm ⟨q, ?_⟩
  rw [h]; exact by_ring [q, m, r] (X0 * X1 + X2 - X2) (X1 * X0) rfl
theorem Cg.pw {p : Nat} {m f g : Pol (Zp p)} (h : Cg m f g) (n : Nat) : Cg m (pw f n) (pw g n) := by
  induction n with
  | zero => exact Cg.refl _ _
  | succ n ih => rw [pw_succ, pw_succ]; exact ih.mul h
/-- Of each class there is one rest. -/
theorem Cg.unique {p : Nat} (ht : Trial p) {m r r' : Pol (Zp p)} {n : Nat} (hm : Ln m (n + 1)) (hr : r.dlt n) (hr' : r'.dlt n) (h : Cg m r r') : r = r' := by
  obtain ⟨c, hc⟩ := h
  have : r = c * m + r' := by
    rw [CR.mul_comm c, ← hc]; exact by_ring [r, r'] X0 (X0 - X1 + X1) rfl
  exact (div_unique ht (q := 0) (q' := c) hm hr hr' (by rw [← this]; exact by_ring [m, r] (0 * X0 + X1) X1 rfl)).2

/-- A power's rest is returned. -/
def RetPow (p : Nat) (w : World) (xs ms : List Nat) (n : Nat) (e : Ending) (w' : World) : Prop :=
  ∃ r zs, e = .returned (.tuple #[r, .bool true]) ∧ Own .u64 26 w' w.heap.size r zs ∧ Nrm p zs ∧ Cg (pl p ms) (pl p zs) (pw (pl p xs) n) ∧ zs.length < (nl p ms).length ∧ Below w.heap.size w w'

structure PowRel (p : Nat) (w wr : World) (g : Nat) (xs ms : List Nat) (n0 n : Nat) (ov bv : Value) (A B : List Nat) : Prop where
  fx : Fx p w wr g
  oa : Own .u64 26 wr w.heap.size ov A
  ob : Own .u64 26 wr w.heap.size bv B
  ma : Nrm p A
  mb : Nrm p B
  la : A.length < (nl p ms).length
  lb : B.length < (nl p ms).length
  le : n ≤ n0
  val : Cg (pl p ms) (pl p A * pw (pl p B) n) (pw (pl p xs) n0)

theorem nl_lt (p : Nat) (ms : List Nat) {k : Nat} (h : k < (nl p ms).length) (hm : ms.length ≤ 1000) : k ≤ 1000 := by
  have := nl_len p ms; omega

set_option maxHeartbeats 400000 in
theorem fp_PowMod_no (p : Nat) (v u : Value) (k : Int) (ms : List Nat) (w : World) (hp : FP p) (s1 : Sl .u64 w u ms) (hn : ms.length ≤ 1000) (hk : k < 0 ∨ nl p ms = []) :
    Calls Try.prog 31 #[.agg #[.int .u64 p], v, .int .i64 k, u] w fun e w' => e = .returned (.tuple #[.slice none 0 0, .bool false]) ∧ Below w.heap.size w w' := by
  by_cases h0 : k < 0
  · clear hk
    go_enter Try.func31, Try.ntmps31
    go_wp2
    refine bodyPost_ret (v := .tuple #[.slice none 0 0, .bool false]) (by simp [results, Try.results31, go_sem]) rfl ⟨rfl, (Below.refl _ _).alloc (Nat.le_refl _) _⟩
  · have hm := Lib.hid (hk.resolve_left h0)
    clear hk
    have HP := Lib.hid hp; clear hp
    have fx := Fx.box (p := p) (Below.refl w.heap.size w)
    go_enter Try.func31, Try.ntmps31
    go_wp2_with fail
    generalize w.alloc (.cells #[.int .u64 p] 28) = wb at *
    obtain ⟨g, eg⟩ : ∃ g, g = w.heap.size := ⟨_, rfl⟩
    rw [← eg] at fx ⊢
    have hgw : w.heap.size ≤ g := by omega
    clear eg
    refine (fp_Degree p u ms [] _ HP.out (s1.next fx.below) (by omega) hm.out.symm).mono ?_; rintro e w2 ⟨rfl, b2⟩
    go_wp2
    refine bodyPost_ret (v := .tuple #[.slice none 0 0, .bool false]) (by simp [results, Try.results31, go_sem]) rfl ⟨rfl, fx.below.trans (b2.mono fx.below.size)⟩

theorem odd_step {p : Nat} {m A B a b W : Pol (Zp p)} {n : Nat} (hn : n % 2 = 1) (hv : Cg m (A * pw B n) W) (ha : Cg m a (A * B)) (hb : Cg m b (B * B)) : Cg m (a * pw b (n / 2)) W := by
  have h := (ha.mul (hb.pw (n / 2))).trans (Cg.refl m _)
  rw [pw_dbl] at h
  refine h.trans ?_
  have e : A * B * pw B (2 * (n / 2)) = A * pw B n := by
    rw [show pw B n = pw B (2 * (n / 2) + 1) by congr 1; omega, pw_succ]
    exact by_ring [A, B, pw B (2 * (n / 2))] (X0 * X1 * X2) (X0 * (X2 * X1)) rfl
  rw [e]; exact hv

theorem even_step {p : Nat} {m A B b W : Pol (Zp p)} {n : Nat} (hn : n % 2 ≠ 1) (hv : Cg m (A * pw B n) W) (hb : Cg m b (B * B)) : Cg m (A * pw b (n / 2)) W := by
  have h := (Cg.refl m A).mul (hb.pw (n / 2))
  rw [pw_dbl, show 2 * (n / 2) = n by omega] at h
  exact h.trans hv

theorem Cg.prod {p : Nat} {m AB : Pol (Zp p)} {z r : List Nat} (hz : pl p z = AB) (hr : ∃ q, pl p z = q * m + pl p r) : Cg m (pl p r) AB := by
  obtain ⟨q, hq⟩ := hr
  rw [← hz]; exact Cg.of_rem hq

set_option maxHeartbeats 1000000 in
theorem fp_PowMod (p : Nat) (v u : Value) (n0 : Nat) (xs ms : List Nat) (w : World) (hp : FP p) (ht : Trial p) (s0 : Sl .u64 w v xs) (s1 : Sl .u64 w u ms) (hm : xs.length ≤ 1000) (hn : ms.length ≤ 1000) (hk : n0 ≤ 4294967296) (h0 : nl p ms ≠ []) :
    Calls Try.prog 31 #[.agg #[.int .u64 p], v, .int .i64 n0, u] w (RetPow p w xs ms n0) := by
  have HT := Lib.hid ht; clear ht
  have H0 := Lib.hid h0
  have hlm := nl_len p ms
  obtain ⟨M, eM⟩ : ∃ M, M = nl p ms := ⟨_, rfl⟩
  have hl0 : 0 < M.length := by rw [eM]; exact List.length_pos_iff.2 h0
  have EM := Lib.hid eM
  rw [← eM] at hlm
  clear eM h0
  have HP := Lib.hid hp; clear hp
  have fx := Fx.box (p := p) (Below.refl w.heap.size w)
  go_enter Try.func31, Try.ntmps31
  go_wp2_with fail
  generalize w.alloc (.cells #[.int .u64 p] 28) = wb at *
  obtain ⟨g, eg⟩ : ∃ g, g = w.heap.size := ⟨_, rfl⟩
  rw [← eg] at fx ⊢
  have hgw : w.heap.size ≤ g := by omega
  clear eg
  refine (fp_Degree p u ms M _ HP.out (s1.next fx.below) (by omega) EM.out).mono ?_; rintro e w2 ⟨rfl, b2⟩
  have hz : ¬ (M.length : Int) - 1 < 0 := by omega
  have hz1 : decide ((M.length : Int) - 1 < 0) = false := decide_eq_false hz
  go_upto_region 3 with (fail)
  clear hz hz1
  have fd := (fx.next b2).drew
  have t0 := s0.next fd.below
  have t1 := s1.next fd.below
  clear s0 fx
  refine startL (S := (fun w' => Below (w2.drew).heap.size (w2.drew) w')) (by kernel_rfl) (Below.refl _ _) (fun hHeld => ?_)
  refine takeL 0 (v := ?_) rfl (by kernel_rfl) (by kernel_rfl) (by kernel_rfl) (fun _ _ _ h => h) ⟨by rfl, ?_⟩ (by assumption) ?_
  rotate_left
  · intro w hS; have f1 := fd.at hS; go_simp <;> with_reducible rfl
  simp only [Act.put, List.setIfInBounds_toArray, List.set_cons_zero, List.set_cons_succ]
  refine takeL 2 (v := ?_) rfl (by kernel_rfl) (by kernel_rfl) (by kernel_rfl) (fun _ _ _ h => h) ⟨by rfl, ?_⟩ (by assumption) ?_
  rotate_left
  · intro w hS; go_simp <;> with_reducible rfl
  simp only [Act.put, List.setIfInBounds_toArray, List.set_cons_zero, List.set_cons_succ]
  refine takeL 4 (v := ?_) rfl (by kernel_rfl) (by kernel_rfl) (by kernel_rfl) (fun _ _ _ h => h) ⟨by rfl, ?_⟩ (by assumption) ?_
  rotate_left
  · intro w hS; have f1 := fd.at hS; go_simp <;> with_reducible rfl
  simp only [Act.put, List.setIfInBounds_toArray, List.set_cons_zero, List.set_cons_succ]
  refine takeL 5 (v := ?_) rfl (by kernel_rfl) (by kernel_rfl) (by kernel_rfl) (fun _ _ _ h => h) ⟨by rfl, ?_⟩ (by assumption) ?_
  rotate_left
  · intro w hS; go_simp <;> with_reducible rfl
  simp only [Act.put, List.setIfInBounds_toArray, List.set_cons_zero, List.set_cons_succ]
  refine takeL 6 (v := ?_) rfl (by kernel_rfl) (by kernel_rfl) (by kernel_rfl) (fun _ _ _ h => h) ⟨by rfl, ?_⟩ (by assumption) ?_
  rotate_left
  · intro w hS; go_simp <;> with_reducible rfl
  simp only [Act.put, List.setIfInBounds_toArray, List.set_cons_zero, List.set_cons_succ]
  refine oneL 1 rfl (by kernel_rfl) (by rfl) (fun K hK => ?_)
  go_simp
  have tl : Sl .u64 ((w2.alloc (.cells #[.int .u64 1] 26)).drew) (.slice (some ⟨w2.heap.size, 0, none⟩) 1 1) [1] := (own_lit1 w2 1).sl.drew
  have bl : Below w2.drew.heap.size w2.drew (w2.alloc (.cells #[.int .u64 1] 26)).drew := (Below.refl w2.drew.heap.size w2.drew).alloc (Nat.le_refl _) (.cells #[.int .u64 1] 26)
  generalize (w2.alloc (.cells #[.int .u64 1] 26)).drew = w3 at *
  refine hK.out _ _ (hHeld.trans (bl.mono hHeld.size)) (fun hHeld => ?_)
  clear hK K
  try simp only [Act.put, List.setIfInBounds_toArray, List.set_cons_zero, List.set_cons_succ]
  refine oneL 3 rfl (by kernel_rfl) (by rfl) (fun K hK => ?_)
  go_simp
  go_at_call 50
  (with_reducible refine (fp_rest p _ u [1] ms _ HP.out HT.out tl (t1.next hHeld) (by simp) (by omega) H0.out).mono ?_); rintro e w4 ⟨r4, z4, rfl, o4, m4, v4, lt4, l4, b4⟩
  replace o4 := o4.mono (Nat.le_trans fd.below.size hHeld.size)
  refine hK.out _ _ (hHeld.trans (b4.mono hHeld.size)) (fun hHeld => ?_)
  clear hK K
  try simp only [Act.put, List.setIfInBounds_toArray, List.set_cons_zero, List.set_cons_succ]
  refine oneL 7 rfl (by kernel_rfl) (by rfl) (fun K hK => ?_)
  go_simp
  go_at_call 50
  (with_reducible refine (fp_rest p v u xs ms _ HP.out HT.out (t0.next hHeld) (t1.next hHeld) (by omega) (by omega) H0.out).mono ?_); rintro e w5 ⟨r5, z5, rfl, o5, m5, v5, lt5, l5, b5⟩
  replace o5 := o5.mono (Nat.le_trans fd.below.size hHeld.size); replace o4 := o4.next b5
  refine hK.out _ _ (hHeld.trans (b5.mono hHeld.size)) (fun hHeld => ?_)
  clear hK K
  try simp only [Act.put, List.setIfInBounds_toArray, List.set_cons_zero, List.set_cons_succ]
  refine takeL 8 (v := ?_) rfl (by kernel_rfl) (by kernel_rfl) (by kernel_rfl) (fun _ _ _ h => h) ⟨by rfl, ?_⟩ (by assumption) ?_
  rotate_left
  · intro w hS; go_simp <;> with_reducible rfl
  simp only [Act.put, List.setIfInBounds_toArray, List.set_cons_zero, List.set_cons_succ]
  refine takeL 9 (v := ?_) rfl (by kernel_rfl) (by kernel_rfl) (by kernel_rfl) (fun _ _ _ h => h) ⟨by rfl, ?_⟩ (by assumption) ?_
  rotate_left
  · intro w hS; go_simp <;> with_reducible rfl
  simp only [Act.put, List.setIfInBounds_toArray, List.set_cons_zero, List.set_cons_succ]
  refine doneL (by kernel_rfl) ?_ _
  have st : PowRel p w w5 g xs ms n0 n0 r4 r5 z4 z5 :=
    ⟨fd.next hHeld, o4, o5, m4, m5, lt4, lt5, Nat.le_refl _, by
      obtain ⟨q1, h1⟩ := v4
      obtain ⟨q2, h2⟩ := v5
      have h3 := (Cg.of_rem h1).mul ((Cg.of_rem h2).pw n0)
      rwa [show pl p [1] = 1 from Pol.ext fun i => by rw [pl_c, Pol.one_def, c_mon]; cases i <;> rfl, CR.one_mul] at h3⟩
  clear t0 t1 hHeld b2 b4 b5 tl bl o4 o5 m4 m5 v4 v5 lt4 lt5 l4 l5
  go_wp2_with fail
  go_loopw [2, 10, 11] (fun nv ov bv wr => ∃ (n : Nat) (A B : List Nat), nv = .int .i64 n ∧ PowRel p w wr g xs ms n0 n ov bv A B) (fun nv _ _ _ => (intOf nv).toNat)
  case atStart => exact ⟨n0, _, _, rfl, st⟩
  case round =>
    clear st
    obtain ⟨n, A, B, rfl, st⟩ := hrel
    have ha := st.la; have hb := st.lb; have hne := st.le
    rw [← EM.out] at ha hb
    by_cases h0 : n = 0
    · subst h0
      have HV := Lib.hid (show Cg (pl p ms) (pl p A) (pw (pl p xs) n0) from by have := st.val; rwa [show pw (pl p B) 0 = 1 from rfl, CR.mul_one] at this)
      go_wp2
      refine bodyPost_ret (v := .tuple #[u10, .bool true]) (by simp [results, Try.results31, go_sem]) rfl ⟨u10, A, rfl, st.oa, st.ma, HV.out, st.la, st.fx.below⟩
    · have hpos : 0 < n := by omega
      by_cases hodd : n % 2 = 1
      · have ho : (n : Int) % 2 = 1 := by omega
        clear hodd
        have fc6 := (st.fx).drew
        have oa6 := (st.oa).drew
        have ob6 := (st.ob).drew
        have tm6 := s1.next fc6.below
        go_upto_region 7 with (fail)
        refine startL (S := (fun w' => Below (wr.drew).heap.size (wr.drew) w')) (by kernel_rfl) (Below.refl _ _) (fun hHeld => ?_)
        refine takeL 0 (v := ?_) rfl (by kernel_rfl) (by kernel_rfl) (by kernel_rfl) (fun _ _ _ h => h) ⟨by rfl, ?_⟩ (by assumption) ?_
        rotate_left
        · intro w hS; have f1 := fc6.at hS; go_simp <;> with_reducible rfl
        simp only [Act.put, List.setIfInBounds_toArray, List.set_cons_zero, List.set_cons_succ]
        refine takeL 1 (v := ?_) rfl (by kernel_rfl) (by kernel_rfl) (by kernel_rfl) (fun _ _ _ h => h) ⟨by rfl, ?_⟩ (by assumption) ?_
        rotate_left
        · intro w hS; have f1 := fc6.at hS; go_simp <;> with_reducible rfl
        simp only [Act.put, List.setIfInBounds_toArray, List.set_cons_zero, List.set_cons_succ]
        refine takeL 2 (v := ?_) rfl (by kernel_rfl) (by kernel_rfl) (by kernel_rfl) (fun _ _ _ h => h) ⟨by rfl, ?_⟩ (by assumption) ?_
        rotate_left
        · intro w hS; go_simp <;> with_reducible rfl
        simp only [Act.put, List.setIfInBounds_toArray, List.set_cons_zero, List.set_cons_succ]
        refine takeL 3 (v := ?_) rfl (by kernel_rfl) (by kernel_rfl) (by kernel_rfl) (fun _ _ _ h => h) ⟨by rfl, ?_⟩ (by assumption) ?_
        rotate_left
        · intro w hS; go_simp <;> with_reducible rfl
        simp only [Act.put, List.setIfInBounds_toArray, List.set_cons_zero, List.set_cons_succ]
        refine takeL 5 (v := ?_) rfl (by kernel_rfl) (by kernel_rfl) (by kernel_rfl) (fun _ _ _ h => h) ⟨by rfl, ?_⟩ (by assumption) ?_
        rotate_left
        · intro w hS; go_simp <;> with_reducible rfl
        simp only [Act.put, List.setIfInBounds_toArray, List.set_cons_zero, List.set_cons_succ]
        refine oneL 4 rfl (by kernel_rfl) (by rfl) (fun K hK => ?_)
        go_simp
        go_at_call 14
        (with_reducible refine (fp_Mul p _ _ A B _ HP.out (oa6.next hHeld).sl (ob6.next hHeld).sl (by omega) (by omega)).mono ?_); rintro e w6 ⟨r6, z6, rfl, o6, m6, v6, l6, b6⟩
        have V6 := Lib.hid v6; clear v6
        refine hK.out _ _ (hHeld.trans (b6.mono hHeld.size)) (fun hHeld => ?_)
        clear hK K
        try simp only [Act.put, List.setIfInBounds_toArray, List.set_cons_zero, List.set_cons_succ]
        refine oneL 6 rfl (by kernel_rfl) (by rfl) (fun K hK => ?_)
        go_simp
        go_at_call 50
        (with_reducible refine (fp_rest p _ u z6 ms _ HP.out HT.out o6.sl (tm6.next hHeld) (by omega) (by omega) H0.out).mono ?_); rintro e w7 ⟨r7, z7, rfl, o7, m7, v7, lt7, l7, b7⟩
        replace o7 := o7.mono (Nat.le_trans fc6.below.size hHeld.size); have E7 := Lib.hid (Cg.prod V6.out v7); clear v7 o6 m6 V6
        refine hK.out _ _ (hHeld.trans (b7.mono hHeld.size)) (fun hHeld => ?_)
        clear hK K
        try simp only [Act.put, List.setIfInBounds_toArray, List.set_cons_zero, List.set_cons_succ]
        refine takeL 7 (v := ?_) rfl (by kernel_rfl) (by kernel_rfl) (by kernel_rfl) (fun _ _ _ h => h) ⟨by rfl, ?_⟩ (by assumption) ?_
        rotate_left
        · intro w hS; go_simp <;> with_reducible rfl
        simp only [Act.put, List.setIfInBounds_toArray, List.set_cons_zero, List.set_cons_succ]
        refine doneL (by kernel_rfl) ?_ _
        have hHeld6 := hHeld
        clear hHeld
        have fc8 := (fc6.next hHeld6).drew
        have oa8 := ((ob6.next hHeld6)).drew
        have ob8 := ((ob6.next hHeld6)).drew
        have tm8 := s1.next fc8.below
        go_upto_region 8 with (fail)
        refine startL (S := (fun w' => Below (w7.drew).heap.size (w7.drew) w')) (by kernel_rfl) (Below.refl _ _) (fun hHeld => ?_)
        refine takeL 0 (v := ?_) rfl (by kernel_rfl) (by kernel_rfl) (by kernel_rfl) (fun _ _ _ h => h) ⟨by rfl, ?_⟩ (by assumption) ?_
        rotate_left
        · intro w hS; have f1 := fc8.at hS; go_simp <;> with_reducible rfl
        simp only [Act.put, List.setIfInBounds_toArray, List.set_cons_zero, List.set_cons_succ]
        refine takeL 1 (v := ?_) rfl (by kernel_rfl) (by kernel_rfl) (by kernel_rfl) (fun _ _ _ h => h) ⟨by rfl, ?_⟩ (by assumption) ?_
        rotate_left
        · intro w hS; have f1 := fc8.at hS; go_simp <;> with_reducible rfl
        simp only [Act.put, List.setIfInBounds_toArray, List.set_cons_zero, List.set_cons_succ]
        refine takeL 2 (v := ?_) rfl (by kernel_rfl) (by kernel_rfl) (by kernel_rfl) (fun _ _ _ h => h) ⟨by rfl, ?_⟩ (by assumption) ?_
        rotate_left
        · intro w hS; go_simp <;> with_reducible rfl
        simp only [Act.put, List.setIfInBounds_toArray, List.set_cons_zero, List.set_cons_succ]
        refine takeL 3 (v := ?_) rfl (by kernel_rfl) (by kernel_rfl) (by kernel_rfl) (fun _ _ _ h => h) ⟨by rfl, ?_⟩ (by assumption) ?_
        rotate_left
        · intro w hS; go_simp <;> with_reducible rfl
        simp only [Act.put, List.setIfInBounds_toArray, List.set_cons_zero, List.set_cons_succ]
        refine takeL 5 (v := ?_) rfl (by kernel_rfl) (by kernel_rfl) (by kernel_rfl) (fun _ _ _ h => h) ⟨by rfl, ?_⟩ (by assumption) ?_
        rotate_left
        · intro w hS; go_simp <;> with_reducible rfl
        simp only [Act.put, List.setIfInBounds_toArray, List.set_cons_zero, List.set_cons_succ]
        refine oneL 4 rfl (by kernel_rfl) (by rfl) (fun K hK => ?_)
        go_simp
        go_at_call 14
        (with_reducible refine (fp_Mul p _ _ B B _ HP.out (oa8.next hHeld).sl (ob8.next hHeld).sl (by omega) (by omega)).mono ?_); rintro e w8 ⟨r8, z8, rfl, o8, m8, v8, l8, b8⟩
        have V8 := Lib.hid v8; clear v8
        refine hK.out _ _ (hHeld.trans (b8.mono hHeld.size)) (fun hHeld => ?_)
        clear hK K
        try simp only [Act.put, List.setIfInBounds_toArray, List.set_cons_zero, List.set_cons_succ]
        refine oneL 6 rfl (by kernel_rfl) (by rfl) (fun K hK => ?_)
        go_simp
        go_at_call 50
        (with_reducible refine (fp_rest p _ u z8 ms _ HP.out HT.out o8.sl (tm8.next hHeld) (by omega) (by omega) H0.out).mono ?_); rintro e w9 ⟨r9, z9, rfl, o9, m9, v9, lt9, l9, b9⟩
        replace o9 := o9.mono (Nat.le_trans fc8.below.size hHeld.size); have E9 := Lib.hid (Cg.prod V8.out v9); clear v9 o8 m8 V8
        refine hK.out _ _ (hHeld.trans (b9.mono hHeld.size)) (fun hHeld => ?_)
        clear hK K
        try simp only [Act.put, List.setIfInBounds_toArray, List.set_cons_zero, List.set_cons_succ]
        refine takeL 7 (v := ?_) rfl (by kernel_rfl) (by kernel_rfl) (by kernel_rfl) (fun _ _ _ h => h) ⟨by rfl, ?_⟩ (by assumption) ?_
        rotate_left
        · intro w hS; go_simp <;> with_reducible rfl
        simp only [Act.put, List.setIfInBounds_toArray, List.set_cons_zero, List.set_cons_succ]
        refine doneL (by kernel_rfl) ?_ _
        have hHeld8 := hHeld
        clear hHeld

        have st2 : PowRel p w w9 g xs ms n0 (n / 2) r7 r9 z7 z9 :=
          ⟨fc8.next hHeld8, (o7.drew).next hHeld8, o9, m7, m9, lt7, lt9, by omega, odd_step (by omega) st.val E7.out E9.out⟩
        clear hHeld6 hHeld8 fc6 fc8 oa6 ob6 oa8 ob8 b6 b7 b8 b9 tm6 tm8 o7 o9
        go_wp2
        go_roundw
        case rel => exact ⟨n / 2, z7, z9, by go_num, st2⟩
        case measure => simp [intOf] <;> omega
      · have ho : ((n : Int) % 2 == 1) = false := beq_eq_false_iff_ne.mpr (by omega)
        have hodd' := Lib.hid hodd
        clear hodd
        have fc8 := (st.fx).drew
        have oa8 := (st.ob).drew
        have ob8 := (st.ob).drew
        have tm8 := s1.next fc8.below
        go_upto_region 8 with (fail)
        refine startL (S := (fun w' => Below (wr.drew).heap.size (wr.drew) w')) (by kernel_rfl) (Below.refl _ _) (fun hHeld => ?_)
        refine takeL 0 (v := ?_) rfl (by kernel_rfl) (by kernel_rfl) (by kernel_rfl) (fun _ _ _ h => h) ⟨by rfl, ?_⟩ (by assumption) ?_
        rotate_left
        · intro w hS; have f1 := fc8.at hS; go_simp <;> with_reducible rfl
        simp only [Act.put, List.setIfInBounds_toArray, List.set_cons_zero, List.set_cons_succ]
        refine takeL 1 (v := ?_) rfl (by kernel_rfl) (by kernel_rfl) (by kernel_rfl) (fun _ _ _ h => h) ⟨by rfl, ?_⟩ (by assumption) ?_
        rotate_left
        · intro w hS; have f1 := fc8.at hS; go_simp <;> with_reducible rfl
        simp only [Act.put, List.setIfInBounds_toArray, List.set_cons_zero, List.set_cons_succ]
        refine takeL 2 (v := ?_) rfl (by kernel_rfl) (by kernel_rfl) (by kernel_rfl) (fun _ _ _ h => h) ⟨by rfl, ?_⟩ (by assumption) ?_
        rotate_left
        · intro w hS; go_simp <;> with_reducible rfl
        simp only [Act.put, List.setIfInBounds_toArray, List.set_cons_zero, List.set_cons_succ]
        refine takeL 3 (v := ?_) rfl (by kernel_rfl) (by kernel_rfl) (by kernel_rfl) (fun _ _ _ h => h) ⟨by rfl, ?_⟩ (by assumption) ?_
        rotate_left
        · intro w hS; go_simp <;> with_reducible rfl
        simp only [Act.put, List.setIfInBounds_toArray, List.set_cons_zero, List.set_cons_succ]
        refine takeL 5 (v := ?_) rfl (by kernel_rfl) (by kernel_rfl) (by kernel_rfl) (fun _ _ _ h => h) ⟨by rfl, ?_⟩ (by assumption) ?_
        rotate_left
        · intro w hS; go_simp <;> with_reducible rfl
        simp only [Act.put, List.setIfInBounds_toArray, List.set_cons_zero, List.set_cons_succ]
        refine oneL 4 rfl (by kernel_rfl) (by rfl) (fun K hK => ?_)
        go_simp
        go_at_call 14
        (with_reducible refine (fp_Mul p _ _ B B _ HP.out (oa8.next hHeld).sl (ob8.next hHeld).sl (by omega) (by omega)).mono ?_); rintro e w8 ⟨r8, z8, rfl, o8, m8, v8, l8, b8⟩
        have V8 := Lib.hid v8; clear v8
        refine hK.out _ _ (hHeld.trans (b8.mono hHeld.size)) (fun hHeld => ?_)
        clear hK K
        try simp only [Act.put, List.setIfInBounds_toArray, List.set_cons_zero, List.set_cons_succ]
        refine oneL 6 rfl (by kernel_rfl) (by rfl) (fun K hK => ?_)
        go_simp
        go_at_call 50
        (with_reducible refine (fp_rest p _ u z8 ms _ HP.out HT.out o8.sl (tm8.next hHeld) (by omega) (by omega) H0.out).mono ?_); rintro e w9 ⟨r9, z9, rfl, o9, m9, v9, lt9, l9, b9⟩
        replace o9 := o9.mono (Nat.le_trans fc8.below.size hHeld.size); have E9 := Lib.hid (Cg.prod V8.out v9); clear v9 o8 m8 V8
        refine hK.out _ _ (hHeld.trans (b9.mono hHeld.size)) (fun hHeld => ?_)
        clear hK K
        try simp only [Act.put, List.setIfInBounds_toArray, List.set_cons_zero, List.set_cons_succ]
        refine takeL 7 (v := ?_) rfl (by kernel_rfl) (by kernel_rfl) (by kernel_rfl) (fun _ _ _ h => h) ⟨by rfl, ?_⟩ (by assumption) ?_
        rotate_left
        · intro w hS; go_simp <;> with_reducible rfl
        simp only [Act.put, List.setIfInBounds_toArray, List.set_cons_zero, List.set_cons_succ]
        refine doneL (by kernel_rfl) ?_ _
        have hHeld8 := hHeld
        clear hHeld

        have st2 : PowRel p w w9 g xs ms n0 (n / 2) u10 r9 A z9 :=
          ⟨fc8.next hHeld8, (st.oa.drew).next hHeld8, o9, st.ma, m9, st.la, lt9, by omega, even_step hodd'.out st.val E9.out⟩
        clear hHeld8 fc8 oa8 ob8 b8 b9 tm8 o9
        go_wp2
        go_roundw
        case rel => exact ⟨n / 2, A, z9, by go_num, st2⟩
        case measure => simp [intOf] <;> omega

end Go.Proofs.Ytjpioijlpgmlfaa
