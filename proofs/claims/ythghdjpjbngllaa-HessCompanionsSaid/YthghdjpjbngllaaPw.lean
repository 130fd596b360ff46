/- Package fpoly: rest, Gcd, Lcm, PowMod. -/
import Derived.Test.YthghdjpjbngllaaQz
import Derived.Test.YthghdjpjbngllaaFdeg
namespace Go.Proofs.Ythghdjpjbngllaa
open Go.RowKit

/-- A rest is returned. -/
def RetRem (p : Nat) (w : World) (xs ys : List Nat) (e : Ending) (w' : World) : Prop :=
  ∃ r zs, e = .returned r ∧ Own .u64 27 w' w.heap.size r zs ∧ Nrm p zs ∧ (∃ q, pl p xs = q * pl p ys + pl p zs) ∧ zs.length < (nl p ys).length ∧ zs.length ≤ xs.length ∧ Below w.heap.size w w'

/-- A normal polynomial by its greatest element. -/
def RetMo (p : Nat) (w : World) (A : List Nat) (e : Ending) (w' : World) : Prop :=
  ∃ r zs u, e = .returned r ∧ Own .u64 27 w' w.heap.size r zs ∧ Nrm p zs ∧ pl p zs = pl p A * mon u 0 ∧ (A = [] ∨ ∃ n, Ln (pl p A) (n + 1) ∧ u * (pl p A).c n = 1) ∧ zs.length ≤ A.length ∧ Below w.heap.size w w'

theorem fp_MonicN (p : Nat) (v : Value) (A : List Nat) (w : World) (hp : FP p) (ht : Trial p) (hv : Sl .u64 w v A) (hA : Nrm p A) (hm : A.length ≤ 1000000) :
    Calls Try.prog 140 #[.agg #[.int .u64 p], v] w (RetMo p w A) := by
  refine (fp_Monic p _ v A A w hp hv hm (nl_of hp.pos hA).symm rfl).mono ?_
  rintro e w' ⟨r, zs, rfl, o, m, vv, l, b⟩
  refine ⟨r, zs, _, rfl, o, m, vv, ?_, l, b⟩
  by_cases h : A = []
  · exact Or.inl h
  · right
    obtain ⟨n, hn⟩ : ∃ n, A.length = n + 1 := ⟨A.length - 1, by have := List.length_pos_iff.2 h; omega⟩
    refine ⟨n, by rw [← hn]; exact nrm_ln hp.pos hA, ?_⟩
    rw [Zp.of_val, show A.length - 1 = n by omega]
    exact lead_inv ht hA hn

theorem RetMo.mo {p : Nat} {A zs : List Nat} {u : Zp p} (h : A = [] ∨ ∃ n, Ln (pl p A) (n + 1) ∧ u * (pl p A).c n = 1) (hv : pl p zs = pl p A * mon u 0) : Mo (pl p zs) := by
  rw [hv]
  rcases h with rfl | ⟨n, hl, hu⟩
  · rw [pl_nil, CR.zero_mul]; exact Or.inl rfl
  · exact mo_scale hl hu

theorem RetMo.dv {p : Nat} {A zs : List Nat} {u : Zp p} (h : A = [] ∨ ∃ n, Ln (pl p A) (n + 1) ∧ u * (pl p A).c n = 1) (hv : pl p zs = pl p A * mon u 0) : Dv (pl p zs) (pl p A) := by
  rw [hv]
  rcases h with rfl | ⟨n, _, hu⟩
  · rw [pl_nil, CR.zero_mul]; exact Dv.refl _
  · exact dv_scale hu

/-- Two polynomials have the divisors in common that two others have. -/
structure Same2 {p : Nat} (A B f h : Pol (Zp p)) : Prop where
  a : ∃ s t, A = s * f + t * h
  b : ∃ s t, B = s * f + t * h
  d : ∀ d, Dv d A → Dv d B → Dv d f ∧ Dv d h

theorem Same2.refl {p : Nat} (f h : Pol (Zp p)) : Same2 f h f h :=
  ⟨⟨1, 0, by_ring [f, h] X0 (1 * X0 + 0 * X1) rfl⟩, ⟨0, 1, by_ring [f, h] X1 (0 * X0 + 1 * X1) rfl⟩, fun _ h k => ⟨h, k⟩⟩

theorem Same2.step {p : Nat} {A B f h q R : Pol (Zp p)} (k : Same2 A B f h) (e : A = q * B + R) : Same2 B R f h := by
  obtain ⟨s, t, ha⟩ := k.a
  obtain ⟨s', t', hb⟩ := k.b
  refine ⟨k.b, ⟨s - q * s', t - q * t', ?_⟩, fun d h1 h2 => k.d d (by rw [e]; exact (h1.mul q).add h2) h1⟩
  have : R = A - q * B := by rw [e]; exact by_ring [q, B, R] X2 (X0 * X1 + X2 - X0 * X1) rfl
  rw [this, ha, hb]
  exact by_ring [s, t, s', t', f, h, q] (X0 * X4 + X1 * X5 - X6 * (X2 * X4 + X3 * X5)) ((X0 - X6 * X2) * X4 + (X1 - X6 * X3) * X5) rfl

theorem Same2.gcd {p : Nat} {A f h g : Pol (Zp p)} {u : Zp p} (k : Same2 A 0 f h) (hm : Mo g) (hg : g = A * mon u 0) (hd : Dv g A) : IsGcd g f h := by
  have k2 := k.d g hd (Dv.zero _)
  obtain ⟨s, t, ha⟩ := k.a
  refine ⟨hm, k2.1, k2.2, s * mon u 0, t * mon u 0, ?_⟩
  rw [hg, ha]
  exact by_ring [s, t, f, h, mon u 0] ((X0 * X2 + X1 * X3) * X4) (X0 * X4 * X2 + X1 * X4 * X3) rfl

/-- The greatest common divisor is returned. -/
def RetGcd (p : Nat) (w : World) (L : Nat) (f h : Pol (Zp p)) (e : Ending) (w' : World) : Prop :=
  ∃ r zs, e = .returned r ∧ Own .u64 27 w' w.heap.size r zs ∧ Nrm p zs ∧ IsGcd (pl p zs) f h ∧ zs.length ≤ L ∧ Below w.heap.size w w'

structure GcdRel (p : Nat) (w wr : World) (g : Nat) (f h : Pol (Zp p)) (L : Nat) (av bv : Value) (A B : List Nat) : Prop where
  fx : Fx p w wr g
  oa : Own .u64 27 wr w.heap.size av A
  ob : Own .u64 27 wr w.heap.size bv B
  ma : Nrm p A
  mb : Nrm p B
  la : A.length ≤ L
  lb : B.length ≤ L
  rel : Same2 (pl p A) (pl p B) f h

set_option maxHeartbeats 1000000 in
theorem fp_Gcd (p : Nat) (v u : Value) (xs ys : List Nat) (w : World) (hp : FP p) (ht : Trial p) (s0 : Sl .u64 w v xs) (s1 : Sl .u64 w u ys) (hm : xs.length ≤ 1000000) (hn : ys.length ≤ 1000000) :
    Calls Try.prog 139 #[.agg #[.int .u64 p], v, u] w (RetGcd p w (max xs.length ys.length) (pl p xs) (pl p ys)) := by
  have HT := Lib.hid ht; clear ht
  have HP := Lib.hid hp; clear hp
  have fx := Fx.box (p := p) (Below.refl w.heap.size w)
  go_enter Try.func139, Try.ntmps139
  go_upto_region 1 with (fail)
  generalize w.alloc (.cells #[.int .u64 p] 29) = wb at *
  obtain ⟨g, eg⟩ : ∃ g, g = w.heap.size := ⟨_, rfl⟩
  rw [← eg] at fx ⊢
  have hgw : w.heap.size ≤ g := by omega
  clear eg
  have fd := fx.drew
  have t0 := s0.next fd.below
  have t1 := s1.next fd.below
  clear s0 s1 fx
  refine startL (S := (fun w' => Below (wb.drew).heap.size (wb.drew) w')) (by kernel_rfl) (Below.refl _ _) (fun hHeld => ?_)
  refine takeL 0 (v := ?_) rfl (by kernel_rfl) (by kernel_rfl) (by kernel_rfl) (fun _ _ _ h => h) ⟨by rfl, ?_⟩ (by assumption) ?_
  rotate_left
  · intro w hS; have f1 := fd.at hS; go_simp <;> with_reducible rfl
  simp only [Act.put, List.setIfInBounds_toArray, List.set_cons_zero, List.set_cons_succ]
  refine takeL 1 (v := ?_) rfl (by kernel_rfl) (by kernel_rfl) (by kernel_rfl) (fun _ _ _ h => h) ⟨by rfl, ?_⟩ (by assumption) ?_
  rotate_left
  · intro w hS; go_simp <;> with_reducible rfl
  simp only [Act.put, List.setIfInBounds_toArray, List.set_cons_zero, List.set_cons_succ]
  refine takeL 3 (v := ?_) rfl (by kernel_rfl) (by kernel_rfl) (by kernel_rfl) (fun _ _ _ h => h) ⟨by rfl, ?_⟩ (by assumption) ?_
  rotate_left
  · intro w hS; have f1 := fd.at hS; go_simp <;> with_reducible rfl
  simp only [Act.put, List.setIfInBounds_toArray, List.set_cons_zero, List.set_cons_succ]
  refine takeL 4 (v := ?_) rfl (by kernel_rfl) (by kernel_rfl) (by kernel_rfl) (fun _ _ _ h => h) ⟨by rfl, ?_⟩ (by assumption) ?_
  rotate_left
  · intro w hS; go_simp <;> with_reducible rfl
  simp only [Act.put, List.setIfInBounds_toArray, List.set_cons_zero, List.set_cons_succ]
  refine oneL 2 rfl (by kernel_rfl) (by rfl) (fun K hK => ?_)
  go_simp
  go_at_call 80
  (with_reducible refine (fp_Norm p v xs _ HP.out (t0.next hHeld) (by omega)).mono ?_); rintro e w2 ⟨r2, A, rfl, oA, mA, vA, lA, b2⟩
  replace oA := oA.mono (Nat.le_trans fd.below.size hHeld.size); have VA := Lib.hid vA; clear vA
  refine hK.out _ _ (hHeld.trans (b2.mono hHeld.size)) (fun hHeld => ?_)
  clear hK K
  try simp only [Act.put, List.setIfInBounds_toArray, List.set_cons_zero, List.set_cons_succ]
  refine oneL 5 rfl (by kernel_rfl) (by rfl) (fun K hK => ?_)
  go_simp
  go_at_call 80
  (with_reducible refine (fp_Norm p u ys _ HP.out (t1.next hHeld) (by omega)).mono ?_); rintro e w3 ⟨r3, C, rfl, oC, mC, vC, lC, b3⟩
  replace oC := oC.mono (Nat.le_trans fd.below.size hHeld.size); have VC := Lib.hid vC; clear vC; replace oA := oA.next b3
  refine hK.out _ _ (hHeld.trans (b3.mono hHeld.size)) (fun hHeld => ?_)
  clear hK K
  try simp only [Act.put, List.setIfInBounds_toArray, List.set_cons_zero, List.set_cons_succ]
  refine takeL 6 (v := ?_) rfl (by kernel_rfl) (by kernel_rfl) (by kernel_rfl) (fun _ _ _ h => h) ⟨by rfl, ?_⟩ (by assumption) ?_
  rotate_left
  · intro w hS; go_simp <;> with_reducible rfl
  simp only [Act.put, List.setIfInBounds_toArray, List.set_cons_zero, List.set_cons_succ]
  refine takeL 7 (v := ?_) rfl (by kernel_rfl) (by kernel_rfl) (by kernel_rfl) (fun _ _ _ h => h) ⟨by rfl, ?_⟩ (by assumption) ?_
  rotate_left
  · intro w hS; go_simp <;> with_reducible rfl
  simp only [Act.put, List.setIfInBounds_toArray, List.set_cons_zero, List.set_cons_succ]
  refine doneL (by kernel_rfl) ?_ _
  have st : GcdRel p w w3 g (pl p xs) (pl p ys) (max xs.length ys.length) r2 r3 A C :=
    ⟨fd.next hHeld, oA, oC, mA, mC, by omega, by omega, by rw [← VA.out, ← VC.out]; exact Same2.refl _ _⟩
  have hL : max xs.length ys.length ≤ 1000000 := by omega
  generalize max xs.length ys.length = L at *
  clear t0 t1 hHeld b2 b3 oA oC mA mC lA lC fd VA VC hm hn
  go_wp2_with fail
  go_loopw [1, 2] (fun av bv wr => ∃ A B : List Nat, GcdRel p w wr g (pl p xs) (pl p ys) L av bv A B) (fun _ bv _ => match bv with | .slice _ n _ => n | _ => 0)
  case atStart => exact ⟨A, C, st⟩
  case round =>
    clear st A C
    obtain ⟨A, B, st⟩ := hrel
    obtain ⟨ao, ba, oa, ca, rfl, -, -⟩ := st.oa.sl
    obtain ⟨bo, bb, ob, cb, rfl, -, -⟩ := st.ob.sl
    have hcg := st.fx.cell
    have ha1 := st.la
    have hb1 := st.lb
    by_cases h0 : 0 < B.length
    · have hB : B ≠ [] := List.length_pos_iff.mp h0
      have HN := Lib.hid (nl_of HP.out.pos st.mb)
      go_wp2_with fail
      refine (fp_DivMod p _ _ A B _ HP.out HT.out st.oa.sl st.ob.sl (by omega) (by omega) (by rw [HN.out]; exact hB)).mono ?_; rintro e w4 ⟨rq4, rr4, zq4, zr4, rfl, oq4, or4, mq4, mr4, vd4, ld4, lq4, lr4, b4⟩
      have st2 : GcdRel p w w4 g (pl p xs) (pl p ys) L (.slice bo B.length cb) rr4 B zr4 :=
        ⟨st.fx.next b4, st.ob.next b4, or4.mono st.fx.below.size, st.mb, mr4, st.lb, by omega, st.rel.step vd4⟩
      have hlt : zr4.length < B.length := by rw [HN.out] at ld4; exact ld4
      obtain ⟨co, bc, oc, cc, rfl, -, -⟩ := or4.sl
      clear vd4 hcg oq4 or4 mq4 mr4 b4 st ld4
      go_wp2
      go_roundw
      case rel => exact ⟨B, zr4, st2⟩
      case measure => exact hlt
    · obtain rfl : B = [] := List.length_eq_zero_iff.mp (by omega)
      clear h0
      go_wp2_with fail
      refine (fp_MonicN p _ A _ HP.out HT.out st.oa.sl st.ma (by omega)).mono ?_; rintro e w4 ⟨r4, z4, u4, rfl, o4, m4, v4, h4, l4, b4⟩
      have hg : IsGcd (pl p z4) (pl p xs) (pl p ys) := by
        have := st.rel
        rw [pl_nil] at this
        exact this.gcd (RetMo.mo h4 v4) v4 (RetMo.dv h4 v4)
      have HG := Lib.hid hg
      clear hg v4 h4 hcg
      go_wp2
      go_ret
      exact ⟨r4, z4, rfl, o4.mono st.fx.below.size, m4, HG.out, by omega, st.fx.below.trans (b4.mono st.fx.below.size)⟩

/-- The least common multiple is returned. -/
def RetLcm (p : Nat) (w : World) (L : Nat) (f h : Pol (Zp p)) (e : Ending) (w' : World) : Prop :=
  ∃ r zs, e = .returned r ∧ Own .u64 27 w' w.heap.size r zs ∧ Nrm p zs ∧ Mo (pl p zs) ∧ (∃ g q u, IsGcd g f h ∧ f = q * g ∧ pl p zs = q * h * mon u 0 ∧ Dv (pl p zs) (q * h)) ∧ zs.length ≤ L ∧ Below w.heap.size w w'

theorem gcd_nil {p : Nat} {f h : Pol (Zp p)} (k : IsGcd 0 f h) : f = 0 ∧ h = 0 := ⟨k.2.1.of_zero, k.2.2.1.of_zero⟩

set_option maxHeartbeats 1000000 in
theorem fp_Lcm (p : Nat) (v u : Value) (xs ys : List Nat) (w : World) (hp : FP p) (ht : Trial p) (s0 : Sl .u64 w v xs) (s1 : Sl .u64 w u ys) (hm : xs.length ≤ 400000) (hn : ys.length ≤ 400000) :
    Calls Try.prog 116 #[.agg #[.int .u64 p], v, u] w (RetLcm p w (xs.length + ys.length) (pl p xs) (pl p ys)) := by
  have HT := Lib.hid ht; clear ht
  have HP := Lib.hid hp; clear hp
  have fx := Fx.box (p := p) (Below.refl w.heap.size w)
  go_enter Try.func116, Try.ntmps116
  go_upto_region 1 with (fail)
  generalize w.alloc (.cells #[.int .u64 p] 29) = wb at *
  obtain ⟨g, eg⟩ : ∃ g, g = w.heap.size := ⟨_, rfl⟩
  rw [← eg] at fx ⊢
  have hgw : w.heap.size ≤ g := by omega
  clear eg
  have fd := fx.drew
  have t0 := s0.next fd.below
  have t1 := s1.next fd.below
  clear s0 s1 fx
  refine startL (S := (fun w' => Below (wb.drew).heap.size (wb.drew) w')) (by kernel_rfl) (Below.refl _ _) (fun hHeld => ?_)
  refine takeL 0 (v := ?_) rfl (by kernel_rfl) (by kernel_rfl) (by kernel_rfl) (fun _ _ _ h => h) ⟨by rfl, ?_⟩ (by assumption) ?_
  rotate_left
  · intro w hS; have f1 := fd.at hS; go_simp <;> with_reducible rfl
  simp only [Act.put, List.setIfInBounds_toArray, List.set_cons_zero, List.set_cons_succ]
  refine takeL 1 (v := ?_) rfl (by kernel_rfl) (by kernel_rfl) (by kernel_rfl) (fun _ _ _ h => h) ⟨by rfl, ?_⟩ (by assumption) ?_
  rotate_left
  · intro w hS; go_simp <;> with_reducible rfl
  simp only [Act.put, List.setIfInBounds_toArray, List.set_cons_zero, List.set_cons_succ]
  refine takeL 2 (v := ?_) rfl (by kernel_rfl) (by kernel_rfl) (by kernel_rfl) (fun _ _ _ h => h) ⟨by rfl, ?_⟩ (by assumption) ?_
  rotate_left
  · intro w hS; have f1 := fd.at hS; go_simp <;> with_reducible rfl
  simp only [Act.put, List.setIfInBounds_toArray, List.set_cons_zero, List.set_cons_succ]
  refine takeL 3 (v := ?_) rfl (by kernel_rfl) (by kernel_rfl) (by kernel_rfl) (fun _ _ _ h => h) ⟨by rfl, ?_⟩ (by assumption) ?_
  rotate_left
  · intro w hS; go_simp <;> with_reducible rfl
  simp only [Act.put, List.setIfInBounds_toArray, List.set_cons_zero, List.set_cons_succ]
  refine takeL 4 (v := ?_) rfl (by kernel_rfl) (by kernel_rfl) (by kernel_rfl) (fun _ _ _ h => h) ⟨by rfl, ?_⟩ (by assumption) ?_
  rotate_left
  · intro w hS; go_simp <;> with_reducible rfl
  simp only [Act.put, List.setIfInBounds_toArray, List.set_cons_zero, List.set_cons_succ]
  refine oneL 5 rfl (by kernel_rfl) (by rfl) (fun K hK => ?_)
  go_simp
  go_at_call 139
  (with_reducible refine (fp_Gcd p v u xs ys _ HP.out HT.out (t0.next hHeld) (t1.next hHeld) (by omega) (by omega)).mono ?_); rintro e w2 ⟨r2, G, rfl, oG, mG, gG, lG, b2⟩
  have GG := Lib.hid gG; clear gG
  refine hK.out _ _ (hHeld.trans (b2.mono hHeld.size)) (fun hHeld => ?_)
  clear hK K
  try simp only [Act.put, List.setIfInBounds_toArray, List.set_cons_zero, List.set_cons_succ]
  have tG := oG.sl
  have tX := t0.next hHeld
  by_cases hG : G = []
  · refine oneL 6 rfl (by kernel_rfl) (by rfl) (fun K hK => ?_)
    go_simp
    go_at_call 63
    (with_reducible refine (fp_DivMod_no p v r2 xs G _ HP.out tX tG (by omega) (by omega) (by rw [hG]; simp [nl, tr])).mono ?_); rintro e w4 ⟨rfl, b4⟩
    refine hK.out _ _ (hHeld.trans (b4.mono hHeld.size)) (fun hHeld => ?_)
    clear hK K
    try simp only [Act.put, List.setIfInBounds_toArray, List.set_cons_zero, List.set_cons_succ]
    refine takeL 7 (v := ?_) rfl (by kernel_rfl) (by kernel_rfl) (by kernel_rfl) (fun _ _ _ h => h) ⟨by rfl, ?_⟩ (by assumption) ?_
    rotate_left
    · intro w hS; go_simp <;> with_reducible rfl
    simp only [Act.put, List.setIfInBounds_toArray, List.set_cons_zero, List.set_cons_succ]
    refine takeL 8 (v := ?_) rfl (by kernel_rfl) (by kernel_rfl) (by kernel_rfl) (fun _ _ _ h => h) ⟨by rfl, ?_⟩ (by assumption) ?_
    rotate_left
    · intro w hS; go_simp <;> with_reducible rfl
    simp only [Act.put, List.setIfInBounds_toArray, List.set_cons_zero, List.set_cons_succ]
    refine takeL 9 (v := ?_) rfl (by kernel_rfl) (by kernel_rfl) (by kernel_rfl) (fun _ _ _ h => h) ⟨by rfl, ?_⟩ (by assumption) ?_
    rotate_left
    · intro w hS; go_simp <;> with_reducible rfl
    simp only [Act.put, List.setIfInBounds_toArray, List.set_cons_zero, List.set_cons_succ]
    refine takeL 10 (v := ?_) rfl (by kernel_rfl) (by kernel_rfl) (by kernel_rfl) (fun _ _ _ h => h) ⟨by rfl, ?_⟩ (by assumption) ?_
    rotate_left
    · intro w hS; go_simp <;> with_reducible rfl
    simp only [Act.put, List.setIfInBounds_toArray, List.set_cons_zero, List.set_cons_succ]
    refine takeL 11 (v := ?_) rfl (by kernel_rfl) (by kernel_rfl) (by kernel_rfl) (fun _ _ _ h => h) ⟨by rfl, ?_⟩ (by assumption) ?_
    rotate_left
    · intro w hS; go_simp <;> with_reducible rfl
    simp only [Act.put, List.setIfInBounds_toArray, List.set_cons_zero, List.set_cons_succ]
    refine takeL 12 (v := ?_) rfl (by kernel_rfl) (by kernel_rfl) (by kernel_rfl) (fun _ _ _ h => h) ⟨by rfl, ?_⟩ (by assumption) ?_
    rotate_left
    · intro w hS; go_simp <;> with_reducible rfl
    simp only [Act.put, List.setIfInBounds_toArray, List.set_cons_zero, List.set_cons_succ]
    refine takeL 13 (v := ?_) rfl (by kernel_rfl) (by kernel_rfl) (by kernel_rfl) (fun _ _ _ h => h) ⟨by rfl, ?_⟩ (by assumption) ?_
    rotate_left
    · intro w hS; go_simp <;> with_reducible rfl
    simp only [Act.put, List.setIfInBounds_toArray, List.set_cons_zero, List.set_cons_succ]
    refine doneL (by kernel_rfl) ?_ _
    subst hG
    have hz := GG.out
    rw [pl_nil] at hz
    have HZ := Lib.hid hz; clear hz
    go_wp2
    go_ret
    exact ⟨_, [], rfl, Own.nil _ _ _ _, nrm_nil _, Or.inl (pl_nil p), ⟨0, 0, 0, HZ.out, by rw [(gcd_nil HZ.out).1, CR.zero_mul], by rw [pl_nil, CR.zero_mul, CR.zero_mul], by rw [pl_nil, CR.zero_mul]; exact Dv.refl _⟩, by simp, fd.below.trans (hHeld.mono fd.below.size)⟩
  · refine oneL 6 rfl (by kernel_rfl) (by rfl) (fun K hK => ?_)
    go_simp
    go_at_call 63
    (with_reducible refine (fp_DivMod p v r2 xs G _ HP.out HT.out tX tG (by omega) (by omega) (by rw [nl_of HP.out.pos mG]; exact hG)).mono ?_); rintro e w4 ⟨rq4, rr4, zq4, zr4, rfl, oq4, or4, mq4, mr4, vd4, ld4, lq4, lr4, b4⟩
    have VD := Lib.hid vd4; clear vd4; replace oq4 := oq4.mono (Nat.le_trans fd.below.size hHeld.size)
    refine hK.out _ _ (hHeld.trans (b4.mono hHeld.size)) (fun hHeld => ?_)
    clear hK K
    try simp only [Act.put, List.setIfInBounds_toArray, List.set_cons_zero, List.set_cons_succ]
    refine takeL 7 (v := ?_) rfl (by kernel_rfl) (by kernel_rfl) (by kernel_rfl) (fun _ _ _ h => h) ⟨by rfl, ?_⟩ (by assumption) ?_
    rotate_left
    · intro w hS; go_simp <;> with_reducible rfl
    simp only [Act.put, List.setIfInBounds_toArray, List.set_cons_zero, List.set_cons_succ]
    refine takeL 8 (v := ?_) rfl (by kernel_rfl) (by kernel_rfl) (by kernel_rfl) (fun _ _ _ h => h) ⟨by rfl, ?_⟩ (by assumption) ?_
    rotate_left
    · intro w hS; go_simp <;> with_reducible rfl
    simp only [Act.put, List.setIfInBounds_toArray, List.set_cons_zero, List.set_cons_succ]
    refine takeL 9 (v := ?_) rfl (by kernel_rfl) (by kernel_rfl) (by kernel_rfl) (fun _ _ _ h => h) ⟨by rfl, ?_⟩ (by assumption) ?_
    rotate_left
    · intro w hS; go_simp <;> with_reducible rfl
    simp only [Act.put, List.setIfInBounds_toArray, List.set_cons_zero, List.set_cons_succ]
    refine takeL 10 (v := ?_) rfl (by kernel_rfl) (by kernel_rfl) (by kernel_rfl) (fun _ _ _ h => h) ⟨by rfl, ?_⟩ (by assumption) ?_
    rotate_left
    · intro w hS; go_simp <;> with_reducible rfl
    simp only [Act.put, List.setIfInBounds_toArray, List.set_cons_zero, List.set_cons_succ]
    refine takeL 11 (v := ?_) rfl (by kernel_rfl) (by kernel_rfl) (by kernel_rfl) (fun _ _ _ h => h) ⟨by rfl, ?_⟩ (by assumption) ?_
    rotate_left
    · intro w hS; go_simp <;> with_reducible rfl
    simp only [Act.put, List.setIfInBounds_toArray, List.set_cons_zero, List.set_cons_succ]
    refine takeL 12 (v := ?_) rfl (by kernel_rfl) (by kernel_rfl) (by kernel_rfl) (fun _ _ _ h => h) ⟨by rfl, ?_⟩ (by assumption) ?_
    rotate_left
    · intro w hS; go_simp <;> with_reducible rfl
    simp only [Act.put, List.setIfInBounds_toArray, List.set_cons_zero, List.set_cons_succ]
    refine takeL 13 (v := ?_) rfl (by kernel_rfl) (by kernel_rfl) (by kernel_rfl) (fun _ _ _ h => h) ⟨by rfl, ?_⟩ (by assumption) ?_
    rotate_left
    · intro w hS; go_simp <;> with_reducible rfl
    simp only [Act.put, List.setIfInBounds_toArray, List.set_cons_zero, List.set_cons_succ]
    refine doneL (by kernel_rfl) ?_ _
    have hdiv : pl p xs = pl p zq4 * pl p G := by
      have hl := nrm_ln HP.out.pos mG
      obtain ⟨n, hn⟩ := hl.pos (fun e => hG (pl_zero HP.out.pos mG e))
      rw [hn] at hl
      obtain ⟨c, hc⟩ := GG.out.2.1
      rw [nl_of HP.out.pos mG] at ld4
      have := div_unique HT.out (q := pl p zq4) (q' := c) (r := pl p zr4) (r' := 0) (n := n) hl (dlt_mono (pl_dlt p zr4) (by omega)) (dlt_zero _) (by rw [← VD.out, hc, CR.mul_comm, CR.add_zero])
      rw [VD.out, this.2, CR.add_zero]
    have HD := Lib.hid hdiv
    clear hdiv VD ld4
    replace fd := fd.next hHeld
    replace t1 := t1.next hHeld
    clear hHeld b2 b4 tX tG t0 oG
    replace fd := fd.drew
    replace t1 := t1.drew
    replace oq4 := oq4.drew
    go_upto_region 4 with (fail)
    refine startL (S := (fun w' => Below (w4.drew).heap.size (w4.drew) w')) (by kernel_rfl) (Below.refl _ _) (fun hHeld => ?_)
    refine takeL 0 (v := ?_) rfl (by kernel_rfl) (by kernel_rfl) (by kernel_rfl) (fun _ _ _ h => h) ⟨by rfl, ?_⟩ (by assumption) ?_
    rotate_left
    · intro w hS; have f1 := fd.at hS; go_simp <;> with_reducible rfl
    simp only [Act.put, List.setIfInBounds_toArray, List.set_cons_zero, List.set_cons_succ]
    refine takeL 1 (v := ?_) rfl (by kernel_rfl) (by kernel_rfl) (by kernel_rfl) (fun _ _ _ h => h) ⟨by rfl, ?_⟩ (by assumption) ?_
    rotate_left
    · intro w hS; have f1 := fd.at hS; go_simp <;> with_reducible rfl
    simp only [Act.put, List.setIfInBounds_toArray, List.set_cons_zero, List.set_cons_succ]
    refine takeL 2 (v := ?_) rfl (by kernel_rfl) (by kernel_rfl) (by kernel_rfl) (fun _ _ _ h => h) ⟨by rfl, ?_⟩ (by assumption) ?_
    rotate_left
    · intro w hS; go_simp <;> with_reducible rfl
    simp only [Act.put, List.setIfInBounds_toArray, List.set_cons_zero, List.set_cons_succ]
    refine takeL 3 (v := ?_) rfl (by kernel_rfl) (by kernel_rfl) (by kernel_rfl) (fun _ _ _ h => h) ⟨by rfl, ?_⟩ (by assumption) ?_
    rotate_left
    · intro w hS; go_simp <;> with_reducible rfl
    simp only [Act.put, List.setIfInBounds_toArray, List.set_cons_zero, List.set_cons_succ]
    refine oneL 4 rfl (by kernel_rfl) (by rfl) (fun K hK => ?_)
    go_simp
    go_at_call 53
    (with_reducible refine (fp_Mul p rq4 u zq4 ys _ HP.out (oq4.next hHeld).sl (t1.next hHeld) (by omega) (by omega)).mono ?_); rintro e w5 ⟨r5, z5, rfl, o5, m5, v5, l5, b5⟩
    have V5 := Lib.hid v5; clear v5
    refine hK.out _ _ (hHeld.trans (b5.mono hHeld.size)) (fun hHeld => ?_)
    clear hK K
    try simp only [Act.put, List.setIfInBounds_toArray, List.set_cons_zero, List.set_cons_succ]
    refine oneL 5 rfl (by kernel_rfl) (by rfl) (fun K hK => ?_)
    go_simp
    go_at_call 140
    (with_reducible refine (fp_MonicN p r5 z5 _ HP.out HT.out o5.sl m5 (by omega)).mono ?_); rintro e w6 ⟨r6, z6, u6, rfl, o6, m6, v6, h6, l6, b6⟩
    have hx := RetMo.mo h6 v6; have hy := RetMo.dv h6 v6; have V6 := Lib.hid v6; have HX := Lib.hid hx; have HY := Lib.hid hy; clear v6 hx hy h6; replace o6 := o6.mono (Nat.le_trans fd.below.size hHeld.size)
    refine hK.out _ _ (hHeld.trans (b6.mono hHeld.size)) (fun hHeld => ?_)
    clear hK K
    try simp only [Act.put, List.setIfInBounds_toArray, List.set_cons_zero, List.set_cons_succ]
    refine takeL 6 (v := ?_) rfl (by kernel_rfl) (by kernel_rfl) (by kernel_rfl) (fun _ _ _ h => h) ⟨by rfl, ?_⟩ (by assumption) ?_
    rotate_left
    · intro w hS; go_simp <;> with_reducible rfl
    simp only [Act.put, List.setIfInBounds_toArray, List.set_cons_zero, List.set_cons_succ]
    refine doneL (by kernel_rfl) ?_ _
    go_wp2
    go_ret
    exact ⟨r6, z6, rfl, o6, m6, HX.out, ⟨_, pl p zq4, u6, GG.out, HD.out, by rw [V6.out, V5.out], by rw [← V5.out]; exact HY.out⟩, by omega, fd.below.trans (hHeld.mono fd.below.size)⟩

end Go.Proofs.Ythghdjpjbngllaa
/- Package fpoly: PowMod; the statements' divides. -/
namespace Go.Proofs.Ythghdjpjbngllaa
open Go.RowKit

def Cg {p : Nat} (m f g : Pol (Zp p)) : Prop := Dv m (f - g)

theorem Cg.refl {p : Nat} (m f : Pol (Zp p)) : Cg m f f := ⟨0, by rw [CR.sub_self, CR.mul_zero]⟩
theorem Cg.symm {p : Nat} {m f g : Pol (Zp p)} (h : Cg m f g) : Cg m g f := by
  obtain ⟨c, hc⟩ := h
  exact ⟨-c, by rw [CR.mul_neg, ← hc]; exact by_ring [f, g] (X1 - X0) (-(X0 - X1)) rfl⟩
theorem Cg.trans {p : Nat} {m f g h : Pol (Zp p)} (a : Cg m f g) (b : Cg m g h) : Cg m f h := by
  have := Dv.add a b
  rwa [show f - g + (g - h) = f - h from by_ring [f, g, h] (X0 - X1 + (X1 - X2)) (X0 - X2) rfl] at this
theorem Cg.mul {p : Nat} {m f g f' g' : Pol (Zp p)} (a : Cg m f g) (b : Cg m f' g') : Cg m (f * f') (g * g') := by
  have := (Dv.mul a f').add (Dv.mul b g)
  rwa [show f' * (f - g) + g * (f' - g') = f * f' - g * g' from by_ring [f, g, f', g'] (X2 * (X0 - X1) + X1 * (X2 - X3)) (X0 * X2 - X1 * X3) rfl] at this
theorem Cg.of_rem {p : Nat} {m f r q : Pol (Zp p)} (h : f = q * m + r) : Cg m r f := by
  refine Cg.symm ⟨q, ?_⟩
  rw [h]; exact by_ring [q, m, r] (X0 * X1 + X2 - X2) (X1 * X0) rfl
theorem Cg.pw {p : Nat} {m f g : Pol (Zp p)} (h : Cg m f g) (n : Nat) : Cg m (pw f n) (pw g n) := by
  induction n with
  | zero => exact Cg.refl _ _
  | succ n ih => rw [pw_succ, pw_succ]; exact ih.mul h
/-- Of each class there is one rest. -/
theorem Cg.unique {p : Nat} (ht : Trial p) {m r r' : Pol (Zp p)} {n : Nat} (hm : Ln m (n + 1)) (hr : r.dlt n) (hr' : r'.dlt n) (h : Cg m r r') : r = r' := by
  obtain ⟨c, hc⟩ := h
  have : r = c * m + r' := by
    rw [CR.mul_comm c, ← hc]; exact by_ring [r, r'] X0 (X0 - X1 + X1) rfl
  exact (div_unique ht (q := 0) (q' := c) hm hr hr' (by rw [← this]; exact by_ring [m, r] (0 * X0 + X1) X1 rfl)).2

/-- A power's rest is returned. -/
def RetPow (p : Nat) (w : World) (xs ms : List Nat) (n : Nat) (e : Ending) (w' : World) : Prop :=
  ∃ r zs, e = .returned (.tuple #[r, .bool true]) ∧ Own .u64 27 w' w.heap.size r zs ∧ Nrm p zs ∧ Cg (pl p ms) (pl p zs) (pw (pl p xs) n) ∧ zs.length < (nl p ms).length ∧ Below w.heap.size w w'

structure PowRel (p : Nat) (w wr : World) (g : Nat) (xs ms : List Nat) (n0 n : Nat) (ov bv : Value) (A B : List Nat) : Prop where
  fx : Fx p w wr g
  oa : Own .u64 27 wr w.heap.size ov A
  ob : Own .u64 27 wr w.heap.size bv B
  ma : Nrm p A
  mb : Nrm p B
  la : A.length < (nl p ms).length
  lb : B.length < (nl p ms).length
  le : n ≤ n0
  val : Cg (pl p ms) (pl p A * pw (pl p B) n) (pw (pl p xs) n0)

theorem nl_lt (p : Nat) (ms : List Nat) {k : Nat} (h : k < (nl p ms).length) (hm : ms.length ≤ 1000) : k ≤ 1000 := by
  have := nl_len p ms; omega

theorem odd_step {p : Nat} {m A B a b W : Pol (Zp p)} {n : Nat} (hn : n % 2 = 1) (hv : Cg m (A * pw B n) W) (ha : Cg m a (A * B)) (hb : Cg m b (B * B)) : Cg m (a * pw b (n / 2)) W := by
  have h := (ha.mul (hb.pw (n / 2))).trans (Cg.refl m _)
  rw [pw_dbl] at h
  refine h.trans ?_
  have e : A * B * pw B (2 * (n / 2)) = A * pw B n := by
    rw [show pw B n = pw B (2 * (n / 2) + 1) by congr 1; omega, pw_succ]
    exact by_ring [A, B, pw B (2 * (n / 2))] (X0 * X1 * X2) (X0 * (X2 * X1)) rfl
  rw [e]; exact hv

theorem even_step {p : Nat} {m A B b W : Pol (Zp p)} {n : Nat} (hn : n % 2 ≠ 1) (hv : Cg m (A * pw B n) W) (hb : Cg m b (B * B)) : Cg m (A * pw b (n / 2)) W := by
  have h := (Cg.refl m A).mul (hb.pw (n / 2))
  rw [pw_dbl, show 2 * (n / 2) = n by omega] at h
  exact h.trans hv

theorem Cg.prod {p : Nat} {m AB : Pol (Zp p)} {z r : List Nat} (hz : pl p z = AB) (hr : ∃ q, pl p z = q * m + pl p r) : Cg m (pl p r) AB := by
  obtain ⟨q, hq⟩ := hr
  rw [← hz]; exact Cg.of_rem hq

end Go.Proofs.Ythghdjpjbngllaa
/- The statements' divides. -/
namespace Go.Proofs.Ythghdjpjbngllaa
open Go.RowKit

theorem dv_rem {p : Nat} (ht : Trial p) {a b q r : Pol (Zp p)} {n : Nat} (ha : Ln a (n + 1)) (hr : r.dlt n) (h : b = q * a + r) : Dv a b ↔ r = 0 := by
  constructor
  · rintro ⟨c, hc⟩
    exact (div_unique ht (q := q) (q' := c) (r := r) (r' := 0) ha hr (dlt_zero _) (by rw [← h, hc, CR.mul_comm, CR.add_zero])).2
  · intro h0
    exact ⟨q, by rw [h, h0, CR.add_zero, CR.mul_comm]⟩

theorem nl_nil {p : Nat} (hp : 0 < p) {xs : List Nat} : nl p xs = [] ↔ pl p xs = 0 := by
  constructor
  · intro h; rw [← nl_pl, h, pl_nil]
  · intro h; exact pl_zero hp (nl_nrm hp xs) (by rw [nl_pl, h])

end Go.Proofs.Ythghdjpjbngllaa
