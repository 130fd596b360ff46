/- Package fpoly: Xgcd. -/
import Derived.Test.YtjpioijlpgmlfaaFxg
namespace Go.Proofs.Ytjpioijlpgmlfaa
open Go.RowKit

/-- A slice that reads as a list, and lies in another block than ge. -/
def Sx (w : World) (ge : Nat) (v : Value) (xs : List Nat) : Prop := ∃ ao b off cap, v = .slice ao xs.length cap ∧ xs.length ≤ cap ∧ Cs .u64 w ao b off xs ∧ (xs ≠ [] → b ≠ ge)

theorem Sx.sl {w : World} {ge : Nat} {v : Value} {xs : List Nat} (h : Sx w ge v xs) : Sl .u64 w v xs := by
  obtain ⟨ao, b, off, cap, e, l, c, -⟩ := h; exact ⟨ao, b, off, cap, e, l, c⟩
theorem Sx.next {w w' : World} {ge : Nat} {v : Value} {xs : List Nat} (h : Sx w ge v xs) (hb : Below w.heap.size w w') : Sx w' ge v xs := by
  obtain ⟨ao, b, off, cap, e, l, c, n⟩ := h; exact ⟨ao, b, off, cap, e, l, c.below hb (Nat.le_refl _), n⟩
theorem Sx.set {w : World} {ge : Nat} {v : Value} {xs : List Nat} (h : Sx w ge v xs) (j : Nat) (u : Value) : Sx (w.setCell ⟨ge, j, none⟩ u) ge v xs := by
  obtain ⟨ao, b, off, cap, e, l, c, n⟩ := h
  refine ⟨ao, b, off, cap, e, l, ?_, n⟩
  by_cases hx : xs = []
  · subst hx; exact ⟨fun h => absurd rfl h, fun j hj => by simp at hj⟩
  · exact c.set_far (n hx) u
theorem Sx.of {w : World} {v : Value} {xs : List Nat} (h : Sl .u64 w v xs) {ge : Nat} (hg : w.heap.size ≤ ge) : Sx w ge v xs := by
  obtain ⟨ao, b, off, cap, e, l, c⟩ := h
  exact ⟨ao, b, off, cap, e, l, c, fun hx => by have := c.lt hx; omega⟩
theorem Sx.own {e : TypeId} {w : World} {base : Nat} {v : Value} {xs : List Nat} (h : Own .u64 e w base v xs) {ge : Nat} (hg : ge < base) : Sx w ge v xs := by
  rcases h.shape with ⟨rfl, rfl⟩ | ⟨g, cap, rfl, hb, _, hn, _⟩
  · exact ⟨none, 0, 0, 0, rfl, Nat.le_refl _, ⟨fun h => absurd rfl h, fun j hj => by simp at hj⟩, fun h => absurd rfl h⟩
  · obtain ⟨ao, b, off, cap', e, l, c⟩ := h.sl
    simp only [Value.slice.injEq] at e
    obtain ⟨rfl, -, rfl⟩ := e
    exact ⟨_, b, off, _, rfl, l, c, fun hx => by have := c.ao hx; simp at this; omega⟩

theorem Sx.nil (w : World) (ge : Nat) : Sx w ge (.slice none 0 0) [] := ⟨none, 0, 0, 0, rfl, Nat.le_refl _, ⟨fun h => absurd rfl h, fun j hj => by simp at hj⟩, fun h => absurd rfl h⟩

structure XRel (p : Nat) (w wr : World) (g ge : Nat) (A0 B0 : List Nat) (r2 r3 va vb vs vt : Value) (A B S T : List Nat) (K : Nat) : Prop where
  fx : Fx p w wr g
  blk : Blk 68 wr ge [va, vb, vs, vt]
  sa0 : Sx wr ge r2 A0
  sb0 : Sx wr ge r3 B0
  sa : Sx wr ge va A
  sb : Sx wr ge vb B
  ss : Sx wr ge vs S
  st : Sx wr ge vt T
  ma : Nrm p A
  mb : Nrm p B
  ls : S.length + B.length ≤ K + 1
  lt : T.length + A.length ≤ K + 1
  sam : Same2 (pl p A) (pl p B) (pl p A0) (pl p B0)
  ca : ∃ t, pl p A = pl p S * pl p A0 + t * pl p B0
  cb : ∃ t, pl p B = pl p T * pl p A0 + t * pl p B0
  no : B0 = [] → B = [] ∧ S.length ≤ 1

theorem x_len {p : Nat} (ht : Trial p) {A B S T zr zs : List Nat} {q : Pol (Zp p)} {K : Nat} (mb : Nrm p B) (h0 : B ≠ []) (mz : Nrm p zs) (e : pl p A = q * pl p B + pl p zr) (es : pl p zs = pl p S - q * pl p T)
    (hr : zr.length < B.length) (ls : S.length + B.length ≤ K + 1) (lt : T.length + A.length ≤ K + 1) : zs.length + B.length ≤ K + 1 := by
  have hp := trial_gt ht
  have hB := List.length_pos_iff.2 h0
  obtain ⟨n, hn⟩ : ∃ n, B.length = n + 1 := ⟨B.length - 1, by omega⟩
  have lB : Ln (pl p B) (n + 1) := by rw [← hn]; exact nrm_ln (by omega) mb
  obtain ⟨m, hq⟩ := Ln.exists q
  cases m with
  | zero =>
    have : zs.length ≤ S.length := pl_len (by omega) mz (by rw [es, hq.nil, CR.zero_mul, CR.sub_zero]; exact pl_dlt p S)
    omega
  | succ m =>
    have h1 := hq.mul ht lB
    have h2 : q * pl p B = pl p A - pl p zr := by rw [e]; exact by_ring [q * pl p B, pl p zr] X0 (X0 + X1 - X1) rfl
    have h3 : m + n + 1 ≤ max A.length zr.length := by
      rw [h2] at h1
      exact h1.le (dlt_sub (dlt_mono (pl_dlt p A) (by omega)) (dlt_mono (pl_dlt p zr) (by omega)))
    have h4 : zs.length ≤ max S.length (m + T.length) := by
      refine pl_len (by omega) mz ?_
      rw [es]
      refine dlt_sub (dlt_mono (pl_dlt p S) (by omega)) ?_
      by_cases hT : T = []
      · rw [hT, pl_nil, CR.mul_zero]; exact dlt_zero _
      · have := List.length_pos_iff.2 hT
        have h5 := mul_dlt' (f := q) (g := pl p T) (a := m) (b := T.length - 1) hq.1 (by rw [Nat.sub_add_cancel this]; exact pl_dlt p T)
        exact dlt_mono h5 (by omega)
    omega

/-- The greatest common divisor is returned, and what makes it. -/
def RetX (p : Nat) (w : World) (xs ys : List Nat) (e : Ending) (w' : World) : Prop :=
  ∃ rg rs rt zg zs zt, e = .returned (.tuple #[rg, rs, rt]) ∧ Sl .u64 w' rg zg ∧ Sl .u64 w' rs zs ∧ Sl .u64 w' rt zt ∧ Nrm p zg ∧ Nrm p zs ∧ Nrm p zt ∧
    IsGcd (pl p zg) (pl p xs) (pl p ys) ∧ pl p zg = pl p zs * pl p xs + pl p zt * pl p ys ∧ (nl p ys = [] → zt = [] ∧ zs.length ≤ 1) ∧
    (nl p ys ≠ [] → ∃ zp, Nrm p zp ∧ pl p ys = pl p zp * pl p zg ∧ zs.length < zp.length) ∧ zg.length ≤ 2000 ∧ zs.length ≤ 3000 ∧ zt.length ≤ 20000 ∧ Below w.heap.size w w'

set_option maxHeartbeats 4000000 in
theorem fp_Xgcd (p : Nat) (v u : Value) (xs ys : List Nat) (w : World) (hp : FP p) (ht : Trial p) (s0 : Sl .u64 w v xs) (s1 : Sl .u64 w u ys) (hm : xs.length ≤ 900) (hn : ys.length ≤ 900) :
    Calls Try.prog 37 #[.agg #[.int .u64 p], v, u] w (RetX p w xs ys) := by
  have HT := Lib.hid ht; clear ht
  have HP := Lib.hid hp; clear hp
  have fx := Fx.box (p := p) (Below.refl w.heap.size w)
  go_enter Try.func37, Try.ntmps37
  go_upto_region 1 with (fail)
  generalize w.alloc (.cells #[.int .u64 p] 28) = wb at *
  obtain ⟨g, eg⟩ : ∃ g, g = w.heap.size := ⟨_, rfl⟩
  rw [← eg] at fx ⊢
  have hgw : w.heap.size ≤ g := by omega
  clear eg
  have fd := fx.drew
  have t0 := s0.next fd.below
  have t1 := s1.next fd.below
  clear s0 s1 fx
  refine startL (S := (fun w' => Below (wb.drew).heap.size (wb.drew) w')) (by kernel_rfl) (Below.refl _ _) (fun hHeld => ?_)
  refine takeL 0 (v := ?_) rfl (by kernel_rfl) (by kernel_rfl) (by kernel_rfl) (fun _ _ _ h => h) ⟨by rfl, ?_⟩ (by assumption) ?_
  rotate_left
  · intro w hS; have f1 := fd.at hS; go_simp <;> with_reducible rfl
  simp only [Act.put, List.setIfInBounds_toArray, List.set_cons_zero, List.set_cons_succ]
  refine takeL 1 (v := ?_) rfl (by kernel_rfl) (by kernel_rfl) (by kernel_rfl) (fun _ _ _ h => h) ⟨by rfl, ?_⟩ (by assumption) ?_
  rotate_left
  · intro w hS; go_simp <;> with_reducible rfl
  simp only [Act.put, List.setIfInBounds_toArray, List.set_cons_zero, List.set_cons_succ]
  refine takeL 3 (v := ?_) rfl (by kernel_rfl) (by kernel_rfl) (by kernel_rfl) (fun _ _ _ h => h) ⟨by rfl, ?_⟩ (by assumption) ?_
  rotate_left
  · intro w hS; have f1 := fd.at hS; go_simp <;> with_reducible rfl
  simp only [Act.put, List.setIfInBounds_toArray, List.set_cons_zero, List.set_cons_succ]
  refine takeL 4 (v := ?_) rfl (by kernel_rfl) (by kernel_rfl) (by kernel_rfl) (fun _ _ _ h => h) ⟨by rfl, ?_⟩ (by assumption) ?_
  rotate_left
  · intro w hS; go_simp <;> with_reducible rfl
  simp only [Act.put, List.setIfInBounds_toArray, List.set_cons_zero, List.set_cons_succ]
  refine oneL 2 rfl (by kernel_rfl) (by rfl) (fun K hK => ?_)
  go_simp
  go_at_call 23
  (with_reducible refine (fp_Norm p v xs _ HP.out (t0.next hHeld) (by omega)).mono ?_); rintro e w2 ⟨r2, A0, rfl, oA, mA, vA, lA, b2⟩
  have VA := Lib.hid vA; clear vA
  refine hK.out _ _ (hHeld.trans (b2.mono hHeld.size)) (fun hHeld => ?_)
  clear hK K
  try simp only [Act.put, List.setIfInBounds_toArray, List.set_cons_zero, List.set_cons_succ]
  refine oneL 5 rfl (by kernel_rfl) (by rfl) (fun K hK => ?_)
  go_simp
  go_at_call 23
  (with_reducible refine (fp_Norm p u ys _ HP.out (t1.next hHeld) (by omega)).mono ?_); rintro e w3 ⟨r3, B0, rfl, oB, mB, vB, lB, b3⟩
  have VB := Lib.hid vB; clear vB; replace oA := oA.next b3
  refine hK.out _ _ (hHeld.trans (b3.mono hHeld.size)) (fun hHeld => ?_)
  clear hK K
  try simp only [Act.put, List.setIfInBounds_toArray, List.set_cons_zero, List.set_cons_succ]
  refine takeL 6 (v := ?_) rfl (by kernel_rfl) (by kernel_rfl) (by kernel_rfl) (fun _ _ _ h => h) ⟨by rfl, ?_⟩ (by assumption) ?_
  rotate_left
  · intro w hS; go_simp <;> with_reducible rfl
  simp only [Act.put, List.setIfInBounds_toArray, List.set_cons_zero, List.set_cons_succ]
  refine takeL 7 (v := ?_) rfl (by kernel_rfl) (by kernel_rfl) (by kernel_rfl) (fun _ _ _ h => h) ⟨by rfl, ?_⟩ (by assumption) ?_
  rotate_left
  · intro w hS; go_simp <;> with_reducible rfl
  simp only [Act.put, List.setIfInBounds_toArray, List.set_cons_zero, List.set_cons_succ]
  refine doneL (by kernel_rfl) ?_ _
  have tA := oA.sl
  have tB := oB.sl
  obtain ⟨ao, ba, oa, ca, rfl, -, -⟩ := id tA
  obtain ⟨bo, bb, ob, cb, rfl, -, -⟩ := id tB
  replace fd := fd.next hHeld
  clear t0 t1 hHeld b2 b3 oA oB
  go_upto_region 3 with (fail)
  have L1 : Sl .u64 (w3.alloc (.cells #[.int .u64 1] 26)) (.slice (some ⟨w3.heap.size, 0, none⟩) 1 1) [1] := (own_lit1 w3 1).sl
  have B1 : Below w3.heap.size w3 (w3.alloc (.cells #[.int .u64 1] 26)) := (Below.refl _ _).alloc (Nat.le_refl _) _
  have hs1 : (w3.alloc (.cells #[.int .u64 1] 26)).heap.size = w3.heap.size + 1 := by simp
  have XA := (Sx.of tA (ge := w3.heap.size + 1) (by omega)).next B1
  have XB := (Sx.of tB (ge := w3.heap.size + 1) (by omega)).next B1
  have X1 := Sx.of L1 (ge := w3.heap.size + 1) (by omega)
  have f1 := fd.next B1
  obtain ⟨gl, egl⟩ : ∃ gl, gl = w3.heap.size := ⟨_, rfl⟩
  obtain ⟨ge, ege⟩ : ∃ ge, ge = w3.heap.size + 1 := ⟨_, rfl⟩
  have hgge : g < ge := by have := fd.lt; omega
  have hwge : w.heap.size ≤ ge := by have := fd.below.size; omega
  rw [← ege] at XA XB X1 hs1 ⊢
  rw [← egl] at X1 ⊢
  have hlb := lB; have hla := lA
  generalize w3.alloc (.cells #[.int .u64 1] 26) = wl at *
  have K0 : Blk 68 (wl.alloc (.cells #[.slice ao A0.length ca, .slice bo B0.length cb, .slice (some ⟨gl, 0, none⟩) 1 1, .slice none 0 0] 68)) ge [.slice ao A0.length ca, .slice bo B0.length cb, .slice (some ⟨gl, 0, none⟩) 1 1, .slice none 0 0] := by
    have := Blk.lit wl 68 [.slice ao A0.length ca, .slice bo B0.length cb, .slice (some ⟨gl, 0, none⟩) 1 1, .slice none 0 0]
    rwa [hs1] at this
  have B2 : Below wl.heap.size wl (wl.alloc (.cells #[.slice ao A0.length ca, .slice bo B0.length cb, .slice (some ⟨gl, 0, none⟩) 1 1, .slice none 0 0] 68)) := (Below.refl _ _).alloc (Nat.le_refl _) _
  generalize wl.alloc (.cells #[.slice ao A0.length ca, .slice bo B0.length cb, .slice (some ⟨gl, 0, none⟩) 1 1, .slice none 0 0] 68) = we at *
  have st : XRel p w we g ge A0 B0 (.slice ao A0.length ca) (.slice bo B0.length cb) (.slice ao A0.length ca) (.slice bo B0.length cb) (.slice (some ⟨gl, 0, none⟩) 1 1) (.slice none 0 0) A0 B0 [1] [] (max A0.length B0.length) :=
    ⟨f1.next B2, K0, XA.next B2, XB.next B2, XA.next B2, XB.next B2, X1.next B2, Sx.nil _ _, mA, mB, by simp; omega, by simp; omega, Same2.refl _ _,
      ⟨0, by rw [show pl p [1] = 1 from Pol.ext fun i => by rw [pl_c, Pol.one_def, c_mon]; cases i <;> rfl, CR.one_mul, CR.zero_mul, CR.add_zero]⟩, ⟨1, by rw [pl_nil, CR.zero_mul, CR.zero_add, CR.one_mul]⟩, fun h => ⟨h, by simp⟩⟩
  obtain ⟨K, eK⟩ : ∃ K, K = max A0.length B0.length := ⟨_, rfl⟩
  rw [← eK] at st
  have hK : K ≤ 900 := by omega
  have MA := Lib.hid mA; have MB := Lib.hid mB
  clear tA tB L1 B1 B2 hs1 XA XB X1 f1 fd K0 egl ege eK mA mB
  go_wp2_with fail
  go_loopw [32] (fun _ wr => ∃ (va vb vs vt : Value) (A B S T : List Nat), XRel p w wr g ge A0 B0 (.slice ao A0.length ca) (.slice bo B0.length cb) va vb vs vt A B S T K) (fun _ wr => match wr.cell? ⟨ge, 1, none⟩ with | some (.slice _ n _) => n | _ => 0)
  case atStart => exact ⟨_, _, _, _, _, _, _, _, st⟩
  case round =>
    clear st
    obtain ⟨va, vb, vs, vt, A, B, S, T, st⟩ := hrel
    obtain ⟨a1, -, -, a2, rfl, -, -, -⟩ := id st.sa
    obtain ⟨b1, -, -, b2, rfl, -, -, -⟩ := id st.sb
    obtain ⟨s1, -, -, s2, rfl, -, -, -⟩ := id st.ss
    obtain ⟨t1, -, -, t2, rfl, -, -, -⟩ := id st.st
    have hcg := st.fx.cell
    have c0 := st.blk.cell 0
    have c1 := st.blk.cell 1
    have c2 := st.blk.cell 2
    have c3 := st.blk.cell 3
    have hls := st.ls; have hlt := st.lt
    by_cases h0 : 0 < B.length
    · have hB : B ≠ [] := List.length_pos_iff.mp h0
      go_wp2_with fail
      refine (fp_step p _ _ _ _ A B S T _ HP.out HT.out st.sa.sl st.sb.sl st.ss.sl st.st.sl (by omega) (by omega) (by omega) (by omega) st.mb hB).mono ?_
      rintro e w4 ⟨rr, rs, zr, zs, q, rfl, oR, oS, mr, ms, hq, hs, hrl, hra, b4⟩
      have hxl := x_len HT.out st.mb hB ms hq hs hrl hls hlt
      have hgw4 : ge < wr.heap.size := st.blk.lt
      obtain ⟨r1, -, -, r2, rfl, -, -, -⟩ := Sx.own oR hgw4
      obtain ⟨p1, -, -, p2, rfl, -, -, -⟩ := Sx.own oS hgw4
      have K4 := st.blk.next b4
      have KF := (((K4.set 0 (.slice b1 B.length b2)).set 1 (.slice r1 zr.length r2)).set 2 (.slice t1 T.length t2)).set 3 (.slice p1 zs.length p2)
      have hS4 : ∀ {v : Value} {xs : List Nat}, Sx w4 ge v xs → Sx ((((w4.setCell ⟨ge, 0, none⟩ (.slice b1 B.length b2)).setCell ⟨ge, 1, none⟩ (.slice r1 zr.length r2)).setCell ⟨ge, 2, none⟩ (.slice t1 T.length t2)).setCell ⟨ge, 3, none⟩ (.slice p1 zs.length p2)) ge v xs :=
        fun h => ((((h.set 0 _).set 1 _).set 2 _).set 3 _)
      have hne : g ≠ ge := by omega
      have st2 : XRel p w ((((w4.setCell ⟨ge, 0, none⟩ (.slice b1 B.length b2)).setCell ⟨ge, 1, none⟩ (.slice r1 zr.length r2)).setCell ⟨ge, 2, none⟩ (.slice t1 T.length t2)).setCell ⟨ge, 3, none⟩ (.slice p1 zs.length p2)) g ge A0 B0 (.slice ao A0.length ca) (.slice bo B0.length cb) (.slice b1 B.length b2) (.slice r1 zr.length r2) (.slice t1 T.length t2) (.slice p1 zs.length p2) B zr T zs K :=
        ⟨((((st.fx.next b4).set (a := ⟨ge, 0, none⟩) hwge hne _).set (a := ⟨ge, 1, none⟩) hwge hne _).set (a := ⟨ge, 2, none⟩) hwge hne _).set (a := ⟨ge, 3, none⟩) hwge hne _,
          KF, hS4 (st.sa0.next b4), hS4 (st.sb0.next b4), hS4 (st.sb.next b4), hS4 (Sx.own oR hgw4), hS4 (st.st.next b4), hS4 (Sx.own oS hgw4), st.mb, mr, by omega, hxl, st.sam.step hq, st.cb, by
            obtain ⟨t, ht⟩ := st.ca
            obtain ⟨t', ht'⟩ := st.cb
            refine ⟨t - q * t', ?_⟩
            have h1 : pl p zr = pl p A - q * pl p B := by rw [hq]; exact by_ring [q, pl p B, pl p zr] X2 (X0 * X1 + X2 - X0 * X1) rfl
            rw [h1, hs, ht, ht']
            exact by_ring [pl p S, pl p A0, t, pl p B0, q, pl p T, t'] (X0 * X1 + X2 * X3 - X4 * (X5 * X1 + X6 * X3)) ((X0 - X4 * X5) * X1 + (X2 - X4 * X6) * X3) rfl,
          fun h => absurd (st.no h).1 hB⟩
      have hc1 := KF.cell 1
      have e0 := K4.cell 0; have e1 := K4.cell 1; have e2 := K4.cell 2; have e3 := K4.cell 3
      have g0 := K4.free 0; have g1 := K4.free 1; have g2 := K4.free 2; have g3 := K4.free 3
      have HQ := Lib.hid hq; have HS := Lib.hid hs
      have HC1 := Lib.hid c1
      have HD1 := Lib.hid hc1
      have HRL := Lib.hid hrl
      clear hq hs c0 c1 c2 c3 hcg oR oS b4 st hc1 KF K4
      go_wp2
      go_roundw
      case rel => exact ⟨_, _, _, _, _, _, _, _, st2⟩
      case measure => rw [HD1.out, HC1.out]; exact HRL.out
    · obtain rfl : B = [] := List.length_eq_zero_iff.mp (by omega)
      clear h0
      obtain ⟨x, ex⟩ : ∃ x, x = A.getD (A.length - 1) 0 := ⟨_, rfl⟩
      obtain ⟨y, ey⟩ : ∃ y, y = (Zp.of p x).iv.val := ⟨_, rfl⟩
      have hu : A = [] ∨ ∃ n, Ln (pl p A) (n + 1) ∧ Zp.of p y * (pl p A).c n = 1 := by
        by_cases h : A = []
        · exact Or.inl h
        · right
          obtain ⟨n, hn⟩ : ∃ n, A.length = n + 1 := ⟨A.length - 1, by have := List.length_pos_iff.2 h; omega⟩
          refine ⟨n, by rw [← hn]; exact nrm_ln HP.out.pos st.ma, ?_⟩
          rw [(Zp.fact HP.out ey).2, ex, show A.length - 1 = n by omega]
          exact lead_inv HT.out st.ma hn
      have HU := Lib.hid hu
      have EX := Lib.hid ex; have EY := Lib.hid ey
      have hla1 : A.length ≤ 901 := by omega
      have hls1 : S.length ≤ 901 := by simp at hls; omega
      clear ex ey hu hls hlt
      have fe := st.fx.drew
      have kb := st.blk.drew
      have sA := st.sa.sl.drew
      have sS := st.ss.sl.drew
      have sA0 := st.sa0.sl.drew
      have sB0 := st.sb0.sl.drew
      have HR := Lib.hid (show Same2 (pl p A) 0 (pl p A0) (pl p B0) ∧ (∃ t, pl p A = pl p S * pl p A0 + t * pl p B0) ∧ (B0 = [] → S.length ≤ 1) from ⟨by have := st.sam; rwa [pl_nil] at this, st.ca, fun h => (st.no h).2⟩)
      have hmA := st.ma
      go_upto_region 5 with (fail)
      clear c0 c1 c2 c3 hcg st
      refine startL (S := (fun w' => Below (wr.drew).heap.size (wr.drew) w')) (by kernel_rfl) (Below.refl _ _) (fun hHeld => ?_)
      refine takeL 0 (v := ?_) rfl (by kernel_rfl) (by kernel_rfl) (by kernel_rfl) (fun _ _ _ h => h) ⟨by rfl, ?_⟩ (by assumption) ?_
      rotate_left
      · intro w hS; have f1 := fe.at hS; have f2 := kb.at hS 0; go_simp <;> with_reducible rfl
      simp only [Act.put, List.setIfInBounds_toArray, List.set_cons_zero, List.set_cons_succ]
      refine takeL 1 (v := ?_) rfl (by kernel_rfl) (by kernel_rfl) (by kernel_rfl) (fun _ _ _ h => h) ⟨by rfl, ?_⟩ (by assumption) ?_
      rotate_left
      · intro w hS; have f1 := fe.at hS; have f2 := kb.at hS 0; go_simp <;> with_reducible rfl
      simp only [Act.put, List.setIfInBounds_toArray, List.set_cons_zero, List.set_cons_succ]
      refine takeL 2 (v := ?_) rfl (by kernel_rfl) (by kernel_rfl) (by kernel_rfl) (fun _ _ _ h => h) ⟨by rfl, ?_⟩ (by assumption) ?_
      rotate_left
      · intro w hS; go_simp <;> with_reducible rfl
      simp only [Act.put, List.setIfInBounds_toArray, List.set_cons_zero, List.set_cons_succ]
      refine takeL 3 (v := ?_) rfl (by kernel_rfl) (by kernel_rfl) (by kernel_rfl) (fun _ _ _ h => h) ⟨by rfl, ?_⟩ (by assumption) ?_
      rotate_left
      · intro w hS; have f1 := fe.at hS; have f2 := kb.at hS 0; go_simp <;> with_reducible rfl
      simp only [Act.put, List.setIfInBounds_toArray, List.set_cons_zero, List.set_cons_succ]
      refine oneL 4 rfl (by kernel_rfl) (by rfl) (fun K hK => ?_)
      go_simp
      go_at_call 51
      (with_reducible refine (fp_lead p x _ A A _ HP.out (sA.next hHeld) (by omega) (nl_of HP.out.pos hmA).symm EX.out).mono ?_); rintro e w5 ⟨rfl, b5⟩
      refine hK.out _ _ (hHeld.trans (b5.mono hHeld.size)) (fun hHeld => ?_)
      clear hK K
      try simp only [Act.put, List.setIfInBounds_toArray, List.set_cons_zero, List.set_cons_succ]
      refine oneL 5 rfl (by kernel_rfl) (by rfl) (fun K hK => ?_)
      go_simp
      go_at_call 44
      (with_reducible refine (gfp_Inv p x y _ HP.out EY.out).mono ?_); rintro e w6 ⟨rfl, b6⟩
      refine hK.out _ _ (hHeld.trans (b6.mono hHeld.size)) (fun hHeld => ?_)
      clear hK K
      try simp only [Act.put, List.setIfInBounds_toArray, List.set_cons_zero, List.set_cons_succ]
      refine takeL 6 (v := ?_) rfl (by kernel_rfl) (by kernel_rfl) (by kernel_rfl) (fun _ _ _ h => h) ⟨by rfl, ?_⟩ (by assumption) ?_
      rotate_left
      · intro w hS; go_simp <;> with_reducible rfl
      simp only [Act.put, List.setIfInBounds_toArray, List.set_cons_zero, List.set_cons_succ]
      refine doneL (by kernel_rfl) ?_ _
      replace fe := (fe.next hHeld).drew
      replace sA0 := (sA0.next hHeld).drew
      replace sB0 := (sB0.next hHeld).drew
      replace kb := (kb.next hHeld).drew
      replace sA := (sA.next hHeld).drew
      replace sS := (sS.next hHeld).drew
      clear hHeld b5 b6
      go_upto_region 6 with (fail)
      refine startL (S := (fun w' => Below (w6.drew).heap.size (w6.drew) w')) (by kernel_rfl) (Below.refl _ _) (fun hHeld => ?_)
      refine takeL 0 (v := ?_) rfl (by kernel_rfl) (by kernel_rfl) (by kernel_rfl) (fun _ _ _ h => h) ⟨by rfl, ?_⟩ (by assumption) ?_
      rotate_left
      · intro w hS; have f1 := fe.at hS; have f2 := kb.at hS 0; have f3 := kb.at hS 2; go_simp <;> with_reducible rfl
      simp only [Act.put, List.setIfInBounds_toArray, List.set_cons_zero, List.set_cons_succ]
      refine takeL 1 (v := ?_) rfl (by kernel_rfl) (by kernel_rfl) (by kernel_rfl) (fun _ _ _ h => h) ⟨by rfl, ?_⟩ (by assumption) ?_
      rotate_left
      · intro w hS; go_simp <;> with_reducible rfl
      simp only [Act.put, List.setIfInBounds_toArray, List.set_cons_zero, List.set_cons_succ]
      refine takeL 2 (v := ?_) rfl (by kernel_rfl) (by kernel_rfl) (by kernel_rfl) (fun _ _ _ h => h) ⟨by rfl, ?_⟩ (by assumption) ?_
      rotate_left
      · intro w hS; have f1 := fe.at hS; have f2 := kb.at hS 0; have f3 := kb.at hS 2; go_simp <;> with_reducible rfl
      simp only [Act.put, List.setIfInBounds_toArray, List.set_cons_zero, List.set_cons_succ]
      refine takeL 3 (v := ?_) rfl (by kernel_rfl) (by kernel_rfl) (by kernel_rfl) (fun _ _ _ h => h) ⟨by rfl, ?_⟩ (by assumption) ?_
      rotate_left
      · intro w hS; go_simp <;> with_reducible rfl
      simp only [Act.put, List.setIfInBounds_toArray, List.set_cons_zero, List.set_cons_succ]
      refine takeL 5 (v := ?_) rfl (by kernel_rfl) (by kernel_rfl) (by kernel_rfl) (fun _ _ _ h => h) ⟨by rfl, ?_⟩ (by assumption) ?_
      rotate_left
      · intro w hS; have f1 := fe.at hS; have f2 := kb.at hS 0; have f3 := kb.at hS 2; go_simp <;> with_reducible rfl
      simp only [Act.put, List.setIfInBounds_toArray, List.set_cons_zero, List.set_cons_succ]
      refine takeL 6 (v := ?_) rfl (by kernel_rfl) (by kernel_rfl) (by kernel_rfl) (fun _ _ _ h => h) ⟨by rfl, ?_⟩ (by assumption) ?_
      rotate_left
      · intro w hS; go_simp <;> with_reducible rfl
      simp only [Act.put, List.setIfInBounds_toArray, List.set_cons_zero, List.set_cons_succ]
      refine takeL 7 (v := ?_) rfl (by kernel_rfl) (by kernel_rfl) (by kernel_rfl) (fun _ _ _ h => h) ⟨by rfl, ?_⟩ (by assumption) ?_
      rotate_left
      · intro w hS; have f1 := fe.at hS; have f2 := kb.at hS 0; have f3 := kb.at hS 2; go_simp <;> with_reducible rfl
      simp only [Act.put, List.setIfInBounds_toArray, List.set_cons_zero, List.set_cons_succ]
      refine takeL 8 (v := ?_) rfl (by kernel_rfl) (by kernel_rfl) (by kernel_rfl) (fun _ _ _ h => h) ⟨by rfl, ?_⟩ (by assumption) ?_
      rotate_left
      · intro w hS; go_simp <;> with_reducible rfl
      simp only [Act.put, List.setIfInBounds_toArray, List.set_cons_zero, List.set_cons_succ]
      refine oneL 4 rfl (by kernel_rfl) (by rfl) (fun K hK => ?_)
      go_simp
      go_at_call 28
      (with_reducible refine (fp_Scale p y _ A _ HP.out (sA.next hHeld) (by omega)).mono ?_); rintro e w7 ⟨rg, zg, rfl, og, mg, vg, lg, b7⟩
      have VG := Lib.hid vg; clear vg
      refine hK.out _ _ (hHeld.trans (b7.mono hHeld.size)) (fun hHeld => ?_)
      clear hK K
      try simp only [Act.put, List.setIfInBounds_toArray, List.set_cons_zero, List.set_cons_succ]
      refine oneL 9 rfl (by kernel_rfl) (by rfl) (fun K hK => ?_)
      go_simp
      go_at_call 28
      (with_reducible refine (fp_Scale p y _ S _ HP.out (sS.next hHeld) (by omega)).mono ?_); rintro e w8 ⟨r8, zs1, rfl, os1, ms1, vs1, ls1, b8⟩
      have VS := Lib.hid vs1; clear vs1; replace og := og.next b8
      refine hK.out _ _ (hHeld.trans (b8.mono hHeld.size)) (fun hHeld => ?_)
      clear hK K
      try simp only [Act.put, List.setIfInBounds_toArray, List.set_cons_zero, List.set_cons_succ]
      refine takeL 10 (v := ?_) rfl (by kernel_rfl) (by kernel_rfl) (by kernel_rfl) (fun _ _ _ h => h) ⟨by rfl, ?_⟩ (by assumption) ?_
      rotate_left
      · intro w hS; go_simp <;> with_reducible rfl
      simp only [Act.put, List.setIfInBounds_toArray, List.set_cons_zero, List.set_cons_succ]
      refine takeL 11 (v := ?_) rfl (by kernel_rfl) (by kernel_rfl) (by kernel_rfl) (fun _ _ _ h => h) ⟨by rfl, ?_⟩ (by assumption) ?_
      rotate_left
      · intro w hS; go_simp <;> with_reducible rfl
      simp only [Act.put, List.setIfInBounds_toArray, List.set_cons_zero, List.set_cons_succ]
      refine doneL (by kernel_rfl) ?_ _
      replace fe := fe.next hHeld
      replace sA0 := sA0.next hHeld
      replace sB0 := sB0.next hHeld
      have sG := og.sl
      have sS1 := os1.sl
      clear hHeld b7 b8 og os1 sA sS kb
      have hgcd : IsGcd (pl p zg) (pl p xs) (pl p ys) := by
        rw [← VA.out, ← VB.out]
        exact HR.out.1.gcd (RetMo.mo HU.out VG.out) VG.out (RetMo.dv HU.out VG.out)
      have HG := Lib.hid hgcd; clear hgcd
      have hB0 := nl_is HP.out.pos MB.out VB.out
      have HB0 := Lib.hid hB0; clear hB0
      by_cases hb0 : B0.length = 0
      · have e0 : B0 = [] := List.length_eq_zero_iff.mp hb0
        have hz : ((B0.length : Int) == 0) = true := by rw [hb0]; rfl
        have fin : pl p zg = pl p zs1 * pl p xs + pl p [] * pl p ys := by
          obtain ⟨t, ht⟩ := HR.out.2.1
          rw [VG.out, VS.out, ht, ← VA.out, e0, pl_nil]
          exact by_ring [pl p S, pl p A0, t, mon (Zp.of p y) 0, pl p ys] ((X0 * X1 + X2 * 0) * X3) (X0 * X3 * X1 + 0 * X4) rfl
        have FIN := Lib.hid fin
        have hs1 := HR.out.2.2 e0
        have HNE := Lib.hid (fun h : nl p ys ≠ [] => h (HB0.out.symm.trans e0))
        clear fin e0
        go_wp2
        refine bodyPost_ret (v := .tuple #[rg, r8, .slice none 0 0]) (by simp [results, Try.results37, go_sem]) rfl ⟨rg, r8, _, zg, zs1, [], rfl, sG, sS1, Sl.nil _ _, mg, ms1, nrm_nil _, HG.out, FIN.out, fun _ => ⟨rfl, by omega⟩, fun h => absurd h HNE.out, by omega, by omega, by simp, fe.below⟩
      · have hz : ((B0.length : Int) == 0) = false := beq_eq_false_iff_ne.mpr (by omega)
        have hBne : B0 ≠ [] := fun h => hb0 (by rw [h]; rfl)
        have hgne : pl p zg ≠ 0 := fun h => by
          have := (gcd_nil (h ▸ HG.out)).2
          rw [← VB.out] at this
          exact hBne (pl_zero HP.out.pos MB.out this)
        have hgn : nl p zg ≠ [] := fun h => hgne ((nl_nil HP.out.pos).1 h)
        have hcg := fe.cell
        go_wp2_with fail
        refine (fp_DivMod p _ _ B0 zg _ HP.out HT.out sB0 sG (by omega) (by omega) hgn).mono ?_; rintro e w9 ⟨rq9, rr9, zq9, zr9, rfl, oq9, or9, mq9, mr9, vd9, ld9, lq9, lr9, b9⟩
        obtain ⟨ng, hng⟩ := (nrm_ln HP.out.pos mg).pos hgne
        have lnG : Ln (pl p zg) (ng + 1) := by rw [← hng]; exact nrm_ln HP.out.pos mg
        have hpart : pl p B0 = pl p zq9 * pl p zg := by
          rw [nl_of HP.out.pos mg] at ld9
          have := (dv_rem HT.out lnG (dlt_mono (pl_dlt p zr9) (by omega)) vd9).1 (by have := HG.out.2.2.1; rwa [← VB.out] at this)
          rw [this, CR.add_zero] at vd9; exact vd9
        have hpne : nl p zq9 ≠ [] := fun h => by
          rw [(nl_nil HP.out.pos).1 h, CR.zero_mul] at hpart
          exact hBne (pl_zero HP.out.pos MB.out hpart)
        have HPA := Lib.hid hpart
        replace fe := fe.next b9
        replace sA0 := sA0.next b9; replace sB0 := sB0.next b9; replace sG := sG.next b9; replace sS1 := sS1.next b9
        replace hcg := fe.cell
        have sP := oq9.sl
        have hlq9 := lq9
        have HGN := Lib.hid hgne
        clear vd9 ld9 hpart oq9 or9 mr9 lr9 b9 lnG hng hgne hgn lq9
        go_wp2_with fail
        refine (fp_DivMod p _ _ zs1 zq9 _ HP.out HT.out sS1 sP (by omega) (by omega) hpne).mono ?_; rintro e w10 ⟨rq10, rr10, zq10, zr10, rfl, oq10, or10, mq10, mr10, vd10, ld10, lq10, lr10, b10⟩
        have VD := Lib.hid vd10
        have hps : zr10.length < zq9.length := by rw [nl_of HP.out.pos mq9] at ld10; exact ld10
        replace fe := (fe.next b10).drew
        replace sA0 := (sA0.next b10).drew; replace sB0 := (sB0.next b10).drew; replace sG := (sG.next b10).drew
        have sR := or10.sl.drew
        clear vd10 ld10 b10 oq10 or10 mq10 hcg sP sS1 hpne
        have hBn : nl p B0 ≠ [] := by rw [nl_of HP.out.pos MB.out]; exact hBne
        go_upto_region 11 with (fail)
        refine startL (S := (fun w' => Below (w10.drew).heap.size (w10.drew) w')) (by kernel_rfl) (Below.refl _ _) (fun hHeld => ?_)
        refine takeL 0 (v := ?_) rfl (by kernel_rfl) (by kernel_rfl) (by kernel_rfl) (fun _ _ _ h => h) ⟨by rfl, ?_⟩ (by assumption) ?_
        rotate_left
        · intro w hS; have f1 := fe.at hS; go_simp <;> with_reducible rfl
        simp only [Act.put, List.setIfInBounds_toArray, List.set_cons_zero, List.set_cons_succ]
        refine takeL 1 (v := ?_) rfl (by kernel_rfl) (by kernel_rfl) (by kernel_rfl) (fun _ _ _ h => h) ⟨by rfl, ?_⟩ (by assumption) ?_
        rotate_left
        · intro w hS; have f1 := fe.at hS; go_simp <;> with_reducible rfl
        simp only [Act.put, List.setIfInBounds_toArray, List.set_cons_zero, List.set_cons_succ]
        refine takeL 2 (v := ?_) rfl (by kernel_rfl) (by kernel_rfl) (by kernel_rfl) (fun _ _ _ h => h) ⟨by rfl, ?_⟩ (by assumption) ?_
        rotate_left
        · intro w hS; go_simp <;> with_reducible rfl
        simp only [Act.put, List.setIfInBounds_toArray, List.set_cons_zero, List.set_cons_succ]
        refine takeL 3 (v := ?_) rfl (by kernel_rfl) (by kernel_rfl) (by kernel_rfl) (fun _ _ _ h => h) ⟨by rfl, ?_⟩ (by assumption) ?_
        rotate_left
        · intro w hS; have f1 := fe.at hS; go_simp <;> with_reducible rfl
        simp only [Act.put, List.setIfInBounds_toArray, List.set_cons_zero, List.set_cons_succ]
        refine takeL 4 (v := ?_) rfl (by kernel_rfl) (by kernel_rfl) (by kernel_rfl) (fun _ _ _ h => h) ⟨by rfl, ?_⟩ (by assumption) ?_
        rotate_left
        · intro w hS; go_simp <;> with_reducible rfl
        simp only [Act.put, List.setIfInBounds_toArray, List.set_cons_zero, List.set_cons_succ]
        refine takeL 5 (v := ?_) rfl (by kernel_rfl) (by kernel_rfl) (by kernel_rfl) (fun _ _ _ h => h) ⟨by rfl, ?_⟩ (by assumption) ?_
        rotate_left
        · intro w hS; go_simp <;> with_reducible rfl
        simp only [Act.put, List.setIfInBounds_toArray, List.set_cons_zero, List.set_cons_succ]
        refine takeL 8 (v := ?_) rfl (by kernel_rfl) (by kernel_rfl) (by kernel_rfl) (fun _ _ _ h => h) ⟨by rfl, ?_⟩ (by assumption) ?_
        rotate_left
        · intro w hS; go_simp <;> with_reducible rfl
        simp only [Act.put, List.setIfInBounds_toArray, List.set_cons_zero, List.set_cons_succ]
        refine oneL 6 rfl (by kernel_rfl) (by rfl) (fun K hK => ?_)
        go_simp
        go_at_call 14
        (with_reducible refine (fp_Mul p _ _ zr10 A0 _ HP.out (sR.next hHeld) (sA0.next hHeld) (by omega) (by omega)).mono ?_); rintro e w11 ⟨r11, z11, rfl, o11, m11, v11, l11, b11⟩
        have V11 := Lib.hid v11; clear v11
        refine hK.out _ _ (hHeld.trans (b11.mono hHeld.size)) (fun hHeld => ?_)
        clear hK K
        try simp only [Act.put, List.setIfInBounds_toArray, List.set_cons_zero, List.set_cons_succ]
        refine oneL 7 rfl (by kernel_rfl) (by rfl) (fun K hK => ?_)
        go_simp
        go_at_call 26
        (with_reducible refine (fp_Sub p _ _ zg z11 _ HP.out (sG.next hHeld) o11.sl (by omega) (by omega)).mono ?_); rintro e w12 ⟨r12, z12, rfl, o12, m12, v12, l12, b12⟩
        have V12 := Lib.hid v12; clear v12
        refine hK.out _ _ (hHeld.trans (b12.mono hHeld.size)) (fun hHeld => ?_)
        clear hK K
        try simp only [Act.put, List.setIfInBounds_toArray, List.set_cons_zero, List.set_cons_succ]
        refine oneL 9 rfl (by kernel_rfl) (by rfl) (fun K hK => ?_)
        go_simp
        go_at_call 18
        (with_reducible refine (fp_DivMod p _ _ z12 B0 _ HP.out HT.out o12.sl (sB0.next hHeld) (by omega) (by omega) hBn).mono ?_); rintro e w13 ⟨rq13, rr13, zq13, zr13, rfl, oq13, or13, mq13, mr13, vd13, ld13, lq13, lr13, b13⟩
        have VT := Lib.hid vd13; clear vd13
        refine hK.out _ _ (hHeld.trans (b13.mono hHeld.size)) (fun hHeld => ?_)
        clear hK K
        try simp only [Act.put, List.setIfInBounds_toArray, List.set_cons_zero, List.set_cons_succ]
        refine takeL 10 (v := ?_) rfl (by kernel_rfl) (by kernel_rfl) (by kernel_rfl) (fun _ _ _ h => h) ⟨by rfl, ?_⟩ (by assumption) ?_
        rotate_left
        · intro w hS; go_simp <;> with_reducible rfl
        simp only [Act.put, List.setIfInBounds_toArray, List.set_cons_zero, List.set_cons_succ]
        refine takeL 11 (v := ?_) rfl (by kernel_rfl) (by kernel_rfl) (by kernel_rfl) (fun _ _ _ h => h) ⟨by rfl, ?_⟩ (by assumption) ?_
        rotate_left
        · intro w hS; go_simp <;> with_reducible rfl
        simp only [Act.put, List.setIfInBounds_toArray, List.set_cons_zero, List.set_cons_succ]
        refine takeL 12 (v := ?_) rfl (by kernel_rfl) (by kernel_rfl) (by kernel_rfl) (fun _ _ _ h => h) ⟨by rfl, ?_⟩ (by assumption) ?_
        rotate_left
        · intro w hS; go_simp <;> with_reducible rfl
        simp only [Act.put, List.setIfInBounds_toArray, List.set_cons_zero, List.set_cons_succ]
        refine takeL 13 (v := ?_) rfl (by kernel_rfl) (by kernel_rfl) (by kernel_rfl) (fun _ _ _ h => h) ⟨by rfl, ?_⟩ (by assumption) ?_
        rotate_left
        · intro w hS; go_simp <;> with_reducible rfl
        simp only [Act.put, List.setIfInBounds_toArray, List.set_cons_zero, List.set_cons_succ]
        refine takeL 14 (v := ?_) rfl (by kernel_rfl) (by kernel_rfl) (by kernel_rfl) (fun _ _ _ h => h) ⟨by rfl, ?_⟩ (by assumption) ?_
        rotate_left
        · intro w hS; go_simp <;> with_reducible rfl
        simp only [Act.put, List.setIfInBounds_toArray, List.set_cons_zero, List.set_cons_succ]
        refine takeL 15 (v := ?_) rfl (by kernel_rfl) (by kernel_rfl) (by kernel_rfl) (fun _ _ _ h => h) ⟨by rfl, ?_⟩ (by assumption) ?_
        rotate_left
        · intro w hS; go_simp <;> with_reducible rfl
        simp only [Act.put, List.setIfInBounds_toArray, List.set_cons_zero, List.set_cons_succ]
        refine takeL 16 (v := ?_) rfl (by kernel_rfl) (by kernel_rfl) (by kernel_rfl) (fun _ _ _ h => h) ⟨by rfl, ?_⟩ (by assumption) ?_
        rotate_left
        · intro w hS; go_simp <;> with_reducible rfl
        simp only [Act.put, List.setIfInBounds_toArray, List.set_cons_zero, List.set_cons_succ]
        refine doneL (by kernel_rfl) ?_ _
        replace fe := fe.next hHeld
        replace sG := sG.next hHeld
        replace sR := sR.next hHeld
        have fin : pl p zg = pl p zr10 * pl p xs + pl p zq13 * pl p ys := by
          obtain ⟨nb, hnb⟩ : ∃ nb, B0.length = nb + 1 := ⟨B0.length - 1, by omega⟩
          have lnB : Ln (pl p B0) (nb + 1) := by rw [← hnb]; exact nrm_ln HP.out.pos MB.out
          have hd : Dv (pl p B0) (pl p z12) := by
            obtain ⟨t, ht⟩ := HR.out.2.1
            obtain ⟨c, hc⟩ := HG.out.2.1
            rw [← VA.out] at hc
            refine ⟨t * mon (Zp.of p y) 0 + pl p zq10 * c, ?_⟩
            have e1 : pl p zg = (pl p S * pl p A0 + t * pl p B0) * mon (Zp.of p y) 0 := by rw [VG.out, ht]
            have e2 : pl p zr10 = pl p S * mon (Zp.of p y) 0 - pl p zq10 * pl p zq9 := by
              rw [← VS.out, VD.out]; exact by_ring [pl p zq10 * pl p zq9, pl p zr10] X1 (X0 + X1 - X0) rfl
            have e3 : pl p zq9 * pl p A0 = pl p B0 * c := by rw [hc, HPA.out]; exact (CR.mul_assoc _ _ _).symm
            have e4 : pl p z12 = t * pl p B0 * mon (Zp.of p y) 0 + pl p zq10 * (pl p zq9 * pl p A0) := by
              rw [V12.out, V11.out, e2, e1]
              exact by_ring [pl p S, pl p A0, t, pl p B0, mon (Zp.of p y) 0, pl p zq10, pl p zq9] ((X0 * X1 + X2 * X3) * X4 - (X0 * X4 - X5 * X6) * X1) (X2 * X3 * X4 + X5 * (X6 * X1)) rfl
            rw [e4, e3]
            exact by_ring [t, pl p B0, mon (Zp.of p y) 0, pl p zq10, c] (X0 * X1 * X2 + X3 * (X1 * X4)) (X1 * (X0 * X2 + X3 * X4)) rfl
          rw [nl_of HP.out.pos MB.out] at ld13
          have h0 := (dv_rem HT.out lnB (dlt_mono (pl_dlt p zr13) (by omega)) VT.out).1 hd
          have h1 := VT.out
          rw [h0, CR.add_zero, V12.out, V11.out] at h1
          rw [← VA.out, ← VB.out, ← h1]
          exact by_ring [pl p zg, pl p zr10 * pl p A0] X0 (X1 + (X0 - X1)) rfl
        have FIN := Lib.hid fin
        have HNE := Lib.hid (fun h : nl p ys = [] => hBne (HB0.out.trans h))
        clear fin
        go_wp2
        refine bodyPost_ret (v := .tuple #[rg, rr10, rq13]) (by simp [results, Try.results37, go_sem]) rfl ⟨rg, rr10, rq13, zg, zr10, zq13, rfl, sG, sR, oq13.sl, mg, mr10, mq13, HG.out, FIN.out, fun h => absurd h HNE.out, fun _ => ⟨zq9, mq9, by rw [← VB.out]; exact HPA.out, hps⟩, by omega, by omega, by omega, fe.below⟩

end Go.Proofs.Ytjpioijlpgmlfaa
