/- xform: Smith's first reading; Smith of what is no matrix; divides. -/
import Derived.Test.YtkmfhabgempjiaaQcM11
import Derived.Test.YtkmfhabgempjiaaQcM15
import Derived.Test.YtkmfhabgempjiaaQcM1
import Derived.Test.YtkmfhabgempjiaaQcM2
import Derived.Test.YtkmfhabgempjiaaQcM5
import Derived.Test.YtkmfhabgempjiaaQcM8
namespace Go.Proofs.Ytkmfhabgempjiaa
open Go.RowKit

/-- Lengths from place to place. -/
def SeqB (r c : Nat) (Ls : Nat → Nat) : Prop := ∀ t, t < r → t < c → Ls t ≤ Ls (t + 1) ∧ Ls t ≤ 32767 ∧ ((2 ^ Ls t ≤ Ls (t + 1) + 1 ∧ 2 ^ Ls t ≤ 32768) ∨ (t + 1 = r ∧ t + 1 = c))
theorem sms_seq {p r c : Nat} (tr : Trial p) {Ls : Nat → Nat} (h : SeqB r c Ls) : SmS p r c fun t W U V => Bds r c (Ls t) (1 + Ls t) (1 + 2 * Ls t) W U V := by
  intro t W U V htr htc hb hI
  obtain ⟨h1, h2, h3⟩ := h t htr htc
  rcases h3 with ⟨h3, h4⟩ | h3
  · refine ⟨_, _, _, _, Ls t, stp_pot (L0 := Ls t) (LU := 1 + Ls t) (LV := 1 + 2 * Ls t) (K := 2 ^ Ls t) tr htr htc (by omega) (by omega) ?_ ?_, ⟨_, PlB.start hb.1 hb.2.1 hb.2.2 (.inl (Nat.le_refl _))⟩, ?_⟩
    · have : Ls t < 2 ^ Ls t := Nat.lt_two_pow_self
      omega
    · have h5 : Ls t ≤ 15 := by
        apply Nat.le_of_not_lt
        intro h5
        have : 2 ^ 16 ≤ 2 ^ Ls t := Nat.pow_le_pow_right (by decide) h5
        omega
      omega
    · rintro W' U' V' ⟨Lf, k1, k2, k3, k4, k5⟩
      have k6 : Lf ≤ Ls (t + 1) := by omega
      exact ⟨fun a c ha hc => dlt_mono (k3 a c ha hc) k6, fun a c ha hc => dlt_mono (k4 a c ha hc) (by omega), fun a c ha hc => dlt_mono (k5 a c ha hc) (by omega)⟩
  · refine ⟨_, _, _, _, Ls t, stp_pot (L0 := Ls t) (LU := 1 + Ls t) (LV := 1 + 2 * Ls t) (K := 0) tr htr htc (by omega) (by omega) (by omega) (by omega), ⟨_, PlB.start hb.1 hb.2.1 hb.2.2 (.inr h3)⟩, ?_⟩
    rintro W' U' V' ⟨Lf, k1, k2, k3, k4, k5⟩
    have k6 : Lf ≤ Ls (t + 1) := by omega
    exact ⟨fun a c ha hc => dlt_mono (k3 a c ha hc) k6, fun a c ha hc => dlt_mono (k4 a c ha hc) (by omega), fun a c ha hc => dlt_mono (k5 a c ha hc) (by omega)⟩
/-- Three rows and columns, four elements; four rows and columns of two elements. -/
def lsq3 (t : Nat) : Nat := if t = 0 then 4 else if t = 1 then 15 else 32767
theorem seq3 {r c : Nat} (hr : r ≤ 3) (hc : c ≤ 3) : SeqB r c lsq3 := by
  intro t h1 h2
  rcases (show t = 0 ∨ t = 1 ∨ t = 2 by omega) with rfl | rfl | rfl
  · exact ⟨by decide, by decide, .inl ⟨by decide, by decide⟩⟩
  · exact ⟨by decide, by decide, .inl ⟨by decide, by decide⟩⟩
  · exact ⟨by decide, by decide, .inr ⟨by omega, by omega⟩⟩
theorem seq_fin {p r c LM : Nat} {Ls : Nat → Nat} (h : ∀ t, Ls t ≤ LM) {t : Nat} {W U V : (Nat → Nat → Pol (Zp p))} (hb : Bds r c (Ls t) (1 + Ls t) (1 + 2 * Ls t) W U V) : Bds r c (1 + 2 * LM) (1 + 2 * LM) (1 + 2 * LM) W U V :=
  ⟨fun a c ha hc => dlt_mono (hb.1 a c ha hc) (by have := h t; omega), fun a c ha hc => dlt_mono (hb.2.1 a c ha hc) (by have := h t; omega), fun a c ha hc => dlt_mono (hb.2.2 a c ha hc) (by have := h t; omega)⟩
theorem seq_start {p r c L : Nat} {Ls : Nat → Nat} {xs : List (List Nat)} (hl : ∀ j, j < r * c → (xs.getD j []).length ≤ L) (hL : L ≤ Ls 0) {W U V : (Nat → Nat → Pol (Zp p))} (h1 : ∀ i k, i < r → k < c → W i k = aT p c xs i k) (h2 : ∀ i k, i < r → k < r → U i k = if i = k then 1 else 0) (h3 : ∀ i k, i < c → k < c → V i k = if i = k then 1 else 0) :
    Bds r c (Ls 0) (1 + Ls 0) (1 + 2 * Ls 0) W U V := by
  have d1 : (1 : Pol (Zp p)).dlt 1 := fun i hi => by rw [Pol.one_def, c_mon, if_neg (by omega)]
  refine ⟨fun i k hi hk => ?_, fun i k hi hk => ?_, fun i k hi hk => ?_⟩
  · rw [h1 i k hi hk]
    exact fun j hj => pl_dlt p _ j (by have := hl (i * c + k) (at_lt rfl hi hk); omega)
  · rw [h2 i k hi hk]; split
    · exact dlt_mono d1 (by omega)
    · exact dlt_zero _
  · rw [h3 i k hi hk]; split
    · exact dlt_mono d1 (by omega)
    · exact dlt_zero _
/-- Smith of matrices of 3 rows and columns, 4 elements. -/
theorem xf_Smith3 (p : Nat) (a : Value) (r c : Nat) (xs : List (List Nat)) (w : World) (hp : FP p) (ht : Trial p) (hA : Xm w a r c xs) (hr : r ≤ 3) (hc : c ≤ 3) (hx : xs.length = r * c) (hl : ∀ j, j < r * c → (xs.getD j []).length ≤ 4) :
    Calls Try.prog 19 #[.agg #[.int .u64 p], a] w (RetSm p w r c 65535 (aT p c xs)) :=
  xf_Smith p a r c 4 65535 xs w hp ht hA (by omega) (by omega) hx hl (by omega) (sms_seq ht (seq3 hr hc)) (fun W U V h1 h2 h3 => seq_start hl (by decide) h1 h2 h3) (fun t W U V hb => seq_fin (LM := 32767) (fun t => by unfold lsq3; split <;> (try split) <;> omega) hb)
set_option maxRecDepth 20000 in
set_option maxHeartbeats 4000000 in
theorem xf_divides (p : Nat) (v u : Value) (xs ys : List Nat) (w : World) (hp : FP p) (ht : Trial p) (hv : Sl .u64 w v xs) (hu : Sl .u64 w u ys) (nx : Nrm p xs) (ny : Nrm p ys) (hm : xs.length ≤ 1000000) (hn : ys.length ≤ 1000000) (β : Bool) (hβ : β = true ↔ Dv (pl p xs) (pl p ys)) :
    Calls Try.prog 95 #[.agg #[.int .u64 p], v, u] w (RetW w (.bool β)) := by
  have ex := nl_of hp.pos nx
  have ey := nl_of hp.pos ny
  have hz : xs.length = 0 → (Dv (pl p xs) (pl p ys) ↔ ys.length = 0) := fun e => by
    rw [List.length_eq_zero_iff.1 e, pl_nil]
    constructor
    · intro h
      have h1 := h.of_zero
      rw [pl_inj hp.pos ny (nrm_nil p) (by rw [h1, pl_nil])]; rfl
    · intro h; rw [List.length_eq_zero_iff.1 h, pl_nil]; exact Dv.zero _
  have HP := Lib.hid hp; have HTR := Lib.hid ht; have HB := Lib.hid hβ; have HZ := Lib.hid hz; have NX := Lib.hid nx; have EX := Lib.hid ex
  have fx := boxes1 w 29 [.int .u64 p]
  obtain ⟨wb, ew, KF, B0, -⟩ := fx
  replace hv := hv.next B0; replace hu := hu.next B0
  obtain ⟨ax, bx, ox, cx, rfl, -, -⟩ := id hv
  obtain ⟨ay, by', oy, cy, rfl, -, -⟩ := id hu
  clear hp ht hβ hz nx ny ex ey
  go_enter Try.func95, Try.ntmps95
  go_upto_region 1 with (fail)
  rw [← ew]
  obtain ⟨g, eg⟩ : ∃ g, g = w.heap.size := ⟨_, rfl⟩
  rw [← eg] at KF ⊢
  clear ew eg
  have c0 := KF.cell 0
  by_cases h0 : xs.length = 0
  · have H00 := Lib.hid h0; clear h0
    go_wp2_with fail
    (with_reducible refine (fp_DivMod_no p _ _ ys xs _ HP.out hu hv hn hm (by rw [EX.out]; exact List.length_eq_zero_iff.1 H00.out)).mono ?_); rintro e w1 ⟨rfl, b1⟩
    have B1 := B0.trans (b1.mono B0.size)
    clear b1 c0 KF hv hu B0
    by_cases hy : ys.length = 0
    · have hy1 : ((ys.length : Int) == 0) = true := by simp [hy]
      have e1 : β = true := HB.out.2 ((HZ.out H00.out).2 hy)
      have FIN := Lib.hid (show RetW w (.bool β) (.returned (.bool true)) w1 from ⟨by rw [e1], B1⟩)
      clear hy B1 e1
      go_wp2
      go_ret
      exact FIN.out
    · have hy1 : ((ys.length : Int) == 0) = false := by simp [hy]
      have e1 : β = false := Bool.eq_false_iff.2 fun e => hy ((HZ.out H00.out).1 (HB.out.1 e))
      have FIN := Lib.hid (show RetW w (.bool β) (.returned (.bool false)) w1 from ⟨by rw [e1], B1⟩)
      clear hy B1 e1
      go_wp2
      go_ret
      exact FIN.out
  · have H00 := Lib.hid h0; clear h0
    go_wp2_with fail
    (with_reducible refine (fp_DivMod p _ _ ys xs _ HP.out HTR.out hu hv hn hm (show nl p xs ≠ [] from fun e => absurd (show xs.length = 0 by rw [EX.out.symm.trans e]; exact List.length_nil) H00.out)).mono ?_); rintro e w1 ⟨rq, rr, zq, zr, rfl, o8, p8, m8, n8, v8, d8, l8, k8, b1⟩
    have B1 := B0.trans (b1.mono B0.size)
    have hd := dv_r (a := pl p ys) (g := pl p xs) (q := pl p zq) (zg := xs) HP.out.pos HTR.out rfl v8 n8 d8
    obtain ⟨ar, cr, er⟩ := p8.sliced
    subst er
    clear b1 c0 KF hv hu B0 o8 p8 m8 n8 v8 d8 l8 k8
    by_cases hr : zr.length = 0
    · have hr1 : ((zr.length : Int) == 0) = true := by simp [hr]
      have e1 : β = true := HB.out.2 (hd.2 hr)
      have FIN := Lib.hid (show RetW w (.bool β) (.returned (.bool true)) w1 from ⟨by rw [e1], B1⟩)
      clear hr B1 e1 hd
      go_wp2
      go_ret
      exact FIN.out
    · have hr1 : ((zr.length : Int) == 0) = false := by simp [hr]
      have e1 : β = false := Bool.eq_false_iff.2 fun e => hr (hd.1 (HB.out.1 e))
      have FIN := Lib.hid (show RetW w (.bool β) (.returned (.bool false)) w1 from ⟨by rw [e1], B1⟩)
      clear hr B1 e1 hd
      go_wp2
      go_ret
      exact FIN.out

end Go.Proofs.Ytkmfhabgempjiaa
/- xform: Factors. -/
namespace Go.Proofs.Ytkmfhabgempjiaa
open Go.RowKit

/-- The factors that a diagonal has: those that are not 0 stand ahead. -/
def FcI {p : Nat} (r c i k : Nat) (W : (Nat → Nat → Pol (Zp p))) : Prop := k ≤ i ∧ (∀ j, j < k → W j j ≠ 0) ∧ ∀ j, k ≤ j → j < i → j < r → j < c → W j j = 0
theorem FcI.start {p r c : Nat} (W : (Nat → Nat → Pol (Zp p))) : FcI r c 0 0 W := ⟨Nat.le_refl _, fun j hj => by omega, fun j h1 h2 => by omega⟩
theorem FcI.zero {p r c i k : Nat} {W : (Nat → Nat → Pol (Zp p))} (h : FcI r c i k W) (h0 : W i i = 0) : FcI r c (i + 1) k W :=
  ⟨by have := h.1; omega, h.2.1, fun j h1 h2 h3 h4 => by
    by_cases e : j = i
    · rw [e]; exact h0
    · exact h.2.2 j h1 (by omega) h3 h4⟩
/-- What is not 0 comes ahead of all noughts. -/
theorem FcI.next {p r c i k : Nat} {W : (Nat → Nat → Pol (Zp p))} (h : FcI r c i k W) (hd : ∀ j, j ≤ i → Dv (W j j) (W i i)) (hi : i < r) (hi' : i < c) (h0 : W i i ≠ 0) : k = i ∧ FcI r c (i + 1) (i + 1) W := by
  have e : k = i := by
    apply Classical.byContradiction
    intro hne
    have h1 := h.1
    have h2 := h.2.2 k (Nat.le_refl _) (by omega) (by omega) (by omega)
    have h3 := hd k h1
    rw [h2] at h3
    exact h0 h3.of_zero
  subst e
  refine ⟨rfl, Nat.le_refl _, fun j hj => ?_, fun j h1 h2 => by omega⟩
  by_cases e : j = k
  · rw [e]; exact h0
  · exact h.2.1 j (by omega)
theorem smi_dv {p r c t : Nat} {W : (Nat → Nat → Pol (Zp p))} (h : SmI t r c W) (hz : ∀ a b, t ≤ a → a < r → t ≤ b → b < c → W a b = 0) {i : Nat} (hi : i < r) (hi' : i < c) : ∀ j, j ≤ i → Dv (W j j) (W i i) := fun j hj => by
  by_cases ht : j < t
  · exact h.dv j ht i i hj hi hj hi'
  · rw [hz i i (by omega) hi (by omega) hi']; exact Dv.zero _
/-- What Factors answers. -/
def RetFa (p : Nat) (w : World) (r c L : Nat) (A : Nat → Nat → Pol (Zp p)) (e : Ending) (w' : World) : Prop :=
  ∃ (t : Nat) (W U V : (Nat → Nat → Pol (Zp p))) (k : Nat) (ov : Value) (E : Nat → Value), t ≤ r ∧ t ≤ c ∧ SmR (MT.of r c A) U W V ∧ SmI t r c W ∧ (∀ a b, t ≤ a → a < r → t ≤ b → b < c → W a b = 0) ∧ FcI r c (min r c) k W ∧ e = .returned (.tuple #[ov, .int .i64 0]) ∧
    w'.ownsRow w.heap.size 43 1 ov k (rowL k E) ∧ (∀ j, j < k → ∃ zs, Own .u64 27 w' w.heap.size (E j) zs ∧ Nrm p zs ∧ pl p zs = W j j ∧ zs.length ≤ L) ∧ Below w.heap.size w w'

set_option maxRecDepth 20000 in
set_option maxHeartbeats 4000000 in
theorem xf_Factors (p : Nat) (a : Value) (r c LF : Nat) (xs : List (List Nat)) (w : World) (hp : FP p) (ht : Trial p) (hA : Xm w a r c xs) (hr : r ≤ 64) (hc : c ≤ 64) (hx : xs.length = r * c)
    (hS : ∀ (w' : World), Xm w' a r c xs → Calls Try.prog 19 #[.agg #[.int .u64 p], a] w' (RetSm p w' r c LF (aT p c xs))) (hLF : LF ≤ 1000000) :
    Calls Try.prog 34 #[.agg #[.int .u64 p], a] w (RetFa p w r c LF (aT p c xs)) := by
  obtain ⟨aA, cA, rfl⟩ := hA.agg
  obtain ⟨wb, ew, KF, KA, B0, hsz⟩ := boxes2 w 29 24 [.int .u64 p] [.int .i64 r, .int .i64 c, .slice aA xs.length cA]
  clear hsz
  replace hA := hA.next B0
  have HP := Lib.hid hp; have HTR := Lib.hid ht; have HX := Lib.hid hx; have HS := Lib.hid hS; clear hp ht hx hS
  obtain ⟨PQ, ePQ⟩ : ∃ PQ : Ending → World → Prop, PQ = RetFa p w r c LF (aT p c xs) := ⟨_, rfl⟩
  rw [← ePQ]
  have EPQ := Lib.hid ePQ; clear ePQ
  go_enter Try.func34, Try.ntmps34
  go_upto_region 1 with (fail)
  rw [← ew]
  obtain ⟨g, eg⟩ : ∃ g, g = w.heap.size := ⟨_, rfl⟩
  rw [← eg] at KF KA ⊢
  have EG := Lib.hid eg
  clear ew eg
  have c0 := KF.cell 0; have a0 := KA.cell 0; have a1 := KA.cell 1; have a2 := KA.cell 2
  go_wp2_with fail
  (with_reducible refine (HS.out _ hA).mono ?_); rintro e w1 ⟨t, W, U, V, htr, htc, hSR, hSI, hz, ao, k, us, ao', k', us', ao2, k2, us2, rfl, Q1, -, -, b1⟩
  have B1 := B0.trans (b1.mono B0.size)
  replace KF := KF.next b1
  clear c0 a0 a1 a2 hA KA B0 b1
  obtain ⟨qs, hql, hqn, hqv⟩ := Q1.ns HP.out
  obtain ⟨w2, e2, KD, -, -, Bx, -⟩ := boxes3 w1 24 24 24 [.int .i64 r, .int .i64 c, .slice ao (r * c) k] [.int .i64 r, .int .i64 r, .slice ao' (r * r) k'] [.int .i64 c, .int .i64 c, .slice ao2 (c * c) k2]
  have B2 := B1.trans (Bx.mono B1.size)
  have hD : Xm w2 (.agg #[.int .i64 r, .int .i64 c, .slice ao (r * c) k]) r c qs := ⟨_, rfl, hqn.next Bx⟩
  replace KF := KF.next Bx
  go_upto_region 5 with (fail)
  rw [← e2]
  obtain ⟨gD, egD⟩ : ∃ gD, gD = w1.heap.size := ⟨_, rfl⟩
  rw [← egD] at KD ⊢
  have HKF := Lib.hid KF; have HKD := Lib.hid KD; have HD := Lib.hid hD; have HQL := Lib.hid hql; have HQV := Lib.hid hqv; have HB2 := Lib.hid B2
  have HDV := Lib.hid (fun (i : Nat) (hi : i < r) (hi' : i < c) => smi_dv hSI hz hi hi')
  have HRES := Lib.hid (show t ≤ r ∧ t ≤ c ∧ SmR (MT.of r c (aT p c xs)) U W V ∧ SmI t r c W ∧ (∀ a b, t ≤ a → a < r → t ≤ b → b < c → W a b = 0) from ⟨htr, htc, hSR, hSI, hz⟩)
  have d0 := KD.cell 0; have d1 := KD.cell 1
  clear KF KD hD hql hqn hqv B1 B2 Bx e2 egD hSI hSR hz Q1 htr htc
  by_cases hcr : c < r
  · go_wp2
    clear d0 d1
    go_loopw [10, 29] (fun ov iv wr => ∃ (i k : Nat) (E : Nat → Value), i ≤ c ∧ iv = .int .i64 i ∧ FcI r c i k W ∧ wr.ownsRow w2.heap.size 43 1 ov k (rowL k E) ∧ (∀ j, j < k → ∃ zs, Own .u64 27 wr w2.heap.size (E j) zs ∧ Nrm p zs ∧ pl p zs = W j j ∧ zs.length ≤ LF) ∧ Below w2.heap.size w2 wr) (fun _ iv _ => c - (intOf iv).toNat)
    case atStart => exact ⟨0, 0, fun _ => .slice none 0 0, Nat.zero_le _, rfl, FcI.start _, World.ownsRow_nil _ _ _ _, fun j hj => absurd hj (by omega), Below.refl _ _⟩
    case round =>
      obtain ⟨i, k, E, hi, rfl, hF, hrow, hel, BR⟩ := hrel
      by_cases hiN : i < c
      · have hir : i < r := by omega
        have hic : i < c := by omega
        have KF := HKF.out.next BR; have KD := HKD.out.next BR; have hD := HD.out.next BR
        have f0 := KF.cell 0; have d0 := KD.cell 0; have d1 := KD.cell 1; have d2 := KD.cell 2
        have hlt : i * c + i < r * c := at_lt rfl hir hic
        have hqi := HQV.out _ hlt
        have HQI := Lib.hid hqi
        have hll : (qs.getD (i * c + i) []).length ≤ 1000000 := Nat.le_trans hqi.2.2 hLF
        clear KF KD hqi
        go_wp2_with fail
        (with_reducible refine (xm_At p i i _ r c qs _ HP.out hD hr hc HQL.out hir hic hll).mono ?_); rintro e w5 ⟨r5, z5, rfl, o5, n5, v5, l5, b5⟩
        clear f0 d0 d1 d2 hD
        have hv : pl p z5 = W i i := by
          rw [v5, HQI.out.2.1]
          show W ((i * c + i) / c) (0 + (i * c + i) % c) = W i i
          rw [Nat.mul_comm, Nat.mul_add_div (by omega), Nat.div_eq_of_lt hic, Nat.mul_add_mod, Nat.mod_eq_of_lt hic, Nat.add_zero, Nat.zero_add]
        have hl5 : z5.length ≤ LF := Nat.le_trans l5 HQI.out.2.2
        obtain ⟨a5, c5, rfl⟩ := o5.sliced
        have hks : w2.heap.size ≤ w5.heap.size := Nat.le_trans BR.size b5.size
        have hrow5 := rowOwn_next hrow b5 (Nat.le_refl _)
        by_cases hz5 : z5.length = 0
        · have hz1 : ¬ 0 < z5.length := by omega
          have h00 : W i i = 0 := by rw [← hv, List.length_eq_zero_iff.1 hz5, pl_nil]
          have F1 := Lib.hid (hF.zero h00)
          have F2 := Lib.hid hrow5
          have F3 := Lib.hid (fun j (hj : j < k) => (show ∃ zs, Own .u64 27 w5 w2.heap.size (E j) zs ∧ Nrm p zs ∧ pl p zs = W j j ∧ zs.length ≤ LF from by
            obtain ⟨zs, h1, h2, h3, h4⟩ := hel j hj
            exact ⟨zs, h1.next b5, h2, h3, h4⟩))
          have F4 := Lib.hid (BR.trans (b5.mono BR.size))
          clear hz5 hF hrow hel BR hrow5 o5 n5 v5 l5 b5 hv h00 HQI
          go_wp2
          go_roundw
          case rel => exact ⟨i + 1, k, E, by omega, by go_num, F1.out, F2.out, F3.out, F4.out⟩
          case measure => simp [intOf] <;> omega
        · have hz1 : 0 < z5.length := by omega
          have h00 : W i i ≠ 0 := fun e => hz5 (by rw [← hv] at e; rw [pl_inj HP.out.pos n5 (nrm_nil p) (by rw [e, pl_nil])]; rfl)
          obtain ⟨hki, hF'⟩ := hF.next (HDV.out i hir hic) hir hic h00
          have hv5 : Own .u64 27 w5 wr.heap.size (.slice a5 z5.length c5) z5 := o5
          have HKI := Lib.hid hki
          have N5 := Lib.hid n5; have HV := Lib.hid hv
          have F1 := Lib.hid hF'
          have hik : k ≤ i := hF.1
          clear hz5 h00 hki n5 hv o5 v5 l5 hF hF'
          go_wp2_with (at_builtin; refine apVl 22 43 24 (.slice none 0 0) Try.underlying22 (by kernel_rfl) (by decide) rfl rfl _ _ rfl w5 w2.heap.size _ k (rowL k E) (.slice a5 z5.length c5) rfl hrow5 (by omega) hks rfl rfl ?_; intro g8 cap8 w8 ho8 hb8 hg8 _)
          have hS : ∀ b, b < w5.heap.size → _ → Tyb w5 43 b := fun b _ hb => (rowOwn_tyb hrow5 hb).1
          have keep : ∀ {u : Value} {q : Pol (Zp p)} {c : Nat}, Vn p w5 c u q → Vn p w8 c u q := fun hu => hu.chg (Chg.grown hg8) (e := 43) hS (by decide)
          have keepO : ∀ {u : Value} {zs : List Nat} {c : Nat}, Own .u64 27 w5 c u zs → Own .u64 27 w8 c u zs := fun hu => rowOwn_chg hu (Chg.grown hg8) fun b hb hs => (rowOwn_tyb hu hb).1.ne (rowOwn_tyb hrow5 hs).1 (by decide) rfl
          have T1 := Lib.hid (show w8.ownsRow w2.heap.size 43 1 (.slice (some ⟨g8, 0, none⟩) (k + 1) cap8) (k + 1) (rowL (k + 1) fun j => if j < k then E j else .slice a5 z5.length c5) by
            rw [rowL_snoc, if_neg (by omega), rowL_congr (V := E) (fun j hj => if_pos hj)]; exact ho8)
          have T2 := Lib.hid (show ∀ j, j < k + 1 → ∃ zs, Own .u64 27 w8 w2.heap.size (if j < k then E j else .slice a5 z5.length c5) zs ∧ Nrm p zs ∧ pl p zs = W j j ∧ zs.length ≤ LF from fun j hj => by
            by_cases h : j < k
            · rw [if_pos h]
              obtain ⟨zs, h1, h2, h3, h4⟩ := hel j h
              exact ⟨zs, keepO (h1.next b5), h2, h3, h4⟩
            · obtain rfl : j = k := by omega
              rw [if_neg h]
              exact ⟨z5, (keepO hv5).mono BR.size, N5.out, by rw [HV.out, HKI.out], hl5⟩)
          have T3 := Lib.hid ((BR.trans (b5.mono BR.size)).trans hb8)
          have T4 := Lib.hid (show FcI r c (i + 1) (k + 1) W by rw [HKI.out] at *; exact F1.out)
          clear hrow hel BR hrow5 hv5 b5 ho8 hb8 hg8 hS keep HQI
          go_wp2
          go_roundw
          case rel => exact ⟨i + 1, k + 1, _, by omega, by go_num, T4.out, T1.out, T2.out, T3.out⟩
          case measure => simp [intOf] <;> omega
      · obtain rfl : i = c := by omega
        have hFm : FcI r i (min r i) k W := by rw [show min r i = i by omega]; exact hF
        have FIN := Lib.hid (fun ov (h : wr.ownsRow w2.heap.size 43 1 ov k (rowL k E)) => (show PQ (.returned (.tuple #[ov, .int .i64 0])) wr by
          obtain ⟨h1, h2, h3, h4, h5⟩ := HRES.out
          rw [EPQ.out]
          exact ⟨t, W, U, V, k, ov, E, h1, h2, h3, h4, h5, hFm, rfl, rowOwn_mono h HB2.out.size, fun j hj => by
            obtain ⟨zs, k1, k2, k3, k4⟩ := hel j hj
            exact ⟨zs, k1.mono HB2.out.size, k2, k3, k4⟩, HB2.out.trans (BR.mono HB2.out.size)⟩))
        have HROW := Lib.hid hrow
        clear hF hFm hel BR hrow
        go_wp2
        exact FIN.out _ HROW.out
  · go_wp2
    clear d0 d1
    go_loopw [10, 29] (fun ov iv wr => ∃ (i k : Nat) (E : Nat → Value), i ≤ r ∧ iv = .int .i64 i ∧ FcI r c i k W ∧ wr.ownsRow w2.heap.size 43 1 ov k (rowL k E) ∧ (∀ j, j < k → ∃ zs, Own .u64 27 wr w2.heap.size (E j) zs ∧ Nrm p zs ∧ pl p zs = W j j ∧ zs.length ≤ LF) ∧ Below w2.heap.size w2 wr) (fun _ iv _ => r - (intOf iv).toNat)
    case atStart => exact ⟨0, 0, fun _ => .slice none 0 0, Nat.zero_le _, rfl, FcI.start _, World.ownsRow_nil _ _ _ _, fun j hj => absurd hj (by omega), Below.refl _ _⟩
    case round =>
      obtain ⟨i, k, E, hi, rfl, hF, hrow, hel, BR⟩ := hrel
      by_cases hiN : i < r
      · have hir : i < r := by omega
        have hic : i < c := by omega
        have KF := HKF.out.next BR; have KD := HKD.out.next BR; have hD := HD.out.next BR
        have f0 := KF.cell 0; have d0 := KD.cell 0; have d1 := KD.cell 1; have d2 := KD.cell 2
        have hlt : i * c + i < r * c := at_lt rfl hir hic
        have hqi := HQV.out _ hlt
        have HQI := Lib.hid hqi
        have hll : (qs.getD (i * c + i) []).length ≤ 1000000 := Nat.le_trans hqi.2.2 hLF
        clear KF KD hqi
        go_wp2_with fail
        (with_reducible refine (xm_At p i i _ r c qs _ HP.out hD hr hc HQL.out hir hic hll).mono ?_); rintro e w5 ⟨r5, z5, rfl, o5, n5, v5, l5, b5⟩
        clear f0 d0 d1 d2 hD
        have hv : pl p z5 = W i i := by
          rw [v5, HQI.out.2.1]
          show W ((i * c + i) / c) (0 + (i * c + i) % c) = W i i
          rw [Nat.mul_comm, Nat.mul_add_div (by omega), Nat.div_eq_of_lt hic, Nat.mul_add_mod, Nat.mod_eq_of_lt hic, Nat.add_zero, Nat.zero_add]
        have hl5 : z5.length ≤ LF := Nat.le_trans l5 HQI.out.2.2
        obtain ⟨a5, c5, rfl⟩ := o5.sliced
        have hks : w2.heap.size ≤ w5.heap.size := Nat.le_trans BR.size b5.size
        have hrow5 := rowOwn_next hrow b5 (Nat.le_refl _)
        by_cases hz5 : z5.length = 0
        · have hz1 : ¬ 0 < z5.length := by omega
          have h00 : W i i = 0 := by rw [← hv, List.length_eq_zero_iff.1 hz5, pl_nil]
          have F1 := Lib.hid (hF.zero h00)
          have F2 := Lib.hid hrow5
          have F3 := Lib.hid (fun j (hj : j < k) => (show ∃ zs, Own .u64 27 w5 w2.heap.size (E j) zs ∧ Nrm p zs ∧ pl p zs = W j j ∧ zs.length ≤ LF from by
            obtain ⟨zs, h1, h2, h3, h4⟩ := hel j hj
            exact ⟨zs, h1.next b5, h2, h3, h4⟩))
          have F4 := Lib.hid (BR.trans (b5.mono BR.size))
          clear hz5 hF hrow hel BR hrow5 o5 n5 v5 l5 b5 hv h00 HQI
          go_wp2
          go_roundw
          case rel => exact ⟨i + 1, k, E, by omega, by go_num, F1.out, F2.out, F3.out, F4.out⟩
          case measure => simp [intOf] <;> omega
        · have hz1 : 0 < z5.length := by omega
          have h00 : W i i ≠ 0 := fun e => hz5 (by rw [← hv] at e; rw [pl_inj HP.out.pos n5 (nrm_nil p) (by rw [e, pl_nil])]; rfl)
          obtain ⟨hki, hF'⟩ := hF.next (HDV.out i hir hic) hir hic h00
          have hv5 : Own .u64 27 w5 wr.heap.size (.slice a5 z5.length c5) z5 := o5
          have HKI := Lib.hid hki
          have N5 := Lib.hid n5; have HV := Lib.hid hv
          have F1 := Lib.hid hF'
          have hik : k ≤ i := hF.1
          clear hz5 h00 hki n5 hv o5 v5 l5 hF hF'
          go_wp2_with (at_builtin; refine apVl 22 43 24 (.slice none 0 0) Try.underlying22 (by kernel_rfl) (by decide) rfl rfl _ _ rfl w5 w2.heap.size _ k (rowL k E) (.slice a5 z5.length c5) rfl hrow5 (by omega) hks rfl rfl ?_; intro g8 cap8 w8 ho8 hb8 hg8 _)
          have hS : ∀ b, b < w5.heap.size → _ → Tyb w5 43 b := fun b _ hb => (rowOwn_tyb hrow5 hb).1
          have keep : ∀ {u : Value} {q : Pol (Zp p)} {c : Nat}, Vn p w5 c u q → Vn p w8 c u q := fun hu => hu.chg (Chg.grown hg8) (e := 43) hS (by decide)
          have keepO : ∀ {u : Value} {zs : List Nat} {c : Nat}, Own .u64 27 w5 c u zs → Own .u64 27 w8 c u zs := fun hu => rowOwn_chg hu (Chg.grown hg8) fun b hb hs => (rowOwn_tyb hu hb).1.ne (rowOwn_tyb hrow5 hs).1 (by decide) rfl
          have T1 := Lib.hid (show w8.ownsRow w2.heap.size 43 1 (.slice (some ⟨g8, 0, none⟩) (k + 1) cap8) (k + 1) (rowL (k + 1) fun j => if j < k then E j else .slice a5 z5.length c5) by
            rw [rowL_snoc, if_neg (by omega), rowL_congr (V := E) (fun j hj => if_pos hj)]; exact ho8)
          have T2 := Lib.hid (show ∀ j, j < k + 1 → ∃ zs, Own .u64 27 w8 w2.heap.size (if j < k then E j else .slice a5 z5.length c5) zs ∧ Nrm p zs ∧ pl p zs = W j j ∧ zs.length ≤ LF from fun j hj => by
            by_cases h : j < k
            · rw [if_pos h]
              obtain ⟨zs, h1, h2, h3, h4⟩ := hel j h
              exact ⟨zs, keepO (h1.next b5), h2, h3, h4⟩
            · obtain rfl : j = k := by omega
              rw [if_neg h]
              exact ⟨z5, (keepO hv5).mono BR.size, N5.out, by rw [HV.out, HKI.out], hl5⟩)
          have T3 := Lib.hid ((BR.trans (b5.mono BR.size)).trans hb8)
          have T4 := Lib.hid (show FcI r c (i + 1) (k + 1) W by rw [HKI.out] at *; exact F1.out)
          clear hrow hel BR hrow5 hv5 b5 ho8 hb8 hg8 hS keep HQI
          go_wp2
          go_roundw
          case rel => exact ⟨i + 1, k + 1, _, by omega, by go_num, T4.out, T1.out, T2.out, T3.out⟩
          case measure => simp [intOf] <;> omega
      · obtain rfl : i = r := by omega
        have hFm : FcI i c (min i c) k W := by rw [show min i c = i by omega]; exact hF
        have FIN := Lib.hid (fun ov (h : wr.ownsRow w2.heap.size 43 1 ov k (rowL k E)) => (show PQ (.returned (.tuple #[ov, .int .i64 0])) wr by
          obtain ⟨h1, h2, h3, h4, h5⟩ := HRES.out
          rw [EPQ.out]
          exact ⟨t, W, U, V, k, ov, E, h1, h2, h3, h4, h5, hFm, rfl, rowOwn_mono h HB2.out.size, fun j hj => by
            obtain ⟨zs, k1, k2, k3, k4⟩ := hel j hj
            exact ⟨zs, k1.mono HB2.out.size, k2, k3, k4⟩, HB2.out.trans (BR.mono HB2.out.size)⟩))
        have HROW := Lib.hid hrow
        clear hF hFm hel BR hrow
        go_wp2
        exact FIN.out _ HROW.out

end Go.Proofs.Ytkmfhabgempjiaa
/- What the laws of layer 23 say, plainly: values and determinants of products. -/
namespace Go.Proofs.Ytkmfhabgempjiaa
open Go.RowKit

section
variable {R S : Type} [CR R] [CR S]
end
section
variable {p : Nat}
theorem nl_same (hp : FP p) {a b : List Nat} (h : pl p a = pl p b) : nl p a = nl p b := nl_is hp.pos (nl_nrm hp.pos a) ((nl_pl p a).trans h)
theorem pl_cons' (x : Nat) (xs : List Nat) : pl p (x :: xs) = mon (Zp.of p x) 0 + mon 1 1 * pl p xs := Pol.ext fun i => by
  rw [Pol.c_add, c_mon1, c_mon, pl_c]
  cases i with
  | zero => simp [CR.add_zero]
  | succ i => simp [CR.zero_add, pl_c]
end

end Go.Proofs.Ytkmfhabgempjiaa
/- xform: awake. -/
namespace Go.Proofs.Ytkmfhabgempjiaa
open Go.RowKit

section
open CR
variable {p : Nat}
theorem SmR.eqv {R : Type} [CR R] {n m : Nat} {A : MT R n m} {U W V : Nat → Nat → R} (h : SmR A U W V) : Eqv A (MT.of n m W) := by
  obtain ⟨X, hX⟩ := h.u
  obtain ⟨Y, hY⟩ := h.v
  exact ⟨_, X, _, Y, hX, hY, h.e⟩
/-- Two Smith's forms of one matrix are the same. -/
theorem smi_unique (tr : Trial p) {n m t t' : Nat} {A : MT (Pol (Zp p)) n m} {U W V U' W' V' : (Nat → Nat → Pol (Zp p))} (h : SmR A U W V) (h' : SmR A U' W' V') (hI : SmI t n m W) (hI' : SmI t' n m W') (htn : t ≤ n) (htm : t ≤ m) (htn' : t' ≤ n) (htm' : t' ≤ m) (hz : ∀ a b, t ≤ a → a < n → t ≤ b → b < m → W a b = 0) (hz' : ∀ a b, t' ≤ a → a < n → t' ≤ b → b < m → W' a b = 0) :
    ∀ k, k < n → k < m → W k k = W' k k := by
  have e1 := hI.done hz
  have e2 := hI'.done hz'
  have hE : Eqv (MT.of n m (dg (dgo t W))) (MT.of n m (dg (dgo t' W'))) := by
    rw [← e1, ← e2]
    exact h.eqv.symm.trans h'.eqv
  have hu := smith_unique tr (hI.chain htn htm) (hI'.chain htn' htm') hE
  intro k hk hk'
  have := hu k hk hk'
  unfold dgo at this
  by_cases h1 : k < t
  · by_cases h2 : k < t'
    · rwa [if_pos h1, if_pos h2] at this
    · rw [if_pos h1, if_neg h2] at this; rw [this, hz' k k (by omega) hk (by omega) hk']
  · by_cases h2 : k < t'
    · rw [if_neg h1, if_pos h2] at this; rw [← this, hz k k (by omega) hk (by omega) hk']
    · rw [hz k k (by omega) hk (by omega) hk', hz' k k (by omega) hk (by omega) hk']
theorem pl_one (p : Nat) : pl p [1] = 1 := pl_sing1 p
theorem pl_x (p : Nat) : pl p [0, 1] = mon 1 1 := by
  rw [pl_cons', pl_cons', pl_nil, mul_zero, add_zero, show Zp.of p 1 = 1 from rfl, ← Pol.one_def, mul_one, Zp.of_zero, mon_zero, zero_add]
theorem pl_101 (p : Nat) : pl p [1, 0, 1] = 1 + mon 1 1 * mon 1 1 := by
  rw [pl_cons', ← pl_x, show Zp.of p 1 = 1 from rfl, ← Pol.one_def, pl_x]
/-- Smith's form of the matrix [x 1; -1 x]. -/
def awkW (p : Nat) : (Nat → Nat → Pol (Zp p)) := fun a b => if a = 0 ∧ b = 0 then 1 else if a = 1 ∧ b = 1 then pl p [1, 0, 1] else 0
theorem awk_smi (p : Nat) : SmI 2 2 2 (awkW p) := by
  refine ⟨fun i k hi hk hne _ => ?_, fun i hi => ?_, fun i hi a b h1 h2 h3 h4 => ?_⟩
  · unfold awkW; rw [if_neg (by omega), if_neg (by omega)]
  · rcases (show i = 0 ∨ i = 1 by omega) with rfl | rfl
    · exact Mo.one
    · refine Or.inr ⟨2, fun i hi => pl_dlt p _ i (by simpa using hi), ?_⟩
      show (pl p [1, 0, 1]).c 2 = 1
      rw [pl_c]; rfl
  · rcases (show i = 0 ∨ i = 1 by omega) with rfl | rfl
    · exact ⟨awkW p a b, (one_mul _).symm⟩
    · obtain rfl : a = 1 := by omega
      obtain rfl : b = 1 := by omega
      exact Dv.refl _
theorem awk_smr (xs : List (List Nat)) (h6 : Zp.of p 6 = -1) (hx : xs = [[0, 1], [1], [6], [0, 1]]) : ∃ U V : (Nat → Nat → Pol (Zp p)), SmR (MT.of 2 2 (aT p 2 xs)) U (awkW p) V := by
  have s0 : SmR (MT.of 2 2 (aT p 2 xs)) (fun i k => if i = k then 1 else 0) (aT p 2 xs) (fun i k => if i = k then 1 else 0) := SmR.start _ (fun _ _ _ _ => rfl) (fun _ _ _ _ => rfl) fun _ _ _ _ => rfl
  have s1 := s0.swC (i := 0) (k := 1) (by omega) (by omega)
  have s2 := s1.adR (i := 1) (k := 0) (by omega) (by omega) (by omega) (-(mon 1 1))
  have s3 := s2.adC (i := 1) (k := 0) (by omega) (by omega) (by omega) (-(mon 1 1))
  have s4 := s3.scl (t := 1) (c := -1) (d := -1) (by_ring [(0 : Pol (Zp p))] (-1 * -1) 1 rfl)
  have e6 : pl p [6] = -1 := by rw [pl_sing, h6, mon_neg, ← Pol.one_def]
  refine ⟨_, _, ⟨s4.u, s4.v, ?_⟩⟩
  rw [← s4.e]
  refine MT.of_congr fun i k hi hk => ?_
  have a00 : aT p 2 xs 0 0 = mon 1 1 := by rw [hx]; exact pl_x p
  have a01 : aT p 2 xs 0 1 = 1 := by rw [hx]; exact pl_one p
  have a10 : aT p 2 xs 1 0 = -1 := by rw [hx]; exact e6
  have a11 : aT p 2 xs 1 1 = mon 1 1 := by rw [hx]; exact pl_x p
  rcases (show i = 0 ∨ i = 1 by omega) with rfl | rfl <;> rcases (show k = 0 ∨ k = 1 by omega) with rfl | rfl
  · show 1 = aT p 2 xs 0 1
    rw [a01]
  · show 0 = aT p 2 xs 0 0 + -(mon 1 1) * aT p 2 xs 0 1
    rw [a00, a01]
    exact by_ring [(mon 1 1 : Pol (Zp p))] 0 (X0 + -X0 * 1) rfl
  · show 0 = (aT p 2 xs 1 1 + -(mon 1 1) * aT p 2 xs 0 1) * -1
    rw [a11, a01]
    exact by_ring [(mon 1 1 : Pol (Zp p))] 0 ((X0 + -X0 * 1) * -1) rfl
  · show pl p [1, 0, 1] = ((aT p 2 xs 1 0 + -(mon 1 1) * aT p 2 xs 0 0) + -(mon 1 1) * (aT p 2 xs 1 1 + -(mon 1 1) * aT p 2 xs 0 1)) * -1
    rw [a10, a00, a11, a01, pl_101]
    exact by_ring [(mon 1 1 : Pol (Zp p))] (1 + X0 * X0) (((-1 + -X0 * X0) + -X0 * (X0 + -X0 * 1)) * -1) rfl
theorem awk_fac (tr : Trial p) (h6 : Zp.of p 6 = -1) {xs : List (List Nat)} (hx : xs = [[0, 1], [1], [6], [0, 1]]) {U W V : (Nat → Nat → Pol (Zp p))} {t k : Nat} (h : SmR (MT.of 2 2 (aT p 2 xs)) U W V) (hI : SmI t 2 2 W) (ht : t ≤ 2) (hz : ∀ a b, t ≤ a → a < 2 → t ≤ b → b < 2 → W a b = 0) (hF : FcI 2 2 (min 2 2) k W) :
    k = 2 ∧ W 0 0 = pl p [1] ∧ W 1 1 = pl p [1, 0, 1] := by
  obtain ⟨U', V', h'⟩ := awk_smr xs h6 hx
  have hu := smi_unique tr h h' hI (awk_smi p) ht ht (Nat.le_refl _) (Nat.le_refl _) hz (fun a b h1 h2 => by omega)
  have e0 : W 0 0 = 1 := hu 0 (by omega) (by omega)
  have e1 : W 1 1 = pl p [1, 0, 1] := hu 1 (by omega) (by omega)
  refine ⟨?_, by rw [e0, pl_one], e1⟩
  have h1 : k ≤ 2 := hF.1
  have hne : (1 : Zp p) ≠ 0 := Zp.one_ne tr
  apply Classical.byContradiction
  intro hk
  rcases (show k = 0 ∨ k = 1 by omega) with rfl | rfl
  · have := hF.2.2 0 (by omega) (by decide) (by omega) (by omega)
    rw [e0] at this
    have h3 : (1 : Pol (Zp p)).c 0 = (0 : Pol (Zp p)).c 0 := by rw [this]
    rw [Pol.one_def, c_mon, if_pos rfl] at h3
    exact hne h3
  · have := hF.2.2 1 (by omega) (by decide) (by omega) (by omega)
    rw [e1] at this
    have h3 : (pl p [1, 0, 1]).c 2 = (0 : Pol (Zp p)).c 2 := by rw [this]
    rw [pl_c] at h3
    exact hne h3
end

/-- A slice value at a block. -/
theorem Blk.sl {w : World} {g : Nat} {xs : List Nat} (h : Blk 27 w g (vs .u64 xs)) : Sl .u64 w (.slice (some ⟨g, 0, none⟩) xs.length xs.length) xs :=
  ⟨_, g, 0, _, rfl, Nat.le_refl _, fun _ => rfl, fun j hj => by rw [Nat.zero_add, h.cell j]; exact vs_get .u64 xs j hj⟩
theorem awk_ns {w : World} (g : Nat) (b1 : Blk 27 w g [.int .u64 0, .int .u64 1]) (b2 : Blk 27 w (g + 1) [.int .u64 1]) (b3 : Blk 27 w (g + 1 + 1) [.int .u64 6]) (b4 : Blk 27 w (g + 1 + 1 + 1) [.int .u64 0, .int .u64 1])
    (b5 : Blk 43 w (g + 1 + 1 + 1 + 1) [.slice (some ⟨g, 0, none⟩) 2 2, .slice (some ⟨g + 1, 0, none⟩) 1 1, .slice (some ⟨g + 1 + 1, 0, none⟩) 1 1, .slice (some ⟨g + 1 + 1 + 1, 0, none⟩) 2 2]) :
    Ns w (.slice (some ⟨g + 1 + 1 + 1 + 1, 0, none⟩) 4 4) [[0, 1], [1], [6], [0, 1]] := by
  have s1 : Sl .u64 w (.slice (some ⟨g, 0, none⟩) 2 2) [0, 1] := Blk.sl (xs := [0, 1]) b1
  have s2 : Sl .u64 w (.slice (some ⟨g + 1, 0, none⟩) 1 1) [1] := Blk.sl (xs := [1]) b2
  have s3 : Sl .u64 w (.slice (some ⟨g + 1 + 1, 0, none⟩) 1 1) [6] := Blk.sl (xs := [6]) b3
  have s4 : Sl .u64 w (.slice (some ⟨g + 1 + 1 + 1, 0, none⟩) 2 2) [0, 1] := Blk.sl (xs := [0, 1]) b4
  refine ⟨some ⟨g + 1 + 1 + 1 + 1, 0, none⟩, g + 1 + 1 + 1 + 1, 0, 4, fun j => if j = 0 then .slice (some ⟨g, 0, none⟩) 2 2 else if j = 1 then .slice (some ⟨g + 1, 0, none⟩) 1 1 else if j = 2 then .slice (some ⟨g + 1 + 1, 0, none⟩) 1 1 else .slice (some ⟨g + 1 + 1 + 1, 0, none⟩) 2 2, rfl, Nat.le_refl _, fun _ => ⟨rfl, b5.lt⟩, fun j hj => ?_⟩
  rcases (show j = 0 ∨ j = 1 ∨ j = 2 ∨ j = 3 by simp at hj; omega) with rfl | rfl | rfl | rfl
  · exact ⟨b5.cell 0, s1, wf_cons (by decide) (wf_cons (by decide) (wf_nil _))⟩
  · exact ⟨b5.cell 1, s2, wf_cons (by decide) (wf_nil _)⟩
  · exact ⟨b5.cell 2, s3, wf_cons (by decide) (wf_nil _)⟩
  · exact ⟨b5.cell 3, s4, wf_cons (by decide) (wf_cons (by decide) (wf_nil _))⟩

set_option maxRecDepth 20000 in
set_option maxHeartbeats 4000000 in
theorem law24_awake (w : World) : Calls Try.prog 15 #[] w (LawOk w) := by
  obtain ⟨p, ep⟩ : ∃ p, p = Ps 3 := ⟨_, rfl⟩
  have hp : FP p := by rw [ep]; exact Ps_FP (by omega)
  have ht : Trial p := by rw [ep]; exact Ps_trial (by omega)
  have c0 : ∀ w : World, Calls Try.prog 17 #[.int .u8 3] w fun e w' => e = .returned (.agg #[.int .u64 (p : Nat)]) ∧ Below w.heap.size w w' := fun w => by rw [ep]; exact law9_Of 3 w
  have h6 : Zp.of p 6 = -1 := by rw [ep]; rfl
  have hn1 : Nrm p [1] := by rw [ep]; exact ⟨wf_cons (by decide) (wf_nil _), rfl⟩
  have hn2 : Nrm p [1, 0, 1] := by rw [ep]; exact ⟨wf_cons (by decide) (wf_cons (by decide) (wf_cons (by decide) (wf_nil _))), rfl⟩
  have C0 := Lib.hid c0; have HP := Lib.hid hp; have HT := Lib.hid ht; have H6 := Lib.hid h6; have HN1 := Lib.hid hn1; have HN2 := Lib.hid hn2
  clear c0 hp ht h6 hn1 hn2 ep
  go_enter Try.func15, Try.ntmps15
  go_wp2_with fail
  refine (C0.out _).mono ?_; rintro e w1 ⟨rfl, b1⟩
  go_wp2_with fail
  obtain ⟨w2, e2, k1, k2, k3, k4, k5, B2, -⟩ := boxes5 w1 27 27 27 27 43 [.int .u64 0, .int .u64 1] [.int .u64 1] [.int .u64 6] [.int .u64 0, .int .u64 1] [.slice (some ⟨w1.heap.size, 0, none⟩) 2 2, .slice (some ⟨w1.heap.size + 1, 0, none⟩) 1 1, .slice (some ⟨w1.heap.size + 1 + 1, 0, none⟩) 1 1, .slice (some ⟨w1.heap.size + 1 + 1 + 1, 0, none⟩) 2 2]
  have hns := awk_ns w1.heap.size k1 k2 k3 k4 k5
  rw [← e2]
  obtain ⟨g, eg⟩ : ∃ g, g = w1.heap.size + 1 + 1 + 1 + 1 := ⟨_, rfl⟩
  rw [← eg] at hns ⊢
  have B3 := b1.trans (B2.mono b1.size)
  have hA : Xm w2 (.agg #[.int .i64 2, .int .i64 2, .slice (some ⟨g, 0, none⟩) 4 4]) (2 : Nat) (2 : Nat) [[0, 1], [1], [6], [0, 1]] := ⟨_, rfl, hns⟩
  obtain ⟨xs, exs⟩ : ∃ xs : List (List Nat), xs = [[0, 1], [1], [6], [0, 1]] := ⟨_, rfl⟩
  rw [← exs] at hA
  have EXS := Lib.hid exs
  have hxl : xs.length = 2 * 2 := by rw [exs]; rfl
  have hll : ∀ j, j < 2 * 2 → (xs.getD j []).length ≤ 4 := fun j hj => by
    rw [exs]
    rcases (show j = 0 ∨ j = 1 ∨ j = 2 ∨ j = 3 by omega) with rfl | rfl | rfl | rfl <;> decide
  clear e2 k1 k2 k3 k4 k5 hns eg exs b1 B2
  refine (xf_Factors p _ 2 2 65535 xs w2 HP.out HT.out hA (by omega) (by omega) hxl (fun w' h' => xf_Smith3 p _ 2 2 xs w' HP.out HT.out h' (by omega) (by omega) hxl hll) (by omega)).mono ?_
  rintro e w3 ⟨t, W, U, V, k, ov, E, ht2, -, hSR, hSI, hz, hF, rfl, hrow, hel, b3⟩
  obtain ⟨rfl, e0, e1⟩ := awk_fac HT.out H6.out EXS.out hSR hSI ht2 hz hF
  obtain ⟨z0, o0, n0, v0, -⟩ := hel 0 (by omega)
  obtain ⟨z1, o1, n1, v1, -⟩ := hel 1 (by omega)
  obtain rfl : z0 = [1] := pl_inj HP.out.pos n0 HN1.out (v0.trans e0)
  obtain rfl : z1 = [1, 0, 1] := pl_inj HP.out.pos n1 HN2.out (v1.trans e1)
  have B4 := B3.trans (b3.mono B3.size)
  obtain ⟨gb, cap, rfl, -, -, -⟩ : ∃ b cap, ov = .slice (some ⟨b, 0, none⟩) 2 cap ∧ True ∧ True ∧ True := by
    rcases rowOwn_shape hrow with ⟨_, e2⟩ | ⟨b, cap, e1, _⟩
    · simp at e2
    · exact ⟨b, cap, e1, trivial, trivial, trivial⟩
  have q0 := World.ownsRow.cellAt hrow 0 (by decide)
  have q1 := World.ownsRow.cellAt hrow 1 (by decide)
  rw [rowL_get (by decide)] at q0 q1
  obtain ⟨a0, c0, h0⟩ := o0.sliced
  obtain ⟨a1, c1, h1⟩ := o1.sliced
  rw [h0] at q0 o0; rw [h1] at q1 o1
  have gl : gb < w3.heap.size := (rowOwn_tyb hrow rfl).2.2
  have HS0 := Lib.hid o0; have HS1 := Lib.hid o1
  clear hrow hel hF hz hSI hSR o0 o1 n0 v0 n1 v1 e0 e1 h0 h1 B3 b3 hA hxl hll ht2
  have b7 := (Below.refl w3.heap.size w3).alloc (Nat.le_refl _) (.cells #[.int .u64 1] 27)
  have l7 := own_lit1 w3 1
  have q1' := (b7.cell (p := ⟨gb, 1, none⟩) gl).trans q1
  go_wp2_with fail
  refine (ref9_Same _ _ [1] [1] true _ (HS0.out.next b7).sl l7.sl (by simp) (by simp) (decide_eq_true rfl).symm).mono ?_; rintro e w8 ⟨rfl, q8⟩
  have b8 := b7.trans (q8.below w3.heap.size)
  have HS1' := HS1.out.next b8
  have B5 := B4.trans (b8.mono B4.size)
  have q1'' := (q8.below _).cell (p := ⟨gb, 1, none⟩) (by have := b7.size; omega) |>.trans q1'
  clear HS0 HS1 l7 q0 q1 q1' b7 q8 b8 B4
  have b9 := (Below.refl w8.heap.size w8).alloc (Nat.le_refl _) (.cells #[.int .u64 1, .int .u64 0, .int .u64 1] 27)
  have l9 := own_lit101 w8
  go_wp2_with fail
  refine (ref9_Same _ _ [1, 0, 1] [1, 0, 1] true _ (HS1'.next b9).sl l9.sl (by simp) (by simp) (decide_eq_true rfl).symm).mono ?_; rintro e w10 ⟨rfl, q10⟩
  have FIN := Lib.hid (show LawOk w (.returned (.bool true)) w10 from ⟨rfl, (B5.trans (b9.mono B5.size)).trans (q10.below w.heap.size)⟩)
  clear HS1' q1'' l9 b9 q10 B5
  go_wp2
  go_ret
  exact FIN.out

end Go.Proofs.Ytkmfhabgempjiaa
/- Chapter 24: Divides, Unimodular; Smith's form read place by place. -/
namespace Go.Proofs.Ytkmfhabgempjiaa
open Go.RowKit

set_option maxRecDepth 20000 in
set_option maxHeartbeats 4000000 in
theorem rf24_Divides (p : Nat) (v u : Value) (xs ys : List Nat) (w : World) (hp : FP p) (ht : Trial p) (hv : Sl .u64 w v xs) (hu : Sl .u64 w u ys) (nx : Nrm p xs) (ny : Nrm p ys) (hm : xs.length ≤ 1000000) (hn : ys.length ≤ 1000000) (β : Bool) (hβ : β = true ↔ Dv (pl p xs) (pl p ys)) :
    Calls Try.prog 37 #[.agg #[.int .u64 p], v, u] w (RetW w (.bool β)) := by
  have ex := nl_of hp.pos nx
  have hz : xs.length = 0 → (Dv (pl p xs) (pl p ys) ↔ ys.length = 0) := fun e => by
    rw [List.length_eq_zero_iff.1 e, pl_nil]
    constructor
    · intro h
      have h1 := h.of_zero
      rw [pl_inj hp.pos ny (nrm_nil p) (by rw [h1, pl_nil])]; rfl
    · intro h; rw [List.length_eq_zero_iff.1 h, pl_nil]; exact Dv.zero _
  have HP := Lib.hid hp; have HTR := Lib.hid ht; have HB := Lib.hid hβ; have HZ := Lib.hid hz; have EX := Lib.hid ex
  obtain ⟨wb, ew, KF, B0, -⟩ := boxes1 w 29 [.int .u64 p]
  replace hv := hv.next B0; replace hu := hu.next B0
  obtain ⟨ax, bx, ox, cx, rfl, -, -⟩ := id hv
  obtain ⟨ay, by', oy, cy, rfl, -, -⟩ := id hu
  clear hp ht hβ hz nx ny ex
  go_enter Try.func37, Try.ntmps37
  go_upto_region 1 with (fail)
  rw [← ew]
  obtain ⟨g, eg⟩ : ∃ g, g = w.heap.size := ⟨_, rfl⟩
  rw [← eg] at KF ⊢
  clear ew eg
  have c0 := KF.cell 0
  by_cases h0 : xs.length = 0
  · have H00 := Lib.hid h0
    have hx1 : ((xs.length : Int) == 0) = true := by simp [h0]
    clear h0
    by_cases hy : ys.length = 0
    · have hy1 : ((ys.length : Int) == 0) = true := by simp [hy]
      have e1 : β = true := HB.out.2 ((HZ.out H00.out).2 hy)
      have FIN := Lib.hid (show RetW w (.bool β) (.returned (.bool true)) wb from ⟨by rw [e1], B0⟩)
      clear hy e1 B0 hv hu KF c0
      go_wp2
      go_ret
      exact FIN.out
    · have hy1 : ((ys.length : Int) == 0) = false := by simp [hy]
      have e1 : β = false := Bool.eq_false_iff.2 fun e => hy ((HZ.out H00.out).1 (HB.out.1 e))
      have FIN := Lib.hid (show RetW w (.bool β) (.returned (.bool false)) wb from ⟨by rw [e1], B0⟩)
      clear hy e1 B0 hv hu KF c0
      go_wp2
      go_ret
      exact FIN.out
  · have H00 := Lib.hid h0
    have hx1 : ((xs.length : Int) == 0) = false := by simp [h0]
    clear h0
    go_wp2_with fail
    (with_reducible refine (fp_DivMod p _ _ ys xs _ HP.out HTR.out hu hv hn hm (show nl p xs ≠ [] from fun e => absurd (show xs.length = 0 by rw [EX.out.symm.trans e]; exact List.length_nil) H00.out)).mono ?_); rintro e w1 ⟨rq, rr, zq, zr, rfl, o8, p8, m8, n8, v8, d8, l8, k8, b1⟩
    have B1 := B0.trans (b1.mono B0.size)
    have hd := dv_r (a := pl p ys) (g := pl p xs) (q := pl p zq) (zg := xs) HP.out.pos HTR.out rfl v8 n8 d8
    obtain ⟨ar, cr, er⟩ := p8.sliced
    subst er
    clear b1 c0 KF hv hu B0 o8 p8 m8 n8 v8 d8 l8 k8
    by_cases hr : zr.length = 0
    · have hr1 : ((zr.length : Int) == 0) = true := by simp [hr]
      have e1 : β = true := HB.out.2 (hd.2 hr)
      have FIN := Lib.hid (show RetW w (.bool β) (.returned (.bool true)) w1 from ⟨by rw [e1], B1⟩)
      clear hr B1 e1 hd
      go_wp2
      go_ret
      exact FIN.out
    · have hr1 : ((zr.length : Int) == 0) = false := by simp [hr]
      have e1 : β = false := Bool.eq_false_iff.2 fun e => hr (hd.1 (HB.out.1 e))
      have FIN := Lib.hid (show RetW w (.bool β) (.returned (.bool false)) w1 from ⟨by rw [e1], B1⟩)
      clear hr B1 e1 hd
      go_wp2
      go_ret
      exact FIN.out

section
open CR
variable {p : Nat}
/-- What stands on the diagonal last, ahead of a row. -/
def lastD (c : Nat) (W : (Nat → Nat → Pol (Zp p))) : Nat → Pol (Zp p)
  | 0 => 1
  | i + 1 => if i < c then W i i else lastD c W i
/-- A place is in order. -/
def SmP (c : Nat) (W : (Nat → Nat → Pol (Zp p))) (a b : Nat) : Prop := (a ≠ b → W a b = 0) ∧ (a = b → Mo (W a a) ∧ Dv (lastD c W a) (W a a))
/-- All places are in order. -/
def SmB (r c : Nat) (W : (Nat → Nat → Pol (Zp p))) : Prop := ∀ a b, a < r → b < c → SmP c W a b
theorem lastD_at {c i : Nat} (W : (Nat → Nat → Pol (Zp p))) (hi : i < c) : lastD c W (i + 1) = W i i := if_pos hi
theorem SmB.dv1 {r c : Nat} {W : (Nat → Nat → Pol (Zp p))} (h : SmB r c W) {i : Nat} (hi : i + 1 < r) (hi' : i + 1 < c) : Dv (W i i) (W (i + 1) (i + 1)) := by
  have := ((h (i + 1) (i + 1) hi hi').2 rfl).2
  rwa [lastD_at W (by omega)] at this
theorem SmB.dv {r c : Nat} {W : (Nat → Nat → Pol (Zp p))} (h : SmB r c W) {i : Nat} : ∀ k, i + k < r → i + k < c → Dv (W i i) (W (i + k) (i + k))
  | 0, _, _ => Dv.refl _
  | k + 1, h1, h2 => (SmB.dv h k (by omega) (by omega)).trans (h.dv1 (by omega) (by omega))
/-- Smith's form by places is Smith's form. -/
theorem SmB.smi {r c : Nat} {W : (Nat → Nat → Pol (Zp p))} (h : SmB r c W) : SmI (min r c) r c W := by
  refine ⟨fun i k hi hk hne _ => (h i k hi hk).1 hne, fun i hi => ((h i i (by omega) (by omega)).2 rfl).1, fun i hi a b h1 h2 h3 h4 => ?_⟩
  by_cases e : a = b
  · subst e
    obtain ⟨k, rfl⟩ : ∃ k, a = i + k := ⟨a - i, by omega⟩
    exact h.dv k h2 h4
  · rw [(h a b h2 h4).1 e]; exact Dv.zero _
theorem smb_of {r c t : Nat} {W : (Nat → Nat → Pol (Zp p))} (h : SmI t r c W) (hz : ∀ a b, t ≤ a → a < r → t ≤ b → b < c → W a b = 0) : SmB r c W := fun a b ha hb => by
  refine ⟨fun hne => ?_, fun e => ?_⟩
  · by_cases h1 : a < t ∨ b < t
    · exact h.off a b ha hb hne h1
    · exact hz a b (by omega) ha (by omega) hb
  · subst e
    refine ⟨?_, ?_⟩
    · by_cases h1 : a < t
      · exact h.mo a h1
      · rw [hz a a (by omega) ha (by omega) hb]; exact .inl rfl
    · cases a with
      | zero => exact ⟨W 0 0, (one_mul _).symm⟩
      | succ a =>
        rw [lastD_at W (by omega)]
        by_cases h1 : a < t
        · exact h.dv a h1 (a + 1) (a + 1) (by omega) ha (by omega) hb
        · rw [hz (a + 1) (a + 1) (by omega) ha (by omega) hb]; exact Dv.zero _
end

end Go.Proofs.Ytkmfhabgempjiaa
/- Chapter 24: Smith's form is read. -/
namespace Go.Proofs.Ytkmfhabgempjiaa
open Go.RowKit

section
open CR
variable {p : Nat}
theorem SmP.off {c i k : Nat} {W : (Nat → Nat → Pol (Zp p))} (hne : i ≠ k) (h : W i k = 0) : SmP c W i k := ⟨fun _ => h, fun e => absurd e hne⟩
theorem SmP.on {c i : Nat} {W : (Nat → Nat → Pol (Zp p))} (h1 : Mo (W i i)) (h2 : Dv (lastD c W i) (W i i)) : SmP c W i i := ⟨fun h => absurd rfl h, fun _ => ⟨h1, h2⟩⟩
theorem row_succ {P : Nat → Prop} {k : Nat} (h : ∀ b, b < k → P b) (hk : P k) : ∀ b, b < k + 1 → P b := fun b hb => by
  by_cases e : b = k
  · rw [e]; exact hk
  · exact h b (by omega)
theorem rows_succ {c i : Nat} {P : Nat → Nat → Prop} (h : ∀ a b, a < i → b < c → P a b) (hk : ∀ b, b < c → P i b) : ∀ a b, a < i + 1 → b < c → P a b := fun a b ha hb => by
  by_cases e : a = i
  · rw [e]; exact hk b hb
  · exact h a b (by omega) hb
end

set_option maxRecDepth 20000 in
set_option maxHeartbeats 4000000 in
theorem rf24_Smith (p : Nat) (a : Value) (r c : Nat) (xs : List (List Nat)) (w : World) (hp : FP p) (ht : Trial p) (hA : Xm w a r c xs) (hr : r ≤ 64) (hc : c ≤ 64) (hx : xs.length = r * c) (hl : ∀ j, j < r * c → (xs.getD j []).length ≤ 1000000) (β : Bool) (hβ : β = true ↔ SmB r c (aT p c xs)) :
    Calls Try.prog 24 #[.agg #[.int .u64 p], a, .int .u64 p] w (RetW w (.bool β)) := by
  obtain ⟨aA, cA, rfl⟩ := hA.agg
  obtain ⟨wb, ew, KF, KA, B0, hsz⟩ := boxes2 w 29 24 [.int .u64 p] [.int .i64 r, .int .i64 c, .slice aA xs.length cA]
  clear hsz
  replace hA := hA.next B0
  have hn1 : Nrm p [1] := ⟨wf_cons (by have := hp.1; omega) (wf_nil _), rfl⟩
  have HP := Lib.hid hp; have HTR := Lib.hid ht; have HX := Lib.hid hx; have HLL := Lib.hid hl; have HBE := Lib.hid hβ; clear hp ht hx hl hβ
  go_enter Try.func24, Try.ntmps24
  go_upto_region 1 with (fail)
  rw [← ew]
  obtain ⟨g, eg⟩ : ∃ g, g = w.heap.size := ⟨_, rfl⟩
  rw [← eg] at KF KA ⊢
  clear ew eg
  have ba : Below wb.heap.size wb (wb.alloc (.cells #[.int .u64 1] 27)) := (Below.refl _ _).alloc (Nat.le_refl _) _
  have tl := (own_lit1 wb 1).sl
  replace KF := KF.next ba; replace KA := KA.next ba; replace hA := hA.next ba
  have B1 := Lib.hid (B0.trans (ba.mono B0.size))
  go_wp2
  generalize wb.alloc (.cells #[.int .u64 1] 27) = w1 at *
  obtain ⟨g1, eg1⟩ : ∃ g1, g1 = wb.heap.size := ⟨_, rfl⟩
  rw [← eg1] at tl ⊢
  have HKF := Lib.hid KF; have HKA := Lib.hid KA; have HA := Lib.hid hA; have HTL := Lib.hid tl; have HN1 := Lib.hid hn1
  clear KF KA hA tl hn1 ba B0 eg1
  obtain ⟨W, eW⟩ : ∃ W, W = aT p c xs := ⟨_, rfl⟩
  rw [← eW] at HBE
  have EW := Lib.hid eW; clear eW
  go_loopw [7, 8] (fun lv iv wr => ∃ (i : Nat) (zl : List Nat), i ≤ r ∧ iv = .int .i64 i ∧ (∀ a b, a < i → b < c → SmP c W a b) ∧ Sl .u64 wr lv zl ∧ Nrm p zl ∧ pl p zl = lastD c W i ∧ zl.length ≤ 1000000 ∧ Below w1.heap.size w1 wr) (fun _ iv _ => r - (intOf iv).toNat)
  case atStart => exact ⟨0, [1], Nat.zero_le _, rfl, fun a b h => absurd h (by omega), HTL.out, HN1.out, pl_one p, by simp, Below.refl _ _⟩
  case round =>
    obtain ⟨i, zl, hi, rfl, hrows, hlv, nl1, vl, ll, BR⟩ := hrel
    have KA := HKA.out.next BR
    have a0 := KA.cell 0
    have HRO := Lib.hid hrows; have HLV := Lib.hid hlv; have NL := Lib.hid nl1; have VL := Lib.hid vl
    clear KA hrows hlv nl1 vl
    by_cases hir : i < r
    · go_wp2
      clear a0
      go_loopw [7, 9] (fun lv kv ws => ∃ (k : Nat) (zl : List Nat), k ≤ c ∧ kv = .int .i64 k ∧ (∀ b, b < k → SmP c W i b) ∧ Sl .u64 ws lv zl ∧ Nrm p zl ∧ pl p zl = (if i < k then W i i else lastD c W i) ∧ zl.length ≤ 1000000 ∧ Below w1.heap.size w1 ws) (fun _ kv _ => c - (intOf kv).toNat)
      case atStart => exact ⟨0, zl, Nat.zero_le _, rfl, fun b h => absurd h (by omega), HLV.out, NL.out, by rw [if_neg (by omega)]; exact VL.out, ll, BR⟩
      case round =>
        clear HLV NL VL ll BR
        obtain ⟨k, zl, hk, rfl, hrow, hlv, nl1, vl, ll, BR⟩ := hrel
        have KA := HKA.out.next BR; have KF := HKF.out.next BR; have hA := HA.out.next BR
        have a0 := KA.cell 0; have a1 := KA.cell 1; have a2 := KA.cell 2; have f0 := KF.cell 0
        have HRW := Lib.hid hrow; have NL := Lib.hid nl1; have VL := Lib.hid vl
        clear hrow nl1 vl KA KF
        by_cases hkc : k < c
        · have hlt : i * c + k < r * c := at_lt rfl hir hkc
          have hll := HLL.out _ hlt
          go_wp2_with fail
          (with_reducible refine (rf23_At _ r c i k p xs _ HP.out hA (by omega) (by omega) (by omega) (by rw [HX.out]; exact hlt) hll).mono ?_); rintro e w5 ⟨r5, z5, rfl, o5, n5, v5, l5, b5⟩
          have hv : pl p z5 = W i k := by rw [v5, EW.out]; rfl
          have hl5 : z5.length ≤ 1000000 := Nat.le_trans l5 hll
          have BR5 := BR.trans (b5.mono BR.size)
          have hlv5 := hlv.next b5
          have KF := HKF.out.next BR5
          clear a0 a1 a2 f0 hA v5 l5 b5 BR hlv hll
          have f0 := KF.cell 0
          have hs5 := o5.sl
          obtain ⟨a5, c5, rfl⟩ := o5.sliced
          have N5 := Lib.hid n5; have HV := Lib.hid hv
          clear KF n5 hv o5
          by_cases hik : i = k
          · subst hik
            have hm0 := nrm_mo HTR.out N5.out
            rw [HV.out] at hm0
            have hl0 : pl p zl = lastD c W i := by rw [VL.out, if_neg (Nat.lt_irrefl i)]
            have HM0 := Lib.hid hm0; have HL0 := Lib.hid hl0
            clear hm0 hl0
            go_wp2_with fail
            (with_reducible refine (ref9_Monic _ z5 _ w5 hs5 hl5 rfl).mono ?_); rintro e w6 ⟨rfl, rfl⟩
            by_cases hmo : z5 = [] ∨ z5.getD (z5.length - 1) 0 = 1
            · have hd1 : decide (z5 = [] ∨ z5.getD (z5.length - 1) 0 = 1) = true := decide_eq_true hmo
              have hmo' := HM0.out.2 hmo
              have HMO := Lib.hid hmo'
              clear hmo hmo'
              rw [hd1]
              clear hd1
              by_cases hdv : Dv (lastD c W i) (W i i)
              · have HDV := Lib.hid hdv
                clear hdv
                go_wp2_with fail
                (with_reducible refine (rf24_Divides p _ _ zl z5 w5 HP.out HTR.out hlv5 hs5 NL.out N5.out ll hl5 true ⟨fun _ => by rw [HL0.out, HV.out]; exact HDV.out, fun _ => rfl⟩).mono ?_); rintro e w7 ⟨rfl, b7⟩
                have F1 := Lib.hid (row_succ HRW.out (SmP.on HMO.out HDV.out))
                have F2 := Lib.hid (hs5.next b7)
                have F3 := Lib.hid (BR5.trans (b7.mono BR5.size))
                clear b7 BR5 hlv5 hs5 f0
                go_wp2
                go_roundw
                case rel => exact ⟨i + 1, z5, by omega, by go_num, F1.out, F2.out, N5.out, by rw [if_pos (by omega)]; exact HV.out, hl5, F3.out⟩
                case measure => simp [intOf] <;> omega
              · have HDV := Lib.hid hdv
                clear hdv
                go_wp2_with fail
                (with_reducible refine (rf24_Divides p _ _ zl z5 w5 HP.out HTR.out hlv5 hs5 NL.out N5.out ll hl5 false ⟨fun h => by simp at h, fun h => absurd (by rw [HL0.out, HV.out] at h; exact h) HDV.out⟩).mono ?_); rintro e w7 ⟨rfl, b7⟩
                have e1 : β = false := Bool.eq_false_iff.2 fun e => HDV.out ((HBE.out.1 e i i hir hkc).2 rfl).2
                have FIN := Lib.hid (show RetW w (.bool β) (.returned (.bool false)) w7 from ⟨by rw [e1], B1.out.trans ((BR5.trans (b7.mono BR5.size)).mono B1.out.size)⟩)
                clear b7 BR5 hlv5 hs5 f0 e1
                go_wp2
                first | exact FIN.out | (go_ret; exact FIN.out)
            · have hd1 : decide (z5 = [] ∨ z5.getD (z5.length - 1) 0 = 1) = false := decide_eq_false hmo
              have e1 : β = false := Bool.eq_false_iff.2 fun e => hmo (HM0.out.1 ((HBE.out.1 e i i hir hkc).2 rfl).1)
              have FIN := Lib.hid (show RetW w (.bool β) (.returned (.bool false)) w5 from ⟨by rw [e1], B1.out.trans (BR5.mono B1.out.size)⟩)
              rw [hd1]
              clear hmo hd1 BR5 hlv5 hs5 f0 e1
              go_wp2
              first | exact FIN.out | (go_ret; exact FIN.out)
          · have hz0 : W i k = 0 ↔ z5.length = 0 := by
              rw [← HV.out]
              exact ⟨fun e => by rw [pl_inj HP.out.pos N5.out (nrm_nil p) (by rw [e, pl_nil])]; rfl, fun e => by rw [List.length_eq_zero_iff.1 e, pl_nil]⟩
            by_cases hz : z5.length = 0
            · have F1 := Lib.hid (row_succ HRW.out (SmP.off (c := c) hik (hz0.2 hz)))
              have F2 := Lib.hid hlv5
              have F3 := Lib.hid BR5
              have F4 := Lib.hid (show pl p zl = (if i < k + 1 then W i i else lastD c W i) by
                rw [VL.out]
                by_cases h : i < k
                · rw [if_pos h, if_pos (by omega)]
                · rw [if_neg h, if_neg (by omega)])
              have hz1 : ¬ 0 < z5.length := by omega
              have hk1 : ((i : Int) == (k : Int)) = false := by simp; omega
              clear hz hz0 hlv5 hs5 BR5 f0
              go_wp2
              go_roundw
              case rel => exact ⟨k + 1, zl, by omega, by go_num, F1.out, F2.out, NL.out, F4.out, ll, F3.out⟩
              case measure => simp [intOf] <;> omega
            · have e1 : β = false := Bool.eq_false_iff.2 fun e => hz (hz0.1 ((HBE.out.1 e i k hir hkc).1 hik))
              have FIN := Lib.hid (show RetW w (.bool β) (.returned (.bool false)) w5 from ⟨by rw [e1], B1.out.trans (BR5.mono B1.out.size)⟩)
              have hz1 : 0 < z5.length := by omega
              have hk1 : ((i : Int) == (k : Int)) = false := by simp; omega
              clear hz hz0 hlv5 hs5 BR5 f0 e1
              go_wp2
              first | exact FIN.out | (go_ret; exact FIN.out)
        · obtain rfl : k = c := by omega
          have F1 := Lib.hid (rows_succ HRO.out HRW.out)
          have F2 := Lib.hid hlv
          have F3 := Lib.hid BR
          have F4 := Lib.hid (show pl p zl = lastD k W (i + 1) by rw [VL.out]; rfl)
          clear hlv BR hA a0 a2
          go_wp2
          go_roundw
          case rel => exact ⟨i + 1, zl, by omega, by go_num, F1.out, F2.out, NL.out, F4.out, ll, F3.out⟩
          case measure => simp [intOf] <;> omega
    · obtain rfl : i = r := by omega
      have e1 : β = true := HBE.out.2 HRO.out
      have FIN := Lib.hid (show RetW w (.bool β) (.returned (.bool true)) wr from ⟨by rw [e1], B1.out.trans (BR.mono B1.out.size)⟩)
      clear BR e1
      go_wp2
      first | exact FIN.out | (go_ret; exact FIN.out)

end Go.Proofs.Ytkmfhabgempjiaa
/- Layer 24, plain: what the laws want. -/
namespace Go.Proofs.Ytkmfhabgempjiaa
open Go.RowKit

section
open CR
variable {p : Nat}
theorem SmI.congr {t n m : Nat} {W V : (Nat → Nat → Pol (Zp p))} (h : SmI t n m W) (htn : t ≤ n) (htm : t ≤ m) (e : ∀ i k, i < n → k < m → V i k = W i k) : SmI t n m V := by
  refine ⟨fun i k hi hk hne h1 => by rw [e i k hi hk]; exact h.off i k hi hk hne h1, fun i hi => by rw [e i i (by omega) (by omega)]; exact h.mo i hi, fun i hi a b h1 h2 h3 h4 => ?_⟩
  rw [e i i (by omega) (by omega), e a b h2 h4]; exact h.dv i hi a b h1 h2 h3 h4
/-- The elements of a matrix in memory, by its rows and columns. -/
theorem rd_at {r c L : Nat} {W : (Nat → Nat → Pol (Zp p))} {zs : List (List Nat)} (h : ∀ j, j < r * c → Nrm p (zs.getD j []) ∧ pl p (zs.getD j []) = W (j / c) (0 + j % c) ∧ (zs.getD j []).length ≤ L) {i k : Nat} (hi : i < r) (hk : k < c) : aT p c zs i k = W i k := by
  have h1 := (h (i * c + k) (at_lt rfl hi hk)).2.1
  show pl p (zs.getD (i * c + k) []) = _
  rw [h1, Nat.mul_comm, Nat.mul_add_div (by omega), Nat.div_eq_of_lt hk, Nat.mul_add_mod, Nat.mod_eq_of_lt hk, Nat.add_zero, Nat.zero_add]
theorem jdm {r c j : Nat} (hj : j < r * c) : j / c < r ∧ j % c < c ∧ j / c * c + j % c = j := by
  have hc : 0 < c := Nat.pos_of_ne_zero fun e => by rw [e, Nat.mul_zero] at hj; omega
  exact ⟨Nat.div_lt_of_lt_mul (by rwa [Nat.mul_comm] at hj), Nat.mod_lt _ hc, by rw [Nat.mul_comm]; exact Nat.div_add_mod j c⟩
theorem aT_at {c : Nat} (zs : List (List Nat)) {r j : Nat} (hj : j < r * c) : pl p (zs.getD j []) = aT p c zs (j / c) (j % c) := by
  show _ = pl p (zs.getD (j / c * c + j % c) [])
  rw [(jdm hj).2.2]
end
/-- Three rows and columns, three elements. -/
def lsq33 (t : Nat) : Nat := if t = 0 then 3 else if t = 1 then 7 else 127
theorem seq33 {r c : Nat} (hr : r ≤ 3) (hc : c ≤ 3) : SeqB r c lsq33 := by
  intro t h1 h2
  rcases (show t = 0 ∨ t = 1 ∨ t = 2 by omega) with rfl | rfl | rfl
  · exact ⟨by decide, by decide, .inl ⟨by decide, by decide⟩⟩
  · exact ⟨by decide, by decide, .inl ⟨by decide, by decide⟩⟩
  · exact ⟨by decide, by decide, .inr ⟨by omega, by omega⟩⟩
theorem xf_Smith33 (p : Nat) (a : Value) (r c : Nat) (xs : List (List Nat)) (w : World) (hp : FP p) (ht : Trial p) (hA : Xm w a r c xs) (hr : r ≤ 3) (hc : c ≤ 3) (hx : xs.length = r * c) (hl : ∀ j, j < r * c → (xs.getD j []).length ≤ 3) :
    Calls Try.prog 19 #[.agg #[.int .u64 p], a] w (RetSm p w r c 255 (aT p c xs)) :=
  xf_Smith p a r c 3 255 xs w hp ht hA (by omega) (by omega) hx hl (by omega) (sms_seq ht (seq33 hr hc)) (fun W U V h1 h2 h3 => seq_start hl (by decide) h1 h2 h3) (fun t W U V hb => seq_fin (LM := 127) (fun t => by unfold lsq33; split <;> (try split) <;> omega) hb)

end Go.Proofs.Ytkmfhabgempjiaa
/- xform: IsHermite. -/
namespace Go.Proofs.Ytkmfhabgempjiaa
open Go.RowKit

/-- An answer is returned. -/
def RetIs (w : World) (Q : Prop) (e : Ending) (w' : World) : Prop := ∃ b : Bool, e = .returned (.bool b) ∧ (b = true ↔ Q) ∧ Below w.heap.size w w'
section
variable {p n m : Nat} {W : Nat → Nat → Pol (Zp p)} {i k : Nat}
theorem dl_iff {f g : Pol (Zp p)} {a b : Nat} (hf : Ln f a) (hg : Ln g b) : Dl f g ↔ a < b := by
  constructor
  · rintro ⟨d, h1, h2⟩
    have h3 := hf.le h1
    have h4 := hg.unique h2
    omega
  · intro h
    refine ⟨b - 1, dlt_mono hf.1 (by omega), ?_⟩
    rwa [show b - 1 + 1 = b by omega]
theorem HerB.succ (h : HerB i m W) (hc : fstc m W i = m ∨ ((∀ j, i = j + 1 → fstc m W j < fstc m W i) ∧ Mo (W i (fstc m W i)) ∧ ∀ r, r < i → Dl (W r (fstc m W i)) (W i (fstc m W i)))) : HerB (i + 1) m W := fun a ha => by
  by_cases e : a = i
  · rw [e]; exact hc
  · exact h a (by omega)
/-- A row breaks the form. -/
theorem HerB.no (hi : i < n) (hk : fstc m W i = k) (hm : k < m) (h : (∃ j, i = j + 1 ∧ k ≤ fstc m W j) ∨ ¬ Mo (W i k) ∨ ∃ r, r < i ∧ ¬ Dl (W r k) (W i k)) : ¬ HerB n m W := fun hb => by
  rcases hb i hi with h1 | ⟨h1, h2, h3⟩
  · omega
  · rw [hk] at h1 h2 h3
    rcases h with ⟨j, h4, h5⟩ | h4 | ⟨r, h4, h5⟩
    · have := h1 j h4; omega
    · exact h4 h2
    · exact h5 (h3 r h4)
/-- What 'last' holds ahead of row i. -/
noncomputable def lastH (m : Nat) (W : Nat → Nat → Pol (Zp p)) : Nat → Int
  | 0 => -1
  | i + 1 => (fstc m W i : Int)
end

set_option maxRecDepth 20000 in
set_option maxHeartbeats 4000000 in
theorem xf_IsHermite (p : Nat) (a : Value) (r c : Nat) (xs : List (List Nat)) (w : World) (hp : FP p) (ht : Trial p) (hA : Xm w a r c xs) (hr : r ≤ 64) (hc : c ≤ 64) (hx : xs.length = r * c) (hl : ∀ j, j < r * c → (xs.getD j []).length ≤ 1000000) :
    Calls Try.prog 40 #[.agg #[.int .u64 p], a] w (RetIs w (HerB r c (aT p c xs))) := by
  have HFd := Lib.hid (Fd.of hr hc hx)
  obtain ⟨aA, cA, rfl⟩ := hA.agg
  obtain ⟨wb, ew, KF, KA, B0, hsz⟩ := boxes2 w 29 24 [.int .u64 p] [.int .i64 r, .int .i64 c, .slice aA xs.length cA]
  clear hsz
  replace hA := hA.next B0
  obtain ⟨W, eW⟩ : ∃ W, W = aT p c xs := ⟨_, rfl⟩
  have HP := Lib.hid hp; have HTR := Lib.hid ht; have HX := Lib.hid hx; have HLL := Lib.hid hl; clear hp ht hx hl
  rw [← eW]
  have EW := Lib.hid eW; clear eW
  go_enter Try.func40, Try.ntmps40
  go_upto_region 1 with (fail)
  rw [← ew]
  obtain ⟨g, eg⟩ : ∃ g, g = w.heap.size := ⟨_, rfl⟩
  rw [← eg] at KF KA ⊢
  clear ew eg
  have a0 := KA.cell 0; have a1 := KA.cell 1; have a2 := KA.cell 2
  go_wp2_with fail
  refine (xm_Formed_yes _ r c xs _ hA HFd.out).mono ?_; rintro e w1 ⟨rfl, b1⟩
  clear a0 a1 a2
  replace KF := KF.next b1; replace KA := KA.next b1; replace hA := hA.next b1
  have B1 := B0.trans (b1.mono B0.size)
  have f0 := KF.cell 0; have a0 := KA.cell 0; have a1 := KA.cell 1; have a2 := KA.cell 2
  clear b1 B0
  go_wp2_with fail
  refine (xf_rowsOf p _ r c xs w1 HP.out hA hr hc HX.out HLL.out).mono ?_; rintro e w2 ⟨rv, U, E, rfl, X, b2⟩
  rw [← EW.out] at X
  clear f0 a0 a1 a2 hA KF
  replace KA := KA.next b2
  have B2 := B1.trans (b2.mono B1.size)
  obtain ⟨arv, crv, erv⟩ := X.slc
  subst erv
  clear b2 B1
  go_wp2
  go_loopw [5, 20] (fun lv iv wr => ∃ i : Nat, i ≤ r ∧ iv = .int .i64 i ∧ lv = .int .i64 (lastH c W i) ∧ HerB i c W ∧ Below w2.heap.size w2 wr) (fun _ iv _ => r - (intOf iv).toNat)
  case atStart => exact ⟨0, Nat.zero_le _, rfl, rfl, fun i hi => absurd hi (by omega), Below.refl _ _⟩
  case round =>
    obtain ⟨i, hi, rfl, rfl, HB, B3⟩ := hrel
    by_cases hir : i < r
    · obtain ⟨gh, cap, e1, -, -, hcap, -⟩ := X.hdr hir
      simp only [Value.slice.injEq, true_and] at e1
      obtain ⟨rfl, rfl⟩ := e1
      have Xr3 := X.next B3
      have KA3 := KA.next B3
      obtain ⟨q1, -, -⟩ := Xr3.cellU hir
      obtain ⟨aU, cU, eU⟩ := Xr3.rslc hir
      rw [eU] at q1
      obtain ⟨l, el⟩ : ∃ l, l = lastH c W i := ⟨_, rfl⟩
      rw [← el]
      have EL := Lib.hid el
      have HHB := Lib.hid HB
      clear el HB
      go_upto_region 8 with (fail)
      clear q1
      go_wp2
      go_loopw [9] (fun kv wr' => ∃ k : Nat, k ≤ c ∧ kv = .int .i64 k ∧ (∀ j, j < k → W i j = 0) ∧ wr' = wr) (fun kv _ => c - (intOf kv).toNat)
      case atStart => exact ⟨0, Nat.zero_le _, rfl, fun j hj => absurd hj (by omega), rfl⟩
      case round =>
        obtain ⟨k, hk, rfl, hz, rfl⟩ := hrel
        have k1 := KA3.cell 1
        by_cases hkc : k < c
        · obtain ⟨bI, cI, eI, -, -, -, -, hIc, -⟩ := Xr3.at hir (by omega)
          rw [eU] at eI
          simp only [Value.slice.injEq, true_and] at eI
          obtain ⟨rfl, rfl⟩ := eI
          obtain ⟨aX, nX, cX, zX, eX, lX, oX, mX, vX⟩ := Vn.open (Xr3.el i k hir hkc)
          have q2 := hIc k hkc
          rw [eX] at q2
          have eX2 := Lib.hid eX
          by_cases hn : nX = 0
          · have hn1 : ((nX : Int) == 0) = true := by simp [hn]
            have F1 := Lib.hid (show ∀ j, j < k + 1 → W i j = 0 from fun j hj => by
              by_cases e : j = k
              · rw [e, ← vX, List.length_eq_zero_iff.1 (lX.trans hn), pl_nil]
              · exact hz j (by omega))
            clear hn oX mX lX
            go_wp2
            go_roundw
            case rel => exact ⟨k + 1, by omega, by go_num, F1.out, trivial⟩
            case measure => simp [intOf] <;> omega
          · have hn1 : ((nX : Int) == 0) = false := by simp [hn]
            have hne : W i k ≠ 0 := fun e => hn (by
              rw [← lX, show zX = [] from pl_inj HP.out.pos mX (nrm_nil p) (by rw [vX, e, pl_nil])]; rfl)
            have HFK := Lib.hid (fstc_is (m := c) hk hz fun _ => hne)
            have hkc1 : ((k : Int) == (c : Int)) = false := by simp; omega
            have hzX : zX.length ≤ 1000000 := by
              have h1 := HLL.out _ (at_lt rfl hir hkc)
              exact Nat.le_trans (nrm_len HP.out.pos mX (by rw [vX, EW.out]; exact pl_dlt p _)) h1
            have hLn : Ln (W i k) zX.length := by rw [← vX]; exact nrm_ln HP.out.pos mX
            have hMo : Mo (W i k) ↔ (0 < zX.length ∧ zX.getD (zX.length - 1) 0 = 1) := by
              rw [← vX, nrm_mo HTR.out mX]
              constructor
              · rintro (h1 | h1)
                · rw [h1] at lX; simp at lX; omega
                · exact ⟨by omega, h1⟩
              · rintro ⟨_, h1⟩; exact .inr h1
            have HMO := Lib.hid hMo; have HLN := Lib.hid hLn
            have tX := oX.sl
            obtain rfl : nX = zX.length := lX.symm
            clear hz hn hne mX vX oX lX eX hMo hLn hIc
            by_cases hlk : (k : Int) ≤ l
            · have hl1 : decide ((k : Int) ≤ l) = true := decide_eq_true hlk
              have FIN := Lib.hid (show RetIs w (HerB r c W) (.returned (.bool false)) wr from ⟨false, rfl, ⟨fun h => by simp at h, fun h => by
                refine absurd h (HerB.no hir HFK.out hkc (.inl ?_))
                rw [EL.out] at hlk
                cases i with
                | zero => simp [lastH] at hlk; omega
                | succ j => exact ⟨j, rfl, by simp [lastH] at hlk; omega⟩⟩, B2.trans (B3.mono B2.size)⟩)
              clear hlk X Xr3 B2 B3 KA KA3 tX
              go_wp2
              go_ret
              exact FIN.out
            · have hl1 : decide ((k : Int) ≤ l) = false := decide_eq_false hlk
              have HLK := Lib.hid hlk
              clear hlk
              go_wp2_with fail
              refine (xf_monic _ zX _ tX hzX).mono ?_; rintro e w4 ⟨rfl, b4⟩
              obtain ⟨β, eβ⟩ : ∃ β, β = decide (0 < zX.length ∧ zX.getD (zX.length - 1) 0 = 1) := ⟨_, rfl⟩
              rw [← eβ]
              have B4 := B3.trans (b4.mono B3.size)
              clear k1 q2 b4 hl1 B3 Xr3 KA3 tX
              cases β
              · have FIN := Lib.hid (show RetIs w (HerB r c W) (.returned (.bool false)) w4 from ⟨false, rfl, ⟨fun h => by simp at h, fun h => by
                  refine absurd h (HerB.no hir HFK.out hkc (.inr (.inl fun hmo => ?_)))
                  exact absurd (HMO.out.1 hmo) (of_decide_eq_false eβ.symm)⟩, B2.trans (B4.mono B2.size)⟩)
                clear X B2 B4 KA eβ
                go_wp2
                go_ret
                exact FIN.out
              · have HM := Lib.hid (HMO.out.2 (of_decide_eq_true eβ.symm))
                have hic : (i : Int) ≤ (crv : Int) := by omega
                have hi0 : (0 : Int) ≤ (i : Int) := Int.natCast_nonneg _
                clear eβ
                go_wp2
                go_loopw [60] (fun jv wr5 => ∃ j : Nat, j ≤ i ∧ jv = .int .i64 j ∧ (∀ a, a < j → Dl (W a k) (W i k)) ∧ Below w2.heap.size w2 wr5) (fun jv _ => i - (intOf jv).toNat)
                case atStart => exact ⟨0, Nat.zero_le _, rfl, fun a ha => absurd ha (by omega), B4⟩
                case round =>
                  clear B4 w4
                  obtain ⟨j, hj, rfl, hd, B5⟩ := hrel
                  by_cases hji : j < i
                  · have X5 := X.next B5
                    have hjr : j < r := by omega
                    obtain ⟨q1, lg, -⟩ := X5.cellU hjr
                    obtain ⟨bJ, cJ, eJ, -, hbJ, -, -, hJc, -⟩ := X5.at hjr (by omega)
                    obtain ⟨bI2, cI2, eI2, -, hbI, -, -, hIc2, -⟩ := X5.at hir (by omega)
                    rw [eU] at eI2
                    simp only [Value.slice.injEq, Option.some.injEq, Addr.mk.injEq, and_true, true_and] at eI2
                    obtain ⟨rfl, rfl⟩ := eI2
                    obtain ⟨aY, nY, cY, zY, eY, lY, oY, mY, vY⟩ := Vn.open (X5.el j k hjr hkc)
                    have q3 := hJc k hkc
                    have q4 := hIc2 k hkc
                    rw [eY] at q3
                    rw [eX2.out] at q4
                    rw [eJ] at q1
                    obtain rfl : nY = zY.length := lY.symm
                    have hiff : Dl (W j k) (W i k) ↔ zY.length < zX.length := dl_iff (by rw [← vY]; exact nrm_ln HP.out.pos mY) HLN.out
                    have HIFF := Lib.hid hiff
                    have HD := Lib.hid hd
                    clear hJc hIc2 eY eJ oY mY vY lY hiff hd
                    go_upto_region 18 with (fail)
                    have q3' : wr.drew.cell? ⟨bJ, k, none⟩ = some (.slice aY zY.length cY) := q3
                    have q4' : wr.drew.cell? ⟨bI, k, none⟩ = some (.slice aX zX.length cX) := q4
                    have l3' : bJ < wr.drew.heap.size := hbJ
                    have l4' : bI < wr.drew.heap.size := hbI
                    clear q1 q3 q4
                    refine startL (S := (fun w' => Below (wr.drew).heap.size (wr.drew) w')) (by kernel_rfl) (Below.refl _ _) (fun hHeld => ?_)
                    refine takeL 0 (v := ?_) rfl (by kernel_rfl) (by kernel_rfl) (by kernel_rfl) (fun _ _ _ h => h) ⟨by rfl, ?_⟩ (by assumption) ?_
                    rotate_left
                    · intro w hS; go_simp <;> with_reducible rfl
                    simp only [Act.put, List.setIfInBounds_toArray, List.set_cons_zero, List.set_cons_succ]
                    refine takeL 1 (v := ?_) rfl (by kernel_rfl) (by kernel_rfl) (by kernel_rfl) (fun _ _ _ h => h) ⟨by rfl, ?_⟩ (by assumption) ?_
                    rotate_left
                    · intro w hS; go_simp <;> with_reducible rfl
                    simp only [Act.put, List.setIfInBounds_toArray, List.set_cons_zero, List.set_cons_succ]
                    refine takeL 2 (v := ?_) rfl (by kernel_rfl) (by kernel_rfl) (by kernel_rfl) (fun _ _ _ h => h) ⟨by rfl, ?_⟩ (by assumption) ?_
                    rotate_left
                    · intro w hS; go_simp <;> with_reducible rfl
                    simp only [Act.put, List.setIfInBounds_toArray, List.set_cons_zero, List.set_cons_succ]
                    refine takeL 3 (v := ?_) rfl (by kernel_rfl) (by kernel_rfl) (by kernel_rfl) (fun _ _ _ h => h) ⟨by rfl, ?_⟩ (by assumption) ?_
                    rotate_left
                    · intro w hS; have f1 := (hS.cell (p := ⟨bJ, k, none⟩) l3').trans q3'; have f2 := (hS.cell (p := ⟨bI, k, none⟩) l4').trans q4'; go_simp <;> with_reducible rfl
                    simp only [Act.put, List.setIfInBounds_toArray, List.set_cons_zero, List.set_cons_succ]
                    refine takeL 4 (v := ?_) rfl (by kernel_rfl) (by kernel_rfl) (by kernel_rfl) (fun _ _ _ h => h) ⟨by rfl, ?_⟩ (by assumption) ?_
                    rotate_left
                    · intro w hS; go_simp <;> with_reducible rfl
                    simp only [Act.put, List.setIfInBounds_toArray, List.set_cons_zero, List.set_cons_succ]
                    refine takeL 5 (v := ?_) rfl (by kernel_rfl) (by kernel_rfl) (by kernel_rfl) (fun _ _ _ h => h) ⟨by rfl, ?_⟩ (by assumption) ?_
                    rotate_left
                    · intro w hS; go_simp <;> with_reducible rfl
                    simp only [Act.put, List.setIfInBounds_toArray, List.set_cons_zero, List.set_cons_succ]
                    refine takeL 6 (v := ?_) rfl (by kernel_rfl) (by kernel_rfl) (by kernel_rfl) (fun _ _ _ h => h) ⟨by rfl, ?_⟩ (by assumption) ?_
                    rotate_left
                    · intro w hS; go_simp <;> with_reducible rfl
                    simp only [Act.put, List.setIfInBounds_toArray, List.set_cons_zero, List.set_cons_succ]
                    refine takeL 7 (v := ?_) rfl (by kernel_rfl) (by kernel_rfl) (by kernel_rfl) (fun _ _ _ h => h) ⟨by rfl, ?_⟩ (by assumption) ?_
                    rotate_left
                    · intro w hS; go_simp <;> with_reducible rfl
                    simp only [Act.put, List.setIfInBounds_toArray, List.set_cons_zero, List.set_cons_succ]
                    refine takeL 8 (v := ?_) rfl (by kernel_rfl) (by kernel_rfl) (by kernel_rfl) (fun _ _ _ h => h) ⟨by rfl, ?_⟩ (by assumption) ?_
                    rotate_left
                    · intro w hS; have f1 := (hS.cell (p := ⟨bJ, k, none⟩) l3').trans q3'; have f2 := (hS.cell (p := ⟨bI, k, none⟩) l4').trans q4'; go_simp <;> with_reducible rfl
                    simp only [Act.put, List.setIfInBounds_toArray, List.set_cons_zero, List.set_cons_succ]
                    refine takeL 9 (v := ?_) rfl (by kernel_rfl) (by kernel_rfl) (by kernel_rfl) (fun _ _ _ h => h) ⟨by rfl, ?_⟩ (by assumption) ?_
                    rotate_left
                    · intro w hS; go_simp <;> with_reducible rfl
                    simp only [Act.put, List.setIfInBounds_toArray, List.set_cons_zero, List.set_cons_succ]
                    refine takeL 10 (v := ?_) rfl (by kernel_rfl) (by kernel_rfl) (by kernel_rfl) (fun _ _ _ h => h) ⟨by rfl, ?_⟩ (by assumption) ?_
                    rotate_left
                    · intro w hS; go_simp <;> with_reducible rfl
                    simp only [Act.put, List.setIfInBounds_toArray, List.set_cons_zero, List.set_cons_succ]
                    refine doneL (by kernel_rfl) ?_ _
                    clear hHeld q3' q4'
                    have B6 : Below w2.heap.size w2 wr.drew := B5.trans (Drawn.below (w' := wr.drew) ⟨1, rfl⟩ w2.heap.size)
                    clear B5 X5
                    by_cases hcm : zX.length ≤ zY.length
                    · have h1 : decide ((zX.length : Int) ≤ (zY.length : Int)) = true := decide_eq_true (by omega)
                      have FIN := Lib.hid (show RetIs w (HerB r c W) (.returned (.bool false)) wr.drew from ⟨false, rfl, ⟨fun h => by simp at h, fun h => by
                        refine absurd h (HerB.no hir HFK.out hkc (.inr (.inr ⟨j, hji, fun hdl => ?_⟩)))
                        have := HIFF.out.1 hdl
                        omega⟩, B2.trans (B6.mono B2.size)⟩)
                      clear X B2 B6 KA
                      go_wp2
                      go_ret
                      exact FIN.out
                    · have h1 : decide ((zX.length : Int) ≤ (zY.length : Int)) = false := decide_eq_false (by omega)
                      have F1 := Lib.hid (show ∀ a, a < j + 1 → Dl (W a k) (W i k) from fun a ha => by
                        by_cases e : a = j
                        · rw [e]; exact HIFF.out.2 (by omega)
                        · exact HD.out a (by omega))
                      have F2 := Lib.hid B6
                      clear B6
                      go_wp2
                      go_roundw
                      case rel => exact ⟨j + 1, by omega, by go_num, F1.out, F2.out⟩
                      case measure => simp [intOf] <;> omega
                  · obtain rfl : j = i := by omega
                    have F1 := Lib.hid (HHB.out.succ (.inr (by rw [HFK.out]; exact ⟨fun t ht => by
                      have h1 := HLK.out
                      rw [EL.out, ht] at h1
                      simp [lastH] at h1
                      exact h1, HM.out, hd⟩)))
                    have F2 := Lib.hid B5
                    have F3 := Lib.hid (show (k : Int) = lastH c W (j + 1) by simp [lastH, HFK.out])
                    clear B5 hd
                    go_wp2
                    go_roundw
                    case rel => exact ⟨j + 1, by omega, by go_num, by rw [← F3.out], F1.out, F2.out⟩
                    case measure => simp [intOf] <;> omega
        · obtain rfl : k = c := by omega
          have HFK := fstc_is (m := k) (Nat.le_refl k) hz (fun h => absurd h (Nat.lt_irrefl _))
          have hkc1 : ((k : Int) == (k : Int)) = true := by simp
          have F1 := Lib.hid (HHB.out.succ (.inl HFK))
          have F3 := Lib.hid (show (k : Int) = lastH k W (i + 1) by simp [lastH, HFK])
          have F2 := Lib.hid B3
          clear hz HFK Xr3 B3
          go_wp2
          go_roundw
          case rel => exact ⟨i + 1, by omega, by go_num, by rw [← F3.out], F1.out, F2.out⟩
          case measure => simp [intOf] <;> omega
    · obtain rfl : i = r := by omega
      have FIN := Lib.hid (show RetIs w (HerB i c W) (.returned (.bool true)) wr from ⟨true, rfl, ⟨fun _ => HB, fun _ => rfl⟩, B2.trans (B3.mono B2.size)⟩)
      clear X B2 B3 KA HB
      go_wp2
      go_ret
      exact FIN.out

end Go.Proofs.Ytkmfhabgempjiaa
/- Chapter 24: Hermite's form is read. -/
namespace Go.Proofs.Ytkmfhabgempjiaa
open Go.RowKit

set_option maxRecDepth 20000 in
set_option maxHeartbeats 4000000 in
theorem rf24_first (p i : Nat) (a : Value) (r c : Nat) (xs : List (List Nat)) (w : World) (hp : FP p) (hA : Xm w a r c xs) (hr : r ≤ 64) (hc : c ≤ 64) (hx : xs.length = r * c) (hl : ∀ j, j < r * c → (xs.getD j []).length ≤ 1000000) (hi : i < r) (z : Nat) (hz : z = fstc c (aT p c xs) i) :
    Calls Try.prog 85 #[a, .int .i64 i, .int .u64 p] w (RetW w (.int .i64 z)) := by
  obtain ⟨aA, cA, rfl⟩ := hA.agg
  obtain ⟨wb, ew, KA, B0, hsz⟩ := boxes1 w 24 [.int .i64 r, .int .i64 c, .slice aA xs.length cA]
  clear hsz
  replace hA := hA.next B0
  have HP := Lib.hid hp; have HX := Lib.hid hx; have HLL := Lib.hid hl
  obtain ⟨W, eW⟩ : ∃ W, W = aT p c xs := ⟨_, rfl⟩
  rw [← eW] at hz
  have EW := Lib.hid eW; have HZ := Lib.hid hz
  clear hp hx hl eW hz
  go_enter Try.func85, Try.ntmps85
  go_upto_region 1 with (fail)
  rw [← ew]
  obtain ⟨g, eg⟩ : ∃ g, g = w.heap.size := ⟨_, rfl⟩
  rw [← eg] at KA ⊢
  clear ew eg
  have HKA := Lib.hid KA; have HA := Lib.hid hA; have HB0 := Lib.hid B0
  clear KA hA B0
  go_wp2
  go_loopw [7] (fun kv wr => ∃ k : Nat, k ≤ c ∧ kv = .int .i64 k ∧ (∀ j, j < k → W i j = 0) ∧ Below wb.heap.size wb wr) (fun kv _ => c - (intOf kv).toNat)
  case atStart => exact ⟨0, Nat.zero_le _, rfl, fun j hj => by omega, Below.refl _ _⟩
  case round =>
    obtain ⟨k, hk, rfl, hz0, BR⟩ := hrel
    have HZ0 := Lib.hid hz0
    have KA := HKA.out.next BR; have hA := HA.out.next BR
    have a0 := KA.cell 0; have a1 := KA.cell 1; have a2 := KA.cell 2
    clear hz0 KA
    by_cases hkc : k < c
    · have hlt : i * c + k < r * c := at_lt rfl hi hkc
      have hll := HLL.out _ hlt
      go_wp2_with fail
      (with_reducible refine (rf23_At _ r c i k p xs _ HP.out hA (by omega) (by omega) (by omega) (by rw [HX.out]; exact hlt) hll).mono ?_); rintro e w5 ⟨r5, z5, rfl, o5, n5, v5, l5, b5⟩
      have hv : pl p z5 = W i k := by rw [v5, EW.out]; rfl
      have BR5 := BR.trans (b5.mono BR.size)
      have hq : W i k = 0 ↔ z5.length = 0 := by
        rw [← hv]
        exact ⟨fun e => by rw [pl_inj HP.out.pos n5 (nrm_nil p) (by rw [e, pl_nil])]; rfl, fun e => by rw [List.length_eq_zero_iff.1 e, pl_nil]⟩
      obtain ⟨a5, c5, rfl⟩ := o5.sliced
      clear a0 a1 a2 hA o5 n5 v5 l5 b5 BR hv hll hlt
      by_cases h0 : z5.length = 0
      · have h1 : ((z5.length : Int) == 0) = true := by simp [h0]
        have F1 := Lib.hid (show ∀ j, j < k + 1 → W i j = 0 from fun j hj => by
          by_cases e : j = k
          · rw [e]; exact hq.2 h0
          · exact HZ0.out j (by omega))
        have F2 := Lib.hid BR5
        clear h0 hq BR5
        go_wp2
        go_roundw
        case rel => exact ⟨k + 1, by omega, by go_num, F1.out, F2.out⟩
        case measure => simp [intOf] <;> omega
      · have h1 : ((z5.length : Int) == 0) = false := by simp [h0]
        have e1 : z = k := by rw [HZ.out]; exact fstc_is hk HZ0.out fun _ e => h0 (hq.1 e)
        have FIN := Lib.hid (show RetW w (.int .i64 z) (.returned (.int .i64 k)) w5 from ⟨by rw [e1], HB0.out.trans (BR5.mono HB0.out.size)⟩)
        clear h0 hq BR5 e1
        go_wp2
        first | exact FIN.out | (go_ret; exact FIN.out)
    · obtain rfl : k = c := by omega
      have e1 : z = k := by rw [HZ.out]; exact fstc_is hk HZ0.out fun h => by omega
      have FIN := Lib.hid (show RetW w (.int .i64 z) (.returned (.int .i64 k)) wr from ⟨by rw [e1], HB0.out.trans (BR.mono HB0.out.size)⟩)
      clear e1 BR hA
      go_wp2
      first | exact FIN.out | (go_ret; exact FIN.out)

set_option maxRecDepth 20000 in
set_option maxHeartbeats 4000000 in
theorem rf24_Hermite (p : Nat) (a : Value) (r c : Nat) (xs : List (List Nat)) (w : World) (hp : FP p) (ht : Trial p) (hA : Xm w a r c xs) (hr : r ≤ 64) (hc : c ≤ 64) (hx : xs.length = r * c) (hl : ∀ j, j < r * c → (xs.getD j []).length ≤ 1000000) (β : Bool) (hβ : β = true ↔ HerB r c (aT p c xs)) :
    Calls Try.prog 32 #[a, .int .u64 p] w (RetW w (.bool β)) := by
  obtain ⟨aA, cA, rfl⟩ := hA.agg
  obtain ⟨wb, ew, KA, B0, hsz⟩ := boxes1 w 24 [.int .i64 r, .int .i64 c, .slice aA xs.length cA]
  clear hsz
  replace hA := hA.next B0
  have HP := Lib.hid hp; have HTR := Lib.hid ht; have HX := Lib.hid hx; have HLL := Lib.hid hl
  obtain ⟨W, eW⟩ : ∃ W, W = aT p c xs := ⟨_, rfl⟩
  rw [← eW] at hβ
  have EW := Lib.hid eW; have HBE := Lib.hid hβ
  clear hp ht hx hl eW hβ
  go_enter Try.func32, Try.ntmps32
  go_upto_region 1 with (fail)
  rw [← ew]
  obtain ⟨g, eg⟩ : ∃ g, g = w.heap.size := ⟨_, rfl⟩
  rw [← eg] at KA ⊢
  clear ew eg
  obtain ⟨w1, ew1⟩ : ∃ w1, w1 = wb := ⟨_, rfl⟩
  rw [← ew1] at KA hA B0 ⊢
  clear ew1
  have HKA := Lib.hid KA; have HA := Lib.hid hA; have B1 := Lib.hid B0
  clear KA hA B0
  go_wp2
  go_loopw [5] (fun iv wr => ∃ i : Nat, i ≤ r ∧ iv = .int .i64 i ∧ HerB i c W ∧ Below w1.heap.size w1 wr) (fun iv _ => r - (intOf iv).toNat)
  case atStart => exact ⟨0, Nat.zero_le _, rfl, fun j hj => by omega, Below.refl _ _⟩
  case round =>
    obtain ⟨i, hi, rfl, hro, BR⟩ := hrel
    have HRO := Lib.hid hro
    clear hro
    have KA := HKA.out.next BR; have hA := HA.out.next BR
    have a0 := KA.cell 0; have a1 := KA.cell 1; have a2 := KA.cell 2
    clear KA
    by_cases hir : i < r
    · obtain ⟨k, ek⟩ : ∃ k, k = fstc c W i := ⟨_, rfl⟩
      have hkle : k ≤ c := by rw [ek]; exact fstc_le _ _ _
      have HK := Lib.hid ek
      clear ek
      go_wp2_with fail
      (with_reducible refine (rf24_first p i _ r c xs _ HP.out hA hr hc HX.out HLL.out hir k (by rw [HK.out, EW.out])).mono ?_); rintro e w2 ⟨rfl, b2⟩
      replace BR := BR.trans (b2.mono BR.size)
      clear a0 a1 a2 hA b2
      have KA := HKA.out.next BR; have hA := HA.out.next BR
      have a0 := KA.cell 0; have a1 := KA.cell 1; have a2 := KA.cell 2
      clear KA
      by_cases hkc : k < c
      · by_cases hi0 : 0 < i
        · obtain ⟨j, hj⟩ : ∃ j, i = j + 1 := ⟨i - 1, by omega⟩
          have hwr : IntKind.i64.wrap ((i : Int) - 1) = (j : Int) := by rw [IntWalk.i64_in _ ⟨by omega, by omega⟩]; omega
          obtain ⟨f, ef⟩ : ∃ f, f = fstc c W j := ⟨_, rfl⟩
          have EF := Lib.hid ef; have HJ := Lib.hid hj
          clear ef hj
          go_wp2_with fail
          (with_reducible refine (rf24_first p j _ r c xs _ HP.out hA hr hc HX.out HLL.out (by have := HJ.out; omega) f (by rw [EF.out, EW.out])).mono ?_); rintro e w3 ⟨rfl, b3⟩
          replace BR := BR.trans (b3.mono BR.size)
          clear a0 a1 a2 hA b3 hwr
          have hfle : f ≤ c := by rw [EF.out]; exact fstc_le _ _ _
          by_cases hge : k ≤ f
          · have e1 : β = false := Bool.eq_false_iff.2 fun e => HerB.no hir HK.out.symm hkc (.inl ⟨j, HJ.out, by rw [← EF.out]; exact hge⟩) (HBE.out.1 e)
            have FIN := Lib.hid (show RetW w (.bool β) (.returned (.bool false)) w3 from ⟨by rw [e1], B1.out.trans (BR.mono B1.out.size)⟩)
            clear BR e1
            go_wp2
            first | exact FIN.out | (go_ret; exact FIN.out)
          · have HLO := Lib.hid (show ∀ j, i = j + 1 → fstc c W j < k from fun j' h => by
              obtain rfl : j' = j := by have := HJ.out; omega
              rw [← EF.out]; omega)
            have hkc9 : ((k : Int) == (c : Int)) = false := by simp; omega
            have KA := HKA.out.next BR; have hA := HA.out.next BR
            have a0 := KA.cell 0; have a1 := KA.cell 1; have a2 := KA.cell 2
            have hlt : i * c + k < r * c := at_lt rfl hir hkc
            have hll := HLL.out _ hlt
            clear KA
            go_wp2_with fail
            (with_reducible refine (rf23_At _ r c i k p xs _ HP.out hA (by omega) (by omega) (by omega) (by rw [HX.out]; exact hlt) hll).mono ?_); rintro e w5 ⟨r5, z5, rfl, o5, n5, v5, l5, b5⟩
            have hv : pl p z5 = W i k := by rw [v5, EW.out]; rfl
            have hl5 : z5.length ≤ 1000000 := Nat.le_trans l5 hll
            have BR5 := BR.trans (b5.mono BR.size)
            clear a0 a1 a2 hA v5 l5 b5 BR hlt hll hkc9
            have hs5 := o5.sl
            obtain ⟨a5, c5, rfl⟩ := o5.sliced
            have hm0 := nrm_mo HTR.out n5
            rw [hv] at hm0
            have hLn := nrm_ln HP.out.pos n5
            rw [hv] at hLn
            have HM0 := Lib.hid hm0; have HLN := Lib.hid hLn
            clear hm0 n5 hv o5 hLn
            go_wp2_with fail
            (with_reducible refine (ref9_Monic _ z5 _ w5 hs5 hl5 rfl).mono ?_); rintro e w6 ⟨rfl, rfl⟩
            by_cases hmo : z5 = [] ∨ z5.getD (z5.length - 1) 0 = 1
            · have hd1 : decide (z5 = [] ∨ z5.getD (z5.length - 1) 0 = 1) = true := decide_eq_true hmo
              have HMO := Lib.hid (HM0.out.2 hmo)
              rw [hd1]
              have HB5 := Lib.hid BR5
              clear hd1 hmo BR5 hs5
              go_wp2
              go_loopw [8] (fun sv ws => ∃ s : Nat, s ≤ i ∧ sv = .int .i64 s ∧ (∀ q, q < s → Dl (W q k) (W i k)) ∧ Below w1.heap.size w1 ws) (fun sv _ => i - (intOf sv).toNat)
              case atStart => exact ⟨0, Nat.zero_le _, rfl, fun q hq => by omega, HB5.out⟩
              case round =>
                clear HB5
                obtain ⟨s, hs, rfl, hdl, BR⟩ := hrel
                have HDL := Lib.hid hdl
                clear hdl
                by_cases hsi : s < i
                · have KA := HKA.out.next BR; have hA := HA.out.next BR
                  have a0 := KA.cell 0; have a1 := KA.cell 1; have a2 := KA.cell 2
                  have hlt : s * c + k < r * c := at_lt rfl (by omega) hkc
                  have hll := HLL.out _ hlt
                  clear KA
                  go_wp2_with fail
                  (with_reducible refine (rf23_At _ r c s k p xs _ HP.out hA (by omega) (by omega) (by omega) (by rw [HX.out]; exact hlt) hll).mono ?_); rintro e w7 ⟨r7, z7, rfl, o7, n7, v7, l7, b7⟩
                  have hLn := nrm_ln HP.out.pos n7
                  rw [show pl p z7 = W s k by rw [v7, EW.out]; rfl] at hLn
                  have hdi := dl_iff hLn HLN.out
                  have BR7 := BR.trans (b7.mono BR.size)
                  obtain ⟨a7, c7, rfl⟩ := o7.sliced
                  have HDI := Lib.hid hdi
                  have hl7 : z7.length ≤ 1000000 := Nat.le_trans l7 hll
                  clear a0 a1 a2 hA v7 l7 b7 BR hlt hll n7 o7 hLn hdi
                  by_cases hge : z5.length ≤ z7.length
                  · have e1 : β = false := Bool.eq_false_iff.2 fun e => HerB.no hir HK.out.symm hkc (.inr (.inr ⟨s, hsi, fun h => by have := HDI.out.1 h; omega⟩)) (HBE.out.1 e)
                    have FIN := Lib.hid (show RetW w (.bool β) (.returned (.bool false)) w7 from ⟨by rw [e1], B1.out.trans (BR7.mono B1.out.size)⟩)
                    clear BR7 e1
                    go_wp2
                    first | exact FIN.out | (go_ret; exact FIN.out)
                  · have F1 := Lib.hid (show ∀ q, q < s + 1 → Dl (W q k) (W i k) from fun q hq => by
                      by_cases e : q = s
                      · rw [e]; exact HDI.out.2 (by omega)
                      · exact HDL.out q (by omega))
                    have F2 := Lib.hid BR7
                    clear BR7
                    go_wp2
                    go_roundw
                    case rel => exact ⟨s + 1, by omega, by go_num, F1.out, F2.out⟩
                    case measure => simp [intOf] <;> omega
                · obtain rfl : s = i := by omega
                  have F1 := Lib.hid (HRO.out.succ (.inr (by rw [← HK.out]; exact ⟨HLO.out, HMO.out, HDL.out⟩)))
                  have F2 := Lib.hid BR
                  clear BR
                  go_wp2
                  go_roundw
                  case rel => exact ⟨s + 1, by omega, by go_num, F1.out, F2.out⟩
                  case measure => simp [intOf] <;> omega
            · have hd1 : decide (z5 = [] ∨ z5.getD (z5.length - 1) 0 = 1) = false := decide_eq_false hmo
              have e1 : β = false := Bool.eq_false_iff.2 fun e => HerB.no hir HK.out.symm hkc (.inr (.inl fun h => hmo (HM0.out.1 h))) (HBE.out.1 e)
              have FIN := Lib.hid (show RetW w (.bool β) (.returned (.bool false)) w5 from ⟨by rw [e1], B1.out.trans (BR5.mono B1.out.size)⟩)
              rw [hd1]
              clear hmo hd1 BR5 hs5 e1
              go_wp2
              first | exact FIN.out | (go_ret; exact FIN.out)
        · have HLO := Lib.hid (show ∀ j, i = j + 1 → fstc c W j < k from fun j' h => by omega)
          clear a0 a1 a2 hA
          have KA := HKA.out.next BR
          have a1 := KA.cell 1
          clear KA
          have hkc9 : ((k : Int) == (c : Int)) = false := by simp; omega
          clear a1
          have KA := HKA.out.next BR; have hA := HA.out.next BR
          have a0 := KA.cell 0; have a1 := KA.cell 1; have a2 := KA.cell 2
          have hlt : i * c + k < r * c := at_lt rfl hir hkc
          have hll := HLL.out _ hlt
          clear KA
          go_wp2_with fail
          (with_reducible refine (rf23_At _ r c i k p xs _ HP.out hA (by omega) (by omega) (by omega) (by rw [HX.out]; exact hlt) hll).mono ?_); rintro e w5 ⟨r5, z5, rfl, o5, n5, v5, l5, b5⟩
          have hv : pl p z5 = W i k := by rw [v5, EW.out]; rfl
          have hl5 : z5.length ≤ 1000000 := Nat.le_trans l5 hll
          have BR5 := BR.trans (b5.mono BR.size)
          clear a0 a1 a2 hA v5 l5 b5 BR hlt hll hkc9
          have hs5 := o5.sl
          obtain ⟨a5, c5, rfl⟩ := o5.sliced
          have hm0 := nrm_mo HTR.out n5
          rw [hv] at hm0
          have hLn := nrm_ln HP.out.pos n5
          rw [hv] at hLn
          have HM0 := Lib.hid hm0; have HLN := Lib.hid hLn
          clear hm0 n5 hv o5 hLn
          go_wp2_with fail
          (with_reducible refine (ref9_Monic _ z5 _ w5 hs5 hl5 rfl).mono ?_); rintro e w6 ⟨rfl, rfl⟩
          by_cases hmo : z5 = [] ∨ z5.getD (z5.length - 1) 0 = 1
          · have hd1 : decide (z5 = [] ∨ z5.getD (z5.length - 1) 0 = 1) = true := decide_eq_true hmo
            have HMO := Lib.hid (HM0.out.2 hmo)
            rw [hd1]
            have HB5 := Lib.hid BR5
            clear hd1 hmo BR5 hs5
            go_wp2
            go_loopw [8] (fun sv ws => ∃ s : Nat, s ≤ i ∧ sv = .int .i64 s ∧ (∀ q, q < s → Dl (W q k) (W i k)) ∧ Below w1.heap.size w1 ws) (fun sv _ => i - (intOf sv).toNat)
            case atStart => exact ⟨0, Nat.zero_le _, rfl, fun q hq => by omega, HB5.out⟩
            case round =>
              clear HB5
              obtain ⟨s, hs, rfl, hdl, BR⟩ := hrel
              have HDL := Lib.hid hdl
              clear hdl
              by_cases hsi : s < i
              · have KA := HKA.out.next BR; have hA := HA.out.next BR
                have a0 := KA.cell 0; have a1 := KA.cell 1; have a2 := KA.cell 2
                have hlt : s * c + k < r * c := at_lt rfl (by omega) hkc
                have hll := HLL.out _ hlt
                clear KA
                go_wp2_with fail
                (with_reducible refine (rf23_At _ r c s k p xs _ HP.out hA (by omega) (by omega) (by omega) (by rw [HX.out]; exact hlt) hll).mono ?_); rintro e w7 ⟨r7, z7, rfl, o7, n7, v7, l7, b7⟩
                have hLn := nrm_ln HP.out.pos n7
                rw [show pl p z7 = W s k by rw [v7, EW.out]; rfl] at hLn
                have hdi := dl_iff hLn HLN.out
                have BR7 := BR.trans (b7.mono BR.size)
                obtain ⟨a7, c7, rfl⟩ := o7.sliced
                have HDI := Lib.hid hdi
                have hl7 : z7.length ≤ 1000000 := Nat.le_trans l7 hll
                clear a0 a1 a2 hA v7 l7 b7 BR hlt hll n7 o7 hLn hdi
                by_cases hge : z5.length ≤ z7.length
                · have e1 : β = false := Bool.eq_false_iff.2 fun e => HerB.no hir HK.out.symm hkc (.inr (.inr ⟨s, hsi, fun h => by have := HDI.out.1 h; omega⟩)) (HBE.out.1 e)
                  have FIN := Lib.hid (show RetW w (.bool β) (.returned (.bool false)) w7 from ⟨by rw [e1], B1.out.trans (BR7.mono B1.out.size)⟩)
                  clear BR7 e1
                  go_wp2
                  first | exact FIN.out | (go_ret; exact FIN.out)
                · have F1 := Lib.hid (show ∀ q, q < s + 1 → Dl (W q k) (W i k) from fun q hq => by
                    by_cases e : q = s
                    · rw [e]; exact HDI.out.2 (by omega)
                    · exact HDL.out q (by omega))
                  have F2 := Lib.hid BR7
                  clear BR7
                  go_wp2
                  go_roundw
                  case rel => exact ⟨s + 1, by omega, by go_num, F1.out, F2.out⟩
                  case measure => simp [intOf] <;> omega
              · obtain rfl : s = i := by omega
                have F1 := Lib.hid (HRO.out.succ (.inr (by rw [← HK.out]; exact ⟨HLO.out, HMO.out, HDL.out⟩)))
                have F2 := Lib.hid BR
                clear BR
                go_wp2
                go_roundw
                case rel => exact ⟨s + 1, by omega, by go_num, F1.out, F2.out⟩
                case measure => simp [intOf] <;> omega
          · have hd1 : decide (z5 = [] ∨ z5.getD (z5.length - 1) 0 = 1) = false := decide_eq_false hmo
            have e1 : β = false := Bool.eq_false_iff.2 fun e => HerB.no hir HK.out.symm hkc (.inr (.inl fun h => hmo (HM0.out.1 h))) (HBE.out.1 e)
            have FIN := Lib.hid (show RetW w (.bool β) (.returned (.bool false)) w5 from ⟨by rw [e1], B1.out.trans (BR5.mono B1.out.size)⟩)
            rw [hd1]
            clear hmo hd1 BR5 hs5 e1
            go_wp2
            first | exact FIN.out | (go_ret; exact FIN.out)
      · have hkc9 : ((k : Int) == (c : Int)) = true := by simp; omega
        have F1 := Lib.hid (HRO.out.succ (.inl (show fstc c W i = c by rw [← HK.out]; omega)))
        have F2 := Lib.hid BR
        clear BR hA a0 a2
        by_cases hi0 : 0 < i
        · go_wp2
          go_roundw
          case rel => exact ⟨i + 1, by omega, by go_num, F1.out, F2.out⟩
          case measure => simp [intOf] <;> omega
        · go_wp2
          go_roundw
          case rel => exact ⟨i + 1, by omega, by go_num, F1.out, F2.out⟩
          case measure => simp [intOf] <;> omega
    · obtain rfl : i = r := by omega
      have e1 : β = true := HBE.out.2 HRO.out
      have FIN := Lib.hid (show RetW w (.bool β) (.returned (.bool true)) wr from ⟨by rw [e1], B1.out.trans (BR.mono B1.out.size)⟩)
      clear BR e1 hA
      go_wp2
      first | exact FIN.out | (go_ret; exact FIN.out)

end Go.Proofs.Ytkmfhabgempjiaa
/- Layer 24, plain: Hermite's form of a matrix with ones behind it. -/
namespace Go.Proofs.Ytkmfhabgempjiaa
open Go.RowKit

section
open CR
variable {p : Nat}
theorem her_split {r c : Nat} {A V : (Nat → Nat → Pol (Zp p))} (h : Rq r (c + r) (augM c A) V) : (∃ T', Inv (MT.of r r fun i k => V i (c + k)) T') ∧ ∀ i k, i < r → k < c → V i k = sm r fun s => V i (c + s) * A s k := by
  obtain ⟨T, T', hi, e⟩ := h
  have key : ∀ i k, i < r → k < c + r → V i k = sm r fun s => T.e i s * augM c A s k := fun i k hi hk => by
    have h1 : (MT.of r (c + r) V).e i k = V i k := MT.of_e _ hi hk
    rw [← h1, e, MT.e_mul]
    exact sm_congr fun s hs => by rw [MT.of_e _ hs hk]
  have hT : ∀ i k, i < r → k < r → V i (c + k) = T.e i k := fun i k hi hk => by
    rw [key i (c + k) hi (by omega), sm_one hk fun s hs hne => by
      unfold augM; rw [if_neg (by omega), if_neg (by omega), mul_zero]]
    unfold augM; rw [if_neg (by omega), if_pos (by omega), mul_one]
  refine ⟨⟨T', ?_⟩, fun i k hi hk => ?_⟩
  · have : (MT.of r r fun i k => V i (c + k)) = T := MT.ext fun i k hi hk => by rw [MT.of_e _ hi hk]; exact hT i k hi hk
    rw [this]; exact hi
  · rw [key i k hi (by omega)]
    exact sm_congr fun s hs => by
      rw [hT i s hi hs]; unfold augM; rw [if_pos hk]
theorem HerB.congr {n m : Nat} {W V : (Nat → Nat → Pol (Zp p))} (h : HerB n m W) (e : ∀ i k, i < n → k < m → V i k = W i k) : HerB n m V := by
  obtain ⟨P, hP⟩ := h.ex
  exact (hP.congr fun i k hi hk => (e i k hi hk).symm).hb
theorem hbd3 {r : Nat} (hr : r ≤ 3) : 2 ^ hbd r r ≤ 64 := by
  rcases (show r = 0 ∨ r = 1 ∨ r = 2 ∨ r = 3 by omega) with rfl | rfl | rfl | rfl <;> decide
end

end Go.Proofs.Ytkmfhabgempjiaa
