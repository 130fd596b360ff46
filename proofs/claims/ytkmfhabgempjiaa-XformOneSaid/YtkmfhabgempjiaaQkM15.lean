/- xform: Smith's first reading; Smith of what is no matrix; divides. -/
import Derived.Test.YtkmfhabgempjiaaQkM10
import Derived.Test.YtkmfhabgempjiaaQkM14
import Derived.Test.YtkmfhabgempjiaaQkM1
import Derived.Test.YtkmfhabgempjiaaQkM2
import Derived.Test.YtkmfhabgempjiaaQkM4
import Derived.Test.YtkmfhabgempjiaaQkM7
import Derived.Test.YtkmfhabgempjiaaQkM5
namespace Go.Proofs.Ytkmfhabgempjiaa
set_option maxHeartbeats 4000000
open Go.RowKit
def SeqB (r c : Nat) (Ls : Nat → Nat) : Prop := ∀ t, t < r → t < c → Ls t ≤ Ls (t + 1) ∧ Ls t ≤ 32767 ∧ ((2 ^ Ls t ≤ Ls (t + 1) + 1 ∧ 2 ^ Ls t ≤ 32768) ∨ (t + 1 = r ∧ t + 1 = c))
theorem sms_seq {p r c : Nat} (tr : Trial p) {A : MT (Pol (Zp p)) r c} {Ls : Nat → Nat} (h : SeqB r c Ls) : SmS p r c A fun t W U V => Bds r c (Ls t) (1 + Ls t) (1 + 2 * Ls t) W U V := by
 intro t W U V htr htc hb hI _
 obtain ⟨h1, h2, h3⟩ := h t htr htc
 rcases h3 with ⟨h3, h4⟩ | h3
 ·refine ⟨_, _, _, _, Ls t, stp_pot (L0 := Ls t) (LU := 1 + Ls t) (LV := 1 + 2 * Ls t) (K := 2 ^ Ls t) tr htr htc (by omega) (by omega) ?_ ?_, ⟨_, PlB.start hb.1 hb.2.1 hb.2.2 (.inl (Nat.le_refl _))⟩, ?_⟩
  ·have : Ls t < 2 ^ Ls t := Nat.lt_two_pow_self
   omega
  ·have h5 : Ls t ≤ 15 := by
    apply Nat.le_of_not_lt
    intro h5
    have : 2 ^ 16 ≤ 2 ^ Ls t := Nat.pow_le_pow_right (by decide) h5
    omega
   omega
  ·rintro W' U' V' ⟨Lf, k1, k2, k3, k4, k5⟩
   have k6 : Lf ≤ Ls (t + 1) := by omega
   exact ⟨fun a c ha hc => dlt_mono (k3 a c ha hc) k6, fun a c ha hc => dlt_mono (k4 a c ha hc) (by omega), fun a c ha hc => dlt_mono (k5 a c ha hc) (by omega)⟩
 ·refine ⟨_, _, _, _, Ls t, stp_pot (L0 := Ls t) (LU := 1 + Ls t) (LV := 1 + 2 * Ls t) (K := 0) tr htr htc (by omega) (by omega) (by omega) (by omega), ⟨_, PlB.start hb.1 hb.2.1 hb.2.2 (.inr h3)⟩, ?_⟩
  rintro W' U' V' ⟨Lf, k1, k2, k3, k4, k5⟩
  have k6 : Lf ≤ Ls (t + 1) := by omega
  exact ⟨fun a c ha hc => dlt_mono (k3 a c ha hc) k6, fun a c ha hc => dlt_mono (k4 a c ha hc) (by omega), fun a c ha hc => dlt_mono (k5 a c ha hc) (by omega)⟩
def lsq3 (t : Nat) : Nat := if t = 0 then 4 else if t = 1 then 15 else 32767
theorem seq3 {r c : Nat} (hr : r ≤ 3) (hc : c ≤ 3) : SeqB r c lsq3 := by
 intro t h1 h2
 rcases (show t = 0 ∨ t = 1 ∨ t = 2 by omega) with rfl | rfl | rfl
 ·exact ⟨by decide, by decide, .inl ⟨by decide, by decide⟩⟩
 ·exact ⟨by decide, by decide, .inl ⟨by decide, by decide⟩⟩
 ·exact ⟨by decide, by decide, .inr ⟨by omega, by omega⟩⟩
theorem seq_fin {p r c LM : Nat} {Ls : Nat → Nat} (h : ∀ t, Ls t ≤ LM) {t : Nat} {W U V : (Nat → Nat → Pol (Zp p))} (hb : Bds r c (Ls t) (1 + Ls t) (1 + 2 * Ls t) W U V) : Bds r c (1 + 2 * LM) (1 + 2 * LM) (1 + 2 * LM) W U V :=
 ⟨fun a c ha hc => dlt_mono (hb.1 a c ha hc) (by have := h t; omega), fun a c ha hc => dlt_mono (hb.2.1 a c ha hc) (by have := h t; omega), fun a c ha hc => dlt_mono (hb.2.2 a c ha hc) (by have := h t; omega)⟩
theorem seq_start {p r c L : Nat} {Ls : Nat → Nat} {xs : List (List Nat)} (hl : ∀ j, j < r * c → (xs.getD j []).length ≤ L) (hL : L ≤ Ls 0) {W U V : (Nat → Nat → Pol (Zp p))} (h1 : ∀ i k, i < r → k < c → W i k = aT p c xs i k) (h2 : ∀ i k, i < r → k < r → U i k = if i = k then 1 else 0) (h3 : ∀ i k, i < c → k < c → V i k = if i = k then 1 else 0) :
  Bds r c (Ls 0) (1 + Ls 0) (1 + 2 * Ls 0) W U V := by
 have d1 : (1 : Pol (Zp p)).dlt 1 := fun i hi => by rw [Pol.one_def, c_mon, if_neg (by omega)]
 refine ⟨fun i k hi hk => ?_, fun i k hi hk => ?_, fun i k hi hk => ?_⟩
 ·rw [h1 i k hi hk]
  exact fun j hj => pl_dlt p _ j (by have := hl (i * c + k) (at_lt rfl hi hk); omega)
 ·rw [h2 i k hi hk]; split
  ·exact dlt_mono d1 (by omega)
  ·exact dlt_zero _
 ·rw [h3 i k hi hk]; split
  ·exact dlt_mono d1 (by omega)
  ·exact dlt_zero _
theorem xf_Smith3 (p : Nat) (a : Value) (r c : Nat) (xs : List (List Nat)) (w : World) (hp : FP p) (ht : Trial p) (hA : Xm w a r c xs) (hr : r ≤ 3) (hc : c ≤ 3) (hx : xs.length = r * c) (hl : ∀ j, j < r * c → (xs.getD j []).length ≤ 4) :
  Calls Try.prog 19 #[.agg #[.int .u64 p], a] w (RetSm p w r c 65535 (aT p c xs)) :=
 xf_Smith p a r c 4 65535 xs w hp ht hA (by omega) (by omega) hx hl (by omega) (sms_seq ht (seq3 hr hc)) (fun W U V h1 h2 h3 => seq_start hl (by decide) h1 h2 h3) (fun t W U V hb => seq_fin (LM := 32767) (fun t => by unfold lsq3; split <;> (try split) <;> omega) hb)
end Go.Proofs.Ytkmfhabgempjiaa
/- xform: Factors. -/
namespace Go.Proofs.Ytkmfhabgempjiaa
set_option maxHeartbeats 4000000
open Go.RowKit
def FcI {p : Nat} (r c i k : Nat) (W : (Nat → Nat → Pol (Zp p))) : Prop := k ≤ i ∧ (∀ j, j < k → W j j ≠ 0) ∧ ∀ j, k ≤ j → j < i → j < r → j < c → W j j = 0
theorem FcI.start {p r c : Nat} (W : (Nat → Nat → Pol (Zp p))) : FcI r c 0 0 W := ⟨Nat.le_refl _, fun j hj => by omega, fun j h1 h2 => by omega⟩
theorem FcI.zero {p r c i k : Nat} {W : (Nat → Nat → Pol (Zp p))} (h : FcI r c i k W) (h0 : W i i = 0) : FcI r c (i + 1) k W :=
 ⟨by have := h.1; omega, h.2.1, fun j h1 h2 h3 h4 => by
  by_cases e : j = i
  ·rw [e]; exact h0
  ·exact h.2.2 j h1 (by omega) h3 h4⟩
theorem FcI.next {p r c i k : Nat} {W : (Nat → Nat → Pol (Zp p))} (h : FcI r c i k W) (hd : ∀ j, j ≤ i → Dv (W j j) (W i i)) (hi : i < r) (hi' : i < c) (h0 : W i i ≠ 0) : k = i ∧ FcI r c (i + 1) (i + 1) W := by
 have e : k = i := by
  apply Classical.byContradiction
  intro hne
  have h1 := h.1
  have h2 := h.2.2 k (Nat.le_refl _) (by omega) (by omega) (by omega)
  have h3 := hd k h1
  rw [h2] at h3
  exact h0 h3.of_zero
 subst e
 refine ⟨rfl, Nat.le_refl _, fun j hj => ?_, fun j h1 h2 => by omega⟩
 by_cases e : j = k
 ·rw [e]; exact h0
 ·exact h.2.1 j (by omega)
theorem smi_dv {p r c t : Nat} {W : (Nat → Nat → Pol (Zp p))} (h : SmI t r c W) (hz : ∀ a b, t ≤ a → a < r → t ≤ b → b < c → W a b = 0) {i : Nat} (hi : i < r) (hi' : i < c) : ∀ j, j ≤ i → Dv (W j j) (W i i) := fun j hj => by
 by_cases ht : j < t
 ·exact h.dv j ht i i hj hi hj hi'
 ·rw [hz i i (by omega) hi (by omega) hi']; exact Dv.zero _
def RetFa (p : Nat) (w : World) (r c L : Nat) (A : Nat → Nat → Pol (Zp p)) (e : Ending) (w' : World) : Prop :=
 ∃ (t : Nat) (W U V : (Nat → Nat → Pol (Zp p))) (k : Nat) (ov : Value) (E : Nat → Value), t ≤ r ∧ t ≤ c ∧ SmR (MT.of r c A) U W V ∧ SmI t r c W ∧ (∀ a b, t ≤ a → a < r → t ≤ b → b < c → W a b = 0) ∧ FcI r c (min r c) k W ∧ e = .returned (.tuple #[ov, .int .i64 0]) ∧
  w'.ownsRow w.heap.size 43 1 ov k (rowL k E) ∧ (∀ j, j < k → ∃ zs, Own .u64 27 w' w.heap.size (E j) zs ∧ Nrm p zs ∧ pl p zs = W j j ∧ zs.length ≤ L) ∧ Below w.heap.size w w'
set_option maxRecDepth 20000 in
theorem xf_Factors (p : Nat) (a : Value) (r c LF : Nat) (xs : List (List Nat)) (w : World) (hp : FP p) (ht : Trial p) (hA : Xm w a r c xs) (hr : r ≤ 64) (hc : c ≤ 64) (hx : xs.length = r * c)
  (hS : ∀ (w' : World), Xm w' a r c xs → Calls Try.prog 19 #[.agg #[.int .u64 p], a] w' (RetSm p w' r c LF (aT p c xs))) (hLF : LF ≤ 1000000) :
  Calls Try.prog 34 #[.agg #[.int .u64 p], a] w (RetFa p w r c LF (aT p c xs)) := by
 obtain ⟨aA, cA, rfl⟩ := hA.agg
 obtain ⟨wb, ew, KF, KA, B0, hsz⟩ := boxes2 w 29 24 [.int .u64 p] [.int .i64 r, .int .i64 c, .slice aA xs.length cA]
 clear hsz
 replace hA := hA.next B0
 have HP := Lib.hid hp; have HTR := Lib.hid ht; have HX := Lib.hid hx; have HS := Lib.hid hS; clear hp ht hx hS
 obtain ⟨PQ, ePQ⟩ : ∃ PQ : Ending → World → Prop, PQ = RetFa p w r c LF (aT p c xs) := ⟨_, rfl⟩
 rw [← ePQ]
 have EPQ := Lib.hid ePQ; clear ePQ
 go_enter Try.func34, Try.ntmps34
 go_upto_region 1 with (fail)
 rw [← ew]
 obtain ⟨g, eg⟩ : ∃ g, g = w.heap.size := ⟨_, rfl⟩
 rw [← eg] at KF KA ⊢
 have EG := Lib.hid eg
 clear ew eg
 have c0 := KF.cell 0; have a0 := KA.cell 0; have a1 := KA.cell 1; have a2 := KA.cell 2
 go_wp2_with fail
 (with_reducible refine (HS.out _ hA).mono ?_); rintro e w1 ⟨t, W, U, V, htr, htc, hSR, hSI, hz, ao, k, us, ao', k', us', ao2, k2, us2, rfl, Q1, -, -, b1⟩
 have B1 := B0.trans (b1.mono B0.size)
 replace KF := KF.next b1
 clear c0 a0 a1 a2 hA KA B0 b1
 obtain ⟨qs, hql, hqn, hqv⟩ := Q1.ns HP.out
 obtain ⟨w2, e2, KD, -, -, Bx, -⟩ := boxes3 w1 24 24 24 [.int .i64 r, .int .i64 c, .slice ao (r * c) k] [.int .i64 r, .int .i64 r, .slice ao' (r * r) k'] [.int .i64 c, .int .i64 c, .slice ao2 (c * c) k2]
 have B2 := B1.trans (Bx.mono B1.size)
 have hD : Xm w2 (.agg #[.int .i64 r, .int .i64 c, .slice ao (r * c) k]) r c qs := ⟨_, rfl, hqn.next Bx⟩
 replace KF := KF.next Bx
 go_upto_region 5 with (fail)
 rw [← e2]
 obtain ⟨gD, egD⟩ : ∃ gD, gD = w1.heap.size := ⟨_, rfl⟩
 rw [← egD] at KD ⊢
 have HKF := Lib.hid KF; have HKD := Lib.hid KD; have HD := Lib.hid hD; have HQL := Lib.hid hql; have HQV := Lib.hid hqv; have HB2 := Lib.hid B2
 have HDV := Lib.hid (fun (i : Nat) (hi : i < r) (hi' : i < c) => smi_dv hSI hz hi hi')
 have HRES := Lib.hid (show t ≤ r ∧ t ≤ c ∧ SmR (MT.of r c (aT p c xs)) U W V ∧ SmI t r c W ∧ (∀ a b, t ≤ a → a < r → t ≤ b → b < c → W a b = 0) from ⟨htr, htc, hSR, hSI, hz⟩)
 have d0 := KD.cell 0; have d1 := KD.cell 1
 clear KF KD hD hql hqn hqv B1 B2 Bx e2 egD hSI hSR hz Q1 htr htc
 by_cases hcr : c < r
 ·go_wp2
  clear d0 d1
  go_loopw [10, 29] (fun ov iv wr => ∃ (i k : Nat) (E : Nat → Value), i ≤ c ∧ iv = .int .i64 i ∧ FcI r c i k W ∧ wr.ownsRow w2.heap.size 43 1 ov k (rowL k E) ∧ (∀ j, j < k → ∃ zs, Own .u64 27 wr w2.heap.size (E j) zs ∧ Nrm p zs ∧ pl p zs = W j j ∧ zs.length ≤ LF) ∧ Below w2.heap.size w2 wr) (fun _ iv _ => c - (intOf iv).toNat)
  case atStart => exact ⟨0, 0, fun _ => .slice none 0 0, Nat.zero_le _, rfl, FcI.start _, World.ownsRow_nil _ _ _ _, fun j hj => absurd hj (by omega), Below.refl _ _⟩
  case round =>
   obtain ⟨i, k, E, hi, rfl, hF, hrow, hel, BR⟩ := hrel
   by_cases hiN : i < c
   ·have hir : i < r := by omega
    have hic : i < c := by omega
    have KF := HKF.out.next BR; have KD := HKD.out.next BR; have hD := HD.out.next BR
    have f0 := KF.cell 0; have d0 := KD.cell 0; have d1 := KD.cell 1; have d2 := KD.cell 2
    have hlt : i * c + i < r * c := at_lt rfl hir hic
    have hqi := HQV.out _ hlt
    have HQI := Lib.hid hqi
    have hll : (qs.getD (i * c + i) []).length ≤ 1000000 := Nat.le_trans hqi.2.2 hLF
    clear KF KD hqi
    go_wp2_with fail
    (with_reducible refine (xm_At p i i _ r c qs _ HP.out hD hr hc HQL.out hir hic hll).mono ?_); rintro e w5 ⟨r5, z5, rfl, o5, n5, v5, l5, b5⟩
    clear f0 d0 d1 d2 hD
    have hv : pl p z5 = W i i := by
     rw [v5, HQI.out.2.1]
     show W ((i * c + i) / c) (0 + (i * c + i) % c) = W i i
     rw [Nat.mul_comm, Nat.mul_add_div (by omega), Nat.div_eq_of_lt hic, Nat.mul_add_mod, Nat.mod_eq_of_lt hic, Nat.add_zero, Nat.zero_add]
    have hl5 : z5.length ≤ LF := Nat.le_trans l5 HQI.out.2.2
    obtain ⟨a5, c5, rfl⟩ := o5.sliced
    have hks : w2.heap.size ≤ w5.heap.size := Nat.le_trans BR.size b5.size
    have hrow5 := rowOwn_next hrow b5 (Nat.le_refl _)
    by_cases hz5 : z5.length = 0
    ·have hz1 : ¬ 0 < z5.length := by omega
     have h00 : W i i = 0 := by rw [← hv, List.length_eq_zero_iff.1 hz5, pl_nil]
     have F1 := Lib.hid (hF.zero h00)
     have F2 := Lib.hid hrow5
     have F3 := Lib.hid (fun j (hj : j < k) => (show ∃ zs, Own .u64 27 w5 w2.heap.size (E j) zs ∧ Nrm p zs ∧ pl p zs = W j j ∧ zs.length ≤ LF from by
      obtain ⟨zs, h1, h2, h3, h4⟩ := hel j hj
      exact ⟨zs, h1.next b5, h2, h3, h4⟩))
     have F4 := Lib.hid (BR.trans (b5.mono BR.size))
     clear hz5 hF hrow hel BR hrow5 o5 n5 v5 l5 b5 hv h00 HQI
     go_wp2
     go_roundw
     case rel => exact ⟨i + 1, k, E, by omega, by go_num, F1.out, F2.out, F3.out, F4.out⟩
     case measure => simp [intOf] <;> omega
    ·have hz1 : 0 < z5.length := by omega
     have h00 : W i i ≠ 0 := fun e => hz5 (by rw [← hv] at e; rw [pl_inj HP.out.pos n5 (nrm_nil p) (by rw [e, pl_nil])]; rfl)
     obtain ⟨hki, hF'⟩ := hF.next (HDV.out i hir hic) hir hic h00
     have hv5 : Own .u64 27 w5 wr.heap.size (.slice a5 z5.length c5) z5 := o5
     have HKI := Lib.hid hki
     have N5 := Lib.hid n5; have HV := Lib.hid hv
     have F1 := Lib.hid hF'
     have hik : k ≤ i := hF.1
     clear hz5 h00 hki n5 hv o5 v5 l5 hF hF'
     go_wp2_with (at_builtin; refine apVl 22 43 24 (.slice none 0 0) Try.underlying22 (by kernel_rfl) (by decide) rfl rfl _ _ rfl w5 w2.heap.size _ k (rowL k E) (.slice a5 z5.length c5) rfl hrow5 (by omega) hks rfl rfl ?_; intro g8 cap8 w8 ho8 hb8 hg8 _)
     have hS : ∀ b, b < w5.heap.size → _ → Tyb w5 43 b := fun b _ hb => (rowOwn_tyb hrow5 hb).1
     have keep : ∀ {u : Value} {q : Pol (Zp p)} {c : Nat}, Vn p w5 c u q → Vn p w8 c u q := fun hu => hu.chg (Chg.grown hg8) (e := 43) hS (by decide)
     have keepO : ∀ {u : Value} {zs : List Nat} {c : Nat}, Own .u64 27 w5 c u zs → Own .u64 27 w8 c u zs := fun hu => rowOwn_chg hu (Chg.grown hg8) fun b hb hs => (rowOwn_tyb hu hb).1.ne (rowOwn_tyb hrow5 hs).1 (by decide) rfl
     have T1 := Lib.hid (show w8.ownsRow w2.heap.size 43 1 (.slice (some ⟨g8, 0, none⟩) (k + 1) cap8) (k + 1) (rowL (k + 1) fun j => if j < k then E j else .slice a5 z5.length c5) by
      rw [rowL_snoc, if_neg (by omega), rowL_congr (V := E) (fun j hj => if_pos hj)]; exact ho8)
     have T2 := Lib.hid (show ∀ j, j < k + 1 → ∃ zs, Own .u64 27 w8 w2.heap.size (if j < k then E j else .slice a5 z5.length c5) zs ∧ Nrm p zs ∧ pl p zs = W j j ∧ zs.length ≤ LF from fun j hj => by
      by_cases h : j < k
      ·rw [if_pos h]
       obtain ⟨zs, h1, h2, h3, h4⟩ := hel j h
       exact ⟨zs, keepO (h1.next b5), h2, h3, h4⟩
      ·obtain rfl : j = k := by omega
       rw [if_neg h]
       exact ⟨z5, (keepO hv5).mono BR.size, N5.out, by rw [HV.out, HKI.out], hl5⟩)
     have T3 := Lib.hid ((BR.trans (b5.mono BR.size)).trans hb8)
     have T4 := Lib.hid (show FcI r c (i + 1) (k + 1) W by rw [HKI.out] at *; exact F1.out)
     clear hrow hel BR hrow5 hv5 b5 ho8 hb8 hg8 hS keep HQI
     go_wp2
     go_roundw
     case rel => exact ⟨i + 1, k + 1, _, by omega, by go_num, T4.out, T1.out, T2.out, T3.out⟩
     case measure => simp [intOf] <;> omega
   ·obtain rfl : i = c := by omega
    have hFm : FcI r i (min r i) k W := by rw [show min r i = i by omega]; exact hF
    have FIN := Lib.hid (fun ov (h : wr.ownsRow w2.heap.size 43 1 ov k (rowL k E)) => (show PQ (.returned (.tuple #[ov, .int .i64 0])) wr by
     obtain ⟨h1, h2, h3, h4, h5⟩ := HRES.out
     rw [EPQ.out]
     exact ⟨t, W, U, V, k, ov, E, h1, h2, h3, h4, h5, hFm, rfl, rowOwn_mono h HB2.out.size, fun j hj => by
      obtain ⟨zs, k1, k2, k3, k4⟩ := hel j hj
      exact ⟨zs, k1.mono HB2.out.size, k2, k3, k4⟩, HB2.out.trans (BR.mono HB2.out.size)⟩))
    have HROW := Lib.hid hrow
    clear hF hFm hel BR hrow
    go_wp2
    exact FIN.out _ HROW.out
 ·go_wp2
  clear d0 d1
  go_loopw [10, 29] (fun ov iv wr => ∃ (i k : Nat) (E : Nat → Value), i ≤ r ∧ iv = .int .i64 i ∧ FcI r c i k W ∧ wr.ownsRow w2.heap.size 43 1 ov k (rowL k E) ∧ (∀ j, j < k → ∃ zs, Own .u64 27 wr w2.heap.size (E j) zs ∧ Nrm p zs ∧ pl p zs = W j j ∧ zs.length ≤ LF) ∧ Below w2.heap.size w2 wr) (fun _ iv _ => r - (intOf iv).toNat)
  case atStart => exact ⟨0, 0, fun _ => .slice none 0 0, Nat.zero_le _, rfl, FcI.start _, World.ownsRow_nil _ _ _ _, fun j hj => absurd hj (by omega), Below.refl _ _⟩
  case round =>
   obtain ⟨i, k, E, hi, rfl, hF, hrow, hel, BR⟩ := hrel
   by_cases hiN : i < r
   ·have hir : i < r := by omega
    have hic : i < c := by omega
    have KF := HKF.out.next BR; have KD := HKD.out.next BR; have hD := HD.out.next BR
    have f0 := KF.cell 0; have d0 := KD.cell 0; have d1 := KD.cell 1; have d2 := KD.cell 2
    have hlt : i * c + i < r * c := at_lt rfl hir hic
    have hqi := HQV.out _ hlt
    have HQI := Lib.hid hqi
    have hll : (qs.getD (i * c + i) []).length ≤ 1000000 := Nat.le_trans hqi.2.2 hLF
    clear KF KD hqi
    go_wp2_with fail
    (with_reducible refine (xm_At p i i _ r c qs _ HP.out hD hr hc HQL.out hir hic hll).mono ?_); rintro e w5 ⟨r5, z5, rfl, o5, n5, v5, l5, b5⟩
    clear f0 d0 d1 d2 hD
    have hv : pl p z5 = W i i := by
     rw [v5, HQI.out.2.1]
     show W ((i * c + i) / c) (0 + (i * c + i) % c) = W i i
     rw [Nat.mul_comm, Nat.mul_add_div (by omega), Nat.div_eq_of_lt hic, Nat.mul_add_mod, Nat.mod_eq_of_lt hic, Nat.add_zero, Nat.zero_add]
    have hl5 : z5.length ≤ LF := Nat.le_trans l5 HQI.out.2.2
    obtain ⟨a5, c5, rfl⟩ := o5.sliced
    have hks : w2.heap.size ≤ w5.heap.size := Nat.le_trans BR.size b5.size
    have hrow5 := rowOwn_next hrow b5 (Nat.le_refl _)
    by_cases hz5 : z5.length = 0
    ·have hz1 : ¬ 0 < z5.length := by omega
     have h00 : W i i = 0 := by rw [← hv, List.length_eq_zero_iff.1 hz5, pl_nil]
     have F1 := Lib.hid (hF.zero h00)
     have F2 := Lib.hid hrow5
     have F3 := Lib.hid (fun j (hj : j < k) => (show ∃ zs, Own .u64 27 w5 w2.heap.size (E j) zs ∧ Nrm p zs ∧ pl p zs = W j j ∧ zs.length ≤ LF from by
      obtain ⟨zs, h1, h2, h3, h4⟩ := hel j hj
      exact ⟨zs, h1.next b5, h2, h3, h4⟩))
     have F4 := Lib.hid (BR.trans (b5.mono BR.size))
     clear hz5 hF hrow hel BR hrow5 o5 n5 v5 l5 b5 hv h00 HQI
     go_wp2
     go_roundw
     case rel => exact ⟨i + 1, k, E, by omega, by go_num, F1.out, F2.out, F3.out, F4.out⟩
     case measure => simp [intOf] <;> omega
    ·have hz1 : 0 < z5.length := by omega
     have h00 : W i i ≠ 0 := fun e => hz5 (by rw [← hv] at e; rw [pl_inj HP.out.pos n5 (nrm_nil p) (by rw [e, pl_nil])]; rfl)
     obtain ⟨hki, hF'⟩ := hF.next (HDV.out i hir hic) hir hic h00
     have hv5 : Own .u64 27 w5 wr.heap.size (.slice a5 z5.length c5) z5 := o5
     have HKI := Lib.hid hki
     have N5 := Lib.hid n5; have HV := Lib.hid hv
     have F1 := Lib.hid hF'
     have hik : k ≤ i := hF.1
     clear hz5 h00 hki n5 hv o5 v5 l5 hF hF'
     go_wp2_with (at_builtin; refine apVl 22 43 24 (.slice none 0 0) Try.underlying22 (by kernel_rfl) (by decide) rfl rfl _ _ rfl w5 w2.heap.size _ k (rowL k E) (.slice a5 z5.length c5) rfl hrow5 (by omega) hks rfl rfl ?_; intro g8 cap8 w8 ho8 hb8 hg8 _)
     have hS : ∀ b, b < w5.heap.size → _ → Tyb w5 43 b := fun b _ hb => (rowOwn_tyb hrow5 hb).1
     have keep : ∀ {u : Value} {q : Pol (Zp p)} {c : Nat}, Vn p w5 c u q → Vn p w8 c u q := fun hu => hu.chg (Chg.grown hg8) (e := 43) hS (by decide)
     have keepO : ∀ {u : Value} {zs : List Nat} {c : Nat}, Own .u64 27 w5 c u zs → Own .u64 27 w8 c u zs := fun hu => rowOwn_chg hu (Chg.grown hg8) fun b hb hs => (rowOwn_tyb hu hb).1.ne (rowOwn_tyb hrow5 hs).1 (by decide) rfl
     have T1 := Lib.hid (show w8.ownsRow w2.heap.size 43 1 (.slice (some ⟨g8, 0, none⟩) (k + 1) cap8) (k + 1) (rowL (k + 1) fun j => if j < k then E j else .slice a5 z5.length c5) by
      rw [rowL_snoc, if_neg (by omega), rowL_congr (V := E) (fun j hj => if_pos hj)]; exact ho8)
     have T2 := Lib.hid (show ∀ j, j < k + 1 → ∃ zs, Own .u64 27 w8 w2.heap.size (if j < k then E j else .slice a5 z5.length c5) zs ∧ Nrm p zs ∧ pl p zs = W j j ∧ zs.length ≤ LF from fun j hj => by
      by_cases h : j < k
      ·rw [if_pos h]
       obtain ⟨zs, h1, h2, h3, h4⟩ := hel j h
       exact ⟨zs, keepO (h1.next b5), h2, h3, h4⟩
      ·obtain rfl : j = k := by omega
       rw [if_neg h]
       exact ⟨z5, (keepO hv5).mono BR.size, N5.out, by rw [HV.out, HKI.out], hl5⟩)
     have T3 := Lib.hid ((BR.trans (b5.mono BR.size)).trans hb8)
     have T4 := Lib.hid (show FcI r c (i + 1) (k + 1) W by rw [HKI.out] at *; exact F1.out)
     clear hrow hel BR hrow5 hv5 b5 ho8 hb8 hg8 hS keep HQI
     go_wp2
     go_roundw
     case rel => exact ⟨i + 1, k + 1, _, by omega, by go_num, T4.out, T1.out, T2.out, T3.out⟩
     case measure => simp [intOf] <;> omega
   ·obtain rfl : i = r := by omega
    have hFm : FcI i c (min i c) k W := by rw [show min i c = i by omega]; exact hF
    have FIN := Lib.hid (fun ov (h : wr.ownsRow w2.heap.size 43 1 ov k (rowL k E)) => (show PQ (.returned (.tuple #[ov, .int .i64 0])) wr by
     obtain ⟨h1, h2, h3, h4, h5⟩ := HRES.out
     rw [EPQ.out]
     exact ⟨t, W, U, V, k, ov, E, h1, h2, h3, h4, h5, hFm, rfl, rowOwn_mono h HB2.out.size, fun j hj => by
      obtain ⟨zs, k1, k2, k3, k4⟩ := hel j hj
      exact ⟨zs, k1.mono HB2.out.size, k2, k3, k4⟩, HB2.out.trans (BR.mono HB2.out.size)⟩))
    have HROW := Lib.hid hrow
    clear hF hFm hel BR hrow
    go_wp2
    exact FIN.out _ HROW.out
end Go.Proofs.Ytkmfhabgempjiaa
/- What the laws of layer 23 say, plainly: values and determinants of products. -/
namespace Go.Proofs.Ytkmfhabgempjiaa
set_option maxHeartbeats 4000000
open Go.RowKit
section
variable {R S : Type} [CR R] [CR S]
end
section
variable {p : Nat}
theorem nl_same (hp : FP p) {a b : List Nat} (h : pl p a = pl p b) : nl p a = nl p b := nl_is hp.pos (nl_nrm hp.pos a) ((nl_pl p a).trans h)
theorem pl_cons' (x : Nat) (xs : List Nat) : pl p (x :: xs) = mon (Zp.of p x) 0 + mon 1 1 * pl p xs := Pol.ext fun i => by
 rw [Pol.c_add, c_mon1, c_mon, pl_c]
 cases i with
 | zero => simp [CR.add_zero]
 | succ i => simp [CR.zero_add, pl_c]
def dotT (p : Nat) (xs ys : List (List Nat)) (m c j : Nat) : Pol (Zp p) := dotq p xs ys m c (j / c) (j % c) m
theorem dotT_at {xs ys : List (List Nat)} {m c i k : Nat} (hk : k < c) : dotT p xs ys m c (i * c + k) = dotq p xs ys m c i k m := by
 unfold dotT
 have h1 : (i * c + k) / c = i := by rw [Nat.mul_comm, Nat.mul_add_div (by omega), Nat.div_eq_of_lt hk, Nat.add_zero]
 have h2 : (i * c + k) % c = k := by rw [Nat.mul_comm, Nat.mul_add_mod, Nat.mod_eq_of_lt hk]
 rw [h1, h2]
end
end Go.Proofs.Ytkmfhabgempjiaa
/- xform: awake. -/
namespace Go.Proofs.Ytkmfhabgempjiaa
set_option maxHeartbeats 4000000
open Go.RowKit
section
open CR
variable {p : Nat}
theorem SmR.eqv {R : Type} [CR R] {n m : Nat} {A : MT R n m} {U W V : Nat → Nat → R} (h : SmR A U W V) : Eqv A (MT.of n m W) := by
 obtain ⟨X, hX⟩ := h.u
 obtain ⟨Y, hY⟩ := h.v
 exact ⟨_, X, _, Y, hX, hY, h.e⟩
theorem smi_unique (tr : Trial p) {n m t t' : Nat} {A : MT (Pol (Zp p)) n m} {U W V U' W' V' : (Nat → Nat → Pol (Zp p))} (h : SmR A U W V) (h' : SmR A U' W' V') (hI : SmI t n m W) (hI' : SmI t' n m W') (htn : t ≤ n) (htm : t ≤ m) (htn' : t' ≤ n) (htm' : t' ≤ m) (hz : ∀ a b, t ≤ a → a < n → t ≤ b → b < m → W a b = 0) (hz' : ∀ a b, t' ≤ a → a < n → t' ≤ b → b < m → W' a b = 0) :
  ∀ k, k < n → k < m → W k k = W' k k := by
 have e1 := hI.done hz
 have e2 := hI'.done hz'
 have hE : Eqv (MT.of n m (dg (dgo t W))) (MT.of n m (dg (dgo t' W'))) := by
  rw [← e1, ← e2]
  exact h.eqv.symm.trans h'.eqv
 have hu := smith_unique tr (hI.chain htn htm) (hI'.chain htn' htm') hE
 intro k hk hk'
 have := hu k hk hk'
 unfold dgo at this
 by_cases h1 : k < t
 ·by_cases h2 : k < t'
  ·rwa [if_pos h1, if_pos h2] at this
  ·rw [if_pos h1, if_neg h2] at this; rw [this, hz' k k (by omega) hk (by omega) hk']
 ·by_cases h2 : k < t'
  ·rw [if_neg h1, if_pos h2] at this; rw [← this, hz k k (by omega) hk (by omega) hk']
  ·rw [hz k k (by omega) hk (by omega) hk', hz' k k (by omega) hk (by omega) hk']
theorem pl_one (p : Nat) : pl p [1] = 1 := pl_sing1 p
theorem pl_x (p : Nat) : pl p [0, 1] = mon 1 1 := by
 rw [pl_cons', pl_cons', pl_nil, mul_zero, add_zero, show Zp.of p 1 = 1 from rfl, ← Pol.one_def, mul_one, Zp.of_zero, mon_zero, zero_add]
theorem pl_101 (p : Nat) : pl p [1, 0, 1] = 1 + mon 1 1 * mon 1 1 := by
 rw [pl_cons', ← pl_x, show Zp.of p 1 = 1 from rfl, ← Pol.one_def, pl_x]
def awkW (p : Nat) : (Nat → Nat → Pol (Zp p)) := fun a b => if a = 0 ∧ b = 0 then 1 else if a = 1 ∧ b = 1 then pl p [1, 0, 1] else 0
theorem awk_smi (p : Nat) : SmI 2 2 2 (awkW p) := by
 refine ⟨fun i k hi hk hne _ => ?_, fun i hi => ?_, fun i hi a b h1 h2 h3 h4 => ?_⟩
 ·unfold awkW; rw [if_neg (by omega), if_neg (by omega)]
 ·rcases (show i = 0 ∨ i = 1 by omega) with rfl | rfl
  ·exact Mo.one
  ·refine Or.inr ⟨2, fun i hi => pl_dlt p _ i (by simpa using hi), ?_⟩
   show (pl p [1, 0, 1]).c 2 = 1
   rw [pl_c]; rfl
 ·rcases (show i = 0 ∨ i = 1 by omega) with rfl | rfl
  ·exact ⟨awkW p a b, (one_mul _).symm⟩
  ·obtain rfl : a = 1 := by omega
   obtain rfl : b = 1 := by omega
   exact Dv.refl _
theorem awk_smr (xs : List (List Nat)) (h6 : Zp.of p 6 = -1) (hx : xs = [[0, 1], [1], [6], [0, 1]]) : ∃ U V : (Nat → Nat → Pol (Zp p)), SmR (MT.of 2 2 (aT p 2 xs)) U (awkW p) V := by
 have s0 : SmR (MT.of 2 2 (aT p 2 xs)) (fun i k => if i = k then 1 else 0) (aT p 2 xs) (fun i k => if i = k then 1 else 0) := SmR.start _ (fun _ _ _ _ => rfl) (fun _ _ _ _ => rfl) fun _ _ _ _ => rfl
 have s1 := s0.swC (i := 0) (k := 1) (by omega) (by omega)
 have s2 := s1.adR (i := 1) (k := 0) (by omega) (by omega) (by omega) (-(mon 1 1))
 have s3 := s2.adC (i := 1) (k := 0) (by omega) (by omega) (by omega) (-(mon 1 1))
 have s4 := s3.scl (t := 1) (c := -1) (d := -1) (by_ring [(0 : Pol (Zp p))] (-1 * -1) 1 rfl)
 have e6 : pl p [6] = -1 := by rw [pl_sing, h6, mon_neg, ← Pol.one_def]
 refine ⟨_, _, ⟨s4.u, s4.v, ?_⟩⟩
 rw [← s4.e]
 refine MT.of_congr fun i k hi hk => ?_
 have a00 : aT p 2 xs 0 0 = mon 1 1 := by rw [hx]; exact pl_x p
 have a01 : aT p 2 xs 0 1 = 1 := by rw [hx]; exact pl_one p
 have a10 : aT p 2 xs 1 0 = -1 := by rw [hx]; exact e6
 have a11 : aT p 2 xs 1 1 = mon 1 1 := by rw [hx]; exact pl_x p
 rcases (show i = 0 ∨ i = 1 by omega) with rfl | rfl <;> rcases (show k = 0 ∨ k = 1 by omega) with rfl | rfl
 ·show 1 = aT p 2 xs 0 1
  rw [a01]
 ·show 0 = aT p 2 xs 0 0 + -(mon 1 1) * aT p 2 xs 0 1
  rw [a00, a01]
  exact by_ring [(mon 1 1 : Pol (Zp p))] 0 (X0 + -X0 * 1) rfl
 ·show 0 = (aT p 2 xs 1 1 + -(mon 1 1) * aT p 2 xs 0 1) * -1
  rw [a11, a01]
  exact by_ring [(mon 1 1 : Pol (Zp p))] 0 ((X0 + -X0 * 1) * -1) rfl
 ·show pl p [1, 0, 1] = ((aT p 2 xs 1 0 + -(mon 1 1) * aT p 2 xs 0 0) + -(mon 1 1) * (aT p 2 xs 1 1 + -(mon 1 1) * aT p 2 xs 0 1)) * -1
  rw [a10, a00, a11, a01, pl_101]
  exact by_ring [(mon 1 1 : Pol (Zp p))] (1 + X0 * X0) (((-1 + -X0 * X0) + -X0 * (X0 + -X0 * 1)) * -1) rfl
theorem awk_fac (tr : Trial p) (h6 : Zp.of p 6 = -1) {xs : List (List Nat)} (hx : xs = [[0, 1], [1], [6], [0, 1]]) {U W V : (Nat → Nat → Pol (Zp p))} {t k : Nat} (h : SmR (MT.of 2 2 (aT p 2 xs)) U W V) (hI : SmI t 2 2 W) (ht : t ≤ 2) (hz : ∀ a b, t ≤ a → a < 2 → t ≤ b → b < 2 → W a b = 0) (hF : FcI 2 2 (min 2 2) k W) :
  k = 2 ∧ W 0 0 = pl p [1] ∧ W 1 1 = pl p [1, 0, 1] := by
 obtain ⟨U', V', h'⟩ := awk_smr xs h6 hx
 have hu := smi_unique tr h h' hI (awk_smi p) ht ht (Nat.le_refl _) (Nat.le_refl _) hz (fun a b h1 h2 => by omega)
 have e0 : W 0 0 = 1 := hu 0 (by omega) (by omega)
 have e1 : W 1 1 = pl p [1, 0, 1] := hu 1 (by omega) (by omega)
 refine ⟨?_, by rw [e0, pl_one], e1⟩
 have h1 : k ≤ 2 := hF.1
 have hne : (1 : Zp p) ≠ 0 := Zp.one_ne tr
 apply Classical.byContradiction
 intro hk
 rcases (show k = 0 ∨ k = 1 by omega) with rfl | rfl
 ·have := hF.2.2 0 (by omega) (by decide) (by omega) (by omega)
  rw [e0] at this
  have h3 : (1 : Pol (Zp p)).c 0 = (0 : Pol (Zp p)).c 0 := by rw [this]
  rw [Pol.one_def, c_mon, if_pos rfl] at h3
  exact hne h3
 ·have := hF.2.2 1 (by omega) (by decide) (by omega) (by omega)
  rw [e1] at this
  have h3 : (pl p [1, 0, 1]).c 2 = (0 : Pol (Zp p)).c 2 := by rw [this]
  rw [pl_c] at h3
  exact hne h3
end
theorem Blk.sl {w : World} {g : Nat} {xs : List Nat} (h : Blk 27 w g (vs .u64 xs)) : Sl .u64 w (.slice (some ⟨g, 0, none⟩) xs.length xs.length) xs :=
 ⟨_, g, 0, _, rfl, Nat.le_refl _, fun _ => rfl, fun j hj => by rw [Nat.zero_add, h.cell j]; exact vs_get .u64 xs j hj⟩
theorem awk_ns {w : World} (g : Nat) (b1 : Blk 27 w g [.int .u64 0, .int .u64 1]) (b2 : Blk 27 w (g + 1) [.int .u64 1]) (b3 : Blk 27 w (g + 1 + 1) [.int .u64 6]) (b4 : Blk 27 w (g + 1 + 1 + 1) [.int .u64 0, .int .u64 1])
  (b5 : Blk 43 w (g + 1 + 1 + 1 + 1) [.slice (some ⟨g, 0, none⟩) 2 2, .slice (some ⟨g + 1, 0, none⟩) 1 1, .slice (some ⟨g + 1 + 1, 0, none⟩) 1 1, .slice (some ⟨g + 1 + 1 + 1, 0, none⟩) 2 2]) :
  Ns w (.slice (some ⟨g + 1 + 1 + 1 + 1, 0, none⟩) 4 4) [[0, 1], [1], [6], [0, 1]] := by
 have s1 : Sl .u64 w (.slice (some ⟨g, 0, none⟩) 2 2) [0, 1] := Blk.sl (xs := [0, 1]) b1
 have s2 : Sl .u64 w (.slice (some ⟨g + 1, 0, none⟩) 1 1) [1] := Blk.sl (xs := [1]) b2
 have s3 : Sl .u64 w (.slice (some ⟨g + 1 + 1, 0, none⟩) 1 1) [6] := Blk.sl (xs := [6]) b3
 have s4 : Sl .u64 w (.slice (some ⟨g + 1 + 1 + 1, 0, none⟩) 2 2) [0, 1] := Blk.sl (xs := [0, 1]) b4
 refine ⟨some ⟨g + 1 + 1 + 1 + 1, 0, none⟩, g + 1 + 1 + 1 + 1, 0, 4, fun j => if j = 0 then .slice (some ⟨g, 0, none⟩) 2 2 else if j = 1 then .slice (some ⟨g + 1, 0, none⟩) 1 1 else if j = 2 then .slice (some ⟨g + 1 + 1, 0, none⟩) 1 1 else .slice (some ⟨g + 1 + 1 + 1, 0, none⟩) 2 2, rfl, Nat.le_refl _, fun _ => ⟨rfl, b5.lt⟩, fun j hj => ?_⟩
 rcases (show j = 0 ∨ j = 1 ∨ j = 2 ∨ j = 3 by simp at hj; omega) with rfl | rfl | rfl | rfl
 ·exact ⟨b5.cell 0, s1, wf_cons (by decide) (wf_cons (by decide) (wf_nil _))⟩
 ·exact ⟨b5.cell 1, s2, wf_cons (by decide) (wf_nil _)⟩
 ·exact ⟨b5.cell 2, s3, wf_cons (by decide) (wf_nil _)⟩
 ·exact ⟨b5.cell 3, s4, wf_cons (by decide) (wf_cons (by decide) (wf_nil _))⟩
set_option maxRecDepth 20000 in
theorem law24_awake (w : World) : Calls Try.prog 15 #[] w (LawOk w) := by
 obtain ⟨p, ep⟩ : ∃ p, p = Ps 3 := ⟨_, rfl⟩
 have hp : FP p := by rw [ep]; exact Ps_FP (by omega)
 have ht : Trial p := by rw [ep]; exact Ps_trial (by omega)
 have c0 : ∀ w : World, Calls Try.prog 17 #[.int .u8 3] w fun e w' => e = .returned (.agg #[.int .u64 (p : Nat)]) ∧ Below w.heap.size w w' := fun w => by rw [ep]; exact law9_Of 3 w
 have h6 : Zp.of p 6 = -1 := by rw [ep]; rfl
 have hn1 : Nrm p [1] := by rw [ep]; exact ⟨wf_cons (by decide) (wf_nil _), rfl⟩
 have hn2 : Nrm p [1, 0, 1] := by rw [ep]; exact ⟨wf_cons (by decide) (wf_cons (by decide) (wf_cons (by decide) (wf_nil _))), rfl⟩
 have C0 := Lib.hid c0; have HP := Lib.hid hp; have HT := Lib.hid ht; have H6 := Lib.hid h6; have HN1 := Lib.hid hn1; have HN2 := Lib.hid hn2
 clear c0 hp ht h6 hn1 hn2 ep
 go_enter Try.func15, Try.ntmps15
 go_wp2_with fail
 refine (C0.out _).mono ?_; rintro e w1 ⟨rfl, b1⟩
 go_wp2_with fail
 obtain ⟨w2, e2, k1, k2, k3, k4, k5, B2, -⟩ := boxes5 w1 27 27 27 27 43 [.int .u64 0, .int .u64 1] [.int .u64 1] [.int .u64 6] [.int .u64 0, .int .u64 1] [.slice (some ⟨w1.heap.size, 0, none⟩) 2 2, .slice (some ⟨w1.heap.size + 1, 0, none⟩) 1 1, .slice (some ⟨w1.heap.size + 1 + 1, 0, none⟩) 1 1, .slice (some ⟨w1.heap.size + 1 + 1 + 1, 0, none⟩) 2 2]
 have hns := awk_ns w1.heap.size k1 k2 k3 k4 k5
 rw [← e2]
 obtain ⟨g, eg⟩ : ∃ g, g = w1.heap.size + 1 + 1 + 1 + 1 := ⟨_, rfl⟩
 rw [← eg] at hns ⊢
 have B3 := b1.trans (B2.mono b1.size)
 have hA : Xm w2 (.agg #[.int .i64 2, .int .i64 2, .slice (some ⟨g, 0, none⟩) 4 4]) (2 : Nat) (2 : Nat) [[0, 1], [1], [6], [0, 1]] := ⟨_, rfl, hns⟩
 obtain ⟨xs, exs⟩ : ∃ xs : List (List Nat), xs = [[0, 1], [1], [6], [0, 1]] := ⟨_, rfl⟩
 rw [← exs] at hA
 have EXS := Lib.hid exs
 have hxl : xs.length = 2 * 2 := by rw [exs]; rfl
 have hll : ∀ j, j < 2 * 2 → (xs.getD j []).length ≤ 4 := fun j hj => by
  rw [exs]
  rcases (show j = 0 ∨ j = 1 ∨ j = 2 ∨ j = 3 by omega) with rfl | rfl | rfl | rfl <;> decide
 clear e2 k1 k2 k3 k4 k5 hns eg exs b1 B2
 refine (xf_Factors p _ 2 2 65535 xs w2 HP.out HT.out hA (by omega) (by omega) hxl (fun w' h' => xf_Smith3 p _ 2 2 xs w' HP.out HT.out h' (by omega) (by omega) hxl hll) (by omega)).mono ?_
 rintro e w3 ⟨t, W, U, V, k, ov, E, ht2, -, hSR, hSI, hz, hF, rfl, hrow, hel, b3⟩
 obtain ⟨rfl, e0, e1⟩ := awk_fac HT.out H6.out EXS.out hSR hSI ht2 hz hF
 obtain ⟨z0, o0, n0, v0, -⟩ := hel 0 (by omega)
 obtain ⟨z1, o1, n1, v1, -⟩ := hel 1 (by omega)
 obtain rfl : z0 = [1] := pl_inj HP.out.pos n0 HN1.out (v0.trans e0)
 obtain rfl : z1 = [1, 0, 1] := pl_inj HP.out.pos n1 HN2.out (v1.trans e1)
 have B4 := B3.trans (b3.mono B3.size)
 obtain ⟨gb, cap, rfl, -, -, -⟩ : ∃ b cap, ov = .slice (some ⟨b, 0, none⟩) 2 cap ∧ True ∧ True ∧ True := by
  rcases rowOwn_shape hrow with ⟨_, e2⟩ | ⟨b, cap, e1, _⟩
  ·simp at e2
  ·exact ⟨b, cap, e1, trivial, trivial, trivial⟩
 have q0 := World.ownsRow.cellAt hrow 0 (by decide)
 have q1 := World.ownsRow.cellAt hrow 1 (by decide)
 rw [rowL_get (by decide)] at q0 q1
 obtain ⟨a0, c0, h0⟩ := o0.sliced
 obtain ⟨a1, c1, h1⟩ := o1.sliced
 rw [h0] at q0 o0; rw [h1] at q1 o1
 have gl : gb < w3.heap.size := (rowOwn_tyb hrow rfl).2.2
 have HS0 := Lib.hid o0; have HS1 := Lib.hid o1
 clear hrow hel hF hz hSI hSR o0 o1 n0 v0 n1 v1 e0 e1 h0 h1 B3 b3 hA hxl hll ht2
 have b7 := (Below.refl w3.heap.size w3).alloc (Nat.le_refl _) (.cells #[.int .u64 1] 27)
 have l7 := own_lit1 w3 1
 have q1' := (b7.cell (p := ⟨gb, 1, none⟩) gl).trans q1
 go_wp2_with fail
 refine (ref9_Same _ _ [1] [1] true _ (HS0.out.next b7).sl l7.sl (by simp) (by simp) (decide_eq_true rfl).symm).mono ?_; rintro e w8 ⟨rfl, q8⟩
 have b8 := b7.trans (q8.below w3.heap.size)
 have HS1' := HS1.out.next b8
 have B5 := B4.trans (b8.mono B4.size)
 have q1'' := (q8.below _).cell (p := ⟨gb, 1, none⟩) (by have := b7.size; omega) |>.trans q1'
 clear HS0 HS1 l7 q0 q1 q1' b7 q8 b8 B4
 have b9 := (Below.refl w8.heap.size w8).alloc (Nat.le_refl _) (.cells #[.int .u64 1, .int .u64 0, .int .u64 1] 27)
 have l9 := own_lit101 w8
 go_wp2_with fail
 refine (ref9_Same _ _ [1, 0, 1] [1, 0, 1] true _ (HS1'.next b9).sl l9.sl (by simp) (by simp) (decide_eq_true rfl).symm).mono ?_; rintro e w10 ⟨rfl, q10⟩
 have FIN := Lib.hid (show LawOk w (.returned (.bool true)) w10 from ⟨rfl, (B5.trans (b9.mono B5.size)).trans (q10.below w.heap.size)⟩)
 clear HS1' q1'' l9 b9 q10 B5
 go_wp2
 go_ret
 exact FIN.out
end Go.Proofs.Ytkmfhabgempjiaa
/- Layer 24, plain: what the laws want. -/
namespace Go.Proofs.Ytkmfhabgempjiaa
set_option maxHeartbeats 4000000
open Go.RowKit
section
open CR
variable {p : Nat}
theorem ln_one1 (ht : Trial p) : Ln (1 : Pol (Zp p)) 1 :=
 ⟨fun i hi => by rw [Pol.one_def, c_mon, if_neg (by omega)], fun m hm => by
  obtain rfl : m = 0 := by omega
  rw [Pol.one_def, c_mon, if_pos rfl]; exact Zp.one_ne ht⟩
theorem inv_ln (tr : Trial p) {n : Nat} {A B : MT (Pol (Zp p)) n n} (h : Inv A B) : Ln A.det 1 := by
 have h1 := h.det
 obtain ⟨a, ha⟩ := Ln.exists A.det
 obtain ⟨b, hb⟩ := Ln.exists B.det
 have hne : (1 : Pol (Zp p)) ≠ 0 := (ln_one1 tr).ne
 have ha0 : A.det ≠ 0 := fun e => hne (by rw [← h1, e, zero_mul])
 have hb0 : B.det ≠ 0 := fun e => hne (by rw [← h1, e, mul_zero])
 obtain ⟨a, rfl⟩ := ha.pos ha0
 obtain ⟨b, rfl⟩ := hb.pos hb0
 have h2 := ha.mul tr hb
 rw [h1] at h2
 have h3 := h2.unique (ln_one1 tr)
 obtain rfl : a = 0 := by omega
 exact ha
theorem jdm {r c j : Nat} (hj : j < r * c) : j / c < r ∧ j % c < c ∧ j / c * c + j % c = j := by
 have hc : 0 < c := Nat.pos_of_ne_zero fun e => by rw [e, Nat.mul_zero] at hj; omega
 exact ⟨Nat.div_lt_of_lt_mul (by rwa [Nat.mul_comm] at hj), Nat.mod_lt _ hc, by rw [Nat.mul_comm]; exact Nat.div_add_mod j c⟩
theorem aT_at {c : Nat} (zs : List (List Nat)) {r j : Nat} (hj : j < r * c) : pl p (zs.getD j []) = aT p c zs (j / c) (j % c) := by
 show _ = pl p (zs.getD (j / c * c + j % c) [])
 rw [(jdm hj).2.2]
end
def lsq33 (t : Nat) : Nat := if t = 0 then 3 else if t = 1 then 7 else 127
theorem seq33 {r c : Nat} (hr : r ≤ 3) (hc : c ≤ 3) : SeqB r c lsq33 := by
 intro t h1 h2
 rcases (show t = 0 ∨ t = 1 ∨ t = 2 by omega) with rfl | rfl | rfl
 ·exact ⟨by decide, by decide, .inl ⟨by decide, by decide⟩⟩
 ·exact ⟨by decide, by decide, .inl ⟨by decide, by decide⟩⟩
 ·exact ⟨by decide, by decide, .inr ⟨by omega, by omega⟩⟩
theorem xf_Smith33 (p : Nat) (a : Value) (r c : Nat) (xs : List (List Nat)) (w : World) (hp : FP p) (ht : Trial p) (hA : Xm w a r c xs) (hr : r ≤ 3) (hc : c ≤ 3) (hx : xs.length = r * c) (hl : ∀ j, j < r * c → (xs.getD j []).length ≤ 3) :
  Calls Try.prog 19 #[.agg #[.int .u64 p], a] w (RetSm p w r c 255 (aT p c xs)) :=
 xf_Smith p a r c 3 255 xs w hp ht hA (by omega) (by omega) hx hl (by omega) (sms_seq ht (seq33 hr hc)) (fun W U V h1 h2 h3 => seq_start hl (by decide) h1 h2 h3) (fun t W U V hb => seq_fin (LM := 127) (fun t => by unfold lsq33; split <;> (try split) <;> omega) hb)
end Go.Proofs.Ytkmfhabgempjiaa
/- Layer 24, plain: Hermite's form of a matrix with ones behind it. -/
namespace Go.Proofs.Ytkmfhabgempjiaa
set_option maxHeartbeats 4000000
open Go.RowKit
section
open CR
variable {p : Nat}
theorem rd_off {r c L o : Nat} {W : (Nat → Nat → Pol (Zp p))} {zs : List (List Nat)} (h : ∀ j, j < r * c → Nrm p (zs.getD j []) ∧ pl p (zs.getD j []) = W (j / c) (o + j % c) ∧ (zs.getD j []).length ≤ L) {i k : Nat} (hi : i < r) (hk : k < c) : aT p c zs i k = W i (o + k) := by
 have h1 := (h (i * c + k) (at_lt rfl hi hk)).2.1
 show pl p (zs.getD (i * c + k) []) = _
 rw [h1, Nat.mul_comm, Nat.mul_add_div (by omega), Nat.div_eq_of_lt hk, Nat.mul_add_mod, Nat.mod_eq_of_lt hk, Nat.add_zero]
theorem her_split {r c : Nat} {A V : (Nat → Nat → Pol (Zp p))} (h : Rq r (c + r) (augM c A) V) : (∃ T', Inv (MT.of r r fun i k => V i (c + k)) T') ∧ ∀ i k, i < r → k < c → V i k = sm r fun s => V i (c + s) * A s k := by
 obtain ⟨T, T', hi, e⟩ := h
 have key : ∀ i k, i < r → k < c + r → V i k = sm r fun s => T.e i s * augM c A s k := fun i k hi hk => by
  have h1 : (MT.of r (c + r) V).e i k = V i k := MT.of_e _ hi hk
  rw [← h1, e, MT.e_mul]
  exact sm_congr fun s hs => by rw [MT.of_e _ hs hk]
 have hT : ∀ i k, i < r → k < r → V i (c + k) = T.e i k := fun i k hi hk => by
  rw [key i (c + k) hi (by omega), sm_one hk fun s hs hne => by
   unfold augM; rw [if_neg (by omega), if_neg (by omega), mul_zero]]
  unfold augM; rw [if_neg (by omega), if_pos (by omega), mul_one]
 refine ⟨⟨T', ?_⟩, fun i k hi hk => ?_⟩
 ·have : (MT.of r r fun i k => V i (c + k)) = T := MT.ext fun i k hi hk => by rw [MT.of_e _ hi hk]; exact hT i k hi hk
  rw [this]; exact hi
 ·rw [key i k hi (by omega)]
  exact sm_congr fun s hs => by
   rw [hT i s hi hs]; unfold augM; rw [if_pos hk]
theorem hbd3 {r : Nat} (hr : r ≤ 3) : 2 ^ hbd r r ≤ 64 := by
 rcases (show r = 0 ∨ r = 1 ∨ r = 2 ∨ r = 3 by omega) with rfl | rfl | rfl | rfl <;> decide
end
end Go.Proofs.Ytkmfhabgempjiaa
/- xform, plain: lengths behind Hermite, step by step. -/
namespace Go.Proofs.Ytkmfhabgempjiaa
set_option maxHeartbeats 4000000
open Go.RowKit
open CR
section
variable {p n c col top : Nat} {W V : (Nat → Nat → Pol (Zp p))}
theorem mix_lens (tr : Trial p) {i : Nat} {a b e d : Pol (Zp p)} (hd : a * d - b * e = 1) (h0 : mix2 V top i a b e d i col = 0) (hne : mix2 V top i a b e d top col ≠ 0) (hD : Dl a e) (hti : top ≠ i) {x y : Nat} (hx : (V top col).dlt (x + 1)) (hy : (V i col).dlt (y + 1)) : a.dlt y ∧ b.dlt (max x 1) ∧ e.dlt (y + 1) ∧ d.dlt (x + 1) := by
 rw [mix2_t V hti] at h0
 rw [mix2_s] at hne
 obtain ⟨g, eg⟩ : ∃ g, g = a * V top col + b * V i col := ⟨_, rfl⟩
 rw [← eg] at hne
 obtain ⟨k, ha, hk⟩ := hD
 obtain ⟨f, ef⟩ : ∃ f, f = V top col := ⟨_, rfl⟩
 obtain ⟨q, eq⟩ : ∃ q, q = V i col := ⟨_, rfl⟩
 rw [← ef] at hx; rw [← eq] at hy; rw [← ef, ← eq] at eg h0
 have e1 : f = d * g := by
  have h1 : d * g = (a * d - b * e) * f + b * (e * f + d * q) := by rw [eg]; exact by_ring [a, b, e, d, f, q] (X3 * (X0 * X4 + X1 * X5)) ((X0 * X3 - X1 * X2) * X4 + X1 * (X2 * X4 + X3 * X5)) rfl
  rw [h1, hd, h0, one_mul, mul_zero, add_zero]
 have e2 : q = -(e * g) := by
  have h1 : -(e * g) = (a * d - b * e) * q - a * (e * f + d * q) := by rw [eg]; exact by_ring [a, b, e, d, f, q] (-(X2 * (X0 * X4 + X1 * X5))) ((X0 * X3 - X1 * X2) * X5 - X0 * (X2 * X4 + X3 * X5)) rfl
  rw [h1, hd, h0, one_mul, mul_zero, sub_zero]
 obtain ⟨m, hm⟩ := Ln.exists g
 obtain ⟨m, rfl⟩ := hm.pos hne
 have h2 := hk.mul tr hm
 have h3 : (e * g).dlt (y + 1) := by have := dlt_neg hy; rw [e2, CR.neg_neg] at this; exact this
 have h4 := h2.le h3
 have hdd : d.dlt (x + 1) := by
  by_cases hd0 : d = 0
  ·rw [hd0]; exact dlt_zero _
  obtain ⟨j, hj⟩ := Ln.exists d
  obtain ⟨j, rfl⟩ := hj.pos hd0
  have h5 := (hj.mul tr hm).le (by rw [← e1]; exact hx)
  exact dlt_mono hj.1 (by omega)
 refine ⟨dlt_mono ha (by omega), ?_, dlt_mono hk.1 (by omega), hdd⟩
 by_cases hb0 : b = 0
 ·rw [hb0]; exact dlt_zero _
 obtain ⟨s, hs⟩ := Ln.exists b
 obtain ⟨s, rfl⟩ := hs.pos hb0
 have h5 : b * e = a * d - 1 := by rw [← hd]; exact by_ring [a * d, b * e] X1 (X0 - (X0 - X1)) rfl
 have h6 := hs.mul tr hk
 rw [h5] at h6
 have h7 : (1 : Pol (Zp p)).dlt 1 := by rw [Pol.one_def]; exact fun i hi => by rw [c_mon, if_neg (by omega)]
 have h8 := h6.le (dlt_sub (dlt_mono (mul_dlt1 ha hdd) (Nat.le_max_left _ 1)) (dlt_mono h7 (Nat.le_max_right (k + (x + 1) - 1) 1)))
 exact dlt_mono hs.1 (by omega)
def Bd (n c M : Nat) (β γ : List Nat) (V : (Nat → Nat → Pol (Zp p))) : Prop := ∀ r k, r < n → k < M → (V r k).dlt (if k < c then β.getD r 0 else γ.getD r 0)
theorem Bd.mono {M : Nat} {β γ β' γ' : List Nat} (h : Bd n c M β γ V) (e : ∀ r, r < n → β.getD r 0 ≤ β'.getD r 0 ∧ γ.getD r 0 ≤ γ'.getD r 0) : Bd n c M β' γ' V := fun r k hr hk => by
 have h1 := h r k hr hk
 have h2 := e r hr
 split
 ·rename_i h3; rw [if_pos h3] at h1; exact dlt_mono h1 h2.1
 ·rename_i h3; rw [if_neg h3] at h1; exact dlt_mono h1 h2.2
theorem Bd.mix (tr : Trial p) {M i : Nat} {β γ β' γ' : List Nat} (h : Bd n c M β γ V) {a b e d : Pol (Zp p)} (htn : top < n) (hi : top < i) (hin : i < n) (hcol : col < c) (hcM : c ≤ M) (hd : a * d - b * e = 1) (h0 : mix2 V top i a b e d i col = 0) (hne : mix2 V top i a b e d top col ≠ 0) (hD : Dl a e) {x y : Nat} (hx : β.getD top 0 = x + 1) (hy : β.getD i 0 = y + 1)
  (ho : ∀ r, r < n → r ≠ top → r ≠ i → β.getD r 0 ≤ β'.getD r 0 ∧ γ.getD r 0 ≤ γ'.getD r 0)
  (h1 : y + (x + 1) - 1 ≤ β'.getD top 0 ∧ max x 1 + (y + 1) - 1 ≤ β'.getD top 0) (h2 : y + γ.getD top 0 - 1 ≤ γ'.getD top 0 ∧ max x 1 + γ.getD i 0 - 1 ≤ γ'.getD top 0)
  (h3 : y + 1 + (x + 1) - 1 ≤ β'.getD i 0) (h4 : y + 1 + γ.getD top 0 - 1 ≤ γ'.getD i 0 ∧ x + 1 + γ.getD i 0 - 1 ≤ γ'.getD i 0) : Bd n c M β' γ' (mix2 V top i a b e d) := by
 have ht : ∀ r, r < n → (V r col).dlt (β.getD r 0) := fun r hr => by have := h r col hr (by omega); rwa [if_pos hcol] at this
 obtain ⟨l1, l2, l3, l4⟩ := mix_lens tr hd h0 hne hD (by omega) (by rw [← hx]; exact ht top htn) (by rw [← hy]; exact ht i hin)
 intro r k hr hk
 have b1 := h top k htn hk
 have b2 := h i k hin hk
 by_cases e1 : r = top
 ·rw [e1, mix2_s]
  split
  ·rename_i hc; rw [if_pos hc] at b1 b2
   rw [hx] at b1; rw [hy] at b2
   exact dlt_add (dlt_mono (mul_dlt1 l1 b1) h1.1) (dlt_mono (mul_dlt1 l2 b2) h1.2)
  ·rename_i hc; rw [if_neg hc] at b1 b2
   exact dlt_add (dlt_mono (mul_dlt1 l1 b1) h2.1) (dlt_mono (mul_dlt1 l2 b2) h2.2)
 by_cases e2 : r = i
 ·rw [e2, mix2_t V (by omega)]
  split
  ·rename_i hc; rw [if_pos hc] at b1 b2
   rw [hx] at b1; rw [hy] at b2
   exact dlt_add (dlt_mono (mul_dlt1 l3 b1) h3) (dlt_mono (mul_dlt1 l4 b2) (by omega))
  ·rename_i hc; rw [if_neg hc] at b1 b2
   exact dlt_add (dlt_mono (mul_dlt1 l3 b1) h4.1) (dlt_mono (mul_dlt1 l4 b2) h4.2)
 rw [mix2_o V e1 e2]
 have b3 := h r k hr hk
 obtain ⟨o1, o2⟩ := ho r hr e1 e2
 split
 ·rename_i hc; rw [if_pos hc] at b3; exact dlt_mono b3 o1
 ·rename_i hc; rw [if_neg hc] at b3; exact dlt_mono b3 o2
theorem Bd.scl {M : Nat} {β γ : List Nat} (h : Bd n c M β γ V) (u : Zp p) : Bd n c M β γ (scl V top (mon u 0)) := fun r k hr hk => by
 have h1 := h r k hr hk
 show (if r = top then V r k * mon u 0 else V r k).dlt _
 split
 ·have := mul_dlt1 h1 (fun i hi => by rw [c_mon, if_neg (by omega)] : (mon u 0 : Pol (Zp p)).dlt 1)
  exact dlt_mono this (by omega)
 ·exact h1
theorem jtr0 (tr : Trial p) {M : Nat} (hn : n ≤ 3) (hcol : col < c) (hcM : c ≤ M) (hW : Bd n c M [3, 3, 3] [1, 1, 1] W) {i : Nat} (h : JTr n col 0 W i V) : 1 ≤ i ∧ (i ≤ 3 → Bd n c M (if i = 1 then [3, 3, 3] else if i = 2 then [4, 5, 3] else [5, 5, 6]) (if i = 1 then [1, 1, 1] else if i = 2 then [2, 3, 1] else [3, 3, 4]) V) := by
 induction h with
 | start => exact ⟨by omega, fun _ => hW⟩
 | @skip i V h ih =>
  obtain ⟨h1, h2⟩ := ih
  refine ⟨by omega, fun h3 => ?_⟩
  have h4 := h2 (by omega)
  rcases (show i = 1 ∨ i = 2 by omega) with rfl | rfl
  ·exact h4.mono fun r hr => by rcases (show r = 0 ∨ r = 1 ∨ r = 2 by omega) with rfl | rfl | rfl <;> decide
  ·exact h4.mono fun r hr => by rcases (show r = 0 ∨ r = 1 ∨ r = 2 by omega) with rfl | rfl | rfl <;> decide
 | @mix i V a b e d h hi hin hd h0 hne hD ih =>
  obtain ⟨h1, h2⟩ := ih
  refine ⟨by omega, fun h3 => ?_⟩
  have h4 := h2 (by omega)
  rcases (show i = 1 ∨ i = 2 by omega) with rfl | rfl
  ·exact h4.mix tr (x := 2) (y := 2) (by omega) hi hin hcol hcM hd h0 hne hD rfl rfl (fun r hr e1 e2 => by rcases (show r = 2 by omega) with rfl; decide) (by decide) (by decide) (by decide) (by decide)
  ·exact h4.mix tr (x := 3) (y := 2) (by omega) hi hin hcol hcM hd h0 hne hD rfl rfl (fun r hr e1 e2 => by rcases (show r = 1 by omega) with rfl; decide) (by decide) (by decide) (by decide) (by decide)
theorem jtr1 (tr : Trial p) {M : Nat} (hn : n ≤ 3) (hcol : col < c) (hcM : c ≤ M) (hW : Bd n c M [5, 5, 6] [3, 3, 4] W) {i : Nat} (h : JTr n col 1 W i V) : 2 ≤ i ∧ (i ≤ 3 → Bd n c M (if i = 2 then [5, 5, 6] else [5, 9, 10]) (if i = 2 then [3, 3, 4] else [3, 7, 8]) V) := by
 induction h with
 | start => exact ⟨by omega, fun _ => hW⟩
 | @skip i V h ih =>
  obtain ⟨h1, h2⟩ := ih
  refine ⟨by omega, fun h3 => ?_⟩
  have h4 := h2 (by omega)
  obtain rfl : i = 2 := by omega
  exact h4.mono fun r hr => by rcases (show r = 0 ∨ r = 1 ∨ r = 2 by omega) with rfl | rfl | rfl <;> decide
 | @mix i V a b e d h hi hin hd h0 hne hD ih =>
  obtain ⟨h1, h2⟩ := ih
  refine ⟨by omega, fun h3 => ?_⟩
  have h4 := h2 (by omega)
  obtain rfl : i = 2 := by omega
  exact h4.mix tr (x := 4) (y := 5) (by omega) hi hin hcol hcM hd h0 hne hD rfl rfl (fun r hr e1 e2 => by rcases (show r = 0 by omega) with rfl; decide) (by decide) (by decide) (by decide) (by decide)
theorem rtr0 {M : Nat} {β γ : List Nat} (hW : Bd n c M β γ W) {i : Nat} (h : RTr col 0 W i V) : Bd n c M β γ V := by
 induction h with
 | start => exact hW.scl _
 | step _ hi => omega
theorem rtr1 (tr : Trial p) {M : Nat} (hn : n ≤ 3) (h1n : 1 < n) (hcol : col < c) (hcM : c ≤ M) (hW : Bd n c M [5, 9, 10] [3, 7, 8] W) {i : Nat} (h : RTr col 1 W i V) : (i = 0 → Bd n c M [5, 9, 10] [3, 7, 8] V) ∧ (i = 1 → Bd n c M [13, 9, 10] [11, 7, 8] V) ∧ i ≤ 1 := by
 induction h with
 | start => exact ⟨fun _ => hW.scl _, fun e => by omega, by omega⟩
 | @step i V q r h hi he hr hne ih =>
  obtain rfl : i = 0 := by omega
  refine ⟨fun e => by omega, fun _ => ?_, by omega⟩
  have h1 := ih.1 rfl
  have h2 : (V 0 col).dlt 5 := by have := h1 0 col (by omega) (by omega); rwa [if_pos hcol] at this
  obtain ⟨k, k1, k2⟩ := hr
  have h3 : (-q).dlt 5 := dlt_neg (dlt_mono (divq_dlt tr he h2 k2 hne (by rw [Nat.add_sub_cancel]; exact k1)) (by omega))
  intro r k hr hk
  have b1 := h1 0 k (by omega) hk
  have b2 := h1 1 k (by omega) hk
  have b3 := h1 r k hr hk
  by_cases e1 : r = 0
  ·rw [e1, mix2_s, one_mul]
   split
   ·rename_i hc; rw [if_pos hc] at b1 b2
    exact dlt_add (dlt_mono b1 (by decide)) (dlt_mono (mul_dlt1 h3 b2) (by decide))
   ·rename_i hc; rw [if_neg hc] at b1 b2
    exact dlt_add (dlt_mono b1 (by decide)) (dlt_mono (mul_dlt1 h3 b2) (by decide))
  have e2 : mix2 V 0 1 1 (-q) 0 1 r k = V r k := by
   by_cases e2 : r = 1
   ·rw [e2, mix2_t V (by omega), zero_mul, one_mul, zero_add]
   ·rw [mix2_o V e1 e2]
  rw [e2]
  rcases (show r = 1 ∨ r = 2 by omega) with rfl | rfl <;> exact b3
theorem ctr_bd (tr : Trial p) {M : Nat} (hn : n ≤ 3) (hcM : c ≤ M) (hW : Bd n c M [3, 3, 3] [1, 1, 1] W) (h : CTr n W col top V) : col ≤ c → top ≤ 2 → Bd n c M (if top = 0 then [3, 3, 3] else if top = 1 then [5, 5, 6] else [13, 9, 10]) (if top = 0 then [1, 1, 1] else if top = 1 then [3, 3, 4] else [11, 7, 8]) V := by
 induction h with
 | start => exact fun _ _ => hW
 | none _ ih => exact fun h1 h2 => ih (by omega) h2
 | @step col top V V1 V2 h htn hJ hR ih =>
  intro h1 h2
  have h3 := ih (by omega) (by omega)
  rcases (show top = 0 ∨ top = 1 by omega) with rfl | rfl
  ·obtain ⟨j1, j2⟩ := jtr0 tr hn (by omega) hcM h3 hJ
   refine rtr0 (Bd.mono (j2 hn) fun r hr => ?_) hR
   rcases (show n = 1 ∨ n = 2 ∨ n = 3 by omega) with rfl | rfl | rfl <;> rcases (show r = 0 ∨ r = 1 ∨ r = 2 by omega) with rfl | rfl | rfl <;> first | decide | omega
  ·obtain ⟨j1, j2⟩ := jtr1 tr hn (by omega) hcM h3 hJ
   refine (rtr1 tr hn htn (by omega) hcM (Bd.mono (j2 hn) fun r hr => ?_) hR).2.1 rfl
   rcases (show n = 2 ∨ n = 3 by omega) with rfl | rfl <;> rcases (show r = 0 ∨ r = 1 ∨ r = 2 by omega) with rfl | rfl | rfl <;> first | decide | omega
theorem ctr_u (tr : Trial p) {A : (Nat → Nat → Pol (Zp p))} (hn : n ≤ 3) (hA : ∀ i k, i < n → k < c → (A i k).dlt 3) (h : CTr n (augM c A) c top V) (ht : top ≤ 2) : ∀ i k, i < n → k < n → (V i (c + k)).dlt 11 := fun i k hi hk => by
 have h7 : (1 : Pol (Zp p)).dlt 1 := by rw [Pol.one_def]; exact fun i hi => by rw [c_mon, if_neg (by omega)]
 have h1 := ctr_bd tr (M := c + n) hn (by omega) (fun r k hr hk => ?_) h (Nat.le_refl _) ht i (c + k) hi (by omega)
 ·rw [if_neg (by omega)] at h1
  refine dlt_mono h1 ?_
  rcases (show top = 0 ∨ top = 1 ∨ top = 2 by omega) with rfl | rfl | rfl <;> rcases (show i = 0 ∨ i = 1 ∨ i = 2 by omega) with rfl | rfl | rfl <;> decide
 ·have e3 : ([3, 3, 3] : List Nat).getD r 0 = 3 ∧ ([1, 1, 1] : List Nat).getD r 0 = 1 := by rcases (show r = 0 ∨ r = 1 ∨ r = 2 by omega) with rfl | rfl | rfl <;> exact ⟨rfl, rfl⟩
  rw [e3.1, e3.2]
  unfold augM
  by_cases hc : k < c
  ·rw [if_pos hc, if_pos hc]; exact hA r k hr hc
  ·rw [if_neg hc, if_neg hc]
   split
   ·exact h7
   ·exact dlt_zero _
end
end Go.Proofs.Ytkmfhabgempjiaa
/- Plain algebra: the characteristic polynomial is monic, of the matrix's degree. -/
namespace Go.Proofs.Ytkmfhabgempjiaa
set_option maxHeartbeats 4000000
open CR
section
variable {R : Type} [CR R]
def esum : Nat → (Nat → Nat) → Nat
 | 0, _ => 0
 | n + 1, e => e 0 + esum n (fun i => e (i + 1))
theorem sm_dlt {f : Nat → Pol R} {m : Nat} : ∀ n, (∀ i, i < n → (f i).dlt m) → (sm n f).dlt m
 | 0, _ => dlt_zero m
 | n + 1, h => dlt_add (sm_dlt n fun i hi => h i (Nat.lt_succ_of_lt hi)) (h n (Nat.lt_succ_self n))
theorem sg_dlt {f : Pol R} {m k : Nat} (h : f.dlt m) : (sg k f).dlt m := by
 unfold sg; split
 ·exact dlt_neg h
 ·exact h
theorem dn_dlt : ∀ (n : Nat) (e : Nat → Nat) (A : Nat → Nat → Pol R), (∀ i j, i < n → j < n → (A i j).dlt (e i + 1)) → (dn n A).dlt (esum n e + 1)
 | 0, _, _, _ => fun i hi => by
  have : esum 0 ‹Nat → Nat› = 0 := rfl
  show (1 : Pol R).c i = 0
  rw [Pol.one_def, c_mon, if_neg (by omega)]
 | n + 1, e, A, h => by
  show (sm (n + 1) (fun k => sg k (A 0 k * dn n (mnr A k)))).dlt (e 0 + esum n (fun i => e (i + 1)) + 1)
  refine sm_dlt _ fun k hk => sg_dlt (mul_dlt' (h 0 k (by omega) hk) (dn_dlt n _ _ fun i j hi hj => ?_))
  unfold mnr
  exact h (i + 1) _ (by omega) (by split <;> omega)
end
end Go.Proofs.Ytkmfhabgempjiaa
/- xform, plain: lengths behind Hermite, where each row has a pivot. -/
namespace Go.Proofs.Ytkmfhabgempjiaa
set_option maxHeartbeats 4000000
open Go.RowKit
open CR
section
variable {R : Type} [CR R]
theorem dn1 (M : Nat → Nat → R) : dn 1 M = M 0 0 := by
 show (0 : R) + sg 0 (M 0 0 * 1) = M 0 0
 rw [zero_add, mul_one]; rfl
theorem dn_fst {n : Nat} (M : Nat → Nat → R) (h : ∀ a, a < n → M (1 + a) 0 = 0) : dn (1 + n) M = M 0 0 * dn n fun a b => M (1 + a) (1 + b) := by
  rw [dn_block 1 n M fun a b ha hb => by obtain rfl : b = 0 := by omega
                                         exact h a ha, dn1]
end
section
variable {p : Nat}
theorem her_pos {C : Nat} {P : List Nat} (h : Incr P C) (hC : C ≤ P.length) : ∀ t, t < P.length → P.getD t 0 = t := by
 have h1 : ∀ t, t < P.length → t ≤ P.getD t 0 := fun t => by
  induction t with
  | zero => exact fun _ => Nat.zero_le _
  | succ t ih => intro ht; have := ih (by omega); have := h.2 t (t + 1) (by omega) ht; omega
 have h2 : ∀ d t, t + d + 1 = P.length → P.getD t 0 ≤ t := fun d => by
  induction d with
  | zero => intro t ht; have := h.1 t (by omega); omega
  | succ d ih => intro t ht; have := ih (t + 1) (by omega); have := h.2 t (t + 1) (by omega) (by omega); omega
 exact fun t ht => Nat.le_antisymm (h2 (P.length - 1 - t) t (by omega)) (h1 t ht)
theorem her_u5 (tr : Trial p) {c : Nat} {A V : (Nat → Nat → Pol (Zp p))} {P : List Nat} (hA : ∀ i k, i < 3 → k < c → (A i k).dlt 3) (hc : c ≤ 3) (hH : HerI 3 c V P) (hP : P.length = 3) (hq : Rq 3 (c + 3) (augM c A) V) : ∀ i k, i < 3 → k < 3 → (V i (c + k)).dlt 5 := by
 have hc3 : c = 3 := by
  have h1 := hH.inc
  have h2 : ∀ t, t < P.length → t ≤ P.getD t 0 := fun t => by
   induction t with
   | zero => exact fun _ => Nat.zero_le _
   | succ t ih => intro ht; have := ih (by omega); have := h1.2 t (t + 1) (by omega) ht; omega
  have := h2 2 (by omega); have := h1.1 2 (by omega); omega
 subst hc3
 have hp := her_pos hH.inc (by omega)
 obtain ⟨⟨T', hI⟩, hV⟩ := her_split hq
 obtain ⟨l, hl⟩ : ∃ l : Nat → Nat, ∀ t, t < 3 → Ln (V t t) (l t + 1) := by
  refine ⟨fun t => pln (V t t) - 1, fun t ht => ?_⟩
  have h1 := hH.ne t (by omega)
  rw [hp t (by omega)] at h1
  have h2 := pln_ln (V t t)
  obtain ⟨m, hm⟩ := h2.pos h1
  show Ln (V t t) (pln (V t t) - 1 + 1)
  rw [show pln (V t t) - 1 + 1 = pln (V t t) by omega]; exact h2
 have hz : ∀ i k, i < 3 → k < i → V i k = 0 := fun i k hi hk => hH.zer i (by omega) k (by rw [hp i (by omega)]; exact hk)
 have hd : ∀ s t, s < t → t < 3 → (V s t).dlt (l t) := fun s t hst ht => by
  obtain ⟨d, k1, k2⟩ := hH.red s t hst (by omega)
  rw [hp t (by omega)] at k1 k2
  have := k2.unique (hl t ht)
  exact dlt_mono k1 (by omega)
 obtain ⟨δ, eδ⟩ : ∃ δ, δ = l 0 + l 1 + l 2 := ⟨_, rfl⟩
 have hVd : ∀ i k, i < 3 → k < 3 → (V i k).dlt (δ + 1) := fun i k hi hk => by
  have hlk : l k ≤ δ := by rcases (show k = 0 ∨ k = 1 ∨ k = 2 by omega) with rfl | rfl | rfl <;> omega
  rcases Nat.lt_trichotomy i k with h | h | h
  ·exact dlt_mono (hd i k h hk) (by omega)
  ·rw [h]; exact dlt_mono (hl k hk).1 (by omega)
  ·rw [hz i k hi h]; exact dlt_zero _
 have hdet : Ln (dn 3 V) (δ + 1) := by
  have e1 : dn 3 V = V 0 0 * (V 1 1 * V 2 2) := by
   rw [show (3 : Nat) = 1 + 2 from rfl, dn_fst V fun a ha => hz (1 + a) 0 (by omega) (by omega), show (2 : Nat) = 1 + 1 from rfl, dn_fst (n := 1) _ fun a ha => by
    obtain rfl : a = 0 := by omega
    exact hz 2 1 (by omega) (by omega), dn1]
  rw [e1, eδ, show l 0 + l 1 + l 2 + 1 = l 0 + (l 1 + l 2) + 1 by omega]
  exact (hl 0 (by omega)).mul tr ((hl 1 (by omega)).mul tr (hl 2 (by omega)))
 obtain ⟨U, eU⟩ : ∃ U : MT (Pol (Zp p)) 3 3, U = MT.of 3 3 fun i k => V i (3 + k) := ⟨_, rfl⟩
 rw [← eU] at hI
 have hU1 := inv_ln tr hI
 have eH : MT.of 3 3 V = U * MT.of 3 3 A := MT.ext fun i k hi hk => by
  rw [MT.of_e _ hi hk, hV i k hi hk, MT.e_mul]
  exact sm_congr fun s hs => by rw [eU, MT.of_e _ hi hs, MT.of_e _ hs hk]
 have eD : dn 3 V = U.det * (MT.of 3 3 A).det := by rw [← det_of, eH, MT.det_mul]
 obtain ⟨m, hm⟩ := Ln.exists (MT.of 3 3 A).det
 have hA0 : (MT.of 3 3 A).det ≠ 0 := fun e => hdet.ne (by rw [eD, e, mul_zero])
 obtain ⟨m, rfl⟩ := hm.pos hA0
 have hm2 : m = δ := by
  have h1 := hU1.mul (m := 0) tr hm
  rw [← eD] at h1
  have := h1.unique hdet
  omega
 subst hm2
 have hadj : ∀ j k, j < 3 → k < 3 → ((adj (MT.of 3 3 A)).e j k).dlt 5 := fun j k hj hk => by
  unfold adj
  rw [MT.of_e _ hj hk]
  have h1 := dn_dlt 3 (fun a => if a = k then 0 else 2) (upd (MT.of 3 3 A).e k (one1 j)) fun a b ha hb => by
   unfold upd
   by_cases e : a = k
   ·rw [if_pos e, if_pos e]
    unfold one1
    split
    ·rw [Pol.one_def]; exact fun i hi => by rw [c_mon, if_neg (by omega)]
    ·exact dlt_zero _
   ·rw [if_neg e, if_neg e, MT.of_e _ ha hb]; exact hA a b ha hb
  refine dlt_mono h1 ?_
  rcases (show k = 0 ∨ k = 1 ∨ k = 2 by omega) with rfl | rfl | rfl <;> decide
 intro i k hi hk
 have e2 : (MT.of 3 3 V * adj (MT.of 3 3 A)).e i k = U.e i k * (MT.of 3 3 A).det := by
  rw [eH, MT.mul_assoc, mul_adj, MT.mul_sc, MT.mul_one, MT.e_sc, mul_comm]
 have h1 : ((MT.of 3 3 V * adj (MT.of 3 3 A)).e i k).dlt (m + 5) := by
  rw [MT.e_mul]
  exact sm_dlt 3 fun j hj => by
   rw [MT.of_e _ hi hj]
   exact dlt_mono (mul_dlt1 (hVd i j hi hj) (hadj j k hj hk)) (by omega)
 rw [e2] at h1
 have e3 : V i (3 + k) = U.e i k := by rw [eU, MT.of_e _ hi hk]
 rw [e3]
 by_cases hu0 : U.e i k = 0
 ·rw [hu0]; exact dlt_zero _
 obtain ⟨s, hs⟩ := Ln.exists (U.e i k)
 obtain ⟨s, rfl⟩ := hs.pos hu0
 have := (hs.mul tr hm).le h1
 exact dlt_mono hs.1 (by omega)
theorem foi_u (tr : Trial p) {n c L top : Nat} {A V : (Nat → Nat → Pol (Zp p))} {P : List Nat} (hn : n ≤ 3) (hc : c ≤ 3) (hA : ∀ i k, i < n → k < c → (A i k).dlt 3) (h : FoI n (c + n) L c top (augM c A) V P) : ∀ i k, i < n → k < n → (V i (c + k)).dlt 11 := by
 by_cases ht : top ≤ 2
 ·exact ctr_u tr hn hA h.tr ht
 ·have h1 := h.her.len
  have h2 := h.len
  obtain rfl : n = 3 := by omega
  exact fun i k hi hk => dlt_mono (her_u5 tr hA hc h.her (by omega) h.rq i k hi hk) (by omega)
end
end Go.Proofs.Ytkmfhabgempjiaa
/- xform, plain: the steps of a place with a block of 2 by 2. -/
namespace Go.Proofs.Ytkmfhabgempjiaa
set_option maxHeartbeats 4000000
open Go.RowKit
open CR
def gam (E b : Nat) : Nat := b + E * min b E
theorem gam_mono {E a b : Nat} (h : a ≤ b) : gam E a ≤ gam E b := Nat.add_le_add h (Nat.mul_le_mul_left _ (by omega))
theorem gam_next {E b l : Nat} (h1 : 1 ≤ l) (hl : l ≤ b) : max E (b + 1) - l + gam E (l - 1) ≤ gam E b := by
 unfold gam
 by_cases h : E ≤ b + 1
 ·have h2 : E * min (l - 1) E ≤ E * min b E := Nat.mul_le_mul_left _ (by omega)
  omega
 ·have h2 : E * min (l - 1) E + E = E * l := by
   rw [show min (l - 1) E = l - 1 by omega]
   obtain ⟨k, rfl⟩ : ∃ k, l = k + 1 := ⟨l - 1, by omega⟩
   rw [Nat.add_sub_cancel, Nat.mul_add, Nat.mul_one]
  have h3 : E * l ≤ E * min b E := Nat.mul_le_mul_left _ (by omega)
  omega
section
variable {p t n m E LA LU LV b0 b l : Nat} {W U V : (Nat → Nat → Pol (Zp p))}
structure Q2 (t n m E LA LU LV b0 X b : Nat) (W U V : (Nat → Nat → Pol (Zp p))) : Prop where
 hb : b ≤ b0
 blk : ∀ a c, t ≤ a → a < n → t ≤ c → c < m → (W a c).dlt X
 out : ∀ a c, a < n → c < m → a < t ∨ c < t → (W a c).dlt LA
 mn : ∀ a c, t < a → a < n → t < c → c < m → (W t t * W a c - W t c * W a t).dlt E
 u : ∀ a c, a < n → c < n → (U a c).dlt (LU + (gam E b0 - gam E b))
 v : ∀ a c, a < m → c < m → (V a c).dlt (LV + 2 * (gam E b0 - gam E b))
def Q2B (t n m E LA LU LV b0 b : Nat) (W U V : (Nat → Nat → Pol (Zp p))) : Prop := Q2 t n m E LA LU LV b0 (max E (b + 1)) b W U V ∧ ((∀ a c, t ≤ a → a < n → t ≤ c → c < m → W a c = 0) ∨ ∃ a c, t ≤ a ∧ a < n ∧ t ≤ c ∧ c < m ∧ W a c ≠ 0 ∧ pln (W a c) ≤ b)
def Q2C (t n m E LA LU LV b0 b : Nat) (W U V : (Nat → Nat → Pol (Zp p))) : Prop := Q2 t n m E LA LU LV b0 (max E (b + 1)) b W U V ∧ W t t ≠ 0 ∧ pln (W t t) ≤ b
def Q2O (t n m E LA LU LV b0 b : Nat) (W U V : (Nat → Nat → Pol (Zp p))) : Prop := ∃ l, W t t ≠ 0 ∧ pln (W t t) = l ∧ l ≤ b ∧ b ≤ b0 ∧ (∀ a c, t ≤ a → a < n → t ≤ c → c < m → (W a c).dlt (max E l)) ∧ (∀ a c, a < n → c < m → a < t ∨ c < t → (W a c).dlt LA) ∧ (∀ a c, t < a → a < n → t < c → c < m → (W t t * W a c - W t c * W a t).dlt E) ∧
 (∀ a c, a < n → c < n → (U a c).dlt (LU + (gam E b0 - gam E b) + (max E (b + 1) - l))) ∧ (∀ a c, a < m → c < m → (V a c).dlt (LV + 2 * (gam E b0 - gam E b) + (max E (b + 1) - l))) ∧ ∀ a, a < m → (V a t).dlt (LV + 2 * (gam E b0 - gam E b))
theorem mn_adR {x : Pol (Zp p)} {a c i : Nat} (hi : a = i) (hta : t ≠ a) : adR W t i x t t * adR W t i x a c - adR W t i x t c * adR W t i x a t = W t t * W a c - W t c * W a t := by
 subst hi
 unfold adR
 rw [if_pos rfl, if_neg (show ¬ a = t from fun e => hta e.symm), if_pos rfl, if_neg (show ¬ a = t from fun e => hta e.symm)]
 exact by_ring [W t t, W t c, W a t, W a c, x] ((X0 + X4 * X2) * X3 - (X1 + X4 * X3) * X2) (X0 * X3 - X1 * X2) rfl
theorem mn_cl {q q' : Nat → Pol (Zp p)} {a c : Nat} (h1 : t < a) (h2 : a < n) (h3 : t < c) (h4 : c < m) : clC t m q' (clR t n q W) t t * clC t m q' (clR t n q W) a c - clC t m q' (clR t n q W) t c * clC t m q' (clR t n q W) a t = W t t * W a c - W t c * W a t := by
 rw [clC_t, clC_t, clR_t]
 unfold clC
 rw [if_pos ⟨h3, h4⟩, if_pos ⟨h3, h4⟩, clR_t, clR_t]
 unfold clR
 rw [if_pos ⟨h1, h2⟩, if_pos ⟨h1, h2⟩]
 exact by_ring [W t t, W t c, W a t, W a c, q a, q' c] (X0 * (X3 + -X4 * X1 + -X5 * (X2 + -X4 * X0)) - (X1 + -X5 * X0) * (X2 + -X4 * X0)) (X0 * X3 - X1 * X2) rfl
theorem mn_sw {a c i k : Nat} (ha : t ≤ a) (han : a < n) (hc : t ≤ c) (hcm : c < m) (hn : n ≤ t + 2) (hm : m ≤ t + 2) (h1 : t < i) (h2 : i < n) (h3 : t < k) (h4 : k < m) (h : (W t t * W i k - W t k * W i t).dlt E) : (swC (swR W t a) t c t t * swC (swR W t a) t c i k - swC (swR W t a) t c t k * swC (swR W t a) t c i t).dlt E := by
 obtain rfl : i = t + 1 := by omega
 obtain rfl : k = t + 1 := by omega
 have n1 : ¬ t + 1 = t := by omega
 have hneg : ∀ {f g : Pol (Zp p)}, f = -g → g.dlt E → f.dlt E := fun e h => by rw [e]; exact dlt_neg h
 rcases (show t = a ∨ t + 1 = a by omega) with rfl | rfl <;> rcases (show t = c ∨ t + 1 = c by omega) with rfl | rfl
 ·simp only [swC, swR, if_true, n1, if_false]; exact h
 ·simp only [swC, swR, if_true, n1, if_false]
  exact hneg (by_ring [W t t, W t (t + 1), W (t + 1) t, W (t + 1) (t + 1)] (X1 * X2 - X0 * X3) (-(X0 * X3 - X1 * X2)) rfl) h
 ·simp only [swC, swR, if_true, n1, if_false]
  exact hneg (by_ring [W t t, W t (t + 1), W (t + 1) t, W (t + 1) (t + 1)] (X2 * X1 - X3 * X0) (-(X0 * X3 - X1 * X2)) rfl) h
 ·simp only [swC, swR, if_true, n1, if_false]
  have e : W (t + 1) (t + 1) * W t t - W (t + 1) t * W t (t + 1) = W t t * W (t + 1) (t + 1) - W t (t + 1) * W (t + 1) t := by_ring [W t t, W t (t + 1), W (t + 1) t, W (t + 1) (t + 1)] (X3 * X0 - X2 * X1) (X0 * X3 - X1 * X2) rfl
  rw [e]; exact h
theorem Q2B.go (h : Q2B t n m E LA LU LV b0 b W U V) (hn : n ≤ t + 2) (hm : m ≤ t + 2) {a c : Nat} (ha : t ≤ a) (han : a < n) (hc : t ≤ c) (hcm : c < m) (hne : W a c ≠ 0) (hmin : ∀ i k, t ≤ i → i < n → t ≤ k → k < m → W i k ≠ 0 → pln (W a c) ≤ pln (W i k)) :
  Q2C t n m E LA LU LV b0 b (swC (swR W t a) t c) (swR U t a) (swC V t c) := by
 obtain ⟨h0, hl⟩ := h
 have htn : t < n := by omega
 have htm : t < m := by omega
 have rr : ∀ i, i < n → (if i = t then a else if i = a then t else i) < n := fun i hi => by split <;> (try split) <;> omega
 have cc : ∀ i, i < m → (if i = t then c else if i = c then t else i) < m := fun i hi => by split <;> (try split) <;> omega
 have eR : ∀ (X : (Nat → Nat → Pol (Zp p))) i k, swR X t a i k = X (if i = t then a else if i = a then t else i) k := fun X i k => by unfold swR; split <;> (try split) <;> rfl
 have eC : ∀ (X : (Nat → Nat → Pol (Zp p))) i k, swC X t c i k = X i (if k = t then c else if k = c then t else k) := fun X i k => by unfold swC; split <;> (try split) <;> rfl
 refine ⟨⟨h0.hb, fun i k i1 i2 k1 k2 => ?_, fun i k i1 k1 hik => ?_, fun i k i1 i2 k1 k2 => mn_sw ha han hc hcm hn hm i1 i2 k1 k2 (h0.mn i k i1 i2 k1 k2), fun i k hi hk => ?_, fun i k hi hk => ?_⟩, by rw [swp_tt]; exact hne, ?_⟩
 ·rw [eC, eR]; exact h0.blk _ _ (by split <;> (try split) <;> omega) (rr i i2) (by split <;> (try split) <;> omega) (cc k k2)
 ·rw [eC, eR]; exact h0.out _ _ (rr i i1) (cc k k1) (hik.elim (fun e => .inl (by split <;> (try split) <;> omega)) (fun e => .inr (by split <;> (try split) <;> omega)))
 ·rw [eR]; exact h0.u _ _ (rr i hi) hk
 ·rw [eC]; exact h0.v _ _ hi (cc k hk)
 ·rw [swp_tt]
  rcases hl with h4 | ⟨i, k, i1, i2, k1, k2, h5, h6⟩
  ·exact absurd (h4 a c ha han hc hcm) hne
  ·exact Nat.le_trans (hmin i k i1 i2 k1 k2 h5) h6
theorem cl_out (hI : SmI t n m W) (htn : t < n) (htm : t < m) {q q' : Nat → Pol (Zp p)} {a c : Nat} (ha : a < n) (hc : c < m) (h : a < t ∨ c < t) : clC t m q' (clR t n q W) a c = W a c := by
 have e1 : ∀ k, k < m → a < t ∨ k < t → clR t n q W a k = W a k := fun k hk h => by
  unfold clR
  split
  ·rename_i h1
   rw [hI.off t k htn hk (by omega) (.inr (by omega)), mul_zero, add_zero]
  ·rfl
 unfold clC
 split
 ·rename_i h1
  rw [e1 c hc h, e1 t htm (.inl (by omega)), hI.off a t ha htm (by omega) (.inl (by omega)), mul_zero, add_zero]
 ·exact e1 c hc h
theorem corner (tr : Trial p) {g x r r' D : Pol (Zp p)} (hg : Ln g l) (g0 : g ≠ 0) (hr : r.dlt (l - 1)) (hr' : r'.dlt (l - 1)) (hD : D.dlt E) (e : g * x - r' * r = D) : x.dlt (max E l) := by
 by_cases hx : x = 0
 ·rw [hx]; exact dlt_zero _
 obtain ⟨s, hs⟩ := Ln.exists x
 obtain ⟨s, rfl⟩ := hs.pos hx
 obtain ⟨k, rfl⟩ := hg.pos g0
 have e1 : g * x = D + r' * r := by rw [← e]; exact by_ring [g * x, r' * r] X0 (X0 - X1 + X1) rfl
 have h1 := hg.mul tr hs
 rw [e1] at h1
 have h2 := h1.le (dlt_add (dlt_mono hD (Nat.le_max_left E (k + k - 1))) (dlt_mono (mul_dlt1 hr' hr) (by rw [Nat.add_sub_cancel]; exact Nat.le_max_right _ _)))
 exact dlt_mono hs.1 (by omega)
end
end Go.Proofs.Ytkmfhabgempjiaa
/- xform, plain: Smith of c = u a: lengths. -/
namespace Go.Proofs.Ytkmfhabgempjiaa
set_option maxHeartbeats 4000000
open Go.RowKit
open CR
section
variable {p t n m E LA LU LV b0 b l : Nat} {W U V : (Nat → Nat → Pol (Zp p))}
theorem Q2C.dirty (tr : Trial p) (h : Q2C t n m E LA LU LV b0 b W U V) (htn : t < n) (htm : t < m) (hI : SmI t n m W) {q r q' r' : Nat → Pol (Zp p)} {L L' : Nat} (hD : ClD t n L (W t t) (fun a => W a t) q r) (hD' : ClD t m L' (W t t) (fun c => W t c) q' r')
  (hne : ¬ ((∀ a, t < a → a < n → r a = 0) ∧ ∀ c, t < c → c < m → r' c = 0)) : pln (W t t) - 1 < b ∧ Q2B t n m E LA LU LV b0 (pln (W t t) - 1) (clC t m q' (clR t n q W)) (clR t n q U) (clC t m q' V) := by
 obtain ⟨h0, g0, hlb⟩ := h
 obtain ⟨l, el⟩ : ∃ l, l = pln (W t t) := ⟨_, rfl⟩
 rw [← el] at hlb ⊢
 have hLn : Ln (W t t) l := by rw [el]; exact pln_ln _
 have hl1 : 1 ≤ l := Nat.pos_of_ne_zero fun e => g0 (pln_zero.1 (el.symm.trans e))
 have hbb := h0.hb
 have hgn := gam_next (E := E) hl1 hlb
 have hgm := gam_mono (E := E) hbb
 have hgl := gam_mono (E := E) (show l - 1 ≤ b by omega)
 obtain ⟨X, eX⟩ : ∃ X, X = max E (b + 1) := ⟨_, rfl⟩
 rw [← eX] at h0 hgn
 have hlX : l ≤ X := by omega
 have hq : ∀ a, t < a → a < n → (q a).dlt (X + 1 - l) := fun a h1 h2 => divq_dlt tr (hD.div a h1 h2) (h0.blk a t (by omega) h2 (Nat.le_refl _) htm) hLn g0 (hD.rlen hLn h1 h2)
 have hq' : ∀ c, t < c → c < m → (q' c).dlt (X + 1 - l) := fun c h1 h2 => divq_dlt tr (hD'.div c h1 h2) (h0.blk t c (Nat.le_refl _) htn (by omega) h2) hLn g0 (hD'.rlen hLn h1 h2)
 have emn : ∀ a c, t < a → a < n → t < c → c < m → clC t m q' (clR t n q W) t t * clC t m q' (clR t n q W) a c - clC t m q' (clR t n q W) t c * clC t m q' (clR t n q W) a t = W t t * W a c - W t c * W a t := fun a c h1 h2 h3 h4 => mn_cl h1 h2 h3 h4
 have e1 : ∀ a, t < a → a < n → clC t m q' (clR t n q W) a t = r a := fun a h1 h2 => by rw [clC_t, clR_at hD h1 h2]
 have e2 : ∀ c, t < c → c < m → clC t m q' (clR t n q W) t c = r' c := fun c h1 h2 => clC_at hD' q h1 h2
 have e3 : clC t m q' (clR t n q W) t t = W t t := by rw [clC_t, clR_t]
 refine ⟨by omega, ⟨by omega, fun a c h1 h2 h3 h4 => ?_, fun a c h1 h2 h3 => by rw [cl_out hI htn htm h1 h2 h3]; exact h0.out a c h1 h2 h3, fun a c h1 h2 h3 h4 => by rw [emn a c h1 h2 h3 h4]; exact h0.mn a c h1 h2 h3 h4, fun a c h1 h2 => ?_, fun a c h1 h2 => ?_⟩, .inr ?_⟩
 ·rw [show l - 1 + 1 = l by omega]
  by_cases ha : a = t
  ·by_cases hc : c = t
   ·rw [ha, hc, e3]; exact dlt_mono hLn.1 (Nat.le_max_right _ _)
   ·rw [ha, e2 c (by omega) h4]; exact dlt_mono (hD'.rlen hLn (by omega) h4) (by omega)
  ·by_cases hc : c = t
   ·rw [hc, e1 a (by omega) h2]; exact dlt_mono (hD.rlen hLn (by omega) h2) (by omega)
   ·have e4 := emn a c (by omega) h2 (by omega) h4
    rw [e3, e1 a (by omega) h2, e2 c (by omega) h4] at e4
    exact corner tr hLn g0 (hD.rlen hLn (by omega) h2) (hD'.rlen hLn (by omega) h4) (h0.mn a c (by omega) h2 (by omega) h4) e4
 ·unfold clR
  have h3 := h0.u a c h1 h2
  split
  ·rename_i h4
   exact dlt_add (dlt_mono h3 (by omega)) (dlt_mono (mul_dlt1 (dlt_neg (hq a h4.1 h4.2)) (h0.u t c htn h2)) (by omega))
  ·exact dlt_mono h3 (by omega)
 ·unfold clC
  have h3 := h0.v a c h1 h2
  split
  ·rename_i h4
   exact dlt_add (dlt_mono h3 (by omega)) (dlt_mono (mul_dlt1 (dlt_neg (hq' c h4.1 h4.2)) (h0.v a t h1 htm)) (by omega))
  ·exact dlt_mono h3 (by omega)
 ·have h5 : (∃ a, t < a ∧ a < n ∧ r a ≠ 0) ∨ ∃ c, t < c ∧ c < m ∧ r' c ≠ 0 := by
   apply Classical.byContradiction
   intro hno
   refine hne ⟨fun a h1 h2 => ?_, fun c h1 h2 => ?_⟩
   ·apply Classical.byContradiction
    intro h3; exact hno (.inl ⟨a, h1, h2, h3⟩)
   ·apply Classical.byContradiction
    intro h3; exact hno (.inr ⟨c, h1, h2, h3⟩)
  rcases h5 with ⟨a, a1, a2, a3⟩ | ⟨c, a1, a2, a3⟩
  ·exact ⟨a, t, by omega, a2, Nat.le_refl _, htm, by rw [e1 a a1 a2]; exact a3, by rw [e1 a a1 a2]; exact (pln_ln _).le (hD.rlen hLn a1 a2)⟩
  ·exact ⟨t, c, Nat.le_refl _, htn, by omega, a2, by rw [e2 c a1 a2]; exact a3, by rw [e2 c a1 a2]; exact (pln_ln _).le (hD'.rlen hLn a1 a2)⟩
theorem Q2C.clean (tr : Trial p) (h : Q2C t n m E LA LU LV b0 b W U V) (htn : t < n) (htm : t < m) (hI : SmI t n m W) {q r q' r' : Nat → Pol (Zp p)} {L L' : Nat} (hD : ClD t n L (W t t) (fun a => W a t) q r) (hD' : ClD t m L' (W t t) (fun c => W t c) q' r') (hz : ∀ a, t < a → a < n → r a = 0) (hz' : ∀ c, t < c → c < m → r' c = 0) :
  Q2O t n m E LA LU LV b0 b (clC t m q' (clR t n q W)) (clR t n q U) (clC t m q' V) := by
 obtain ⟨h0, g0, hlb⟩ := h
 obtain ⟨l, el⟩ : ∃ l, l = pln (W t t) := ⟨_, rfl⟩
 rw [← el] at hlb
 have hLn : Ln (W t t) l := by rw [el]; exact pln_ln _
 have hl1 : 1 ≤ l := Nat.pos_of_ne_zero fun e => g0 (pln_zero.1 (el.symm.trans e))
 obtain ⟨X, eX⟩ : ∃ X, X = max E (b + 1) := ⟨_, rfl⟩
 rw [← eX] at h0
 have hlX : l ≤ X := by omega
 have hq : ∀ a, t < a → a < n → (q a).dlt (X + 1 - l) := fun a h1 h2 => divq_dlt tr (hD.div a h1 h2) (h0.blk a t (by omega) h2 (Nat.le_refl _) htm) hLn g0 (hD.rlen hLn h1 h2)
 have hq' : ∀ c, t < c → c < m → (q' c).dlt (X + 1 - l) := fun c h1 h2 => divq_dlt tr (hD'.div c h1 h2) (h0.blk t c (Nat.le_refl _) htn (by omega) h2) hLn g0 (hD'.rlen hLn h1 h2)
 have emn : ∀ a c, t < a → a < n → t < c → c < m → clC t m q' (clR t n q W) t t * clC t m q' (clR t n q W) a c - clC t m q' (clR t n q W) t c * clC t m q' (clR t n q W) a t = W t t * W a c - W t c * W a t := fun a c h1 h2 h3 h4 => mn_cl h1 h2 h3 h4
 have e1 : ∀ a, t < a → a < n → clC t m q' (clR t n q W) a t = r a := fun a h1 h2 => by rw [clC_t, clR_at hD h1 h2]
 have e2 : ∀ c, t < c → c < m → clC t m q' (clR t n q W) t c = r' c := fun c h1 h2 => clC_at hD' q h1 h2
 have e3 : clC t m q' (clR t n q W) t t = W t t := by rw [clC_t, clR_t]
 refine ⟨l, by rw [e3]; exact g0, by rw [e3]; exact el.symm, hlb, h0.hb, fun a c h1 h2 h3 h4 => ?_, fun a c h1 h2 h3 => by rw [cl_out hI htn htm h1 h2 h3]; exact h0.out a c h1 h2 h3, fun a c h1 h2 h3 h4 => by rw [emn a c h1 h2 h3 h4]; exact h0.mn a c h1 h2 h3 h4, fun a c h1 h2 => ?_, fun a c h1 h2 => ?_, fun a ha => by rw [clC_t]; exact h0.v a t ha htm⟩
 ·by_cases ha : a = t
  ·by_cases hc : c = t
   ·rw [ha, hc, e3]; exact dlt_mono hLn.1 (Nat.le_max_right _ _)
   ·rw [ha, e2 c (by omega) h4, hz' c (by omega) h4]; exact dlt_zero _
  ·by_cases hc : c = t
   ·rw [hc, e1 a (by omega) h2, hz a (by omega) h2]; exact dlt_zero _
   ·have e4 := emn a c (by omega) h2 (by omega) h4
    rw [e3, e1 a (by omega) h2, e2 c (by omega) h4] at e4
    exact corner tr hLn g0 (hD.rlen hLn (by omega) h2) (hD'.rlen hLn (by omega) h4) (h0.mn a c (by omega) h2 (by omega) h4) e4
 ·rw [← eX]
  unfold clR
  have h3 := h0.u a c h1 h2
  split
  ·rename_i h4
   exact dlt_add (dlt_mono h3 (by omega)) (dlt_mono (mul_dlt1 (dlt_neg (hq a h4.1 h4.2)) (h0.u t c htn h2)) (by omega))
  ·exact dlt_mono h3 (by omega)
 ·rw [← eX]
  unfold clC
  have h3 := h0.v a c h1 h2
  split
  ·rename_i h4
   exact dlt_add (dlt_mono h3 (by omega)) (dlt_mono (mul_dlt1 (dlt_neg (hq' c h4.1 h4.2)) (h0.v a t h1 htm)) (by omega))
  ·exact dlt_mono h3 (by omega)
theorem Q2O.odd (tr : Trial p) (h : Q2O t n m E LA LU LV b0 b W U V) (htn : t < n) (htm : t < m) (hn : n ≤ t + 2) (hm : m ≤ t + 2) (hI : SmI t n m W) (hzr : ∀ a, t < a → a < n → W a t = 0) (hzc : ∀ c, t < c → c < m → W t c = 0) {i k : Nat} (i1 : t < i) (i2 : i < n) (k1 : t < k) (k2 : k < m) (hnd : ¬ Dv (W t t) (W i k)) {q r q' r' : Nat → Pol (Zp p)} {L L' : Nat}
  (hD : ClD t n L (adR W t i 1 t t) (fun a => adR W t i 1 a t) q r) (hD' : ClD t m L' (adR W t i 1 t t) (fun c => adR W t i 1 t c) q' r') : ∃ b', b' < b ∧ Q2B t n m E LA LU LV b0 b' (clC t m q' (clR t n q (adR W t i 1))) (clR t n q (adR U t i 1)) (clC t m q' V) := by
 obtain ⟨l, g0, el, hlb, hbb, hblk, hout, hmn, hu, hv, hvt⟩ := h
 have ett := adt hzr i1 i2
 have hLn0 : Ln (W t t) l := by rw [← el]; exact pln_ln _
 have hLn : Ln (adR W t i 1 t t) l := by rw [ett]; exact hLn0
 have ga0 : adR W t i 1 t t ≠ 0 := by rw [ett]; exact g0
 have hl1 : 1 ≤ l := Nat.pos_of_ne_zero fun e => g0 (pln_zero.1 (el.trans e))
 have hgn := gam_next (E := E) hl1 hlb
 have hgm := gam_mono (E := E) hbb
 have hgl := gam_mono (E := E) (show l - 1 ≤ b by omega)
 obtain rfl : i = t + 1 := by omega
 obtain rfl : k = t + 1 := by omega
 have hIa := hI.adR (i := t) (k := t + 1) (by omega) (Nat.le_refl _) (by omega) (by omega) i2 (by omega) 1
 have er : ∀ c, t < c → c < m → adR W t (t + 1) 1 t c = W (t + 1) c := fun c h1 h2 => by unfold adR; rw [if_pos rfl, hzc c h1 h2, one_mul, zero_add]
 have eo : ∀ a c, a ≠ t → adR W t (t + 1) 1 a c = W a c := fun a c ha => by unfold adR; rw [if_neg ha]
 have hq' : ∀ c, t < c → c < m → (q' c).dlt (max E l + 1 - l) := fun c h1 h2 => divq_dlt tr (hD'.div c h1 h2) (by rw [er c h1 h2]; exact hblk (t + 1) c (by omega) i2 (by omega) h2) hLn ga0 (hD'.rlen hLn h1 h2)
 have eR : ∀ X : (Nat → Nat → Pol (Zp p)), ∀ a c, clR t n q X a c = X a c := fun X a c => clR_same tr hD ga0 hLn (adz hzr) X a c
 have e1 : ∀ a, t < a → a < n → clC t m q' (clR t n q (adR W t (t + 1) 1)) a t = 0 := fun a h1 h2 => by rw [clC_t, eR, eo a t (by omega)]; exact hzr a h1 h2
 have e2 : ∀ c, t < c → c < m → clC t m q' (clR t n q (adR W t (t + 1) 1)) t c = r' c := fun c h1 h2 => clC_at hD' q h1 h2
 have e3 : clC t m q' (clR t n q (adR W t (t + 1) 1)) t t = W t t := by rw [clC_t, clR_t, ett]
 have e4 : ∀ a c, t < a → a < n → t < c → c < m → clC t m q' (clR t n q (adR W t (t + 1) 1)) a c = W a c := fun a c h1 h2 h3 h4 => by
  unfold clC
  rw [if_pos ⟨h3, h4⟩, eR, eR, eo a c (by omega), eo a t (by omega), hzr a h1 h2, mul_zero, add_zero]
 refine ⟨l - 1, by omega, ⟨by omega, fun a c h1 h2 h3 h4 => ?_, fun a c h1 h2 h3 => ?_, fun a c h1 h2 h3 h4 => ?_, fun a c h1 h2 => ?_, fun a c h1 h2 => ?_⟩, .inr ?_⟩
 ·rw [show l - 1 + 1 = l by omega]
  by_cases ha : a = t
  ·by_cases hc : c = t
   ·rw [ha, hc, e3]; exact hblk t t (Nat.le_refl _) htn (Nat.le_refl _) htm
   ·rw [ha, e2 c (by omega) h4]; exact dlt_mono (hD'.rlen hLn (by omega) h4) (by omega)
  ·by_cases hc : c = t
   ·rw [hc, e1 a (by omega) h2]; exact dlt_zero _
   ·rw [e4 a c (by omega) h2 (by omega) h4]; exact hblk a c h1 h2 h3 h4
 ·rw [cl_out hIa htn htm h1 h2 h3]
  unfold adR
  split
  ·rename_i ha
   rw [one_mul]
   exact dlt_add (hout t c htn h2 (.inr (by omega))) (hout (t + 1) c i2 h2 (.inr (by omega)))
  ·exact hout a c h1 h2 h3
 ·rw [mn_cl h1 h2 h3 h4, mn_adR (show a = t + 1 by omega) (by omega)]; exact hmn a c h1 h2 h3 h4
 ·rw [eR]
  unfold adR
  split
  ·rw [one_mul]
   exact dlt_add (dlt_mono (hu t c htn h2) (by omega)) (dlt_mono (hu (t + 1) c i2 h2) (by omega))
  ·exact dlt_mono (hu a c h1 h2) (by omega)
 ·unfold clC
  have h3 := hv a c h1 h2
  split
  ·rename_i h4
   exact dlt_add (dlt_mono h3 (by omega)) (dlt_mono (mul_dlt1 (dlt_neg (hq' c h4.1 h4.2)) (hvt a h1)) (by omega))
  ·exact dlt_mono h3 (by omega)
 ·have hr : r' (t + 1) ≠ 0 := fun e => hnd (by
   have h5 := hD'.div (t + 1) k1 k2
   rw [e, add_zero, ett] at h5
   exact ⟨q' (t + 1), by rw [← er (t + 1) k1 k2, h5, mul_comm]⟩)
  exact ⟨t, t + 1, Nat.le_refl _, htn, by omega, k2, by rw [e2 (t + 1) k1 k2]; exact hr, by rw [e2 (t + 1) k1 k2]; exact (pln_ln _).le (hD'.rlen hLn k1 k2)⟩
theorem q2_out {X Y GU GV : Nat} (hW : ∀ a c, t ≤ a → a < n → t ≤ c → c < m → (W a c).dlt X) (ho : ∀ a c, a < n → c < m → a < t ∨ c < t → (W a c).dlt LA) (hX : X ≤ Y) (hA : LA ≤ Y) (hU : ∀ a c, a < n → c < n → (U a c).dlt GU) (hV : ∀ a c, a < m → c < m → (V a c).dlt GV) : Bds n m Y GU GV W U V :=
 ⟨fun a c ha hc => by
  by_cases h : a < t ∨ c < t
  ·exact dlt_mono (ho a c ha hc h) hA
  ·exact dlt_mono (hW a c (by omega) ha (by omega) hc) hX, hU, hV⟩
theorem stp_two (tr : Trial p) (htn : t < n) (htm : t < m) (hn : n ≤ t + 2) (hm : m ≤ t + 2) {Y : Nat} (hY : max E (b0 + 1) ≤ Y) (hA : LA ≤ Y) (hY2 : Y ≤ 100000) (hLU : LU + gam E b0 ≤ 100000) (hLV : LV + 2 * gam E b0 ≤ 100000) :
  Stp p n m t (Q2B t n m E LA LU LV b0) (Q2C t n m E LA LU LV b0) (Q2O t n m E LA LU LV b0) (Bds n m Y (LU + gam E b0) (LV + 2 * gam E b0)) where
 no := fun ⟨h, _⟩ _ => q2_out h.blk h.out (by have := h.hb; omega) hA (fun a c h1 h2 => dlt_mono (h.u a c h1 h2) (by omega)) (fun a c h1 h2 => dlt_mono (h.v a c h1 h2) (by omega))
 go := fun h h1 h2 h3 h4 h5 h6 => Q2B.go h hn hm h1 h2 h3 h4 h5 h6
 cb := fun ⟨h, _, _⟩ => ⟨_, _, _, hY2, hLU, hLV, q2_out h.blk h.out (by have := h.hb; omega) hA (fun a c h1 h2 => dlt_mono (h.u a c h1 h2) (by omega)) (fun a c h1 h2 => dlt_mono (h.v a c h1 h2) (by omega))⟩
 dirty := fun h _ hI hD hD' hne => ⟨_, Q2C.dirty tr h htn htm hI hD hD' hne⟩
 clean := fun h _ hI hD hD' h1 h2 => Q2C.clean tr h htn htm hI hD hD' h1 h2
 ob := fun {b W U V} ⟨l, g0, el, hlb, hbb, hblk, hout, _, hu, hv, _⟩ => by
  have hl1 : 1 ≤ l := Nat.pos_of_ne_zero fun e => g0 (pln_zero.1 (el.trans e))
  have hgn := gam_next (E := E) hl1 hlb
  have hgm := gam_mono (E := E) hbb
  exact ⟨_, _, _, hY2, hLU, hLV, q2_out hblk hout (by omega) hA (fun a c h1 h2 => dlt_mono (hu a c h1 h2) (by omega)) (fun a c h1 h2 => dlt_mono (hv a c h1 h2) (by omega))⟩
 odd := fun h _ hI hzr hzc h1 h2 h3 h4 h5 hD hD' => Q2O.odd tr h htn htm hn hm hI hzr hzc h1 h2 h3 h4 h5 hD hD'
 fin := fun {b W U V} u ⟨l, g0, el, hlb, hbb, hblk, hout, _, hu, hv, _⟩ => by
  have hl1 : 1 ≤ l := Nat.pos_of_ne_zero fun e => g0 (pln_zero.1 (el.trans e))
  have hgn := gam_next (E := E) hl1 hlb
  have hgm := gam_mono (E := E) hbb
  have h1 : Bds n m Y (LU + gam E b0) (LV + 2 * gam E b0) W U V := q2_out hblk hout (by omega) hA (fun a c h1 h2 => dlt_mono (hu a c h1 h2) (by omega)) (fun a c h1 h2 => dlt_mono (hv a c h1 h2) (by omega))
  exact ⟨scl_dlt u h1.1, scl_dlt u h1.2.1, h1.2.2⟩
end
end Go.Proofs.Ytkmfhabgempjiaa
/- xform: Smith where the entries have 13 elements and the determinant 7; Hermite and how short u is. -/
namespace Go.Proofs.Ytkmfhabgempjiaa
set_option maxHeartbeats 4000000
open Go.RowKit
open CR
theorem dn2 {R : Type} [CR R] (M : Nat → Nat → R) : dn 2 M = M 1 1 * M 0 0 - M 1 0 * M 0 1 := by
 show 0 + sg 0 (M 0 0 * (0 + sg 0 (mnr M 0 0 0 * 1))) + sg 1 (M 0 1 * (0 + sg 0 (mnr M 1 0 0 * 1))) = _
 have a1 : mnr M 0 0 0 = M 1 1 := rfl
 have a2 : mnr M 1 0 0 = M 1 0 := rfl
 rw [a1, a2, sg_zero, sg_zero, sg_zero, sg_succ, sg_zero]
 exact by_ring [M 0 0, M 1 1, M 0 1, M 1 0] (0 + X0 * (0 + X1 * 1) + -(X2 * (0 + X3 * 1))) (X1 * X0 - X3 * X2) rfl
section
variable {p : Nat}
theorem sm_minor (tr : Trial p) {A : MT (Pol (Zp p)) 3 3} {U W V : (Nat → Nat → Pol (Zp p))} (hA : A.det.dlt 7) (hS : SmR A U W V) (hI : SmI 1 3 3 W) : (W 1 1 * W 2 2 - W 1 2 * W 2 1).dlt 7 := by
 obtain ⟨X, hX⟩ := hS.u
 obtain ⟨Y, hY⟩ := hS.v
 have l1 := inv_ln tr hX
 have l2 := inv_ln tr hY
 have e1 : dn 3 W = (MT.of 3 3 U).det * A.det * (MT.of 3 3 V).det := by rw [← det_of, hS.e, MT.det_mul, MT.det_mul]
 have h1 : (dn 3 W).dlt 7 := by rw [e1]; exact mul_dlt1 (mul_dlt1 l1.1 hA) l2.1
 have e2 : dn 3 W = W 0 0 * (W 1 1 * W 2 2 - W 1 2 * W 2 1) := by
  rw [show (3 : Nat) = 1 + 2 from rfl, dn_fst W fun a ha => hI.off (1 + a) 0 (by omega) (by omega) (by omega) (.inr (by omega)), dn2]
  exact by_ring [W 0 0, W 1 1, W 1 2, W 2 1, W 2 2] (X0 * (X4 * X1 - X3 * X2)) (X0 * (X1 * X4 - X2 * X3)) rfl
 by_cases h0 : W 0 0 = 0
 ·have hz : ∀ a b, a < 3 → b < 3 → W a b = 0 := fun a b ha hb => by
   obtain ⟨x, hx⟩ := hI.dv 0 (by omega) a b (by omega) ha (by omega) hb
   rw [hx, h0]
   first | exact mul_zero _ | exact zero_mul _
  rw [hz 1 1 (by omega) (by omega), hz 1 2 (by omega) (by omega), zero_mul, zero_mul, sub_zero]
  exact dlt_zero _
 by_cases hm : W 1 1 * W 2 2 - W 1 2 * W 2 1 = 0
 ·rw [hm]; exact dlt_zero _
 obtain ⟨k, hk⟩ := Ln.exists (W 0 0)
 obtain ⟨k, rfl⟩ := hk.pos h0
 obtain ⟨s, hs⟩ := Ln.exists (W 1 1 * W 2 2 - W 1 2 * W 2 1)
 obtain ⟨s, rfl⟩ := hs.pos hm
 have h2 := hk.mul tr hs
 rw [← e2] at h2
 have := h2.le h1
 exact dlt_mono hs.1 (by omega)
def lsA (t : Nat) : Nat := if t = 0 then 13 else if t = 1 then 8192 else 8193
def lsU (t : Nat) : Nat := if t = 0 then 1 else if t = 1 then 8193 else 16434
def lsV (t : Nat) : Nat := if t = 0 then 1 else if t = 1 then 16385 else 32867
theorem sms_one (tr : Trial p) {n m : Nat} (hn : n ≤ 3) (hm : m ≤ 3) {A : MT (Pol (Zp p)) n m} (hA : n = 3 → m = 3 → (dn 3 A.e).dlt 7) : SmS p n m A fun t W U V => Bds n m (lsA t) (lsU t) (lsV t) W U V := by
 intro t W U V htn htm hb hI hS
 rcases (show t = 0 ∨ t = 1 ∨ t = 2 by omega) with rfl | rfl | rfl
 ·refine ⟨_, _, _, _, 13, stp_pot (L0 := 13) (LU := 1) (LV := 1) (K := 8192) tr htn htm (by omega) (by omega) (by omega) (by omega), ⟨_, PlB.start hb.1 hb.2.1 hb.2.2 (.inl (by decide))⟩, ?_⟩
  rintro W' U' V' ⟨Lf, k1, k2, k3, k4, k5⟩
  exact ⟨fun a c ha hc => dlt_mono (k3 a c ha hc) (by show Lf ≤ 8192; omega), fun a c ha hc => dlt_mono (k4 a c ha hc) (by show _ ≤ 8193; omega), fun a c ha hc => dlt_mono (k5 a c ha hc) (by show _ ≤ 16385; omega)⟩
 ·have hg : gam 7 8192 = 8241 := by decide
  refine ⟨_, _, _, _, 8192, stp_two (E := 7) (b0 := 8192) (LA := 8192) (LU := 8193) (LV := 16385) (Y := 8193) tr htn htm (by omega) (by omega) (by decide) (by omega) (by omega) (by omega) (by omega), ⟨⟨Nat.le_refl _, fun a c _ ha _ hc => dlt_mono (hb.1 a c ha hc) (by decide), fun a c ha hc _ => hb.1 a c ha hc, fun a c h1 h2 h3 h4 => ?_, fun a c ha hc => dlt_mono (hb.2.1 a c ha hc) (Nat.le_add_right _ _), fun a c ha hc => dlt_mono (hb.2.2 a c ha hc) (Nat.le_add_right _ _)⟩, ?_⟩, ?_⟩
  ·obtain rfl : n = 3 := by omega
   obtain rfl : m = 3 := by omega
   obtain rfl : a = 2 := by omega
   obtain rfl : c = 2 := by omega
   exact sm_minor tr (hA rfl rfl) hS hI
  ·by_cases h : ∀ a c, 1 ≤ a → a < n → 1 ≤ c → c < m → W a c = 0
   ·exact .inl h
   ·right
    apply Classical.byContradiction
    intro hne
    refine h fun a c a1 a2 a3 a4 => ?_
    apply Classical.byContradiction
    intro hw
    exact hne ⟨a, c, a1, a2, a3, a4, hw, (pln_ln _).le (hb.1 a c a2 a4)⟩
  ·rintro W' U' V' ⟨k1, k2, k3⟩
   exact ⟨fun a c ha hc => k1 a c ha hc, fun a c ha hc => dlt_mono (k2 a c ha hc) (by rw [hg]; decide), fun a c ha hc => dlt_mono (k3 a c ha hc) (by rw [hg]; decide)⟩
 ·refine ⟨_, _, _, _, 8193, stp_pot (L0 := 8193) (LU := 16434) (LV := 32867) (K := 0) tr htn htm (by omega) (by omega) (by omega) (by omega), ⟨_, PlB.start hb.1 hb.2.1 hb.2.2 (.inr ⟨by omega, by omega⟩)⟩, ?_⟩
  rintro W' U' V' ⟨Lf, k1, k2, k3, k4, k5⟩
  obtain rfl : Lf = 8193 := by omega
  exact ⟨fun a c ha hc => k3 a c ha hc, fun a c ha hc => k4 a c ha hc, fun a c ha hc => k5 a c ha hc⟩
theorem xf_SmithC (p : Nat) (a : Value) (r c : Nat) (xs : List (List Nat)) (w : World) (hp : FP p) (ht : Trial p) (hA : Xm w a r c xs) (hr : r ≤ 3) (hc : c ≤ 3) (hx : xs.length = r * c) (hl : ∀ j, j < r * c → (xs.getD j []).length ≤ 13) (hd : r = 3 → c = 3 → (dn 3 (aT p c xs)).dlt 7) :
  Calls Try.prog 19 #[.agg #[.int .u64 p], a] w (RetSm p w r c 32867 (aT p c xs)) :=
 xf_Smith p a r c 13 32867 xs w hp ht hA (by omega) (by omega) hx hl (by omega) (sms_one ht hr hc fun e1 e2 => by
  subst e1; subst e2
  rw [dn_congr 3 (B := aT p 3 xs) fun i j hi hj => MT.of_e _ hi hj]; exact hd rfl rfl) (fun W U V h1 h2 h3 => by
  have d1 : (1 : Pol (Zp p)).dlt 1 := fun i hi => by rw [Pol.one_def, c_mon, if_neg (by omega)]
  refine ⟨fun i k hi hk => ?_, fun i k hi hk => ?_, fun i k hi hk => ?_⟩
  ·rw [h1 i k hi hk]
   exact fun j hj => pl_dlt p _ j (by have h4 := hl (i * c + k) (at_lt rfl hi hk); have h5 : lsA 0 = 13 := rfl; omega)
  ·rw [h2 i k hi hk]; split
   ·exact d1
   ·exact dlt_zero _
  ·rw [h3 i k hi hk]; split
   ·exact d1
   ·exact dlt_zero _) (fun t W U V hb => ⟨fun a c ha hc => dlt_mono (hb.1 a c ha hc) (by unfold lsA; split <;> (try split) <;> omega), fun a c ha hc => dlt_mono (hb.2.1 a c ha hc) (by unfold lsU; split <;> (try split) <;> omega), fun a c ha hc => dlt_mono (hb.2.2 a c ha hc) (by unfold lsV; split <;> (try split) <;> omega)⟩)
end
end Go.Proofs.Ytkmfhabgempjiaa
/- xform, plain: rows turned by a product with a unimodular matrix: the forms stay. -/
namespace Go.Proofs.Ytkmfhabgempjiaa
set_option maxHeartbeats 4000000
open Go.RowKit
open CR
section
variable {p n m : Nat}
theorem mt_prod {A C u : (Nat → Nat → Pol (Zp p))} (hC : ∀ i k, i < n → k < m → C i k = sm n fun s => u i s * A s k) : MT.of n m C = MT.of n n u * MT.of n m A := MT.ext fun i k hi hk => by
 rw [MT.of_e _ hi hk, hC i k hi hk, MT.e_mul]
 exact sm_congr fun s hs => by rw [MT.of_e _ hi hs, MT.of_e _ hs hk]
theorem mt_at {A B : (Nat → Nat → Pol (Zp p))} {M : MT (Pol (Zp p)) n n} (h : MT.of n m A = M * MT.of n m B) : ∀ i k, i < n → k < m → A i k = sm n fun s => M.e i s * B s k := fun i k hi hk => by
 have h1 : (MT.of n m A).e i k = A i k := MT.of_e _ hi hk
 rw [← h1, h, MT.e_mul]
 exact sm_congr fun s hs => by rw [MT.of_e _ hs hk]
theorem her_same (tr : Trial p) {A C VA VC u : (Nat → Nat → Pol (Zp p))} {PA PC : List Nat} {T : MT (Pol (Zp p)) n n} (hu : Inv (MT.of n n u) T) (hC : ∀ i k, i < n → k < m → C i k = sm n fun s => u i s * A s k) (hA1 : HerI n m VA PA) (hA2 : Rq n (m + n) (augM m A) VA) (hC1 : HerI n m VC PC) (hC2 : Rq n (m + n) (augM m C) VC) : ∀ i k, i < n → k < m → VA i k = VC i k := by
 obtain ⟨⟨TA, hTA⟩, eA⟩ := her_split hA2
 obtain ⟨⟨TC, hTC⟩, eC⟩ := her_split hC2
 have e1 := mt_prod hC
 have e2 := mt_prod (u := fun i k => VA i (m + k)) eA
 have e3 := mt_prod (u := fun i k => VC i (m + k)) eC
 obtain ⟨UA, hUA⟩ : ∃ UA, UA = MT.of n n fun i k => VA i (m + k) := ⟨_, rfl⟩
 obtain ⟨UC, hUC⟩ : ∃ UC, UC = MT.of n n fun i k => VC i (m + k) := ⟨_, rfl⟩
 obtain ⟨Mu, hMu⟩ : ∃ Mu, Mu = MT.of n n u := ⟨_, rfl⟩
 rw [← hUA] at hTA e2; rw [← hUC] at hTC e3; rw [← hMu] at hu e1
 have x1 : MT.of n m VA = (UA * (T * TC)) * MT.of n m VC := by
  rw [e3, e1, MT.mul_assoc, MT.mul_assoc, ← MT.mul_assoc TC, hTC.2, MT.one_mul, ← MT.mul_assoc T, hu.2, MT.one_mul]; exact e2
 have x2 : MT.of n m VC = (UC * (Mu * TA)) * MT.of n m VA := by
  rw [e2, MT.mul_assoc, MT.mul_assoc, ← MT.mul_assoc TA, hTA.2, MT.one_mul, ← e1]; exact e3
 exact (her_unique tr hA1 hC1 (mt_at x1) (mt_at x2)).2
theorem smi_off {t : Nat} {W : (Nat → Nat → Pol (Zp p))} (h : SmI t n m W) (hz : ∀ a b, t ≤ a → a < n → t ≤ b → b < m → W a b = 0) {i k : Nat} (hi : i < n) (hk : k < m) (hne : i ≠ k) : W i k = 0 := by
 by_cases e : i < t ∨ k < t
 ·exact h.off i k hi hk hne e
 ·exact hz i k (by omega) hi (by omega) hk
theorem smr_same (tr : Trial p) {A C u U W V U' W' V' : (Nat → Nat → Pol (Zp p))} {t t' : Nat} {T : MT (Pol (Zp p)) n n} (hu : Inv (MT.of n n u) T) (hC : ∀ i k, i < n → k < m → C i k = sm n fun s => u i s * A s k) (h : SmR (MT.of n m A) U W V) (h' : SmR (MT.of n m C) U' W' V') (hI : SmI t n m W) (hI' : SmI t' n m W') (htn : t ≤ n) (htm : t ≤ m) (htn' : t' ≤ n) (htm' : t' ≤ m) (hz : ∀ a b, t ≤ a → a < n → t ≤ b → b < m → W a b = 0) (hz' : ∀ a b, t' ≤ a → a < n → t' ≤ b → b < m → W' a b = 0) : ∀ i k, i < n → k < m → W i k = W' i k := by
 have e1 := mt_prod hC
 obtain ⟨X, hX⟩ := h'.u
 have h2 : SmR (MT.of n m A) (MT.of n n U' * MT.of n n u).e W' V' := by
  refine ⟨⟨T * X, ?_⟩, h'.v, ?_⟩
  ·rw [MT.of_self]; exact hX.mul hu
  ·rw [MT.of_self, h'.e, e1]; simp only [MT.mul_assoc]
 have hd := smi_unique tr h h2 hI hI' htn htm htn' htm' hz hz'
 intro i k hi hk
 by_cases e : i = k
 ·subst e; exact hd i hi hk
 ·rw [smi_off hI hz hi hk e, smi_off hI' hz' hi hk e]
theorem prod_len {A C u : (Nat → Nat → Pol (Zp p))} (hC : ∀ i k, i < n → k < m → C i k = sm n fun s => u i s * A s k) (hu : ∀ i k, i < n → k < n → (u i k).dlt 11) (hA : ∀ i k, i < n → k < m → (A i k).dlt 3) : ∀ i k, i < n → k < m → (C i k).dlt 13 := fun i k hi hk => by
 rw [hC i k hi hk]
 exact sm_dlt n fun s hs => mul_dlt1 (hu i s hi hs) (hA s k hs hk)
theorem prod_det (tr : Trial p) {A C u : (Nat → Nat → Pol (Zp p))} {T : MT (Pol (Zp p)) n n} (hu : Inv (MT.of n n u) T) (hC : ∀ i k, i < n → k < m → C i k = sm n fun s => u i s * A s k) (hA : ∀ i k, i < n → k < m → (A i k).dlt 3) : n = 3 → m = 3 → (dn 3 C).dlt 7 := fun e1 e2 => by
 subst e1; subst e2
 have h1 := mt_prod hC
 have h2 : dn 3 C = (MT.of 3 3 u).det * dn 3 A := by rw [← det_of 3 A, ← MT.det_mul, ← h1, det_of]
 have h3 : (dn 3 A).dlt 7 := dn_dlt 3 (fun _ => 2) A hA
 rw [h2]
 exact mul_dlt1 (inv_ln tr hu).1 h3
end
end Go.Proofs.Ytkmfhabgempjiaa
