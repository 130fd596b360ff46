/- xform: Smith's first reading; Smith of what is no matrix; divides. -/
import Derived.Test.YtkmfhabgempjiaaQjM12
import Derived.Test.YtkmfhabgempjiaaQjM16
import Derived.Test.YtkmfhabgempjiaaQjM7
import Derived.Test.YtkmfhabgempjiaaQjM9
import Derived.Test.YtkmfhabgempjiaaQjM6
import Derived.Test.YtkmfhabgempjiaaQjM8
namespace Go.Proofs.Ytkmfhabgempjiaa
set_option maxHeartbeats 2000000
open Go.RowKit
def SeqB (r c : Nat) (Ls : Nat → Nat) : Prop := ∀ t, t < r → t < c → Ls t ≤ Ls (t + 1) ∧ Ls t ≤ 32767 ∧ ((2 ^ Ls t ≤ Ls (t + 1) + 1 ∧ 2 ^ Ls t ≤ 32768) ∨ (t + 1 = r ∧ t + 1 = c))
theorem sms_seq {p r c : Nat} (tr : Trial p) {A : MT (Pol (Zp p)) r c} {Ls : Nat → Nat} (h : SeqB r c Ls) : SmS p r c A fun t W U V => Bds r c (Ls t) (1 + Ls t) (1 + 2 * Ls t) W U V := by
 intro t W U V htr htc hb hI _
 obtain ⟨h1, h2, h3⟩ := h t htr htc
 rcases h3 with ⟨h3, h4⟩ | h3
 ·refine ⟨_, _, _, _, Ls t, stp_pot (L0 := Ls t) (LU := 1 + Ls t) (LV := 1 + 2 * Ls t) (K := 2 ^ Ls t) tr htr htc (by omega) (by omega) ?_ ?_, ⟨_, PlB.start hb.1 hb.2.1 hb.2.2 (.inl (Nat.le_refl _))⟩, ?_⟩
  ·have : Ls t < 2 ^ Ls t := Nat.lt_two_pow_self
   omega
  ·have h5 : Ls t ≤ 15 := by
    apply Nat.le_of_not_lt
    intro h5
    have : 2 ^ 16 ≤ 2 ^ Ls t := Nat.pow_le_pow_right (by decide) h5
    omega
   omega
  ·rintro W' U' V' ⟨Lf, k1, k2, k3, k4, k5⟩
   have k6 : Lf ≤ Ls (t + 1) := by omega
   exact ⟨fun a c ha hc => dlt_mono (k3 a c ha hc) k6, fun a c ha hc => dlt_mono (k4 a c ha hc) (by omega), fun a c ha hc => dlt_mono (k5 a c ha hc) (by omega)⟩
 ·refine ⟨_, _, _, _, Ls t, stp_pot (L0 := Ls t) (LU := 1 + Ls t) (LV := 1 + 2 * Ls t) (K := 0) tr htr htc (by omega) (by omega) (by omega) (by omega), ⟨_, PlB.start hb.1 hb.2.1 hb.2.2 (.inr h3)⟩, ?_⟩
  rintro W' U' V' ⟨Lf, k1, k2, k3, k4, k5⟩
  have k6 : Lf ≤ Ls (t + 1) := by omega
  exact ⟨fun a c ha hc => dlt_mono (k3 a c ha hc) k6, fun a c ha hc => dlt_mono (k4 a c ha hc) (by omega), fun a c ha hc => dlt_mono (k5 a c ha hc) (by omega)⟩
def lsq4 (t : Nat) : Nat := if t = 0 then 2 else if t = 1 then 3 else if t = 2 then 7 else 127
theorem seq4 {r c : Nat} (hr : r ≤ 4) (hc : c ≤ 4) : SeqB r c lsq4 := by
 intro t h1 h2
 rcases (show t = 0 ∨ t = 1 ∨ t = 2 ∨ t = 3 by omega) with rfl | rfl | rfl | rfl
 ·exact ⟨by decide, by decide, .inl ⟨by decide, by decide⟩⟩
 ·exact ⟨by decide, by decide, .inl ⟨by decide, by decide⟩⟩
 ·exact ⟨by decide, by decide, .inl ⟨by decide, by decide⟩⟩
 ·exact ⟨by decide, by decide, .inr ⟨by omega, by omega⟩⟩
theorem seq_fin {p r c LM : Nat} {Ls : Nat → Nat} (h : ∀ t, Ls t ≤ LM) {t : Nat} {W U V : (Nat → Nat → Pol (Zp p))} (hb : Bds r c (Ls t) (1 + Ls t) (1 + 2 * Ls t) W U V) : Bds r c (1 + 2 * LM) (1 + 2 * LM) (1 + 2 * LM) W U V :=
 ⟨fun a c ha hc => dlt_mono (hb.1 a c ha hc) (by have := h t; omega), fun a c ha hc => dlt_mono (hb.2.1 a c ha hc) (by have := h t; omega), fun a c ha hc => dlt_mono (hb.2.2 a c ha hc) (by have := h t; omega)⟩
theorem seq_start {p r c L : Nat} {Ls : Nat → Nat} {xs : List (List Nat)} (hl : ∀ j, j < r * c → (xs.getD j []).length ≤ L) (hL : L ≤ Ls 0) {W U V : (Nat → Nat → Pol (Zp p))} (h1 : ∀ i k, i < r → k < c → W i k = aT p c xs i k) (h2 : ∀ i k, i < r → k < r → U i k = if i = k then 1 else 0) (h3 : ∀ i k, i < c → k < c → V i k = if i = k then 1 else 0) :
  Bds r c (Ls 0) (1 + Ls 0) (1 + 2 * Ls 0) W U V := by
 have d1 : (1 : Pol (Zp p)).dlt 1 := fun i hi => by rw [Pol.one_def, c_mon, if_neg (by omega)]
 refine ⟨fun i k hi hk => ?_, fun i k hi hk => ?_, fun i k hi hk => ?_⟩
 ·rw [h1 i k hi hk]
  exact fun j hj => pl_dlt p _ j (by have := hl (i * c + k) (at_lt rfl hi hk); omega)
 ·rw [h2 i k hi hk]; split
  ·exact dlt_mono d1 (by omega)
  ·exact dlt_zero _
 ·rw [h3 i k hi hk]; split
  ·exact dlt_mono d1 (by omega)
  ·exact dlt_zero _
theorem xf_Smith4P (p : Nat) (a : Value) (r c : Nat) (xs : List (List Nat)) (w : World) (hp : FP p) (ht : Trial p) (hA : Xm w a r c xs) (hr : r ≤ 4) (hc : c ≤ 4) (hx : xs.length = r * c) (hl : ∀ j, j < r * c → (xs.getD j []).length ≤ 2) :
  Calls Try.prog 19 #[.agg #[.int .u64 p], a] w (RetSmP p w r c 255 (aT p c xs) fun _ _ U _ => ∀ a b, a < r → b < r → (U a b).dlt 128) :=
 (xf_SmithP p a r c 2 255 xs w hp ht hA (by omega) (by omega) hx hl (by omega) (sms_seq ht (seq4 hr hc)) (fun W U V h1 h2 h3 => seq_start hl (by decide) h1 h2 h3) (fun t W U V hb => seq_fin (LM := 127) (fun t => by unfold lsq4; split <;> (try split) <;> (try split) <;> omega) hb)).mono fun _ _ ⟨t, W, U, V, ⟨s, hs⟩, h⟩ => ⟨t, W, U, V, ⟨s, fun a b ha hb => dlt_mono (hs.2.1 a b ha hb) (by unfold lsq4; split <;> (try split) <;> (try split) <;> omega)⟩, h⟩
end Go.Proofs.Ytkmfhabgempjiaa
/- What the laws of layer 23 say, plainly: values and determinants of products. -/
namespace Go.Proofs.Ytkmfhabgempjiaa
set_option maxHeartbeats 2000000
open Go.RowKit
section
variable {R S : Type} [CR R] [CR S]
end
section
variable {p : Nat}
theorem pl_cons' (x : Nat) (xs : List Nat) : pl p (x :: xs) = mon (Zp.of p x) 0 + mon 1 1 * pl p xs := Pol.ext fun i => by
 rw [Pol.c_add, c_mon1, c_mon, pl_c]
 cases i with
 | zero => simp [CR.add_zero]
 | succ i => simp [CR.zero_add, pl_c]
end
end Go.Proofs.Ytkmfhabgempjiaa
/- xform: awake. -/
namespace Go.Proofs.Ytkmfhabgempjiaa
set_option maxHeartbeats 2000000
open Go.RowKit
section
open CR
variable {p : Nat}
theorem pl_one (p : Nat) : pl p [1] = 1 := pl_sing1 p
end
theorem Blk.sl {w : World} {g : Nat} {xs : List Nat} (h : Blk 27 w g (vs .u64 xs)) : Sl .u64 w (.slice (some ⟨g, 0, none⟩) xs.length xs.length) xs :=
 ⟨_, g, 0, _, rfl, Nat.le_refl _, fun _ => rfl, fun j hj => by rw [Nat.zero_add, h.cell j]; exact vs_get .u64 xs j hj⟩
end Go.Proofs.Ytkmfhabgempjiaa
/- Layer 24, plain: what the laws want. -/
namespace Go.Proofs.Ytkmfhabgempjiaa
set_option maxHeartbeats 2000000
open Go.RowKit
section
open CR
variable {p : Nat}
theorem ln_one1 (ht : Trial p) : Ln (1 : Pol (Zp p)) 1 :=
 ⟨fun i hi => by rw [Pol.one_def, c_mon, if_neg (by omega)], fun m hm => by
  obtain rfl : m = 0 := by omega
  rw [Pol.one_def, c_mon, if_pos rfl]; exact Zp.one_ne ht⟩
theorem inv_ln (tr : Trial p) {n : Nat} {A B : MT (Pol (Zp p)) n n} (h : Inv A B) : Ln A.det 1 := by
 have h1 := h.det
 obtain ⟨a, ha⟩ := Ln.exists A.det
 obtain ⟨b, hb⟩ := Ln.exists B.det
 have hne : (1 : Pol (Zp p)) ≠ 0 := (ln_one1 tr).ne
 have ha0 : A.det ≠ 0 := fun e => hne (by rw [← h1, e, zero_mul])
 have hb0 : B.det ≠ 0 := fun e => hne (by rw [← h1, e, mul_zero])
 obtain ⟨a, rfl⟩ := ha.pos ha0
 obtain ⟨b, rfl⟩ := hb.pos hb0
 have h2 := ha.mul tr hb
 rw [h1] at h2
 have h3 := h2.unique (ln_one1 tr)
 obtain rfl : a = 0 := by omega
 exact ha
theorem rd_at {r c L : Nat} {W : (Nat → Nat → Pol (Zp p))} {zs : List (List Nat)} (h : ∀ j, j < r * c → Nrm p (zs.getD j []) ∧ pl p (zs.getD j []) = W (j / c) (0 + j % c) ∧ (zs.getD j []).length ≤ L) {i k : Nat} (hi : i < r) (hk : k < c) : aT p c zs i k = W i k := by
 have h1 := (h (i * c + k) (at_lt rfl hi hk)).2.1
 show pl p (zs.getD (i * c + k) []) = _
 rw [h1, Nat.mul_comm, Nat.mul_add_div (by omega), Nat.div_eq_of_lt hk, Nat.mul_add_mod, Nat.mod_eq_of_lt hk, Nat.add_zero, Nat.zero_add]
theorem jdm {r c j : Nat} (hj : j < r * c) : j / c < r ∧ j % c < c ∧ j / c * c + j % c = j := by
 have hc : 0 < c := Nat.pos_of_ne_zero fun e => by rw [e, Nat.mul_zero] at hj; omega
 exact ⟨Nat.div_lt_of_lt_mul (by rwa [Nat.mul_comm] at hj), Nat.mod_lt _ hc, by rw [Nat.mul_comm]; exact Nat.div_add_mod j c⟩
end
end Go.Proofs.Ytkmfhabgempjiaa
/- Layer 25, plain: columns of polynomials, read at a matrix. -/
namespace Go.Proofs.Ytkmfhabgempjiaa
set_option maxHeartbeats 2000000
open Go.RowKit
section
open CR
variable {R : Type} [CR R] {n m : Nat}
def phN (A : MT R n n) (B : MT (Pol R) n m) (N : Nat) : MT R n m := ms N fun t => A.pow t * cf B t
theorem phN_more (A : MT R n n) {B : MT (Pol R) n m} {N : Nat} (h : ∀ t, N ≤ t → cf B t = 0) : ∀ k, phN A B (N + k) = phN A B N
 | 0 => rfl
 | k + 1 => by
  show phN A B (N + k) + A.pow (N + k) * cf B (N + k) = _
  rw [h _ (by omega), MT.mul_zero, MT.add_zero, phN_more A h k]
noncomputable def ph (A : MT R n n) (B : MT (Pol R) n m) : MT R n m := phN A B (Classical.choose B.bound)
theorem ph_eq (A : MT R n n) {B : MT (Pol R) n m} {N : Nat} (h : ∀ t, N ≤ t → cf B t = 0) : ph A B = phN A B N := by
 have h0 := Classical.choose_spec B.bound
 unfold ph
 rw [← phN_more A h0 N, ← phN_more A h (Classical.choose B.bound), Nat.add_comm]
theorem cf_add (B C : MT (Pol R) n m) (t : Nat) : cf (B + C) t = cf B t + cf C t := MT.ext fun i k _ _ => by rw [cf_e, MT.e_add, MT.e_add, cf_e, cf_e, Pol.c_add]
theorem cf_zero (t : Nat) : cf (0 : MT (Pol R) n m) t = 0 := MT.ext fun _ _ _ _ => rfl
theorem ph_add (A : MT R n n) (B C : MT (Pol R) n m) : ph A (B + C) = ph A B + ph A C := by
 obtain ⟨N, hN⟩ := B.bound
 obtain ⟨M, hM⟩ := C.bound
 have h1 : ∀ t, N + M ≤ t → cf B t = 0 := fun t ht => hN t (by omega)
 have h2 : ∀ t, N + M ≤ t → cf C t = 0 := fun t ht => hM t (by omega)
 rw [ph_eq A h1, ph_eq A h2, ph_eq A (N := N + M) fun t ht => by rw [cf_add, h1 t ht, h2 t ht, MT.zero_add]]
 unfold phN
 rw [← ms_add]
 exact ms_congr fun t _ => by rw [cf_add, MT.mul_add]
theorem ph_zero (A : MT R n n) : ph A (0 : MT (Pol R) n m) = 0 := by
 rw [ph_eq A (N := 0) fun t _ => cf_zero t]; rfl
theorem ph_ms (A : MT R n n) (F : Nat → MT (Pol R) n m) : ∀ N, ph A (ms N F) = ms N fun j => ph A (F j)
 | 0 => ph_zero A
 | N + 1 => by
  show ph A (ms N F + F N) = ms N (fun j => ph A (F j)) + ph A (F N)
  rw [ph_add, ph_ms A F N]
theorem ph_XA (A : MT R n n) (B : MT (Pol R) n m) : ph A (XA A * B) = 0 := by
 have S : ∀ T, phN A (XA A * B) (T + 1) = -(A.pow (T + 1) * cf B T) := by
  intro T
  induction T with
  | zero =>
   show ms 0 _ + A.pow 0 * cf (XA A * B) 0 = _
   rw [cf_XA, if_pos rfl, MT.pow_succ, show A.pow 0 = MT.one n from rfl, MT.one_mul, MT.one_mul, MT.sub_eq]
   show 0 + (0 + -(A * cf B 0)) = _
   rw [MT.zero_add, MT.zero_add]
  | succ T ih =>
   show phN A (XA A * B) (T + 1) + A.pow (T + 1) * cf (XA A * B) (T + 1) = _
   rw [ih, cf_XA, if_neg (by omega), Nat.add_sub_cancel, MT.mul_sub, ← MT.mul_assoc, ← MT.pow_succ, MT.sub_eq, ← MT.add_assoc, MT.add_comm (-_), MT.add_neg, MT.zero_add]
 obtain ⟨N, hN⟩ := B.bound
 obtain ⟨M, hM⟩ := (XA A * B).bound
 rw [ph_eq A (N := N + M + 1) fun t ht => hM t (by omega), S, hN _ (by omega), MT.mul_zero]
 exact MT.zero_of fun i k _ _ => by rw [MT.e_neg, MT.e_zero, neg_zero]
def cstP (W : MT R n m) : MT (Pol R) n m := MT.of n m fun i k => mon (W.e i k) 0
theorem cf_cstP (W : MT R n m) (t : Nat) : cf (cstP W) t = if t = 0 then W else 0 := MT.ext fun i k hi hk => by
 rw [cf_e]
 unfold cstP
 rw [MT.of_e _ hi hk, c_mon]
 split
 ·rfl
 ·rfl
theorem ph_cstP (A : MT R n n) (W : MT R n m) : ph A (cstP W) = W := by
 rw [ph_eq A (N := 1) fun t ht => by rw [cf_cstP, if_neg (by omega)]]
 show ms 0 _ + A.pow 0 * cf (cstP W) 0 = W
 rw [cf_cstP, if_pos rfl, show A.pow 0 = MT.one n from rfl, MT.one_mul]
 exact MT.zero_add W
def pwm (W : MT R n m) (k : Nat) : MT (Pol R) n m := MT.of n m fun i j => mon (W.e i j) k
theorem cf_pwm (W : MT R n m) (k t : Nat) : cf (pwm W k) t = if t = k then W else 0 := MT.ext fun i j hi hj => by
 rw [cf_e]
 unfold pwm
 rw [MT.of_e _ hi hj, c_mon]
 split
 ·rfl
 ·rfl
theorem cf_inj {B C : MT (Pol R) n m} (h : ∀ t, cf B t = cf C t) : B = C := MT.ext fun i k _ _ => Pol.ext fun t => by
 have := congrArg (fun M : MT R n m => M.e i k) (h t)
 exact this
theorem cf_sub (B C : MT (Pol R) n m) (t : Nat) : cf (B - C) t = cf B t - cf C t := MT.ext fun i k _ _ => by rw [cf_e, MT.e_sub, MT.e_sub, cf_e, cf_e, Pol.c_sub]
theorem ph_div (A : MT R n n) : ∀ (N : Nat) (B : MT (Pol R) n m), (∀ t, N ≤ t → cf B t = 0) → ∃ C : MT (Pol R) n m, B = XA A * C + cstP (ph A B)
 | 0, B, h => ⟨0, by
   have e : B = 0 := cf_inj fun t => by rw [h t (by omega), cf_zero]
   rw [e, MT.mul_zero, MT.zero_add, ph_zero]
   exact MT.ext fun i k hi hk => by unfold cstP; rw [MT.of_e _ hi hk, MT.e_zero, MT.e_zero, mon_zero]⟩
 | 1, B, h => ⟨0, by
   have e : B = cstP (cf B 0) := cf_inj fun t => by
    rw [cf_cstP]; split
    ·rename_i h1; rw [h1]
    ·exact h t (by omega)
   have e2 : ph A B = cf B 0 := by rw [e, ph_cstP, ← e]
   rw [MT.mul_zero, MT.zero_add, e2]; exact e⟩
 | N + 2, B, h => by
  obtain ⟨D, eD⟩ : ∃ D : MT (Pol R) n m, D = pwm (cf B (N + 1)) N := ⟨_, rfl⟩
  obtain ⟨B1, eB⟩ : ∃ B1, B1 = B - XA A * D := ⟨_, rfl⟩
  have h1 : ∀ t, N + 1 ≤ t → cf B1 t = 0 := fun t ht => by
   have h2 : cf D t = 0 := by rw [eD, cf_pwm, if_neg (by omega)]
   have h3 : cf D (t - 1) = cf B t := by
    rw [eD, cf_pwm]
    by_cases e : t = N + 1
    ·subst e; rw [if_pos (by omega)]
    ·rw [if_neg (by omega), h t (by omega)]
   rw [eB, cf_sub, cf_XA, if_neg (by omega), h2, h3, MT.mul_zero]
   exact MT.ext fun i k _ _ => by
    rw [MT.e_sub, MT.e_sub, MT.e_zero]
    exact by_ring [(cf B t).e i k] (X0 - (X0 - 0)) 0 rfl
  obtain ⟨C1, hC⟩ := ph_div A (N + 1) B1 h1
  have e1 : B = B1 + XA A * D := by rw [eB, MT.sub_add_cancel]
  have e2 : ph A B = ph A B1 := by rw [e1, ph_add, ph_XA, MT.add_zero]
  refine ⟨C1 + D, ?_⟩
  rw [e2, MT.mul_add]
  calc B = B1 + XA A * D := e1
   _ = XA A * C1 + cstP (ph A B1) + XA A * D := by rw [← hC]
   _ = _ := by rw [MT.add_assoc, MT.add_comm (cstP _), ← MT.add_assoc]
theorem ph_ker {A : MT R n n} {B : MT (Pol R) n m} (h : ph A B = 0) : ∃ C : MT (Pol R) n m, B = XA A * C := by
 obtain ⟨N, hN⟩ := B.bound
 obtain ⟨C, hC⟩ := ph_div A N B hN
 refine ⟨C, ?_⟩
 rw [h] at hC
 have e : cstP (0 : MT R n m) = 0 := MT.ext fun i k hi hk => by unfold cstP; rw [MT.of_e _ hi hk, MT.e_zero, MT.e_zero, mon_zero]
 rwa [e, MT.add_zero] at hC
theorem cf_sc_mon (a : R) (k : Nat) (B : MT (Pol R) n m) (t : Nat) : cf (B.sc (mon a k)) t = if k ≤ t then (cf B (t - k)).sc a else 0 := MT.ext fun i j _ _ => by
 rw [cf_e, MT.e_sc, Pol.c_mul]
 by_cases h : k ≤ t
 ·rw [if_pos h, sm_one (k := k) (by omega) (fun s _ hs => by rw [c_mon, if_neg hs, zero_mul]), c_mon, if_pos rfl, MT.e_sc, cf_e]
 ·rw [if_neg h, MT.e_zero]
  exact sm_zero' fun s hs => by rw [c_mon, if_neg (by omega), zero_mul]
theorem ph_sc_mon (A : MT R n n) (a : R) (k : Nat) (B : MT (Pol R) n m) : ph A (B.sc (mon a k)) = (A.pow k * ph A B).sc a := by
 obtain ⟨N, hN⟩ := B.bound
 rw [ph_eq A (N := k + N) fun t ht => by
  rw [cf_sc_mon, if_pos (by omega), hN _ (by omega), MT.sc_zero], ph_eq A hN]
 have key : ∀ M, phN A (B.sc (mon a k)) (k + M) = (A.pow k * phN A B M).sc a := by
  intro M
  induction M with
  | zero =>
   show ms k _ = MT.sc a (A.pow k * (0 : MT R n m))
   rw [ms_zero fun t ht => by rw [cf_sc_mon, if_neg (by omega), MT.mul_zero]]
   rw [MT.mul_zero, MT.sc_zero]
  | succ M ih =>
   show phN A (B.sc (mon a k)) (k + M) + A.pow (k + M) * cf (B.sc (mon a k)) (k + M) = (A.pow k * (phN A B M + A.pow M * cf B M)).sc a
   rw [ih, cf_sc_mon, if_pos (by omega), Nat.add_sub_cancel_left, MT.mul_add, MT.sc_add, MT.mul_sc, MT.pow_add, MT.mul_assoc]
 exact key N
theorem pol_sum (f : Pol R) {N : Nat} (h : f.dlt N) : f = sm N fun i => mon (f.c i) i := Pol.ext fun t => by
 rw [sm_c]
 by_cases ht : t < N
 ·rw [sm_one (k := t) ht fun j _ hj => by rw [c_mon, if_neg (fun e => hj e.symm)], c_mon, if_pos rfl]
 ·rw [h t (by omega), sm_zero' fun j hj => by rw [c_mon, if_neg (by omega)]]
theorem sm_sc (f : Nat → Pol R) (B : MT (Pol R) n m) : ∀ N, B.sc (sm N f) = ms N fun i => B.sc (f i)
 | 0 => MT.zero_sc B
 | N + 1 => by
  show B.sc (sm N f + f N) = ms N (fun i => B.sc (f i)) + B.sc (f N)
  rw [MT.add_sc, sm_sc f B N]
theorem ph_sc (A : MT R n n) (f : Pol R) (B : MT (Pol R) n m) : ph A (B.sc f) = pev f A * ph A B := by
 obtain ⟨N, hN⟩ := f.fin
 have hd : f.dlt N := fun i hi => hN i hi
 rw [pev_col hd]
 conv => lhs; rw [pol_sum f hd]
 rw [sm_sc, ph_ms]
 exact ms_congr fun i _ => ph_sc_mon A (f.c i) i B
def cl {S : Type} [CR S] {n m : Nat} (B : MT S n m) (k : Nat) : MT S n 1 := MT.of n 1 fun i _ => B.e i k
end
end Go.Proofs.Ytkmfhabgempjiaa
/- Layer 25, plain: a basis of columns and their images; Frobenius' form. -/
namespace Go.Proofs.Ytkmfhabgempjiaa
set_option maxHeartbeats 2000000
open Go.RowKit
section
open CR
variable {p n : Nat}
theorem ms_head {R : Type} [CR R] {n m : Nat} (f : Nat → MT R n m) : ∀ N, ms (N + 1) f = f 0 + ms N fun j => f (j + 1)
 | 0 => by show 0 + f 0 = f 0 + 0; rw [MT.zero_add, MT.add_zero]
 | N + 1 => by
  show ms (N + 1) f + f (N + 1) = f 0 + (ms N (fun j => f (j + 1)) + f (N + 1))
  rw [ms_head f N, MT.add_assoc]
theorem ms_cat {R : Type} [CR R] {n m : Nat} (f : Nat → MT R n m) (a : Nat) : ∀ b, ms (a + b) f = ms a f + ms b fun j => f (a + j)
 | 0 => (MT.add_zero _).symm
 | b + 1 => by
  show ms (a + b) f + f (a + b) = ms a f + (ms b (fun j => f (a + j)) + f (a + b))
  rw [ms_cat f a b, MT.add_assoc]
theorem cl_e {S : Type} [CR S] {n m : Nat} (B : MT S n m) {i k : Nat} (hi : i < n) : (cl B k).e i 0 = B.e i k := MT.of_e _ hi (by omega)
theorem mt1_ext {S : Type} [CR S] {n : Nat} {B C : MT S n 1} (h : ∀ i, i < n → B.e i 0 = C.e i 0) : B = C := MT.ext fun i k hi hk => by
 obtain rfl : k = 0 := by omega
 exact h i hi
theorem smith_cols {A : MT (Zp p) n n} {U W V : (Nat → Nat → Pol (Zp p))} {X : MT (Pol (Zp p)) n n} (h : SmR (XA A) U W V) (hX : Inv (MT.of n n U) X) (hoff : ∀ i k, i < n → k < n → i ≠ k → W i k = 0) {k : Nat} (hk : k < n) : (cl X k).sc (W k k) = XA A * cl (MT.of n n V) k := by
 have e : X * MT.of n n W = XA A * MT.of n n V := by rw [h.e, MT.mul_assoc, ← MT.mul_assoc, hX.2, MT.one_mul]
 refine mt1_ext fun i hi => ?_
 have e1 := congrArg (fun M : MT (Pol (Zp p)) n n => M.e i k) e
 have e2 : (X * MT.of n n W).e i k = X.e i k * W k k := by
  rw [MT.e_mul, sm_one hk fun j hj hne => by rw [MT.of_e _ hj hk, hoff j k hj hk hne, mul_zero], MT.of_e _ hk hk]
 have e3 : (XA A * cl (MT.of n n V) k).e i 0 = (XA A * MT.of n n V).e i k := by
  rw [MT.e_mul, MT.e_mul]
  exact sm_congr fun j hj => by rw [cl_e _ hj]
 rw [MT.e_sc, cl_e _ hi, mul_comm, ← e2, e3]
 exact e1
theorem smith_kill {A : MT (Zp p) n n} {U W V : (Nat → Nat → Pol (Zp p))} {X : MT (Pol (Zp p)) n n} (h : SmR (XA A) U W V) (hX : Inv (MT.of n n U) X) (hoff : ∀ i k, i < n → k < n → i ≠ k → W i k = 0) {k : Nat} (hk : k < n) : pev (W k k) A * ph A (cl X k) = 0 := by
 rw [← ph_sc, smith_cols h hX hoff hk, ph_XA]
theorem mul_cols {S : Type} [CR S] {n m : Nat} (X : MT S n m) (F : MT S m 1) : X * F = ms m fun k => (cl X k).sc (F.e k 0) := mt1_ext fun i hi => by
 rw [MT.e_mul, ms_e]
 exact sm_congr fun k _ => by rw [MT.e_sc, cl_e _ hi, mul_comm]
theorem smith_span {A : MT (Zp p) n n} {U : (Nat → Nat → Pol (Zp p))} {X : MT (Pol (Zp p)) n n} (hX : Inv (MT.of n n U) X) (w : MT (Zp p) n 1) : ∃ f : Nat → Pol (Zp p), w = ms n fun k => pev (f k) A * ph A (cl X k) := by
 refine ⟨fun k => (MT.of n n U * cstP w).e k 0, ?_⟩
 have e : cstP w = ms n fun k => (cl X k).sc ((MT.of n n U * cstP w).e k 0) := by
  rw [← mul_cols, ← MT.mul_assoc, hX.2, MT.one_mul]
 have e2 := congrArg (ph A) e
 rw [ph_cstP, ph_ms] at e2
 rw [e2]
 exact ms_congr fun k _ => by rw [ph_sc, ← e2]
theorem smith_red (tr : Trial p) {A : MT (Zp p) n n} {U W V : (Nat → Nat → Pol (Zp p))} {X : MT (Pol (Zp p)) n n} (h : SmR (XA A) U W V) (hX : Inv (MT.of n n U) X) (hoff : ∀ i k, i < n → k < n → i ≠ k → W i k = 0) {d : Nat → Nat} (hd : ∀ k, k < n → Ln (W k k) (d k + 1)) (w : MT (Zp p) n 1) :
  ∃ r : Nat → Pol (Zp p), (∀ k, k < n → (r k).dlt (d k)) ∧ w = ms n fun k => pev (r k) A * ph A (cl X k) := by
 obtain ⟨f, hf⟩ := smith_span (A := A) hX w
 have key : ∀ k, ∃ r : Pol (Zp p), k < n → r.dlt (d k) ∧ pev (f k) A * ph A (cl X k) = pev r A * ph A (cl X k) := fun k => by
  by_cases hk : k < n
  ·obtain ⟨N, hN⟩ := (f k).fin
   obtain ⟨q, r, e, hr⟩ := pdiv_ex tr (hd k hk) N (f k) fun i hi => hN i hi
   refine ⟨r, fun _ => ⟨hr, ?_⟩⟩
   rw [e, pev_add, pev_mul, MT.add_mul, MT.mul_assoc, smith_kill h hX hoff hk, MT.mul_zero, MT.zero_add]
  ·exact ⟨0, fun h => absurd h hk⟩
 obtain ⟨r, hr⟩ : ∃ r : Nat → Pol (Zp p), ∀ k, k < n → (r k).dlt (d k) ∧ pev (f k) A * ph A (cl X k) = pev (r k) A * ph A (cl X k) := ⟨fun k => Classical.choose (key k), fun k => Classical.choose_spec (key k)⟩
 exact ⟨r, fun k hk => (hr k hk).1, by rw [hf]; exact ms_congr fun k hk => (hr k hk).2⟩
abbrev Prt (p n : Nat) := Nat × (Nat → Zp p) × MT (Zp p) n 1
def bcl (A : MT (Zp p) n n) : List (Prt p n) → Nat → MT (Zp p) n 1
 | [], _ => 0
 | x :: l, s => if s < x.1 then A.pow s * x.2.2 else bcl A l (s - x.1)
def bdm : List (Prt p n) → Nat
 | [] => 0
 | x :: l => x.1 + bdm l
theorem bcl_sum (A : MT (Zp p) n n) : ∀ (l : List (Prt p n)) (r : Nat → Pol (Zp p)), (∀ i (h : i < l.length), (r i).dlt (l[i].1)) → ∃ y : Nat → Zp p, (ms l.length fun i => pev (r i) A * (l.getD i (0, fun _ => 0, 0)).2.2) = ms (bdm l) fun s => (bcl A l s).sc (y s)
 | [], r, _ => ⟨fun _ => 0, rfl⟩
 | x :: l, r, h => by
  obtain ⟨y, hy⟩ := bcl_sum A l (fun i => r (i + 1)) fun i hi => h (i + 1) (by simp; omega)
  refine ⟨fun s => if s < x.1 then (r 0).c s else y (s - x.1), ?_⟩
  show (ms (l.length + 1) fun i => pev (r i) A * ((x :: l).getD i (0, fun _ => 0, 0)).2.2) = ms (x.1 + bdm l) _
  rw [ms_head, ms_cat]
  have e1 : pev (r 0) A * ((x :: l).getD 0 (0, fun _ => 0, 0)).2.2 = ms x.1 fun s => (bcl A (x :: l) s).sc (if s < x.1 then (r 0).c s else y (s - x.1)) := by
   rw [show ((x :: l).getD 0 (0, fun _ => 0, 0)) = x from rfl, pev_col (h 0 (by simp))]
   exact ms_congr fun s hs => by
    show _ = MT.sc (if s < x.1 then (r 0).c s else y (s - x.1)) (if s < x.1 then A.pow s * x.2.2 else bcl A l (s - x.1))
    have hs' : s < x.1 := hs
    rw [if_pos hs', if_pos hs']
  rw [e1]
  congr 1
  refine Eq.trans ?_ (hy.trans (ms_congr fun s _ => ?_))
  ·exact ms_congr fun i _ => rfl
  ·show _ = MT.sc (if x.1 + s < x.1 then (r 0).c (x.1 + s) else y (x.1 + s - x.1)) (if x.1 + s < x.1 then A.pow (x.1 + s) * x.2.2 else bcl A l (x.1 + s - x.1))
   rw [if_neg (by omega), if_neg (by omega), Nat.add_sub_cancel_left]
end
end Go.Proofs.Ytkmfhabgempjiaa
/- Plain algebra: the characteristic polynomial is monic, of the matrix's degree. -/
namespace Go.Proofs.Ytkmfhabgempjiaa
set_option maxHeartbeats 2000000
open CR
section
variable {R : Type} [CR R]
def esum : Nat → (Nat → Nat) → Nat
 | 0, _ => 0
 | n + 1, e => e 0 + esum n (fun i => e (i + 1))
theorem esum_one : ∀ (n : Nat) {e : Nat → Nat}, (∀ i, i < n → e i = 1) → esum n e = n
 | 0, _, _ => rfl
 | n + 1, e, h => by
  unfold esum
  rw [h 0 (by omega), esum_one n fun i hi => h (i + 1) (by omega)]; omega
theorem esum_skip : ∀ (n k : Nat), k < n → esum n (fun i => if i = k then 0 else 1) + 1 = n
 | 0, _, h => by omega
 | n + 1, 0, _ => by
  show (0 + esum n (fun i => if i + 1 = 0 then 0 else 1)) + 1 = n + 1
  rw [esum_one n fun i _ => if_neg (by omega)]; omega
 | n + 1, k + 1, h => by
  show (1 + esum n (fun i => if i + 1 = k + 1 then 0 else 1)) + 1 = n + 1
  have := esum_skip n k (by omega)
  have e : (fun i => if i + 1 = k + 1 then 0 else 1) = (fun i => if i = k then 0 else 1) := by
   funext i
   by_cases h : i = k
   ·rw [if_pos h, if_pos (by omega)]
   ·rw [if_neg h, if_neg (by omega)]
  rw [e]; omega
theorem sm_dlt {f : Nat → Pol R} {m : Nat} : ∀ n, (∀ i, i < n → (f i).dlt m) → (sm n f).dlt m
 | 0, _ => dlt_zero m
 | n + 1, h => dlt_add (sm_dlt n fun i hi => h i (Nat.lt_succ_of_lt hi)) (h n (Nat.lt_succ_self n))
theorem sg_dlt {f : Pol R} {m k : Nat} (h : f.dlt m) : (sg k f).dlt m := by
 unfold sg; split
 ·exact dlt_neg h
 ·exact h
theorem dn_dlt : ∀ (n : Nat) (e : Nat → Nat) (A : Nat → Nat → Pol R), (∀ i j, i < n → j < n → (A i j).dlt (e i + 1)) → (dn n A).dlt (esum n e + 1)
 | 0, _, _, _ => fun i hi => by
  have : esum 0 ‹Nat → Nat› = 0 := rfl
  show (1 : Pol R).c i = 0
  rw [Pol.one_def, c_mon, if_neg (by omega)]
 | n + 1, e, A, h => by
  show (sm (n + 1) (fun k => sg k (A 0 k * dn n (mnr A k)))).dlt (e 0 + esum n (fun i => e (i + 1)) + 1)
  refine sm_dlt _ fun k hk => sg_dlt (mul_dlt' (h 0 k (by omega) hk) (dn_dlt n _ _ fun i j hi hj => ?_))
  unfold mnr
  exact h (i + 1) _ (by omega) (by split <;> omega)
theorem mon0_dlt (a : R) : (mon a 0).dlt 1 := fun i hi => by rw [c_mon, if_neg (by omega)]
theorem xh_dlt (H : Nat → Nat → R) (i j : Nat) : (xh H i j).dlt 2 := by
 unfold xh
 refine dlt_sub ?_ (dlt_mono (mon0_dlt _) (by omega))
 split
 ·exact fun i hi => by rw [c_mon, if_neg (by omega)]
 ·exact dlt_zero 2
theorem xh_off {H : Nat → Nat → R} {i j : Nat} (h : i ≠ j) : (xh H i j).dlt 1 := by
 unfold xh
 rw [if_neg h]
 exact dlt_sub (dlt_zero 1) (mon0_dlt _)
theorem chi_top : ∀ (n : Nat) (H : Nat → Nat → R), (dn n (xh H)).dlt (n + 1) ∧ (dn n (xh H)).c n = 1
 | 0, H => ⟨fun i hi => by show (1 : Pol R).c i = 0; rw [Pol.one_def, c_mon, if_neg (by omega)], by show (1 : Pol R).c 0 = 1; rw [Pol.one_def, c_mon, if_pos rfl]⟩
 | n + 1, H => by
  obtain ⟨h1, h2⟩ := chi_top n (fun a b => H (a + 1) (b + 1))
  have e0 : dn n (mnr (xh H) 0) = dn n (xh fun a b => H (a + 1) (b + 1)) := dn_congr n fun i j _ _ => by
   show xh H (i + 1) (if j < 0 then j else j + 1) = _
   rw [if_neg (show ¬ j < 0 by omega)]
   unfold xh
   by_cases h : i = j
   ·rw [if_pos h, if_pos (by omega)]
   ·rw [if_neg h, if_neg (by omega)]
  have hr : ∀ k, k < n → (sg (k + 1) (xh H 0 (k + 1) * dn n (mnr (xh H) (k + 1)))).dlt (n + 1) := fun k hk => by
   refine sg_dlt ?_
   have hs := esum_skip n k hk
   have h3 : (dn n (mnr (xh H) (k + 1))).dlt (esum n (fun i => if i = k then 0 else 1) + 1) := dn_dlt n _ _ fun i j hi hj => by
    unfold mnr
    by_cases h : i = k
    ·show (xh H (i + 1) (if j < k + 1 then j else j + 1)).dlt ((if i = k then 0 else 1) + 1)
     rw [if_pos h]
     exact xh_off (by split <;> omega)
    ·show (xh H (i + 1) (if j < k + 1 then j else j + 1)).dlt ((if i = k then 0 else 1) + 1)
     rw [if_neg h]
     exact xh_dlt H _ _
   have h4 := mul_dlt' (xh_off (H := H) (show 0 ≠ k + 1 by omega)) h3
   exact dlt_mono h4 (by omega)
  have e1 : dn (n + 1) (xh H) = xh H 0 0 * dn n (xh fun a b => H (a + 1) (b + 1)) + sm n (fun k => sg (k + 1) (xh H 0 (k + 1) * dn n (mnr (xh H) (k + 1)))) := by
   show sm (n + 1) (fun k => sg k (xh H 0 k * dn n (mnr (xh H) k))) = _
   rw [sm_head, sg_zero, e0]
  have h5 := sm_dlt n hr
  have h6 := mul_dlt' (xh_dlt H 0 0) h1
  rw [e1]
  refine ⟨dlt_add (dlt_mono h6 (by omega)) (dlt_mono h5 (by omega)), ?_⟩
  rw [Pol.c_add, h5 (n + 1) (Nat.le_refl _), add_zero, show n + 1 = 1 + n by omega, mul_top (xh_dlt H 0 0) h1, h2, mul_one]
  unfold xh
  rw [if_pos rfl, Pol.c_sub, c_mon, if_pos rfl, c_mon, if_neg (by omega), sub_zero]
end
theorem chi_ln {p n : Nat} (ht : Trial p) (A : MT (Zp p) n n) : Ln (chi A) (n + 1) := by
 have h := chi_top n A.e
 rw [← chi_xh] at h
 exact Mo.ln ht h.1 h.2
end Go.Proofs.Ytkmfhabgempjiaa
/- Layer 25, plain: Frobenius' form out of Smith's form of x less the matrix. -/
namespace Go.Proofs.Ytkmfhabgempjiaa
set_option maxHeartbeats 2000000
open Go.RowKit
section
open CR
variable {p n : Nat}
noncomputable def prts (A : MT (Zp p) n n) (W : (Nat → Nat → Pol (Zp p))) (X : MT (Pol (Zp p)) n n) (k : Nat) : Prt p n := (pln (W k k) - 1, fun i => (W k k).c i, ph A (cl X k))
theorem mo_top (tr : Trial p) {f : Pol (Zp p)} (h : Mo f) (h0 : f ≠ 0) : Ln f (pln f) ∧ 0 < pln f ∧ f.c (pln f - 1) = 1 := by
 rcases h with rfl | ⟨d, h1, h2⟩
 ·exact absurd rfl h0
 ·have h3 := Mo.ln tr h1 h2
  have h4 := pln_eq h3
  rw [h4]
  exact ⟨h3, by omega, by rw [Nat.add_sub_cancel]; exact h2⟩
theorem pr_ln (tr : Trial p) {d : Nat → Pol (Zp p)} : ∀ n, (∀ k, k < n → Mo (d k) ∧ d k ≠ 0) → Ln (pr d n) (bdm ((List.range n).map fun k => (pln (d k) - 1, fun _ => 0, (0 : MT (Zp p) 0 1))) + 1)
 | 0, _ => by show Ln (1 : Pol (Zp p)) 1; exact ln_one1 tr
 | n + 1, h => by
  have ih := pr_ln tr n fun k hk => h k (by omega)
  obtain ⟨h1, h2, h3⟩ := mo_top tr (h n (by omega)).1 (h n (by omega)).2
  obtain ⟨e, he⟩ : ∃ e, pln (d n) = e + 1 := ⟨pln (d n) - 1, by omega⟩
  rw [he] at h1
  have h4 := ih.mul tr h1
  have h5 : ∀ (l : List (Prt p 0)) (x : Prt p 0), bdm (l ++ [x]) = bdm l + x.1 := by
   intro l x
   induction l with
   | nil => show x.1 + 0 = 0 + x.1; omega
   | cons y l ih => show y.1 + bdm (l ++ [x]) = y.1 + bdm l + x.1; rw [ih]; omega
  rw [List.range_succ, List.map_append]
  show Ln (pr d n * d n) (bdm (List.map _ (List.range n) ++ [_]) + 1)
  rw [h5]
  show Ln (pr d n * d n) (bdm _ + (pln (d n) - 1) + 1)
  rw [he, Nat.add_sub_cancel]; exact h4
theorem bdm_map {m m' : Nat} (ks : List Nat) (f : Nat → Prt p m) (g : Nat → Prt p m') (h : ∀ k, (f k).1 = (g k).1) : bdm (ks.map f) = bdm (ks.map g) := by
 induction ks with
 | nil => rfl
 | cons k ks ih => show (f k).1 + bdm (ks.map f) = (g k).1 + bdm (ks.map g); rw [ih, h]
theorem smith_deg (tr : Trial p) {A : MT (Zp p) n n} {U W V : (Nat → Nat → Pol (Zp p))} (h : SmR (XA A) U W V) (hoff : ∀ i k, i < n → k < n → i ≠ k → W i k = 0) (hm : ∀ k, k < n → Mo (W k k)) :
  (∀ k, k < n → W k k ≠ 0) ∧ ∀ X, bdm ((List.range n).map (prts A W X)) = n := by
 obtain ⟨X1, hX1⟩ := h.u
 obtain ⟨Y1, hY1⟩ := h.v
 have l1 := inv_ln tr hX1
 have l2 := inv_ln tr hY1
 have l3 : Ln (XA A).det (n + 1) := chi_ln tr A
 have e : (MT.of n n W).det = (MT.of n n U).det * (XA A).det * (MT.of n n V).det := by rw [h.e, MT.det_mul, MT.det_mul]
 have l4 : Ln (MT.of n n W).det (n + 1) := by
  rw [e]
  have := (l1.mul tr l3).mul tr l2
  rwa [show 0 + n + 0 + 1 = n + 1 by omega] at this
 have e2 : (MT.of n n W).det = pr (fun k => W k k) n := by
  rw [← dn_dg]
  exact dn_congr n fun i k hi hk => by
   rw [MT.of_e _ hi hk]
   unfold dg
   by_cases hik : i = k
   ·subst hik; rw [if_pos rfl]
   ·rw [if_neg hik]; exact hoff i k hi hk hik
 rw [e2] at l4
 have hne : ∀ k, k < n → W k k ≠ 0 := fun k hk h0 => by
  have hz : ∀ m, k < m → pr (fun k => W k k) m = 0 := by
   intro m
   induction m with
   | zero => intro h; omega
   | succ m ih =>
    intro hkm
    show pr (fun k => W k k) m * W m m = 0
    by_cases e : k = m
    ·subst e; rw [h0, mul_zero]
    ·rw [ih (by omega), zero_mul]
  exact l4.ne (hz n hk)
 refine ⟨hne, fun X => ?_⟩
 have l5 := (pr_ln tr n fun k hk => ⟨hm k hk, hne k hk⟩).unique l4
 rw [bdm_map (List.range n) (prts A W X) (fun k => (pln (W k k) - 1, fun _ => 0, (0 : MT (Zp p) 0 1))) fun k => rfl]
 omega
end
end Go.Proofs.Ytkmfhabgempjiaa
/- The reference of chapter 22: values. -/
namespace Go.Proofs.Ytkmfhabgempjiaa
set_option maxHeartbeats 2000000
open Go.RowKit
theorem mk1 {P : Program} {o : Oper} {a : Act} {K : Act → World → Prop} {Q : Exit → Act → World → Prop} (k : IntKind) (T e bytes : Nat)
  (hu : P.underlying T = some (.slice e)) (hi : (P.info? e).map (fun i => (i.zero, i.size, i.bytes)) = some (some (.int k 0), 1, bytes)) (hby : bytes ≤ 8)
  (l c : Operand) (ho : o.op = .makeSlice T l c) (kl kc : IntKind) (n : Nat) (hn : n ≤ 1000000000)
  (w : World) (L C : Int) (hl : a.eval l = .int kl L) (hc : a.eval c = .int kc C) (hL : L = n) (hC : C = n)
  (h : ∀ (w' : World), Own k e w' w.heap.size (.slice (some ⟨w.heap.size, 0, none⟩) n n) (List.replicate n 0) → Below w.heap.size w w' → K (a.put o.dst (.slice (some ⟨w.heap.size, 0, none⟩) n n)) w') : Oper.wp P o a w K Q := by
 obtain ⟨i0, h1, h2, h3, h4⟩ := info_parts hi
 subst h4 hL hC
 have hb : i0.bytes * n ≤ 8 * n := Nat.mul_le_mul_right _ hby
 have hb2 : (i0.bytes : Int) * (n : Int) ≤ 281474976710656 := by
  have h9 : ((i0.bytes * n : Nat) : Int) ≤ 281474976710656 := by omega
  rwa [Int.natCast_mul] at h9
 have hr := run_make (P := P) w T e i0 (.int k 0) hu h1 h2 kl kc (n : Int) (n : Int) (by omega) (by omega) hb2 (by omega)
 have hcells : (madeCells (Value.int k 0).cells (((n : Int)).toNat * i0.size)).toList = vs k (List.replicate n 0) := by
  rw [h3, vs_replicate]; simp [Value.cells, toList_madeCells_one]
 have hsz : (madeCells (Value.int k 0).cells (((n : Int)).toNat * i0.size)).size = n * 1 := by rw [size_madeCells, h3]; simp
 have hown := World.ownsRow_lit (base := w.heap.size) (e := e) (size := 1) w (madeCells (Value.int k 0).cells (((n : Int)).toNat * i0.size)) n (Nat.le_refl _) (by unfold maxLen; omega) hsz
 rw [hcells] at hown
 have ho2 : Own k e (w.alloc (.cells (madeCells (Value.int k 0).cells (((n : Int)).toNat * i0.size)) e)) w.heap.size (.slice (some ⟨w.heap.size, 0, none⟩) n n) (List.replicate n 0) := by
  unfold Own; rw [List.length_replicate]; exact hown
 unfold Oper.wp
 simp [execOp, ho, hl, hc, hr, Result.andThen]
 have h2 := h _ ho2 ((Below.refl _ _).alloc (Nat.le_refl _) _)
 simpa [Oper.upon] using h2
section
variable {p n : Nat}
end
end Go.Proofs.Ytkmfhabgempjiaa
/- Layer 25: a column of polynomials, read at a matrix: the walk. -/
namespace Go.Proofs.Ytkmfhabgempjiaa
set_option maxHeartbeats 2000000
open Go.RowKit
section
variable {p n : Nat}
def colL (n : Nat) (f : Nat → Zp p) : List Nat := (List.range n).map fun r => (f r).val
theorem colL_length (f : Nat → Zp p) : (colL n f).length = n := by unfold colL; rw [List.length_map, List.length_range]
theorem colL_get (f : Nat → Zp p) {i : Nat} (h : i < n) : (colL n f).getD i 0 = (f i).val := by
 unfold colL
 simp only [List.getD, List.getElem?_map, List.getElem?_range h, Option.map_some, Option.getD_some]
theorem colL_of {l : List Nat} {f : Nat → Zp p} (h : l.length = n) (h2 : ∀ i, i < n → l.getD i 0 = (f i).val) : l = colL n f := by
 refine List.ext_getElem (by rw [h, colL_length]) fun i h3 h4 => ?_
 have h5 := h2 i (by omega)
 have h6 := colL_get (n := n) f (i := i) (by omega)
 simp only [List.getD, List.getElem?_eq_getElem h3, Option.getD_some] at h5
 simp only [List.getD, List.getElem?_eq_getElem h4, Option.getD_some] at h6
 rw [h5, h6]
theorem tbv_col (M : MT (Zp p) n 1) : tbv M = colL n fun r => M.e r 0 := colL_of (by rw [tbv_length, Nat.mul_one]) fun i hi => by
 have := tbv_get M hi (show 0 < 1 by omega)
 rwa [Nat.mul_one, Nat.add_zero] at this
theorem colL_congr {f g : Nat → Zp p} (h : ∀ i, i < n → f i = g i) : colL n f = colL n g := colL_of (colL_length f) fun i hi => by rw [colL_get f hi, h i hi]
theorem colL_set (f : Nat → Zp p) {i : Nat} (hi : i < n) (x : Zp p) : (colL n f).set i x.val = colL n fun r => if r = i then x else f r := colL_of (by rw [List.length_set, colL_length]) fun r hr => by
 rw [getD_set1 _ _ _ _ (by rw [colL_length]; exact hi)]
 by_cases e : r = i
 ·rw [if_pos e, if_pos e]
 ·rw [if_neg e, if_neg e, colL_get f hr]
def hzn (A : MT (Zp p) n n) (B : MT (Pol (Zp p)) n 1) (N t : Nat) : MT (Zp p) n 1 := ms t fun u => A.pow u * cf B (N - t + u)
theorem hzn_step (A : MT (Zp p) n n) (B : MT (Pol (Zp p)) n 1) {N t : Nat} (h : t < N) : hzn A B N (t + 1) = A * hzn A B N t + cf B (N - 1 - t) := by
 unfold hzn
 rw [ms_head, ms_mul]
 rw [show A.pow 0 = MT.one n from rfl, MT.one_mul, MT.add_comm, show N - (t + 1) + 0 = N - 1 - t by omega]
 congr 1
 exact ms_congr fun u _ => by rw [show N - (t + 1) + (u + 1) = N - t + u by omega, Nat.add_comm u 1, MT.pow_add, show A.pow 1 = A from MT.one_mul A, MT.mul_assoc]
theorem hzn_end {A : MT (Zp p) n n} {B : MT (Pol (Zp p)) n 1} {N : Nat} (h : ∀ t, N ≤ t → cf B t = 0) : hzn A B N N = ph A B := by
 rw [ph_eq A h]
 exact ms_congr fun u _ => by rw [Nat.sub_self, Nat.zero_add]
theorem xdg_ge (p : Nat) (qs : List (List Nat)) : ∀ n j, j < n → ((nl p (qs.getD j [])).length : Int) ≤ xdg p qs n + 1
 | 0, _, h => by omega
 | n + 1, j, h => by
  unfold xdg
  by_cases e : j = n
  ·subst e; omega
  ·have := xdg_ge p qs n j (by omega); omega
theorem xdg_le (p : Nat) (qs : List (List Nat)) {L : Nat} : ∀ n, (∀ j, j < n → (qs.getD j []).length ≤ L) → xdg p qs n + 1 ≤ L
 | 0, _ => by show (-1 : Int) + 1 ≤ _; omega
 | n + 1, h => by
  have h1 := xdg_le p qs n fun j hj => h j (by omega)
  have h2 := h n (by omega)
  have h3 := nl_len p (qs.getD n [])
  unfold xdg
  omega
def clq (p n : Nat) (qs : List (List Nat)) (k : Nat) : MT (Pol (Zp p)) n 1 := cl (MT.of n n (aT p n qs)) k
theorem clq_e {qs : List (List Nat)} {k i : Nat} (hk : k < n) (hi : i < n) : (clq p n qs k).e i 0 = pl p (qs.getD (i * n + k) []) := by
 unfold clq; rw [cl_e _ hi, MT.of_e _ hi hk]; rfl
theorem clq_cf {qs : List (List Nat)} {k N : Nat} (hk : k < n) (hN : (N : Int) = xdg p qs (n * n) + 1) (t : Nat) (ht : N ≤ t) : cf (clq p n qs k) t = 0 := MT.ext fun i j hi hj => by
 obtain rfl : j = 0 := by omega
 rw [cf_e, clq_e hk hi, MT.e_zero]
 have h1 := xdg_ge p qs (n * n) (i * n + k) (at_lt rfl hi hk)
 have h2 := pl_dlt p (nl p (qs.getD (i * n + k) []))
 rw [nl_pl] at h2
 exact h2 t (by omega)
end
def FcR (wb wr : World) (n g : Nat) (ao : Option Addr) (c : Nat) (es : List Nat) : Prop := Blk 63 wr g [.int .i64 n, .int .i64 1, .slice ao n c] ∧ Own .u64 27 wr wb.heap.size (.slice ao n c) es ∧ wb.heap.size ≤ g ∧ Below wb.heap.size wb wr
set_option maxRecDepth 20000 in
theorem fb_column (p k : Nat) (a q : Value) (n : Nat) (xs : List Nat) (qs : List (List Nat)) (w : World) (hp : FP p) (hA : Fm w a n n xs) (hQ : Xm w q n n qs) (hn : n ≤ 64) (hx : xs.length = n * n) (hq : qs.length = n * n) (hl : ∀ j, j < n * n → (qs.getD j []).length ≤ 1000000) (hk : k < n) :
  Calls Try.prog 141 #[.agg #[.int .u64 p], a, q, .int .i64 k] w (RetFm p w n 1 (ph (mx p n n xs) (clq p n qs k))) := by
 obtain ⟨aA, cA, rfl⟩ := hA.agg
 obtain ⟨aQ, cQ, rfl⟩ := hQ.agg
 obtain ⟨wb, ew, KF, KA, KW, KR, B0, hsz⟩ := boxes4 w 29 63 24 63 [.int .u64 p] [.int .i64 n, .int .i64 n, .slice aA xs.length cA] [.int .i64 n, .int .i64 n, .slice aQ qs.length cQ] [.int .i64 0, .int .i64 0, .slice none 0 0]
 clear hsz
 replace hA := hA.next B0
 replace hQ := hQ.next B0
 have HX := Lib.hid hx; have HQ := Lib.hid hq; have HP := Lib.hid hp; have HL := Lib.hid hl; clear hx hq hp hl
 obtain ⟨N, eN⟩ : ∃ N : Nat, (N : Int) = xdg p qs (n * n) + 1 := ⟨(xdg p qs (n * n) + 1).toNat, by have := xdg_lo p qs (n * n); omega⟩
 have hN : N ≤ 1000000 := by have := xdg_le p qs (n * n) HL.out; omega
 have EN := Lib.hid eN; clear eN
 obtain ⟨A, eA⟩ : ∃ A, A = mx p n n xs := ⟨_, rfl⟩
 obtain ⟨B, eB⟩ : ∃ B, B = clq p n qs k := ⟨_, rfl⟩
 rw [← eA, ← eB]
 have EA := Lib.hid eA; have EB := Lib.hid eB; clear eA eB
 go_enter Try.func141, Try.ntmps141
 go_upto_region 1 with (fail)
 rw [← ew]
 obtain ⟨g, eg⟩ : ∃ g, g = w.heap.size := ⟨_, rfl⟩
 rw [← eg] at KF KA KW KR ⊢
 have hgw : w.heap.size ≤ g := by omega
 clear ew eg
 go_cut [9] (fun v9 wx => ∃ gT gE, v9 = .pointer (some ⟨gT, 0, none⟩) ∧ FcR wb wx n gT (some ⟨gE, 0, none⟩) n (List.replicate n 0))
 case first =>
  have bd := dw wb
  replace KA := KA.next bd
  clear KF KW KR hA hQ
  have zF0 := Lib.hid fun (w : World) (hS : Below (wb.drew).heap.size (wb.drew) w) => (KA.at hS) 0
  refine startL (S := (fun w' => Below (wb.drew).heap.size (wb.drew) w')) (by kernel_rfl) (Below.refl _ _) (fun hHeld => ?_)
  refine tk 0 ?_
  refine tf 1 zF0.out ?_
  refine tk 2 ?_
  refine tf 3 zF0.out ?_
  refine twoL 4 6 rfl rfl (by kernel_rfl) (by rfl) (by rfl) (fun K hK => ?_) (fun K hK => ?_)
  ·refine mk1 .u64 41 27 8 Try.underlying41 (by kernel_rfl) (by decide) _ _ rfl .i64 .i64 n (by omega) _ _ _ rfl rfl rfl rfl ?_
   intro wE hq hbE
   refine hK.out _ _ (hHeld.trans (hbE.mono hHeld.size)) (fun hHeld => ?_)
   clear hK K
   try simp only [Act.put, zq1, zq2, zq3]
   refine tk 5 ?_
   refine on 6 fun K hK => ?_
   go_simp
   have hd9 := hHeld
   have KZ := Blk.lit wE 63 [.int .i64 0, .int .i64 0, .slice none 0 0]
   refine hK.out _ _ (hHeld.alloc hHeld.size _) (fun hHeld => ?_)
   clear hK K
   try simp only [Act.put, zq1, zq2, zq3]
   refine on 7 fun K hK => ?_
   have y0 := KZ.cell 0; have y1 := KZ.cell 1; have y2 := KZ.cell 2; have z0 := KZ.free 0; have z1 := KZ.free 1; have z2 := KZ.free 2
   go_simp
   refine hK.out _ _ (hd9.alloc hd9.size _) (fun hHeld => ?_)
   clear hK K
   try simp only [Act.put, zq1, zq2, zq3]
   clear zF0; refine doneL (by kernel_rfl) ?_ _
   have KT := Blk.lit wE 63 [.int .i64 n, .int .i64 1, .slice (some ⟨wb.heap.size, 0, none⟩) n n]
   have b15 := (Below.refl wE.heap.size wE).alloc (Nat.le_refl _) (.cells #[.int .i64 n, .int .i64 1, .slice (some ⟨wb.heap.size, 0, none⟩) n n] 63)
   have hlt : wb.heap.size < wE.heap.size := Own.headlt hq
   have st := Lib.hid (show FcR wb (wE.alloc (.cells #[.int .i64 n, .int .i64 1, .slice (some ⟨wb.heap.size, 0, none⟩) n n] 63)) n wE.heap.size (some ⟨wb.heap.size, 0, none⟩) n (List.replicate n 0) from ⟨KT, hq.next b15, Nat.le_of_lt hlt, bd.trans hHeld⟩)
   clear KT b15 hlt hHeld hq hbE KZ hd9 bd KA
   go_wp2_with fail
   go_meet
   exact ⟨_, _, rfl, st.out⟩
  ·go_simp
   have hd9 := hHeld
   have KZ := Blk.lit wb.drew 63 [.int .i64 0, .int .i64 0, .slice none 0 0]
   refine hK.out _ _ (hHeld.alloc hHeld.size _) (fun hHeld => ?_)
   clear hK K
   try simp only [Act.put, zq1, zq2, zq3]
   refine on 4 fun K hK => ?_
   refine mk1 .u64 41 27 8 Try.underlying41 (by kernel_rfl) (by decide) _ _ rfl .i64 .i64 n (by omega) _ _ _ rfl rfl rfl rfl ?_
   intro wE hq hbE
   have KZ2 : Blk 63 wE wb.heap.size [.int .i64 0, .int .i64 0, .slice none 0 0] := KZ.next hbE
   have y0 := KZ2.cell 0; have y1 := KZ2.cell 1; have y2 := KZ2.cell 2; have z0 := KZ2.free 0; have z1 := KZ2.free 1; have z2 := KZ2.free 2
   refine hK.out _ _ (hHeld.trans (hbE.mono hHeld.size)) (fun hHeld => ?_)
   clear hK K
   try simp only [Act.put, zq1, zq2, zq3]
   refine tk 5 ?_
   refine on 7 fun K hK => ?_
   go_simp
   have he9 := hHeld
   refine hK.out _ _ (((hHeld.setCell (p := ⟨wb.heap.size, 0, none⟩) (Nat.le_refl _) (.int .i64 n)).setCell (p := ⟨wb.heap.size, 1, none⟩) (Nat.le_refl _) (.int .i64 1)).setCell (p := ⟨wb.heap.size, 2, none⟩) (Nat.le_refl _) (.slice (some ⟨wb.heap.size + 1, 0, none⟩) n n)) (fun hHeld => ?_)
   clear hK K
   try simp only [Act.put, zq1, zq2, zq3]
   clear zF0; refine doneL (by kernel_rfl) ?_ _
   have KT := ((KZ2.set 0 (.int .i64 n)).set 1 (.int .i64 1)).set 2 (.slice (some ⟨wb.heap.size + 1, 0, none⟩) n n)
   have hsz : (wb.alloc (.cells #[.int .i64 0, .int .i64 0, .slice none 0 0] 63)).drew.heap.size = wb.heap.size + 1 := by show (wb.alloc (.cells #[.int .i64 0, .int .i64 0, .slice none 0 0] 63)).heap.size = wb.heap.size + 1; simp
   rw [hsz] at hq
   have o15 := ((hq.low (a := ⟨wb.heap.size, 0, none⟩) (Nat.lt_succ_self _) (.int .i64 n)).low (a := ⟨wb.heap.size, 1, none⟩) (Nat.lt_succ_self _) (.int .i64 1)).low (a := ⟨wb.heap.size, 2, none⟩) (Nat.lt_succ_self _) (.slice (some ⟨wb.heap.size + 1, 0, none⟩) n n)
   have st := Lib.hid (show FcR wb (((wE.setCell ⟨wb.heap.size, 0, none⟩ (.int .i64 n)).setCell ⟨wb.heap.size, 1, none⟩ (.int .i64 1)).setCell ⟨wb.heap.size, 2, none⟩ (.slice (some ⟨wb.heap.size + 1, 0, none⟩) n n)) n wb.heap.size (some ⟨wb.heap.size + 1, 0, none⟩) n (List.replicate n 0) from ⟨KT, o15.mono (Nat.le_succ _), Nat.le_refl _, bd.trans hHeld⟩)
   clear KT hsz o15 hHeld hq hbE KZ KZ2 hd9 he9 bd KA y0 y1 y2 z0 z1 z2
   go_wp2_with fail
   go_meet
   exact ⟨_, _, rfl, st.out⟩
 case rest =>
  obtain ⟨gT, gE, rfl, st⟩ := hcut
  have HKF := Lib.hid KF; have HKA := Lib.hid KA; have HKW := Lib.hid KW; have HKR := Lib.hid KR; have HA := Lib.hid hA; have HQM := Lib.hid hQ; have HB0 := Lib.hid B0
  have hgb : g + 1 + 1 + 1 < wb.heap.size := KR.lt
  have hz0 : List.replicate n 0 = tbv (hzn A B N 0) := by
   rw [tbv_col]
   exact colL_of (List.length_replicate) fun i hi => by
    simp only [List.getD, List.getElem?_replicate, hi, if_true, Option.getD_some]
    show 0 = (0 : Zp p).val
    rw [Zp.zero_val]
  rw [hz0] at st
  clear hz0
  have B1 := st.2.2.2
  replace KF := KF.next B1; replace KW := KW.next B1; replace hQ := hQ.next B1
  have cF := KF.cell 0; have cw0 := KW.cell 0; have cw1 := KW.cell 1; have cw2 := KW.cell 2
  clear KA KR B0 B1 hA
  go_wp2_with fail
  refine (xm_Degree p _ n n qs _ HP.out hQ ⟨⟨by omega, by omega⟩, ⟨by omega, by omega⟩, by rw [HQ.out]; simp⟩ (by rw [HQ.out]; exact HL.out) (by rw [HQ.out]; have := Nat.mul_le_mul hn hn; omega) ((N : Int) - 1) (by rw [HQ.out]; have := EN.out; omega)).mono ?_; rintro e w5 ⟨rfl, b5⟩
  replace st : FcR wb w5 n gT (some ⟨gE, 0, none⟩) n (tbv (hzn A B N 0)) := ⟨st.1.next b5, st.2.1.next b5, st.2.2.1, st.2.2.2.trans (b5.mono st.2.2.2.size)⟩
  clear cF cw0 cw1 cw2 KF KW hQ b5
  go_wp2
  go_loopw [10] (fun jv wr => ∃ (t : Nat) (d : Int) (ao : Option Addr) (c : Nat), t ≤ N ∧ jv = .int .i64 d ∧ d = (N : Int) - 1 - t ∧ FcR wb wr n gT ao c (tbv (hzn A B N t))) (fun jv _ => (intOf jv + 1).toNat)
  case atStart => exact ⟨0, _, _, _, by omega, rfl, by omega, st⟩
  case round =>
   clear st
   obtain ⟨t, d, ao, c, ht, rfl, hd, KT, ho, hgT, B1⟩ := hrel
   by_cases htN : t < N
   ·obtain ⟨jj, rfl⟩ : ∃ jj : Nat, d = (jj : Int) := ⟨d.toNat, by omega⟩
    obtain rfl : jj = N - 1 - t := by omega
    obtain ⟨j, ej⟩ : ∃ j, j = N - 1 - t := ⟨_, rfl⟩
    rw [← ej]
    have hjN : j < N := by omega
    have EJ := Lib.hid ej; have HD := Lib.hid hd; clear ej hd
    have KF := HKF.out.next B1; have KA := HKA.out.next B1; have hA := HA.out.next B1
    have cF := KF.cell 0; have ca0 := KA.cell 0; have ca1 := KA.cell 1; have ca2 := KA.cell 2
    have ct0 := KT.cell 0; have ct1 := KT.cell 1; have ct2 := KT.cell 2
    have hlt : (tbv (hzn A B N t)).length = n := by rw [tbv_length, Nat.mul_one]
    have hC : Fm wr (.agg #[.int .i64 n, .int .i64 1, .slice ao n c]) n 1 (tbv (hzn A B N t)) := ⟨_, rfl, ho.sl⟩
    have HB1 := Lib.hid B1; clear B1
    go_wp2_with fail
    refine (fm_Mul p _ _ n n 1 xs (tbv (hzn A B N t)) _ HP.out hA hC hn hn (by omega) HX.out (by rw [hlt, Nat.mul_one])).mono ?_; rintro e w6 ⟨aM, kM, rfl, oM, b6⟩
    rw [mx_tbv, ← EA.out] at oM
    rw [mx_tbv, ← EA.out]
    obtain ⟨M, eM⟩ : ∃ M, M = A * hzn A B N t := ⟨_, rfl⟩
    rw [← eM] at oM ⊢
    have EM := Lib.hid eM; clear eM
    have hlM : (tbv M).length = n := by rw [tbv_length, Nat.mul_one]
    rw [hlM] at oM ⊢
    have B1 := HB1.out.trans (b6.mono HB1.out.size)
    have hTw := KT.lt
    replace KT := KT.next b6
    have f0 := KT.free 0; have f1 := KT.free 1; have f2 := KT.free 2
    have e0 := KT.cell 0; have e1 := KT.cell 1; have e2 := KT.cell 2
    have KA6 := KA.next b6
    have ga0 := KA6.cell 0
    obtain ⟨ws, ews⟩ : ∃ ws, ws = ((w6.setCell ⟨gT, 0, none⟩ (.int .i64 n)).setCell ⟨gT, 1, none⟩ (.int .i64 1)).setCell ⟨gT, 2, none⟩ (.slice aM n kM) := ⟨_, rfl⟩
    clear cF ca0 ca1 ca2 ct0 ct1 ct2 KF KA
    go_upto_region 6 with (fail)
    rw [← ews]
    have KTs : Blk 63 ws gT [.int .i64 n, .int .i64 1, .slice aM n kM] := by rw [ews]; exact ((KT.set 0 (.int .i64 n)).set 1 (.int .i64 1)).set 2 (.slice aM n kM)
    have os : Own .u64 27 ws wb.heap.size (.slice aM n kM) (tbv M) := by rw [ews]; exact (((oM.low (a := ⟨gT, 0, none⟩) hTw (.int .i64 n)).low (a := ⟨gT, 1, none⟩) hTw (.int .i64 1)).low (a := ⟨gT, 2, none⟩) hTw (.slice aM n kM)).mono HB1.out.size
    have Bs : Below wb.heap.size wb ws := by rw [ews]; exact ((B1.setCell (p := ⟨gT, 0, none⟩) hgT (.int .i64 n)).setCell (p := ⟨gT, 1, none⟩) hgT (.int .i64 1)).setCell (p := ⟨gT, 2, none⟩) hgT (.slice aM n kM)
    have st : FcR wb ws n gT aM kM (colL n fun r => if r < 0 then M.e r 0 + (cf B j).e r 0 else M.e r 0) := ⟨KTs, by rw [tbv_col] at os; exact os, hgT, Bs⟩
    have ga := (HKA.out.next Bs).cell 0
    clear ews KTs os Bs f0 f1 f2 e0 e1 e2 KA6 ga0 KT B1 oM hA hC hlt hlM b6 ho
    go_wp2
    clear ga
    go_loopw [35] (fun iv wr => ∃ i : Nat, i ≤ n ∧ iv = .int .i64 i ∧ FcR wb wr n gT aM kM (colL n fun r => if r < i then M.e r 0 + (cf B j).e r 0 else M.e r 0)) (fun iv _ => n - (intOf iv).toNat)
    case atStart => exact ⟨0, by omega, rfl, st⟩
    case round =>
     clear st
     obtain ⟨i, hi, rfl, KT, ho, -, B1⟩ := hrel
     by_cases hin : i < n
     ·have KF := HKF.out.next B1; have KW := HKW.out.next B1; have hQ := HQM.out.next B1
      have cF := KF.cell 0; have cw0 := KW.cell 0; have cw1 := KW.cell 1; have cw2 := KW.cell 2
      have hlq := HL.out (i * n + k) (at_lt rfl hin hk)
      go_wp2_with fail
      refine (xm_At p i k _ n n qs _ HP.out hQ hn hn HQ.out hin hk hlq).mono ?_; rintro e w7 ⟨r7, zs, rfl, o7, n7, v7, l7, b7⟩
      obtain ⟨a7, c7, rfl⟩ := o7.sliced
      replace KT := KT.next b7; replace ho := ho.next b7
      have B2 := B1.trans (b7.mono B1.size)
      have ev : (cf B j).e i 0 = Zp.of p (zs.getD j 0) := by rw [cf_e, EB.out, clq_e hk hin, ← v7, pl_c]
      have EV := Lib.hid ev
      have l8 : zs.length ≤ 1000000 := by omega
      clear cF cw0 cw1 cw2 KF KW hQ n7 v7 l7 b7 B1 hlq ev
      by_cases hjz : j < zs.length
      ·have KF := HKF.out.next B2
       obtain ⟨gE, rfl⟩ : ∃ gE, aM = some ⟨gE, 0, none⟩ := by
        rcases ho.shape with ⟨h1, h2⟩ | ⟨g', c', h1, -⟩
        ·have := congrArg List.length h2; rw [colL_length] at this; simp at this; omega
        ·simp only [Value.slice.injEq] at h1; exact ⟨g', h1.1⟩
       obtain ⟨gZ, rfl⟩ : ∃ gE, a7 = some ⟨gE, 0, none⟩ := by
        rcases o7.shape with ⟨h1, h2⟩ | ⟨g', c', h1, -⟩
        ·rw [h2] at hjz; simp at hjz
        ·simp only [Value.slice.injEq] at h1; exact ⟨g', h1.1⟩
       obtain ⟨m, em⟩ : ∃ m, m = zs.length := ⟨_, rfl⟩
       rw [← em] at o7 hjz l8 ⊢
       go_upto_region 11 with (fail)
       have bd := dw w7
       replace KT := KT.next bd; replace ho := ho.next bd; replace KF := KF.next bd
       replace B2 := B2.trans (bd.mono B2.size)
       have hle : i < (colL n fun r => if r < i then M.e r 0 + (cf B j).e r 0 else M.e r 0).length := by rw [colL_length]; exact hin
       have q5 := ho.cellAt i hle
       rw [colL_get _ hin, if_neg (Nat.lt_irrefl _)] at q5
       have q6 := (o7.next bd).cellAt j (by omega)
       have lE : gE < w7.drew.heap.size := Own.headlt ho
       have lZ : gZ < w7.drew.heap.size := Own.headlt (o7.next bd)
       obtain ⟨x, ex⟩ : ∃ x, x = (M.e i 0).val := ⟨_, rfl⟩
       obtain ⟨y, ey⟩ : ∃ y, y = zs.getD j 0 := ⟨_, rfl⟩
       rw [← ex] at q5
       rw [← ey] at q6
       obtain ⟨z, ez⟩ : ∃ z, z = (Zp.of p x + Zp.of p y).val := ⟨_, rfl⟩
       have EZ := Lib.hid ez
       have ez2 : z = (M.e i 0 + (cf B j).e i 0).val := by rw [ez, ex, Zp.of_val, EV.out, ← ey]
       have EZ2 := Lib.hid ez2
       have EM2 := Lib.hid em
       clear ex ey ez ez2 em o7 bd
       have zF0 := Lib.hid fun (w : World) (hS : Below (w7.drew).heap.size (w7.drew) w) => And.intro ((KT.at hS) 2) (And.intro ((KF.at hS) 0) (And.intro ((hS.cell (p := ⟨gE, i, none⟩) lE).trans q5) ((hS.cell (p := ⟨gZ, j, none⟩) lZ).trans q6)))
       refine startP (S := (fun w' => Below (w7.drew).heap.size (w7.drew) w')) (by kernel_rfl) _ rfl rfl rfl (by kernel_rfl) (Below.refl _ _) (fun hHeld => ?_)
       refine tk 0 ?_
       refine tf 1 zF0.out ?_
       refine tk 2 ?_
       refine tf 3 zF0.out ?_
       refine tk 4 ?_
       refine tf 5 zF0.out ?_
       refine tk 6 ?_
       refine tk 7 ?_
       refine tf 8 zF0.out ?_
       refine tk 9 ?_
       refine tk 10 ?_
       refine tk 11 ?_
       refine tf 12 zF0.out ?_
       refine on 13 fun K hK => ?_
       go_simp
       go_at_call 117
       (with_reducible refine (gfp_Add p x y z _ HP.out EZ.out).mono ?_); rintro e w8 ⟨rfl, b8⟩
       refine hK.out _ _ (hHeld.trans (b8.mono hHeld.size)) (fun hHeld => ?_)
       clear hK K
       try simp only [Act.put, zq1, zq2, zq3]
       refine tk 14 ?_
       clear zF0; refine doneL (by kernel_rfl) ?_ _
       refine lastL rfl (by rfl) ?_
       have b7 := hHeld
       replace KT := KT.next b7; replace ho := ho.next b7
       replace B2 := B2.trans (b7.mono B2.size)
       have qe := ho.cellAt i hle
       have fe := ho.frozenAt i
       obtain ⟨ho3, -⟩ := ho.store i z
       rw [EZ2.out, colL_set _ hin] at ho3
       have hgE : gT ≠ gE := fun e => rowOwn_ne ho KT (by decide) (by rw [e]; rfl)
       have hbE : wb.heap.size ≤ gE := ho.block_ge gE rfl
       have st2 : FcR wb (w8.setCell ⟨gE, i, none⟩ (.int .u64 z)) n gT (some ⟨gE, 0, none⟩) kM (colL n fun r => if r < i + 1 then M.e r 0 + (cf B j).e r 0 else M.e r 0) := ⟨KT.far (a := ⟨gE, i, none⟩) hgE _, by
        rw [EZ2.out]
        have e9 : (colL n fun r => if r < i + 1 then M.e r 0 + (cf B j).e r 0 else M.e r 0) = colL n fun r => if r = i then M.e i 0 + (cf B j).e i 0 else if r < i then M.e r 0 + (cf B j).e r 0 else M.e r 0 := colL_congr fun r hr => by
         by_cases e1 : r = i
         ·subst e1; rw [if_pos (by omega), if_pos rfl]
         ·rw [if_neg e1]
          by_cases e2 : r < i
          ·rw [if_pos e2, if_pos (by omega)]
          ·rw [if_neg e2, if_neg (by omega)]
        rw [e9]; exact ho3, hgT, B2.setCell (p := ⟨gE, i, none⟩) hbE _⟩
       clear KT ho ho3 B2 b7 q5 q6 lE lZ hgE hbE hHeld KF
       go_wp2
       go_roundw
       case rel => exact ⟨i + 1, by omega, by go_num, st2⟩
       case measure => simp [intOf] <;> omega
      ·have hz : (cf B j).e i 0 = 0 := by rw [EV.out, List.getD, List.getElem?_eq_none (by omega)]; rfl
       have st2 : FcR wb w7 n gT aM kM (colL n fun r => if r < i + 1 then M.e r 0 + (cf B j).e r 0 else M.e r 0) := ⟨KT, by
        rw [colL_congr (n := n) (g := fun r => if r < i then M.e r 0 + (cf B j).e r 0 else M.e r 0) fun r hr => by
         by_cases e1 : r = i
         ·subst e1; rw [if_pos (by omega), if_neg (by omega), hz]; exact CR.add_zero _
         ·by_cases e2 : r < i
          ·rw [if_pos e2, if_pos (by omega)]
          ·rw [if_neg e2, if_neg (by omega)]]
        exact ho, hgT, B2⟩
       clear KT ho B2 hz
       go_wp2
       go_roundw
       case rel => exact ⟨i + 1, by omega, by go_num, st2⟩
       case measure => simp [intOf] <;> omega
     ·obtain rfl : i = n := by omega
      have e1 : (colL i fun r => if r < i then M.e r 0 + (cf B j).e r 0 else M.e r 0) = tbv (hzn A B N (t + 1)) := by
       rw [tbv_col, hzn_step A B htN, ← EM.out, ← EJ.out]
       exact colL_congr fun r hr => by rw [if_pos hr, MT.e_add]
      rw [e1] at ho
      have st2 : FcR wb wr i gT aM kM (tbv (hzn A B N (t + 1))) := ⟨KT, ho, hgT, B1⟩
      obtain ⟨d', ed'⟩ : ∃ d' : Int, d' = (j : Int) - 1 := ⟨_, rfl⟩
      have a1 : IntKind.i64.wrap ((j : Int) - 1) = d' := by rw [ed']; exact IntWalk.i64_in _ ⟨by omega, by omega⟩
      have hd2 : d' = (N : Int) - 1 - ((t + 1 : Nat) : Int) := by have := EJ.out; have := HD.out; omega
      have HD2 := Lib.hid hd2
      clear ed' hd2 KT ho B1 e1
      go_wp2
      go_roundw
      case rel => exact ⟨t + 1, d', _, _, by omega, rfl, HD2.out, st2⟩
      case measure => have := HD2.out; have := EJ.out; simp [intOf] <;> omega
   ·obtain rfl : t = N := by omega
    obtain rfl : d = -1 := by omega
    obtain ⟨M, eM⟩ : ∃ M, M = ph A B := ⟨_, rfl⟩
    rw [hzn_end (by rw [EB.out]; exact clq_cf hk EN.out)] at ho
    rw [← eM] at ho
    have EM := Lib.hid eM; clear eM
    have hlM : (tbv M).length = n := by rw [tbv_length, Nat.mul_one]
    have KR := HKR.out.next B1
    have B2 := HB0.out.trans (B1.mono HB0.out.size)
    have k0 := KT.cell 0; have k1 := KT.cell 1; have k2 := KT.cell 2
    have f0 := KR.free 0; have f1 := KR.free 1; have f2 := KR.free 2
    have e0 := KR.cell 0; have e1 := KR.cell 1; have e2 := KR.cell 2
    have KF := ((KR.set 0 (.int .i64 n)).set 1 (.int .i64 1)).set 2 (.slice ao n c)
    have d0 := KF.cell 0; have d1 := KF.cell 1; have d2 := KF.cell 2
    have hof := ((ho.low (a := ⟨g + 1 + 1 + 1, 0, none⟩) hgb (.int .i64 n)).low (a := ⟨g + 1 + 1 + 1, 1, none⟩) hgb (.int .i64 1)).low (a := ⟨g + 1 + 1 + 1, 2, none⟩) hgb (.slice ao n c)
    have hgw2 : w.heap.size ≤ g + 1 + 1 + 1 := by omega
    have BF := ((B2.setCell (p := ⟨g + 1 + 1 + 1, 0, none⟩) hgw2 (.int .i64 n)).setCell (p := ⟨g + 1 + 1 + 1, 1, none⟩) hgw2 (.int .i64 1)).setCell (p := ⟨g + 1 + 1 + 1, 2, none⟩) hgw2 (.slice ao n c)
    have FR := Lib.hid (show RetFm p w n 1 (ph A B) (.returned (.agg #[.int .i64 n, .int .i64 1, .slice ao n c])) (((wr.setCell ⟨g + 1 + 1 + 1, 0, none⟩ (.int .i64 n)).setCell ⟨g + 1 + 1 + 1, 1, none⟩ (.int .i64 1)).setCell ⟨g + 1 + 1 + 1, 2, none⟩ (.slice ao n c)) by
     rw [← EM.out]; exact ⟨ao, c, by rw [hlM]; rfl, by rw [hlM]; exact hof.mono HB0.out.size, BF⟩)
    clear KF KR KT hof BF ho B1 B2 hlM
    go_wp2
    exact bodyPost_ret (v := .agg #[.int .i64 n, .int .i64 1, .slice ao n c]) (by simp [results, Try.results141, go_sem, d0, d1, d2]) rfl FR.out
end Go.Proofs.Ytkmfhabgempjiaa
/- Layer 24, plain: Hermite's form of a matrix with ones behind it. -/
namespace Go.Proofs.Ytkmfhabgempjiaa
set_option maxHeartbeats 2000000
open Go.RowKit
section
open CR
variable {p : Nat}
theorem rd_off {r c L o : Nat} {W : (Nat → Nat → Pol (Zp p))} {zs : List (List Nat)} (h : ∀ j, j < r * c → Nrm p (zs.getD j []) ∧ pl p (zs.getD j []) = W (j / c) (o + j % c) ∧ (zs.getD j []).length ≤ L) {i k : Nat} (hi : i < r) (hk : k < c) : aT p c zs i k = W i (o + k) := by
 have h1 := (h (i * c + k) (at_lt rfl hi hk)).2.1
 show pl p (zs.getD (i * c + k) []) = _
 rw [h1, Nat.mul_comm, Nat.mul_add_div (by omega), Nat.div_eq_of_lt hk, Nat.mul_add_mod, Nat.mod_eq_of_lt hk, Nat.add_zero]
theorem her_split {r c : Nat} {A V : (Nat → Nat → Pol (Zp p))} (h : Rq r (c + r) (augM c A) V) : (∃ T', Inv (MT.of r r fun i k => V i (c + k)) T') ∧ ∀ i k, i < r → k < c → V i k = sm r fun s => V i (c + s) * A s k := by
 obtain ⟨T, T', hi, e⟩ := h
 have key : ∀ i k, i < r → k < c + r → V i k = sm r fun s => T.e i s * augM c A s k := fun i k hi hk => by
  have h1 : (MT.of r (c + r) V).e i k = V i k := MT.of_e _ hi hk
  rw [← h1, e, MT.e_mul]
  exact sm_congr fun s hs => by rw [MT.of_e _ hs hk]
 have hT : ∀ i k, i < r → k < r → V i (c + k) = T.e i k := fun i k hi hk => by
  rw [key i (c + k) hi (by omega), sm_one hk fun s hs hne => by
   unfold augM; rw [if_neg (by omega), if_neg (by omega), mul_zero]]
  unfold augM; rw [if_neg (by omega), if_pos (by omega), mul_one]
 refine ⟨⟨T', ?_⟩, fun i k hi hk => ?_⟩
 ·have : (MT.of r r fun i k => V i (c + k)) = T := MT.ext fun i k hi hk => by rw [MT.of_e _ hi hk]; exact hT i k hi hk
  rw [this]; exact hi
 ·rw [key i k hi (by omega)]
  exact sm_congr fun s hs => by
   rw [hT i s hi hs]; unfold augM; rw [if_pos hk]
end
end Go.Proofs.Ytkmfhabgempjiaa
/- Layer 25: rows of columns in memory; Hermite's form of a unimodular matrix. -/
namespace Go.Proofs.Ytkmfhabgempjiaa
set_option maxHeartbeats 2000000
open Go.RowKit
theorem apS {P : Program} {o : Oper} {a : Act} {K : Act → World → Prop} {Q : Exit → Act → World → Prop} (T e size bytes : Nat) (z0 : Value)
  (hu : P.underlying T = some (.slice e)) (hi : (P.info? e).map (fun i => (i.zero, i.size, i.bytes)) = some (some z0, size, bytes)) (hby : bytes ≤ 64) (hz0 : z0.cells.size = size) (hsz : 0 < size)
  (s x : Operand) (ho : o.op = .call { callee := .builtin .append, args := #[s, x], argTypes := #[T, T] })
  (w : World) (base : Nat) (v : Value) (n : Nat) (vs ys : List Value) (hl : ys.length = size) (hy : ∀ u ∈ ys, u.oneCell' = true) (hown : w.ownsRow base e size v n vs)
  (hlen : n ≤ 1000000000) (hbase : base ≤ w.heap.size)
  (hs : a.eval s = v) (hx : a.eval x = .slice (some ⟨w.heap.size, 0, none⟩) 1 1)
  (h : ∀ (g cap : Nat) (w' : World), w'.ownsRow base e size (.slice (some ⟨g, 0, none⟩) (n + 1) cap) (n + 1) (vs ++ ys) → Below base w w' → w.grownBy w' v.ownBlock → (v.ownBlock = some g ∨ w.heap.size ≤ g) → K (a.put o.dst (.slice (some ⟨g, 0, none⟩) (n + 1) cap)) w') :
  Oper.wp P o a (w.alloc (.cells ys.toArray e)) K Q := by
 obtain ⟨i0, h1, h2, h3, h4⟩ := info_parts hi
 have hB := Blk.lit w e ys
 refine wp_append_lies _ s x T ho base e i0 z0 size bytes hu h1 h2 h3 h4 hz0 hsz v n vs hs (World.ownsRow.alloc hown _) ⟨w.heap.size, 0, none⟩ 1 1 ys hx (by rw [hl, Nat.one_mul]) ?_ hy (by decide) ?_ ?_ ?_ (w.heap.size + 1) ?_ ?_
 ·intro j u hj
  have e : (⟨w.heap.size, 0, none⟩ : Addr).add j = ⟨w.heap.size, j, none⟩ := by
   unfold Addr.add; split
   ·rename_i h; subst h; rfl
   ·simp
  rw [e]
  exact (hB.cell j).trans hj
 ·unfold maxLen; omega
 ·have : (n + 1) * bytes ≤ (n + 1) * 64 := Nat.mul_le_mul_left _ hby
  omega
 ·simp; omega
 ·simp
 ·intro g cap w' k1 k2 k3 k4
  have hg : w.grownBy w' v.ownBlock := by
   have e0 := World.grownBy_alloc w (.cells ys.toArray e) v.ownBlock
   exact ⟨k2.os.trans e0.os, k2.tape.trans e0.tape, k2.output.trans e0.output, Nat.le_trans e0.size k2.size, fun i hi hne => (k2.block i (Nat.lt_of_lt_of_le hi e0.size) hne).trans (e0.block i hi hne)⟩
  have hge : ∀ k, v.ownBlock = some k → base ≤ k := fun j hj => (World.ownsRow.lt hown j hj).1
  exact h g cap w' k1 (below_grown hg hbase hge) hg (k3.imp id (fun e => by omega))
def mcs (R C : Nat → Nat) (S : Nat → Value) (j : Nat) : Value := if j % 3 = 0 then .int .i64 (R (j / 3)) else if j % 3 = 1 then .int .i64 (C (j / 3)) else S (j / 3)
theorem mcs_snoc (R C : Nat → Nat) (S : Nat → Value) (m : Nat) : rowL ((m + 1) * 3) (mcs R C S) = rowL (m * 3) (mcs R C S) ++ [.int .i64 (R m), .int .i64 (C m), S m] := by
 rw [show (m + 1) * 3 = m * 3 + 1 + 1 + 1 by omega, rowL_snoc, rowL_snoc, rowL_snoc, List.append_assoc, List.append_assoc]
 unfold mcs
 rw [if_pos (by omega), if_neg (by omega), if_pos (by omega), if_neg (by omega), if_neg (by omega), show m * 3 / 3 = m by omega, show (m * 3 + 1) / 3 = m by omega, show (m * 3 + 1 + 1) / 3 = m by omega]
 rfl
theorem mcs_congr {R C R' C' : Nat → Nat} {S S' : Nat → Value} {m : Nat} (h : ∀ i, i < m → R i = R' i ∧ C i = C' i ∧ S i = S' i) : rowL (m * 3) (mcs R C S) = rowL (m * 3) (mcs R' C' S') := rowL_congr fun k hk => by
 obtain ⟨h1, h2, h3⟩ := h (k / 3) (by omega)
 unfold mcs; rw [h1, h2, h3]
structure Mls (w : World) (base : Nat) (v : Value) (m : Nat) (R C : Nat → Nat) (S : Nat → Value) (L : Nat → List Nat) : Prop where
 own : w.ownsRow base 63 3 v m (rowL (m * 3) (mcs R C S))
 el : ∀ i, i < m → ∃ ao c, S i = .slice ao (L i).length c ∧ Own .u64 27 w base (S i) (L i)
section
variable {w w' : World} {base m : Nat} {v : Value} {R C : Nat → Nat} {S : Nat → Value} {L : Nat → List Nat}
theorem Mls.nil (w : World) (base : Nat) (R C : Nat → Nat) (S : Nat → Value) (L : Nat → List Nat) : Mls w base (.slice none 0 0) 0 R C S L := ⟨World.ownsRow_nil _ _ _ _, fun i hi => absurd hi (by omega)⟩
theorem Mls.next (h : Mls w base v m R C S L) (hb : Below w.heap.size w w') : Mls w' base v m R C S L := ⟨rowOwn_next h.own hb (Nat.le_refl _), fun i hi => by
 obtain ⟨a, c, h1, h2⟩ := h.el i hi; exact ⟨a, c, h1, h2.next hb⟩⟩
theorem Mls.low (h : Mls w base v m R C S L) {a : Addr} (ha : a.block < base) (u : Value) : Mls (w.setCell a u) base v m R C S L := ⟨ownsRow_setCell_below h.own ha u, fun i hi => by
 obtain ⟨a, c, h1, h2⟩ := h.el i hi; exact ⟨a, c, h1, h2.low ha u⟩⟩
theorem Mls.mono {base' : Nat} (h : Mls w base v m R C S L) (hb : base' ≤ base) : Mls w base' v m R C S L := ⟨rowOwn_mono h.own hb, fun i hi => by
 obtain ⟨a, c, h1, h2⟩ := h.el i hi; exact ⟨a, c, h1, h2.mono hb⟩⟩
theorem Mls.chg {T : Nat → Prop} {e : TypeId} (h : Mls w base v m R C S L) (hc : Chg w w' T) (hT : ∀ b, b < w.heap.size → T b → Tyb w e b) (h1 : 63 ≠ e) (h2 : 27 ≠ e) : Mls w' base v m R C S L := ⟨rowOwn_chgT h.own hc hT h1, fun i hi => by
 obtain ⟨a, c, k1, k2⟩ := h.el i hi; exact ⟨a, c, k1, rowOwn_chgT k2 hc hT h2⟩⟩
theorem Mls.push {b1 r c : Nat} {v' : Value} {ao : Option Addr} {k : Nat} {zs : List Nat} (h : Mls w base v m R C S L) (hg : w.grownBy w' v.ownBlock) (ho : w'.ownsRow base 63 3 v' (m + 1) (rowL (m * 3) (mcs R C S) ++ [.int .i64 r, .int .i64 c, .slice ao zs.length k]))
  (hr : Own .u64 27 w b1 (.slice ao zs.length k) zs) (hb : base ≤ b1) : Mls w' base v' (m + 1) (fun i => if i = m then r else R i) (fun i => if i = m then c else C i) (fun i => if i = m then .slice ao zs.length k else S i) (fun i => if i = m then zs else L i) := by
 have hT : ∀ b, b < w.heap.size → v.ownBlock = some b → Tyb w 63 b := fun b _ hb => (rowOwn_tyb h.own hb).1
 refine ⟨?_, fun i hi => ?_⟩
 ·rw [mcs_snoc]
  simp only [if_true]
  rw [mcs_congr (R' := R) (C' := C) (S' := S) fun i hi => by rw [if_neg (by omega), if_neg (by omega), if_neg (by omega)]; exact ⟨rfl, rfl, rfl⟩]
  exact ho
 ·by_cases e : i = m
  ·simp only [e, if_true]
   exact ⟨ao, k, rfl, rowOwn_chgT (hr.mono hb) (Chg.grown hg) hT (by decide)⟩
  ·simp only [e, if_false]
   obtain ⟨a, c, k1, k2⟩ := h.el i (by omega)
   exact ⟨a, c, k1, rowOwn_chgT k2 (Chg.grown hg) hT (by decide)⟩
theorem Mls.congr {R' C' : Nat → Nat} {S' : Nat → Value} {L' : Nat → List Nat} (h : Mls w base v m R C S L) (e : ∀ i, i < m → R i = R' i ∧ C i = C' i ∧ S i = S' i ∧ L i = L' i) : Mls w base v m R' C' S' L' := ⟨by
 rw [← mcs_congr fun i hi => ⟨(e i hi).1, (e i hi).2.1, (e i hi).2.2.1⟩]; exact h.own, fun i hi => by
 obtain ⟨e1, e2, e3, e4⟩ := e i hi
 rw [← e3, ← e4]; exact h.el i hi⟩
theorem Mls.shape (h : Mls w base v m R C S L) : ∃ ao c, v = .slice ao m c := by
 rcases h.own.2 with ⟨rfl, rfl⟩ | ⟨g, cap, cur, rfl, -⟩
 ·exact ⟨none, 0, rfl⟩
 ·exact ⟨_, _, rfl⟩
end
theorem Qls.congr {p : Nat} {w : World} {base n L : Nat} {bv : Value} {us : List Value} {F G : Nat → Pol (Zp p)} (h : Qls p w base bv us n L F) (e : ∀ j, j < n → F j = G j) : Qls p w base bv us n L G :=
 ⟨h.1, h.2.1, fun j v hv => by
  obtain ⟨ys, h1, h2, h3, h4⟩ := h.2.2 j v hv
  have hj : j < n := by have := (List.getElem?_eq_some_iff.1 hv).1; rwa [h.2.1] at this
  exact ⟨ys, h1, h2, h3.trans (e j hj), h4⟩⟩
theorem Qls.chg {p : Nat} {w w' : World} {base n L : Nat} {bv : Value} {us : List Value} {F : Nat → Pol (Zp p)} {T : Nat → Prop} {e : TypeId} (h : Qls p w base bv us n L F) (hc : Chg w w' T) (hT : ∀ b, b < w.heap.size → T b → Tyb w e b) (h1 : 43 ≠ e) (h2 : 27 ≠ e) : Qls p w' base bv us n L F :=
 ⟨rowOwn_chgT h.1 hc hT h1, h.2.1, fun j v hv => by
  obtain ⟨ys, k1, k2⟩ := h.2.2 j v hv
  exact ⟨ys, rowOwn_chgT k1 hc hT h2, k2⟩⟩
theorem Qls.nil (p : Nat) (w : World) (base L : Nat) (F : Nat → Pol (Zp p)) : Qls p w base (.slice none 0 0) [] 0 L F := ⟨World.ownsRow_nil _ _ _ _, rfl, fun j v hv => by simp at hv⟩
section
open CR
variable {p n : Nat}
theorem her_one (tr : Trial p) : HerI n n (fun i k => if i = k then (1 : Pol (Zp p)) else 0) (List.range n) := by
 have hne : (1 : Pol (Zp p)) ≠ 0 := (ln_one1 tr).ne
 have hg : ∀ t, t < n → (List.range n).getD t 0 = t := fun t ht => by simp [List.getD, ht]
 have hl : (List.range n).length = n := List.length_range
 refine ⟨⟨fun t ht => ?_, fun s t hst ht => ?_⟩, by rw [hl]; exact Nat.le_refl _, fun t ht => ?_, fun t ht => ?_, fun t ht k hk => ?_, fun i h1 h2 => ?_, fun s t hst ht => ?_⟩ <;> rw [hl] at *
 ·rw [hg t ht]; exact ht
 ·rw [hg t ht, hg s (by omega)]; exact hst
 ·rw [hg t ht, if_pos rfl]; exact Mo.one
 ·rw [hg t ht, if_pos rfl]; exact hne
 ·rw [hg t ht] at hk; rw [if_neg (by omega)]
 ·omega
 ·rw [hg t ht, if_pos rfl, if_neg (by omega)]; exact Dl.zero hne
theorem her_unim (tr : Trial p) {U V : (Nat → Nat → Pol (Zp p))} {X : MT (Pol (Zp p)) n n} {P : List Nat} (hX : Inv (MT.of n n U) X) (hr : Rq n (n + n) (augM n U) V) (h : HerI n n V P) : ∀ i k, i < n → k < n → V i (n + k) = X.e i k := by
 obtain ⟨⟨T', hT⟩, hs⟩ := her_split hr
 obtain ⟨T, eT⟩ : ∃ T, T = MT.of n n fun i k => V i (n + k) := ⟨_, rfl⟩
 rw [← eT] at hT
 have e1 : MT.of n n V = T * MT.of n n U := MT.ext fun i k hi hk => by
  rw [MT.of_e _ hi hk, MT.e_mul, hs i k hi hk]
  exact sm_congr fun s hs => by rw [eT, MT.of_e _ hi hs, MT.of_e _ hs hk]
 have e2 : X * T' * MT.of n n V = MT.one n := by rw [e1, MT.mul_assoc, ← MT.mul_assoc T', hT.2, MT.one_mul, hX.2]
 obtain ⟨-, k⟩ := her_unique tr h (her_one (n := n) tr) (X := V) (X' := (X * T').e) (fun i k hi hk => by
  rw [sm_one hk fun j hj hne => by rw [if_neg hne, mul_zero], if_pos rfl, mul_one]) (fun i k hi hk => by
  have e3 := congrArg (fun M : MT (Pol (Zp p)) n n => M.e i k) e2
  have e4 : (MT.one n : MT (Pol (Zp p)) n n).e i k = if i = k then 1 else 0 := MT.e_one hi hk
  rw [← e4]
  refine e3.symm.trans ?_
  rw [MT.e_mul]
  exact sm_congr fun s hs => by rw [MT.of_e _ hs hk])
 have e5 : T * MT.of n n U = MT.one n := by
  rw [← e1]
  exact MT.ext fun i j hi hj => by rw [MT.of_e _ hi hj, MT.e_one hi hj, k i j hi hj]
 have e6 : T = X := by
  have : T * (MT.of n n U * X) = X := by rw [← MT.mul_assoc, e5, MT.one_mul]
  rw [← this, hX.1, MT.mul_one]
 intro i j hi hj
 rw [← e6, eT, MT.of_e _ hi hj]
theorem dm1 {i k : Nat} (hk : k < n) : (i * n + k) / n = i := by rw [Nat.mul_comm, Nat.mul_add_div (by omega), Nat.div_eq_of_lt hk, Nat.add_zero]
theorem dm2 {i k : Nat} (hk : k < n) : (i * n + k) % n = k := by rw [Nat.mul_comm, Nat.mul_add_mod, Nat.mod_eq_of_lt hk]
theorem xa_of {xs : List Nat} {i k : Nat} (hi : i < n) (hk : k < n) : (XA (mx p n n xs)).e ((i * n + k) / n) (0 + (i * n + k) % n) = pl p (if i = k then [(-Zp.of p (xs.getD (i * n + k) 0)).val, 1] else [(-Zp.of p (xs.getD (i * n + k) 0)).val]) := by
 have e1 : Zp.of p 1 = 1 := Zp.of_one p
 have ez : Zp.of p (-Zp.of p (xs.getD (i * n + k) 0)).val = -(mx p n n xs).e i k := by rw [Zp.of_val, mx_e _ hi hk]
 rw [dm1 hk, dm2 hk, Nat.zero_add]
 unfold XA
 rw [MT.of_e _ hi hk]
 refine Pol.ext fun j => ?_
 rw [Pol.c_sub, c_mon, pl_c]
 by_cases h : i = k
 ·rw [if_pos h, if_pos h, c_mon]
  match j with
  | 0 => rw [if_neg (by decide), if_pos rfl, sub_eq, zero_add]; exact ez.symm
  | 1 => rw [if_pos rfl, if_neg (by decide), sub_zero]; exact e1.symm
  | j + 2 => rw [if_neg (by omega), if_neg (by omega), sub_zero]; rfl
 ·rw [if_neg h, if_neg h, Pol.c_zero]
  match j with
  | 0 => rw [if_pos rfl, sub_eq, zero_add]; exact ez.symm
  | j + 1 => rw [if_neg (by omega), sub_zero]; rfl
noncomputable def pks (W : (Nat → Nat → Pol (Zp p))) (i : Nat) : List Nat := (List.range i).filter fun k => decide (1 < pln (W k k))
theorem pks_succ (W : (Nat → Nat → Pol (Zp p))) (i : Nat) : pks W (i + 1) = pks W i ++ if 1 < pln (W i i) then [i] else [] := by
 unfold pks
 rw [List.range_succ, List.filter_append]
 congr 1
 by_cases h : 1 < pln (W i i)
 ·rw [List.filter_cons_of_pos (by simpa using h), if_pos h]; rfl
 ·rw [List.filter_cons_of_neg (by simpa using h), if_neg h]; rfl
theorem pks_len (W : (Nat → Nat → Pol (Zp p))) (i : Nat) : (pks W i).length ≤ i := by
 unfold pks
 have := List.length_filter_le (fun k => decide (1 < pln (W k k))) (List.range i)
 rwa [List.length_range] at this
theorem pks_lt {W : (Nat → Nat → Pol (Zp p))} {i k : Nat} (h : k ∈ pks W i) : k < i ∧ 1 < pln (W k k) := by
 unfold pks at h
 rw [List.mem_filter, List.mem_range] at h
 exact ⟨h.1, by simpa using h.2⟩
end
end Go.Proofs.Ytkmfhabgempjiaa
