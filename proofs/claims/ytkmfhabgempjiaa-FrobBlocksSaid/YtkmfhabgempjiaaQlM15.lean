/- xform: Smith's first reading; Smith of what is no matrix; divides. -/
import Derived.Test.YtkmfhabgempjiaaQlM14
import Derived.Test.YtkmfhabgempjiaaQlM5
import Derived.Test.YtkmfhabgempjiaaQlM7
import Derived.Test.YtkmfhabgempjiaaQlM12
namespace Go.Proofs.Ytkmfhabgempjiaa
set_option maxHeartbeats 4000000
open Go.RowKit
def SeqB (r c : Nat) (Ls : Nat → Nat) : Prop := ∀ t, t < r → t < c → Ls t ≤ Ls (t + 1) ∧ Ls t ≤ 32767 ∧ ((2 ^ Ls t ≤ Ls (t + 1) + 1 ∧ 2 ^ Ls t ≤ 32768) ∨ (t + 1 = r ∧ t + 1 = c))
theorem sms_seq {p r c : Nat} (tr : Trial p) {A : MT (Pol (Zp p)) r c} {Ls : Nat → Nat} (h : SeqB r c Ls) : SmS p r c A fun t W U V => Bds r c (Ls t) (1 + Ls t) (1 + 2 * Ls t) W U V := by
 intro t W U V htr htc hb hI _
 obtain ⟨h1, h2, h3⟩ := h t htr htc
 rcases h3 with ⟨h3, h4⟩ | h3
 ·refine ⟨_, _, _, _, Ls t, stp_pot (L0 := Ls t) (LU := 1 + Ls t) (LV := 1 + 2 * Ls t) (K := 2 ^ Ls t) tr htr htc (by omega) (by omega) ?_ ?_, ⟨_, PlB.start hb.1 hb.2.1 hb.2.2 (.inl (Nat.le_refl _))⟩, ?_⟩
  ·have : Ls t < 2 ^ Ls t := Nat.lt_two_pow_self
   omega
  ·have h5 : Ls t ≤ 15 := by
    apply Nat.le_of_not_lt
    intro h5
    have : 2 ^ 16 ≤ 2 ^ Ls t := Nat.pow_le_pow_right (by decide) h5
    omega
   omega
  ·rintro W' U' V' ⟨Lf, k1, k2, k3, k4, k5⟩
   have k6 : Lf ≤ Ls (t + 1) := by omega
   exact ⟨fun a c ha hc => dlt_mono (k3 a c ha hc) k6, fun a c ha hc => dlt_mono (k4 a c ha hc) (by omega), fun a c ha hc => dlt_mono (k5 a c ha hc) (by omega)⟩
 ·refine ⟨_, _, _, _, Ls t, stp_pot (L0 := Ls t) (LU := 1 + Ls t) (LV := 1 + 2 * Ls t) (K := 0) tr htr htc (by omega) (by omega) (by omega) (by omega), ⟨_, PlB.start hb.1 hb.2.1 hb.2.2 (.inr h3)⟩, ?_⟩
  rintro W' U' V' ⟨Lf, k1, k2, k3, k4, k5⟩
  have k6 : Lf ≤ Ls (t + 1) := by omega
  exact ⟨fun a c ha hc => dlt_mono (k3 a c ha hc) k6, fun a c ha hc => dlt_mono (k4 a c ha hc) (by omega), fun a c ha hc => dlt_mono (k5 a c ha hc) (by omega)⟩
def lsq3 (t : Nat) : Nat := if t = 0 then 4 else if t = 1 then 15 else 32767
def lsq4 (t : Nat) : Nat := if t = 0 then 2 else if t = 1 then 3 else if t = 2 then 7 else 127
theorem seq4 {r c : Nat} (hr : r ≤ 4) (hc : c ≤ 4) : SeqB r c lsq4 := by
 intro t h1 h2
 rcases (show t = 0 ∨ t = 1 ∨ t = 2 ∨ t = 3 by omega) with rfl | rfl | rfl | rfl
 ·exact ⟨by decide, by decide, .inl ⟨by decide, by decide⟩⟩
 ·exact ⟨by decide, by decide, .inl ⟨by decide, by decide⟩⟩
 ·exact ⟨by decide, by decide, .inl ⟨by decide, by decide⟩⟩
 ·exact ⟨by decide, by decide, .inr ⟨by omega, by omega⟩⟩
theorem seq_fin {p r c LM : Nat} {Ls : Nat → Nat} (h : ∀ t, Ls t ≤ LM) {t : Nat} {W U V : (Nat → Nat → Pol (Zp p))} (hb : Bds r c (Ls t) (1 + Ls t) (1 + 2 * Ls t) W U V) : Bds r c (1 + 2 * LM) (1 + 2 * LM) (1 + 2 * LM) W U V :=
 ⟨fun a c ha hc => dlt_mono (hb.1 a c ha hc) (by have := h t; omega), fun a c ha hc => dlt_mono (hb.2.1 a c ha hc) (by have := h t; omega), fun a c ha hc => dlt_mono (hb.2.2 a c ha hc) (by have := h t; omega)⟩
end Go.Proofs.Ytkmfhabgempjiaa
/- What the laws of layer 23 say, plainly: values and determinants of products. -/
namespace Go.Proofs.Ytkmfhabgempjiaa
set_option maxHeartbeats 4000000
open Go.RowKit
section
variable {R S : Type} [CR R] [CR S]
end
section
variable {p : Nat}
theorem pl_cons' (x : Nat) (xs : List Nat) : pl p (x :: xs) = mon (Zp.of p x) 0 + mon 1 1 * pl p xs := Pol.ext fun i => by
 rw [Pol.c_add, c_mon1, c_mon, pl_c]
 cases i with
 | zero => simp [CR.add_zero]
 | succ i => simp [CR.zero_add, pl_c]
end
end Go.Proofs.Ytkmfhabgempjiaa
/- xform: awake. -/
namespace Go.Proofs.Ytkmfhabgempjiaa
set_option maxHeartbeats 4000000
open Go.RowKit
section
open CR
variable {p : Nat}
theorem SmR.eqv {R : Type} [CR R] {n m : Nat} {A : MT R n m} {U W V : Nat → Nat → R} (h : SmR A U W V) : Eqv A (MT.of n m W) := by
 obtain ⟨X, hX⟩ := h.u
 obtain ⟨Y, hY⟩ := h.v
 exact ⟨_, X, _, Y, hX, hY, h.e⟩
theorem pl_one (p : Nat) : pl p [1] = 1 := pl_sing1 p
end
theorem Blk.sl {w : World} {g : Nat} {xs : List Nat} (h : Blk 27 w g (vs .u64 xs)) : Sl .u64 w (.slice (some ⟨g, 0, none⟩) xs.length xs.length) xs :=
 ⟨_, g, 0, _, rfl, Nat.le_refl _, fun _ => rfl, fun j hj => by rw [Nat.zero_add, h.cell j]; exact vs_get .u64 xs j hj⟩
end Go.Proofs.Ytkmfhabgempjiaa
/- Chapter 24: Divides, Unimodular; Smith's form read place by place. -/
namespace Go.Proofs.Ytkmfhabgempjiaa
set_option maxHeartbeats 4000000
open Go.RowKit
set_option maxRecDepth 20000 in
theorem rf24_Divides (p : Nat) (v u : Value) (xs ys : List Nat) (w : World) (hp : FP p) (ht : Trial p) (hv : Sl .u64 w v xs) (hu : Sl .u64 w u ys) (nx : Nrm p xs) (ny : Nrm p ys) (hm : xs.length ≤ 1000000000000) (hn : ys.length ≤ 1000000000000) (β : Bool) (hβ : β = true ↔ Dv (pl p xs) (pl p ys)) :
  Calls Try.prog 37 #[.agg #[.int .u64 p], v, u] w (RetW w (.bool β)) := by
 have ex := nl_of hp.pos nx
 have hz : xs.length = 0 → (Dv (pl p xs) (pl p ys) ↔ ys.length = 0) := fun e => by
  rw [List.length_eq_zero_iff.1 e, pl_nil]
  constructor
  ·intro h
   have h1 := h.of_zero
   rw [pl_inj hp.pos ny (nrm_nil p) (by rw [h1, pl_nil])]; rfl
  ·intro h; rw [List.length_eq_zero_iff.1 h, pl_nil]; exact Dv.zero _
 have HP := Lib.hid hp; have HTR := Lib.hid ht; have HB := Lib.hid hβ; have HZ := Lib.hid hz; have EX := Lib.hid ex
 obtain ⟨wb, ew, KF, B0, -⟩ := boxes1 w 29 [.int .u64 p]
 replace hv := hv.next B0; replace hu := hu.next B0
 obtain ⟨ax, bx, ox, cx, rfl, -, -⟩ := id hv
 obtain ⟨ay, by', oy, cy, rfl, -, -⟩ := id hu
 clear hp ht hβ hz nx ny ex
 go_enter Try.func37, Try.ntmps37
 go_upto_region 1 with (fail)
 rw [← ew]
 obtain ⟨g, eg⟩ : ∃ g, g = w.heap.size := ⟨_, rfl⟩
 rw [← eg] at KF ⊢
 clear ew eg
 have c0 := KF.cell 0
 by_cases h0 : xs.length = 0
 ·have H00 := Lib.hid h0
  have hx1 : ((xs.length : Int) == 0) = true := by simp [h0]
  clear h0
  by_cases hy : ys.length = 0
  ·have hy1 : ((ys.length : Int) == 0) = true := by simp [hy]
   have e1 : β = true := HB.out.2 ((HZ.out H00.out).2 hy)
   have FIN := Lib.hid (show RetW w (.bool β) (.returned (.bool true)) wb from ⟨by rw [e1], B0⟩)
   clear hy e1 B0 hv hu KF c0
   go_wp2
   go_ret
   exact FIN.out
  ·have hy1 : ((ys.length : Int) == 0) = false := by simp [hy]
   have e1 : β = false := Bool.eq_false_iff.2 fun e => hy ((HZ.out H00.out).1 (HB.out.1 e))
   have FIN := Lib.hid (show RetW w (.bool β) (.returned (.bool false)) wb from ⟨by rw [e1], B0⟩)
   clear hy e1 B0 hv hu KF c0
   go_wp2
   go_ret
   exact FIN.out
 ·have H00 := Lib.hid h0
  have hx1 : ((xs.length : Int) == 0) = false := by simp [h0]
  clear h0
  go_wp2_with fail
  (with_reducible refine (fp_DivMod p _ _ ys xs _ HP.out HTR.out hu hv hn hm (show nl p xs ≠ [] from fun e => absurd (show xs.length = 0 by rw [EX.out.symm.trans e]; exact List.length_nil) H00.out)).mono ?_); rintro e w1 ⟨rq, rr, zq, zr, rfl, o8, p8, m8, n8, v8, d8, l8, k8, b1⟩
  have B1 := B0.trans (b1.mono B0.size)
  have hd := dv_r (a := pl p ys) (g := pl p xs) (q := pl p zq) (zg := xs) HP.out.pos HTR.out rfl v8 n8 d8
  obtain ⟨ar, cr, er⟩ := p8.sliced
  subst er
  clear b1 c0 KF hv hu B0 o8 p8 m8 n8 v8 d8 l8 k8
  by_cases hr : zr.length = 0
  ·have hr1 : ((zr.length : Int) == 0) = true := by simp [hr]
   have e1 : β = true := HB.out.2 (hd.2 hr)
   have FIN := Lib.hid (show RetW w (.bool β) (.returned (.bool true)) w1 from ⟨by rw [e1], B1⟩)
   clear hr B1 e1 hd
   go_wp2
   go_ret
   exact FIN.out
  ·have hr1 : ((zr.length : Int) == 0) = false := by simp [hr]
   have e1 : β = false := Bool.eq_false_iff.2 fun e => hr (hd.1 (HB.out.1 e))
   have FIN := Lib.hid (show RetW w (.bool β) (.returned (.bool false)) w1 from ⟨by rw [e1], B1⟩)
   clear hr B1 e1 hd
   go_wp2
   go_ret
   exact FIN.out
section
open CR
variable {p : Nat}
end
end Go.Proofs.Ytkmfhabgempjiaa
/- Layer 24, plain: what the laws want. -/
namespace Go.Proofs.Ytkmfhabgempjiaa
set_option maxHeartbeats 4000000
open Go.RowKit
section
open CR
variable {p : Nat}
theorem ln_one1 (ht : Trial p) : Ln (1 : Pol (Zp p)) 1 :=
 ⟨fun i hi => by rw [Pol.one_def, c_mon, if_neg (by omega)], fun m hm => by
  obtain rfl : m = 0 := by omega
  rw [Pol.one_def, c_mon, if_pos rfl]; exact Zp.one_ne ht⟩
theorem inv_ln (tr : Trial p) {n : Nat} {A B : MT (Pol (Zp p)) n n} (h : Inv A B) : Ln A.det 1 := by
 have h1 := h.det
 obtain ⟨a, ha⟩ := Ln.exists A.det
 obtain ⟨b, hb⟩ := Ln.exists B.det
 have hne : (1 : Pol (Zp p)) ≠ 0 := (ln_one1 tr).ne
 have ha0 : A.det ≠ 0 := fun e => hne (by rw [← h1, e, zero_mul])
 have hb0 : B.det ≠ 0 := fun e => hne (by rw [← h1, e, mul_zero])
 obtain ⟨a, rfl⟩ := ha.pos ha0
 obtain ⟨b, rfl⟩ := hb.pos hb0
 have h2 := ha.mul tr hb
 rw [h1] at h2
 have h3 := h2.unique (ln_one1 tr)
 obtain rfl : a = 0 := by omega
 exact ha
theorem rd_at {r c L : Nat} {W : (Nat → Nat → Pol (Zp p))} {zs : List (List Nat)} (h : ∀ j, j < r * c → Nrm p (zs.getD j []) ∧ pl p (zs.getD j []) = W (j / c) (0 + j % c) ∧ (zs.getD j []).length ≤ L) {i k : Nat} (hi : i < r) (hk : k < c) : aT p c zs i k = W i k := by
 have h1 := (h (i * c + k) (at_lt rfl hi hk)).2.1
 show pl p (zs.getD (i * c + k) []) = _
 rw [h1, Nat.mul_comm, Nat.mul_add_div (by omega), Nat.div_eq_of_lt hk, Nat.mul_add_mod, Nat.mod_eq_of_lt hk, Nat.add_zero, Nat.zero_add]
theorem jdm {r c j : Nat} (hj : j < r * c) : j / c < r ∧ j % c < c ∧ j / c * c + j % c = j := by
 have hc : 0 < c := Nat.pos_of_ne_zero fun e => by rw [e, Nat.mul_zero] at hj; omega
 exact ⟨Nat.div_lt_of_lt_mul (by rwa [Nat.mul_comm] at hj), Nat.mod_lt _ hc, by rw [Nat.mul_comm]; exact Nat.div_add_mod j c⟩
end
end Go.Proofs.Ytkmfhabgempjiaa
/- Layer 25, plain: columns of polynomials, read at a matrix. -/
namespace Go.Proofs.Ytkmfhabgempjiaa
set_option maxHeartbeats 4000000
open Go.RowKit
section
open CR
variable {R : Type} [CR R] {n m : Nat}
def phN (A : MT R n n) (B : MT (Pol R) n m) (N : Nat) : MT R n m := ms N fun t => A.pow t * cf B t
theorem phN_more (A : MT R n n) {B : MT (Pol R) n m} {N : Nat} (h : ∀ t, N ≤ t → cf B t = 0) : ∀ k, phN A B (N + k) = phN A B N
 | 0 => rfl
 | k + 1 => by
  show phN A B (N + k) + A.pow (N + k) * cf B (N + k) = _
  rw [h _ (by omega), MT.mul_zero, MT.add_zero, phN_more A h k]
noncomputable def ph (A : MT R n n) (B : MT (Pol R) n m) : MT R n m := phN A B (Classical.choose B.bound)
theorem ph_eq (A : MT R n n) {B : MT (Pol R) n m} {N : Nat} (h : ∀ t, N ≤ t → cf B t = 0) : ph A B = phN A B N := by
 have h0 := Classical.choose_spec B.bound
 unfold ph
 rw [← phN_more A h0 N, ← phN_more A h (Classical.choose B.bound), Nat.add_comm]
theorem pol_sum (f : Pol R) {N : Nat} (h : f.dlt N) : f = sm N fun i => mon (f.c i) i := Pol.ext fun t => by
 rw [sm_c]
 by_cases ht : t < N
 ·rw [sm_one (k := t) ht fun j _ hj => by rw [c_mon, if_neg (fun e => hj e.symm)], c_mon, if_pos rfl]
 ·rw [h t (by omega), sm_zero' fun j hj => by rw [c_mon, if_neg (by omega)]]
def cl {S : Type} [CR S] {n m : Nat} (B : MT S n m) (k : Nat) : MT S n 1 := MT.of n 1 fun i _ => B.e i k
end
end Go.Proofs.Ytkmfhabgempjiaa
/- Layer 25, plain: a basis of columns and their images; Frobenius' form. -/
namespace Go.Proofs.Ytkmfhabgempjiaa
set_option maxHeartbeats 4000000
open Go.RowKit
section
open CR
variable {p n : Nat}
theorem ms_head {R : Type} [CR R] {n m : Nat} (f : Nat → MT R n m) : ∀ N, ms (N + 1) f = f 0 + ms N fun j => f (j + 1)
 | 0 => by show 0 + f 0 = f 0 + 0; rw [MT.zero_add, MT.add_zero]
 | N + 1 => by
  show ms (N + 1) f + f (N + 1) = f 0 + (ms N (fun j => f (j + 1)) + f (N + 1))
  rw [ms_head f N, MT.add_assoc]
theorem cl_e {S : Type} [CR S] {n m : Nat} (B : MT S n m) {i k : Nat} (hi : i < n) : (cl B k).e i 0 = B.e i k := MT.of_e _ hi (by omega)
abbrev Prt (p n : Nat) := Nat × (Nat → Zp p) × MT (Zp p) n 1
def bdm : List (Prt p n) → Nat
 | [] => 0
 | x :: l => x.1 + bdm l
def cmpE (d : Nat) (c : Nat → Zp p) (i k : Nat) : Zp p := (if i = k + 1 then 1 else 0) + (if k + 1 = d then -c i else 0)
def fmE : List (Prt p n) → Nat → Nat → Zp p
 | [], _, _ => 0
 | x :: l, i, k => if i < x.1 ∨ k < x.1 then (if i < x.1 ∧ k < x.1 then cmpE x.1 x.2.1 i k else 0) else fmE l (i - x.1) (k - x.1)
end
end Go.Proofs.Ytkmfhabgempjiaa
/- Plain: the places of a block companion's matrix where a unit is the pivot: how the blocks stand. -/
namespace Go.Proofs.Ytkmfhabgempjiaa
set_option maxHeartbeats 4000000
open Go.RowKit
def sw (t a x : Nat) : Nat := if x = t then a else if x = a then t else x
theorem sw_t (t a : Nat) : sw t a t = a := if_pos rfl
theorem sw_a (t a : Nat) : sw t a a = t := by
 unfold sw; split
 ·rename_i h; exact h
 ·rw [if_pos rfl]
theorem sw_o {t a x : Nat} (h1 : x ≠ t) (h2 : x ≠ a) : sw t a x = x := by unfold sw; rw [if_neg h1, if_neg h2]
theorem sw_sw (t a x : Nat) : sw t a (sw t a x) = x := by
 by_cases h1 : x = t
 ·rw [h1, sw_t, sw_a]
 ·by_cases h2 : x = a
  ·rw [h2, sw_a, sw_t]
  ·rw [sw_o h1 h2, sw_o h1 h2]
theorem sw_inj {t a x y : Nat} (h : sw t a x = sw t a y) : x = y := by rw [← sw_sw t a x, h, sw_sw]
theorem sw_lt {t a x n : Nat} (h1 : t < n) (h2 : a < n) (h3 : x < n) : sw t a x < n := by unfold sw; split <;> (try split) <;> assumption
theorem sw_ge {t a x l : Nat} (h1 : l ≤ t) (h2 : l ≤ a) (h3 : l ≤ x) : l ≤ sw t a x := by unfold sw; split <;> (try split) <;> assumption
theorem swRC {R : Type} (W : Nat → Nat → R) (t a c x y : Nat) : swC (swR W t a) t c x y = W (sw t a x) (sw t c y) := by
 have e : ∀ y, swR W t a x y = W (sw t a x) y := fun y => by
  unfold swR sw; split
  ·rfl
  ·split <;> rfl
 unfold swC
 by_cases h1 : y = t
 ·rw [if_pos h1, e, h1, sw_t]
 ·by_cases h2 : y = c
  ·rw [if_neg h1, if_pos h2, e, h2, sw_a]
  ·rw [if_neg h1, if_neg h2, e, sw_o h1 h2]
open CR
section
variable {p : Nat}
def ceE (q : Pol (Zp p)) (d a c : Nat) : Pol (Zp p) := (if a = c then mon 1 1 else 0) - mon (cmpE d q.c a c) 0
structure Dat (n k : Nat) (s d : Nat → Nat) (q : Nat → Pol (Zp p)) : Prop where
 s0 : s 0 = 0
 ss : ∀ i, i < k → s (i + 1) = s i + d i
 sn : s k = n
 hd : ∀ i, i < k → 1 ≤ d i ∧ d i ≤ 3
 hq : ∀ i, i < k → Ln (q i) (d i + 1) ∧ (q i).c (d i) = 1
theorem Dat.mono {n k : Nat} {s d : Nat → Nat} {q : Nat → Pol (Zp p)} (h : Dat n k s d q) {i j : Nat} (hij : i ≤ j) (hj : j ≤ k) : s i ≤ s j := by
  induction j with
  | zero => obtain rfl : i = 0 := by omega
            exact Nat.le_refl _
  | succ j ih =>
    by_cases e : i = j + 1
    · rw [e]; exact Nat.le_refl _
    · have h1 := ih (by omega) (by omega)
      have h2 := h.ss j (by omega)
      omega
theorem Dat.next {n k : Nat} {s d : Nat → Nat} {q : Nat → Pol (Zp p)} (h : Dat n k s d q) {i j : Nat} (hij : i < j) (hj : j ≤ k) : s i + d i ≤ s j := by
 have h1 := h.ss i (by omega)
 have h2 := h.mono (show i + 1 ≤ j by omega) hj
 omega
theorem Dat.find {n k : Nat} {s d : Nat → Nat} {q : Nat → Pol (Zp p)} (h : Dat n k s d q) {j c : Nat} : j ≤ k → s j ≤ c → c < n → ∃ i x, j ≤ i ∧ i < k ∧ x < d i ∧ c = s i + x := by
 intro hj hc hn
 obtain ⟨u, hu⟩ : ∃ u, u = k - j := ⟨_, rfl⟩
 induction u generalizing j with
 | zero =>
  obtain rfl : j = k := by omega
  rw [h.sn] at hc; omega
 | succ u ih =>
  have h1 := h.ss j (by omega)
  by_cases e : c < s (j + 1)
  ·exact ⟨j, c - s j, Nat.le_refl _, by omega, by omega, by omega⟩
  ·obtain ⟨i, x, a1, a2, a3, a4⟩ := ih (j := j + 1) (by omega) (by omega) (by omega)
   exact ⟨i, x, by omega, a2, a3, a4⟩
def Raw (n k : Nat) (s d : Nat → Nat) (q : Nat → Pol (Zp p)) (t j : Nat) (W : Nat → Nat → Pol (Zp p)) : Prop :=
 ∀ i, j ≤ i → i < k → ∀ a, a < d i → (∀ c, t ≤ c → c < n → W (s i + a) c = if s i ≤ c ∧ c < s i + d i then ceE (q i) (d i) a (c - s i) else 0) ∧ ∀ r, t ≤ r → r < n → W r (s i + a) = if s i ≤ r ∧ r < s i + d i then ceE (q i) (d i) (r - s i) a else 0
structure Gs (n k : Nat) (s d : Nat → Nat) (q : Nat → Pol (Zp p)) (j0 t j m : Nat) (R C : Nat → Nat) (W : Nat → Nat → Pol (Zp p)) : Prop where
 pos : t + j + m = s j0
 jk : j0 ≤ k
 rr : ∀ i, i < j + m → t ≤ R i ∧ R i < s j0
 cc : ∀ i, i < j + m → t ≤ C i ∧ C i < s j0
 ri : ∀ i l, i < j + m → l < j + m → R i = R l → i = l
 ci : ∀ i l, i < j + m → l < j + m → C i = C l → i = l
 rc : ∀ a, t ≤ a → a < s j0 → ∃ i, i < j + m ∧ R i = a
 cv : ∀ a, t ≤ a → a < s j0 → ∃ i, i < j + m ∧ C i = a
 raw : Raw n k s d q t j0 W
 one : ∀ i, i < j → ∃ u v : Zp p, u * v = 1 ∧ W (R i) (C i) = mon u 0 * q i
 z : ∀ i l, i < j + m → l < j + m → i ≠ l → (i < j ∨ l < j) → W (R i) (C l) = 0
section
variable {n k : Nat} {s d : Nat → Nat} {q : Nat → Pol (Zp p)} {j0 t j m : Nat} {R C : Nat → Nat} {W : Nat → Nat → Pol (Zp p)}
theorem Gs.step (D : Dat n k s d q) (h : Gs n k s d q j0 t j (m + 1) R C W) {a c : Nat} (ha : R (j + m) = a) (hc : C (j + m) = c) {g : Pol (Zp p)} {W' : Nat → Nat → Pol (Zp p)}
  (hW : ∀ x y, t < x → x < n → t < y → y < n → W' x y = W (sw t a x) (sw t c y) - g * (W (sw t a x) c * W a (sw t c y))) :
  Gs n k s d q j0 (t + 1) j m (fun i => sw t a (R i)) (fun i => sw t c (C i)) W' ∧ ∀ i l, i < j + m → l < j + m → W' (sw t a (R i)) (sw t c (C l)) = W (R i) (C l) - g * (W (R i) c * W a (C l)) := by
 have hsn : s j0 ≤ n := by rw [← D.sn]; exact D.mono h.jk (Nat.le_refl _)
 have hpos := h.pos
 have hra := h.rr (j + m) (by omega)
 have hca := h.cc (j + m) (by omega)
 rw [ha] at hra; rw [hc] at hca
 have hrr : ∀ i, i < j + m → t + 1 ≤ sw t a (R i) ∧ sw t a (R i) < s j0 := fun i hi => by
  have h1 := h.rr i (by omega)
  have h2 : R i ≠ a := fun e => by have := h.ri i (j + m) (by omega) (by omega) (by rw [e, ha]); omega
  by_cases e : R i = t
  ·rw [e, sw_t]; omega
  ·rw [sw_o e h2]; omega
 have hcc : ∀ i, i < j + m → t + 1 ≤ sw t c (C i) ∧ sw t c (C i) < s j0 := fun i hi => by
  have h1 := h.cc i (by omega)
  have h2 : C i ≠ c := fun e => by have := h.ci i (j + m) (by omega) (by omega) (by rw [e, hc]); omega
  by_cases e : C i = t
  ·rw [e, sw_t]; omega
  ·rw [sw_o e h2]; omega
 have hv : ∀ i l, i < j + m → l < j + m → W' (sw t a (R i)) (sw t c (C l)) = W (R i) (C l) - g * (W (R i) c * W a (C l)) := fun i l hi hl => by
  have h1 := hrr i hi; have h2 := hcc l hl
  rw [hW _ _ (by omega) (by omega) (by omega) (by omega), sw_sw, sw_sw]
 refine ⟨⟨by omega, h.jk, hrr, hcc, fun i l hi hl e => h.ri i l (by omega) (by omega) (sw_inj e), fun i l hi hl e => h.ci i l (by omega) (by omega) (sw_inj e), fun x h1 h2 => ?_, fun x h1 h2 => ?_, ?_, fun i hi => ?_, fun i l hi hl hne ho => ?_⟩, hv⟩
 ·obtain ⟨i, k1, k2⟩ := h.rc (sw t a x) (sw_ge (Nat.le_refl _) hra.1 (by omega)) (sw_lt (by omega) hra.2 h2)
  have hne : i ≠ j + m := fun e => by
   rw [e, ha] at k2
   have h3 : sw t a x = sw t a t := by rw [sw_t, ← k2]
   have := sw_inj h3; omega
  exact ⟨i, by omega, by show sw t a (R i) = x; rw [k2, sw_sw]⟩
 ·obtain ⟨i, k1, k2⟩ := h.cv (sw t c x) (sw_ge (Nat.le_refl _) hca.1 (by omega)) (sw_lt (by omega) hca.2 h2)
  have hne : i ≠ j + m := fun e => by
   rw [e, hc] at k2
   have h3 : sw t c x = sw t c t := by rw [sw_t, ← k2]
   have := sw_inj h3; omega
  exact ⟨i, by omega, by show sw t c (C i) = x; rw [k2, sw_sw]⟩
 ·intro i hi hik x hx
  have hsi : s j0 ≤ s i := D.mono hi (by omega)
  have hsi2 : s i + d i ≤ n := by rw [← D.sn]; exact D.next hik (Nat.le_refl _)
  obtain ⟨r1, r2⟩ := h.raw i hi hik x hx
  refine ⟨fun y h1 h2 => ?_, fun y h1 h2 => ?_⟩
  ·rw [hW _ _ (by omega) (by omega) (by omega) h2, sw_o (x := s i + x) (by omega) (by omega), r1 c (by omega) (by omega), if_neg (by omega), zero_mul, mul_zero, sub_zero, r1 _ (sw_ge (Nat.le_refl _) hca.1 (by omega)) (sw_lt (by omega) (by omega) h2)]
   by_cases e : y < s j0
   ·have := sw_lt (t := t) (a := c) (x := y) (n := s j0) (by omega) hca.2 e
    rw [if_neg (by omega), if_neg (by omega)]
   ·rw [sw_o (x := y) (by omega) (by omega)]
  ·rw [hW _ _ (by omega) h2 (by omega) (by omega), sw_o (t := t) (a := c) (x := s i + x) (by omega) (by omega), r2 a (by omega) (by omega), if_neg (by omega), mul_zero, mul_zero, sub_zero, r2 _ (sw_ge (Nat.le_refl _) hra.1 (by omega)) (sw_lt (by omega) (by omega) h2)]
   by_cases e : y < s j0
   ·have := sw_lt (t := t) (a := a) (x := y) (n := s j0) (by omega) hra.2 e
    rw [if_neg (by omega), if_neg (by omega)]
   ·rw [sw_o (x := y) (by omega) (by omega)]
 ·obtain ⟨u, v, h1, h2⟩ := h.one i hi
  refine ⟨u, v, h1, ?_⟩
  have h3 := h.z i (j + m) (by omega) (by omega) (by omega) (.inl hi)
  rw [hc] at h3
  show W' (sw t a (R i)) (sw t c (C i)) = _
  rw [hv i i (by omega) (by omega), h3, zero_mul, mul_zero, sub_zero, h2]
 ·show W' (sw t a (R i)) (sw t c (C l)) = _
  rw [hv i l hi hl, h.z i l (by omega) (by omega) hne ho]
  rcases ho with ho | ho
  ·have h3 := h.z i (j + m) (by omega) (by omega) (by omega) (.inl ho)
   rw [hc] at h3
   rw [h3, zero_mul, mul_zero, sub_zero]
  ·have h3 := h.z (j + m) l (by omega) (by omega) (by omega) (.inr ho)
   rw [ha] at h3
   rw [h3, mul_zero, mul_zero, sub_zero]
theorem Gs.perm (h : Gs n k s d q j0 t j (m + 1) R C W) {u v : Nat} (hu : u ≤ m) (hv : v ≤ m) : Gs n k s d q j0 t j (m + 1) (fun i => R (sw (j + u) (j + m) i)) (fun i => C (sw (j + v) (j + m) i)) W := by
 have lt : ∀ {u i}, u ≤ m → i < j + (m + 1) → sw (j + u) (j + m) i < j + (m + 1) := fun hu hi => sw_lt (by omega) (by omega) hi
 have lo : ∀ {u i}, i < j → sw (j + u) (j + m) i = i := fun hi => sw_o (by omega) (by omega)
 have hi' : ∀ {u i}, u ≤ m → (sw (j + u) (j + m) i < j ↔ i < j) := fun {u i} hu => by
  constructor
  ·intro h1
   apply Nat.lt_of_not_le
   intro h2
   have := sw_ge (t := j + u) (a := j + m) (x := i) (l := j) (by omega) (by omega) h2
   omega
  ·intro h1; rw [lo h1]; exact h1
 refine ⟨h.pos, h.jk, fun i hi => h.rr _ (lt hu hi), fun i hi => h.cc _ (lt hv hi), fun i l a1 a2 e => sw_inj (h.ri _ _ (lt hu a1) (lt hu a2) e), fun i l a1 a2 e => sw_inj (h.ci _ _ (lt hv a1) (lt hv a2) e), fun a a1 a2 => ?_, fun a a1 a2 => ?_, h.raw, fun i hi => ?_, fun i l a1 a2 hne ho => ?_⟩
 ·obtain ⟨i, b1, b2⟩ := h.rc a a1 a2
  exact ⟨sw (j + u) (j + m) i, lt hu b1, by show R (sw _ _ (sw _ _ i)) = a; rw [sw_sw]; exact b2⟩
 ·obtain ⟨i, b1, b2⟩ := h.cv a a1 a2
  exact ⟨sw (j + v) (j + m) i, lt hv b1, by show C (sw _ _ (sw _ _ i)) = a; rw [sw_sw]; exact b2⟩
 ·show ∃ a b : Zp p, _ ∧ W (R (sw _ _ i)) (C (sw _ _ i)) = _
  rw [lo hi, lo hi]; exact h.one i hi
 ·refine h.z _ _ (lt hu a1) (lt hv a2) ?_ (ho.imp (fun e => (hi' hu).2 e) fun e => (hi' hv).2 e)
  rcases ho with e | e
  ·rw [lo e]
   intro e2
   have h1 := (hi' (i := l) hv).1 (by rw [← e2]; exact e)
   rw [lo h1] at e2; exact hne e2
  ·rw [lo (u := v) e]
   intro e2
   have h1 := (hi' (i := i) hu).1 (by rw [e2]; exact e)
   rw [lo h1] at e2; exact hne e2
theorem Gs.enter (D : Dat n k s d q) (h : Gs n k s d q j t j 0 R C W) (hj : j < k) : Gs n k s d q (j + 1) t j (d j) (fun i => if i < j then R i else s j + (i - j)) (fun i => if i < j then C i else s j + (i - j)) W := by
 have hs := D.ss j hj
 have hpos := h.pos
 have hrng : ∀ {F : Nat → Nat}, (∀ i, i < j + 0 → t ≤ F i ∧ F i < s j) → ∀ i, i < j + d j → t ≤ (if i < j then F i else s j + (i - j)) ∧ (if i < j then F i else s j + (i - j)) < s (j + 1) := fun hF i hi => by
  by_cases e : i < j
  ·rw [if_pos e]; have := hF i e; omega
  ·rw [if_neg e]; omega
 have hinj : ∀ {F : Nat → Nat}, (∀ i, i < j + 0 → t ≤ F i ∧ F i < s j) → (∀ i l, i < j + 0 → l < j + 0 → F i = F l → i = l) → ∀ i l, i < j + d j → l < j + d j → (if i < j then F i else s j + (i - j)) = (if l < j then F l else s j + (l - j)) → i = l := fun hF hI i l hi hl e => by
  by_cases e1 : i < j
  ·rw [if_pos e1] at e
   have := hF i e1
   by_cases e2 : l < j
   ·rw [if_pos e2] at e; exact hI i l e1 e2 e
   ·rw [if_neg e2] at e; omega
  ·rw [if_neg e1] at e
   by_cases e2 : l < j
   ·rw [if_pos e2] at e
    have := hF l e2; omega
   ·rw [if_neg e2] at e; omega
 have hcov : ∀ {F : Nat → Nat}, (∀ a, t ≤ a → a < s j → ∃ i, i < j + 0 ∧ F i = a) → ∀ a, t ≤ a → a < s (j + 1) → ∃ i, i < j + d j ∧ (if i < j then F i else s j + (i - j)) = a := fun hF a a1 a2 => by
  by_cases e : a < s j
  ·obtain ⟨i, b1, b2⟩ := hF a a1 e
   exact ⟨i, by omega, by rw [if_pos (show i < j from b1)]; exact b2⟩
  ·exact ⟨j + (a - s j), by omega, by rw [if_neg (by omega)]; omega⟩
 have hsn : s (j + 1) ≤ n := by rw [← D.sn]; exact D.mono hj (Nat.le_refl _)
 refine ⟨by omega, hj, hrng h.rr, hrng h.cc, hinj h.rr h.ri, hinj h.cc h.ci, hcov h.rc, hcov h.cv, fun i a1 a2 => h.raw i (by omega) a2, fun i hi => ?_, fun i l hi hl hne ho => ?_⟩
 ·show ∃ u v : Zp p, _ ∧ W (if i < j then R i else _) (if i < j then C i else _) = _
  rw [if_pos hi, if_pos hi]; exact h.one i hi
 ·show W (if i < j then R i else s j + (i - j)) (if l < j then C l else s j + (l - j)) = 0
  by_cases e1 : i < j
  ·have h1 := h.rr i e1
   rw [if_pos e1]
   by_cases e2 : l < j
   ·rw [if_pos e2]; exact h.z i l e1 e2 hne (.inl e1)
   ·rw [if_neg e2, (h.raw j (Nat.le_refl _) hj (l - j) (by omega)).2 (R i) h1.1 (by omega), if_neg (by omega)]
  ·have e2 : l < j := by omega
   have h1 := h.cc l e2
   rw [if_neg e1, if_pos e2, (h.raw j (Nat.le_refl _) hj (i - j) (by omega)).1 (C l) h1.1 (by omega), if_neg (by omega)]
theorem Gs.leave (h : Gs n k s d q j0 t j 1 R C W) (h1 : ∃ u v : Zp p, u * v = 1 ∧ W (R j) (C j) = mon u 0 * q j) : Gs n k s d q j0 t (j + 1) 0 R C W :=
 ⟨by have := h.pos; omega, h.jk, h.rr, h.cc, h.ri, h.ci, h.rc, h.cv, h.raw, fun i hi => by
  by_cases e : i = j
  ·rw [e]; exact h1
  ·exact h.one i (by omega), fun i l hi hl hne _ => h.z i l hi hl hne (by omega)⟩
theorem Gs.pick (D : Dat n k s d q) (h : Gs n k s d q (j + 1) t j m R C W) (hj : j < k) (tr : Trial p) {x0 y0 : Nat} (hx0 : x0 < m) (hy0 : y0 < m) (hu : Ln (W (R (j + x0)) (C (j + y0))) 1) {a c : Nat} (ha : t ≤ a) (han : a < n) (hc : t ≤ c) (hcn : c < n) (hne : W a c ≠ 0)
  (hmin : ∀ i l, t ≤ i → i < n → t ≤ l → l < n → W i l ≠ 0 → pln (W a c) ≤ pln (W i l) ∧ (Bf a c i l → pln (W a c) < pln (W i l))) :
  Ln (W a c) 1 ∧ ∃ x y, x < m ∧ y < m ∧ R (j + x) = a ∧ C (j + y) = c := by
 have hsn : s (j + 1) ≤ n := by rw [← D.sn]; exact D.mono hj (Nat.le_refl _)
 have r0 := h.rr (j + x0) (by omega)
 have c0 := h.cc (j + y0) (by omega)
 obtain ⟨m1, m2⟩ := hmin _ _ r0.1 (by omega) c0.1 (by omega) hu.ne
 rw [pln_eq hu] at m1 m2
 have hp1 : pln (W a c) = 1 := by
  have : pln (W a c) ≠ 0 := fun e => hne (pln_zero.1 e)
  omega
 have hL : Ln (W a c) 1 := by rw [← hp1]; exact pln_ln _
 refine ⟨hL, ?_⟩
 have has : a < s (j + 1) := by
  apply Nat.lt_of_not_le
  intro e
  have := m2 (.inl (by omega)); omega
 obtain ⟨i, i1, rfl⟩ := h.rc a ha has
 have hcs : c < s (j + 1) := by
  apply Nat.lt_of_not_le
  intro e
  obtain ⟨l, x, b1, b2, b3, rfl⟩ := D.find (j := j + 1) hj e hcn
  have h1 := D.mono b1 (by omega)
  exact hne (by rw [(h.raw l b1 b2 x b3).2 (R i) ha han, if_neg (by omega)])
 obtain ⟨l, l1, rfl⟩ := h.cv c hc hcs
 have hne2 : ¬ (i < j ∨ l < j) := fun ho => by
  by_cases e : i = l
  ·subst e
   obtain ⟨u, v, e1, e2⟩ := h.one i (by omega)
   obtain ⟨hd, -⟩ := D.hd i (by omega)
   obtain ⟨hq, -⟩ := D.hq i (by omega)
   have hu2 : Ln (mon u 0 : Pol (Zp p)) (0 + 1) := ⟨fun x hx => by rw [c_mon, if_neg (by omega)], fun x hx => by
    obtain rfl : x = 0 := by omega
    rw [c_mon, if_pos rfl]
    intro e3; rw [e3, zero_mul] at e1; exact Zp.one_ne tr e1.symm⟩
   have h1 := hu2.mul tr hq
   rw [← e2] at h1
   have := h1.unique hL
   omega
  ·exact hne (h.z i l i1 l1 e ho)
 exact ⟨i - j, l - j, by omega, by omega, by rw [show j + (i - j) = i by omega], by rw [show j + (l - j) = l by omega]⟩
end
end
end Go.Proofs.Ytkmfhabgempjiaa
/- Plain: the places of a block companion's matrix where a unit is the pivot: from place to place. -/
namespace Go.Proofs.Ytkmfhabgempjiaa
set_option maxHeartbeats 4000000
open Go.RowKit
open CR
section
variable {p : Nat}
theorem ln_mon (tr : Trial p) {u v : Zp p} (h : u * v = 1) : Ln (mon u 0 : Pol (Zp p)) 1 := ⟨fun x hx => by rw [c_mon, if_neg (by omega)], fun x hx => by
 obtain rfl : x = 0 := by omega
 rw [c_mon, if_pos rfl]
 intro e3; rw [e3, zero_mul] at h; exact Zp.one_ne tr h.symm⟩
theorem ln_mon0 {u : Zp p} (h : u ≠ 0) : Ln (mon u 0 : Pol (Zp p)) 1 := ⟨fun x hx => by rw [c_mon, if_neg (by omega)], fun x hx => by
 obtain rfl : x = 0 := by omega
 rw [c_mon, if_pos rfl]; exact h⟩
theorem ln1_inv (tr : Trial p) {f : Pol (Zp p)} (h : Ln f 1) : ∃ u v : Zp p, u * v = 1 ∧ f = mon u 0 ∧ mon v 0 * f = 1 := by
 have e : f = mon (f.c 0) 0 := Pol.ext fun i => by
  rw [c_mon]
  by_cases h1 : i = 0
  ·rw [if_pos h1, h1]
  ·rw [if_neg h1]; exact h.1 i (by omega)
 have h0 : f.c 0 ≠ 0 := h.2 0 rfl
 have h1 := Zp.iv_mul tr h0
 refine ⟨f.c 0, (f.c 0).iv, by rw [mul_comm]; exact h1, e, ?_⟩
 rw [e, c_mon, if_pos rfl, mon_mul, h1, Nat.add_zero, ← Pol.one_def]
theorem one_mon : (1 : Pol (Zp p)) = mon 1 0 := Pol.one_def
theorem mon_mul0 (u v : Zp p) : (mon u 0 : Pol (Zp p)) * mon v 0 = mon (u * v) 0 := by rw [mon_mul, Nat.add_zero]
abbrev xX (p : Nat) : Pol (Zp p) := mon 1 1
theorem mon_x (a : Zp p) : mon a 0 * xX p = mon a 1 := by rw [mon_mul, mul_one, Nat.zero_add]
theorem x_x : xX p * xX p = mon 1 2 := by rw [mon_mul, mul_one]
theorem ln_x (tr : Trial p) (a : Zp p) : Ln (xX p + mon a 0) 2 := ⟨fun i hi => by rw [Pol.c_add, c_mon, c_mon, if_neg (by omega), if_neg (by omega), add_zero], fun i hi => by
 obtain rfl : i = 1 := by omega
 rw [Pol.c_add, c_mon, c_mon, if_pos rfl, if_neg (by decide), add_zero]; exact Zp.one_ne tr⟩
theorem dlt_m0 (a : Zp p) : (mon a 0 : Pol (Zp p)).dlt 1 := fun i hi => by rw [c_mon, if_neg (by omega)]
theorem dlt_x : (xX p).dlt 2 := fun i hi => by rw [c_mon, if_neg (by omega)]
theorem q_one {q : Pol (Zp p)} (h : q.dlt 2) (h1 : q.c 1 = 1) : q = xX p + mon (q.c 0) 0 := by
 conv => lhs; rw [pol_sum q h]
 show 0 + mon (q.c 0) 0 + mon (q.c 1) 1 = _
 rw [zero_add, h1, add_comm]
theorem q_two {q : Pol (Zp p)} (h : q.dlt 3) (h1 : q.c 2 = 1) : q = xX p * xX p + mon (q.c 1) 0 * xX p + mon (q.c 0) 0 := by
 conv => lhs; rw [pol_sum q h]
 show 0 + mon (q.c 0) 0 + mon (q.c 1) 1 + mon (q.c 2) 2 = _
 rw [zero_add, h1, x_x, mon_x, add_comm, add_comm (mon (q.c 0) 0), add_assoc]
theorem q_three {q : Pol (Zp p)} (h : q.dlt 4) (h1 : q.c 3 = 1) : q = xX p * xX p * xX p + mon (q.c 2) 0 * (xX p * xX p) + mon (q.c 1) 0 * xX p + mon (q.c 0) 0 := by
 have e2 : (mon (q.c 2) 0 : Pol (Zp p)) * (xX p * xX p) = mon (q.c 2) 2 := by rw [x_x, mon_mul, mul_one, Nat.zero_add]
 have e3 : xX p * xX p * xX p = mon 1 3 := by rw [x_x, mon_mul, mul_one]
 conv => lhs; rw [pol_sum q h]
 show 0 + mon (q.c 0) 0 + mon (q.c 1) 1 + mon (q.c 2) 2 + mon (q.c 3) 3 = _
 rw [zero_add, h1, e2, e3, mon_x]
 exact by_ring [(mon (q.c 0) 0 : Pol (Zp p)), mon (q.c 1) 1, mon (q.c 2) 2, mon 1 3] (X0 + X1 + X2 + X3) (X3 + X2 + X1 + X0) rfl
theorem ceE_dd {q : Pol (Zp p)} {d a : Nat} (h1 : a + 1 ≠ d) : ceE q d a a = xX p := by
 unfold ceE cmpE; rw [if_pos rfl, if_neg (by omega), if_neg h1, zero_add, mon_zero, sub_zero]
theorem ceE_sub {q : Pol (Zp p)} {d a c : Nat} (h : a = c + 1) (h1 : c + 1 ≠ d) : ceE q d a c = mon (-1) 0 := by
 unfold ceE cmpE; rw [if_neg (by omega), if_pos h, if_neg h1, add_zero, zero_sub, mon_neg]
theorem ceE_off {q : Pol (Zp p)} {d a c : Nat} (h : a ≠ c) (h0 : a ≠ c + 1) (h1 : c + 1 ≠ d) : ceE q d a c = 0 := by
 unfold ceE cmpE; rw [if_neg h, if_neg h0, if_neg h1, zero_add, zero_sub, mon_zero, neg_zero]
theorem ceE_last {q : Pol (Zp p)} {d a c : Nat} (h : a ≠ c) (h0 : a ≠ c + 1) (h1 : c + 1 = d) : ceE q d a c = mon (q.c a) 0 := by
 unfold ceE cmpE; rw [if_neg h, if_neg h0, if_pos h1, zero_add, zero_sub, mon_neg, neg_neg]
theorem ceE_end {q : Pol (Zp p)} {d a : Nat} (h1 : a + 1 = d) : ceE q d a a = xX p + mon (q.c a) 0 := by
 unfold ceE cmpE; rw [if_pos rfl, if_neg (by omega), if_pos h1, zero_add, mon_neg, sub_eq, neg_neg]
section
variable {n k : Nat} {s d : Nat → Nat} {q : Nat → Pol (Zp p)} {j0 t j m : Nat} {R C : Nat → Nat} {W : Nat → Nat → Pol (Zp p)}
def Two (q : Nat → Pol (Zp p)) (j : Nat) (R C : Nat → Nat) (W : Nat → Nat → Pol (Zp p)) : Prop :=
 (∃ x y, x < 2 ∧ y < 2 ∧ Ln (W (R (j + x)) (C (j + y))) 1) ∧ ∃ u v : Zp p, u * v = 1 ∧ W (R j) (C j) * W (R (j + 1)) (C (j + 1)) - W (R j) (C (j + 1)) * W (R (j + 1)) (C j) = mon u 0 * q j
def Up (n k : Nat) (s d : Nat → Nat) (q : Nat → Pol (Zp p)) (t : Nat) (W : Nat → Nat → Pol (Zp p)) : Prop :=
 ∃ j R C, j < k ∧ ((Gs n k s d q (j + 1) t j 2 R C W ∧ Two q j R C W) ∨ (d j = 3 ∧ Gs n k s d q (j + 1) t j 3 R C W ∧ (∀ x, x < 3 → R (j + x) = s j + x ∧ C (j + x) = s j + x) ∧ ∀ x y, x < 3 → y < 3 → W (s j + x) (s j + y) = ceE (q j) 3 x y))
def Fn (n k : Nat) (s d : Nat → Nat) (q : Nat → Pol (Zp p)) (t : Nat) (W : Nat → Nat → Pol (Zp p)) : Prop := ∃ R C, Gs n k s d q k t k 0 R C W
theorem Gs.norm (tr : Trial p) (D : Dat n k s d q) : ∀ u {j : Nat} {R C : Nat → Nat}, u = k - j → Gs n k s d q j t j 0 R C W → Up n k s d q t W ∨ Fn n k s d q t W := by
 intro u
 induction u with
 | zero =>
  intro j R C hu h
  have hj := h.jk
  obtain rfl : j = k := by omega
  exact .inr ⟨R, C, h⟩
 | succ u ih =>
  intro j R C hu h
  have hj : j < k := by omega
  have hd := D.hd j hj
  obtain ⟨hq1, hq2⟩ := D.hq j hj
  have he := h.enter D hj
  have hpos := h.pos
  have hs := D.ss j hj
  have hsn : s (j + 1) ≤ n := by rw [← D.sn]; exact D.mono hj (Nat.le_refl _)
  have hv : ∀ x y, x < d j → y < d j → W (s j + x) (s j + y) = ceE (q j) (d j) x y := fun x y hx hy => by
   rw [(h.raw j (Nat.le_refl _) hj x hx).1 (s j + y) (by omega) (by omega), if_pos (by omega), Nat.add_sub_cancel_left]
  have hR : ∀ (F : Nat → Nat) x, (if j + x < j then F (j + x) else s j + (j + x - j)) = s j + x := fun F x => by rw [if_neg (by omega), Nat.add_sub_cancel_left]
  rcases (show d j = 1 ∨ d j = 2 ∨ d j = 3 by omega) with e | e | e
  ·rw [e] at he
   refine ih (j := j + 1) (by omega) (he.leave ⟨1, 1, mul_one 1, ?_⟩)
   show W (if j < j then R j else s j + (j - j)) (if j < j then C j else s j + (j - j)) = _
   have h1 := hv 0 0 (by omega) (by omega)
   rw [e, ceE_end rfl, Nat.add_zero] at h1
   rw [if_neg (Nat.lt_irrefl _), if_neg (Nat.lt_irrefl _), Nat.sub_self, Nat.add_zero, h1, ← one_mon, one_mul]
   rw [e] at hq1 hq2
   exact (q_one hq1.1 hq2).symm
  ·rw [e] at he hv
   refine .inl ⟨j, _, _, hj, .inl ⟨he, ⟨1, 0, by omega, by omega, ?_⟩, 1, 1, mul_one 1, ?_⟩⟩
   ·show Ln (W (if j + 1 < j then R (j + 1) else s j + (j + 1 - j)) (if j + 0 < j then C (j + 0) else s j + (j + 0 - j))) 1
    rw [hR, hR, hv 1 0 (by omega) (by omega), ceE_sub rfl (by decide)]
    exact ln_mon tr (v := -1) (by rw [neg_mul, mul_neg, neg_neg, mul_one])
   ·show W (if j + 0 < j then R (j + 0) else s j + (j + 0 - j)) (if j + 0 < j then C (j + 0) else s j + (j + 0 - j)) * W (if j + 1 < j then R (j + 1) else s j + (j + 1 - j)) (if j + 1 < j then C (j + 1) else s j + (j + 1 - j)) - W (if j + 0 < j then R (j + 0) else s j + (j + 0 - j)) (if j + 1 < j then C (j + 1) else s j + (j + 1 - j)) * W (if j + 1 < j then R (j + 1) else s j + (j + 1 - j)) (if j + 0 < j then C (j + 0) else s j + (j + 0 - j)) = _
    rw [hR, hR, hR, hR, hv 0 0 (by omega) (by omega), hv 1 1 (by omega) (by omega), hv 0 1 (by omega) (by omega), hv 1 0 (by omega) (by omega), ceE_dd (by decide), ceE_end rfl, ceE_last (by decide) (by decide) rfl, ceE_sub rfl (by decide), ← one_mon, one_mul, mon_neg, ← one_mon]
    rw [e] at hq1 hq2
    conv => rhs; rw [q_two hq1.1 hq2]
    exact by_ring [xX p, mon ((q j).c 1) 0, mon ((q j).c 0) 0] (X0 * (X0 + X1) - X2 * -1) (X0 * X0 + X1 * X0 + X2) rfl
  ·rw [e] at he hv
   exact .inl ⟨j, _, _, hj, .inr ⟨e, he, fun x _ => ⟨hR R x, hR C x⟩, hv⟩⟩
def Nx (n k : Nat) (s d : Nat → Nat) (q : Nat → Pol (Zp p)) (t : Nat) (W : Nat → Nat → Pol (Zp p)) : Prop := Up n k s d q t W ∨ Fn n k s d q t W
theorem two_next (tr : Trial p) (D : Dat n k s d q) (h : Gs n k s d q (j + 1) t j 2 R C W) (hT : Two q j R C W) {x y : Nat} (hx : x < 2) (hy : y < 2) (hu : Ln (W (R (j + x)) (C (j + y))) 1) {g : Pol (Zp p)} (hg : g * W (R (j + x)) (C (j + y)) = 1) {v' : Zp p} (hgm : g = mon v' 0) {W' : Nat → Nat → Pol (Zp p)}
  (hW : ∀ a b, t < a → a < n → t < b → b < n → W' a b = W (sw t (R (j + x)) a) (sw t (C (j + y)) b) - g * (W (sw t (R (j + x)) a) (C (j + y)) * W (R (j + x)) (sw t (C (j + y)) b))) : Nx n k s d q (t + 1) W' := by
 obtain ⟨-, u, v, huv, hdet⟩ := hT
 have hP := h.perm (m := 1) (u := x) (v := y) (by omega) (by omega)
 have ea : sw (j + x) (j + 1) (j + 1) = j + x := sw_a _ _
 have ec : sw (j + y) (j + 1) (j + 1) = j + y := sw_a _ _
 obtain ⟨hS, hV⟩ := hP.step D (a := R (j + x)) (c := C (j + y)) (by show R (sw _ _ _) = _; rw [ea]) (by show C (sw _ _ _) = _; rw [ec]) hW
 obtain ⟨u2, v2, hu2, e2, -⟩ := ln1_inv tr hu
 have hvv : v' * u2 = 1 := by
  rw [e2, hgm, mon_mul0] at hg
  have := congrArg (fun f : Pol (Zp p) => f.c 0) hg
  have h1 : (mon (v' * u2) 0 : Pol (Zp p)).c 0 = (1 : Pol (Zp p)).c 0 := this
  rw [c_mon, if_pos rfl, Pol.one_def, c_mon, if_pos rfl] at h1
  exact h1
 refine Gs.norm tr D (k - (j + 1)) rfl (hS.leave ?_)
 have hv := hV j j (by omega) (by omega)
 show ∃ u v : Zp p, u * v = 1 ∧ W' (sw t (R (j + x)) (R (sw (j + x) (j + 1) j))) (sw t (C (j + y)) (C (sw (j + y) (j + 1) j))) = mon u 0 * q j
 have hv' : W' (sw t (R (j + x)) (R (sw (j + x) (j + 1) j))) (sw t (C (j + y)) (C (sw (j + y) (j + 1) j))) = W (R (sw (j + x) (j + 1) j)) (C (sw (j + y) (j + 1) j)) - g * (W (R (sw (j + x) (j + 1) j)) (C (j + y)) * W (R (j + x)) (C (sw (j + y) (j + 1) j))) := hv
 rw [hv']
 have s0 : sw (j + 0) (j + 1) j = j + 1 := sw_t _ _
 have s1 : sw (j + 1) (j + 1) j = j := sw_o (by omega) (by omega)
 have key : ∀ {A B E F : Pol (Zp p)}, g * A = 1 → E = B - g * (F : Pol (Zp p)) → E = g * (A * B - F) := fun {A B E F} h1 h2 => by
  rw [h2]
  have : B = (g * A) * B := by rw [h1, one_mul]
  conv => lhs; lhs; rw [this]
  exact by_ring [g, A, B, F] (X0 * X1 * X2 - X0 * X3) (X0 * (X1 * X2 - X3)) rfl
 have fin1 : g * (mon u 0 * q j) = mon (v' * u) 0 * q j := by rw [hgm, ← mul_assoc, mon_mul0]
 have fin2 : g * -(mon u 0 * q j) = mon (-(v' * u)) 0 * q j := by rw [hgm, mul_neg, ← mul_assoc, mon_mul0, mon_neg, neg_mul]
 have un1 : (v' * u) * (u2 * v) = 1 := by
  have : (v' * u) * (u2 * v) = (v' * u2) * (u * v) := by_ring [v', u, u2, v] ((X0 * X1) * (X2 * X3)) ((X0 * X2) * (X1 * X3)) rfl
  rw [this, hvv, huv, mul_one]
 have un2 : -(v' * u) * -(u2 * v) = 1 := by rw [neg_mul, mul_neg, neg_neg]; exact un1
 rcases (show x = 0 ∨ x = 1 by omega) with rfl | rfl <;> rcases (show y = 0 ∨ y = 1 by omega) with rfl | rfl
 ·rw [s0]
  refine ⟨v' * u, u2 * v, un1, ?_⟩
  rw [key (A := W (R (j + 0)) (C (j + 0))) (B := W (R (j + 1)) (C (j + 1))) (F := W (R (j + 1)) (C (j + 0)) * W (R (j + 0)) (C (j + 1))) hg rfl, ← fin1, ← hdet, mul_comm (W (R (j + 1)) (C (j + 0)))]
  try rfl
 ·rw [s0, s1]
  refine ⟨-(v' * u), -(u2 * v), un2, ?_⟩
  rw [key (A := W (R (j + 0)) (C (j + 1))) (B := W (R (j + 1)) (C j)) (F := W (R (j + 1)) (C (j + 1)) * W (R (j + 0)) (C j)) hg rfl, ← fin2, ← hdet]
  congr 1
  exact by_ring [W (R j) (C (j + 1)), W (R (j + 1)) (C j), W (R (j + 1)) (C (j + 1)), W (R j) (C j)] (X0 * X1 - X2 * X3) (-(X3 * X2 - X0 * X1)) rfl
 ·rw [s0, s1]
  refine ⟨-(v' * u), -(u2 * v), un2, ?_⟩
  rw [key (A := W (R (j + 1)) (C (j + 0))) (B := W (R j) (C (j + 1))) (F := W (R j) (C (j + 0)) * W (R (j + 1)) (C (j + 1))) hg rfl, ← fin2, ← hdet]
  congr 1
  exact by_ring [W (R (j + 1)) (C j), W (R j) (C (j + 1)), W (R j) (C j), W (R (j + 1)) (C (j + 1))] (X0 * X1 - X2 * X3) (-(X2 * X3 - X1 * X0)) rfl
 ·rw [s1]
  refine ⟨v' * u, u2 * v, un1, ?_⟩
  rw [key (A := W (R (j + 1)) (C (j + 1))) (B := W (R j) (C j)) (F := W (R j) (C (j + 1)) * W (R (j + 1)) (C j)) hg rfl, ← fin1, ← hdet, mul_comm (W (R (j + 1)) (C (j + 1)))]
  try rfl
theorem three_pick (tr : Trial p) (D : Dat n k s d q) (hj : j < k) (h : Gs n k s d q (j + 1) t j 3 R C W) (hR : ∀ x, x < 3 → R (j + x) = s j + x ∧ C (j + x) = s j + x) (hv : ∀ x y, x < 3 → y < 3 → W (s j + x) (s j + y) = ceE (q j) 3 x y) {a c : Nat} (ha : t ≤ a) (han : a < n) (hc : t ≤ c) (hcn : c < n) (hne : W a c ≠ 0)
  (hmin : ∀ i l, t ≤ i → i < n → t ≤ l → l < n → W i l ≠ 0 → pln (W a c) ≤ pln (W i l) ∧ (Bf a c i l → pln (W a c) < pln (W i l))) :
  ((q j).c 0 ≠ 0 ∧ a = s j ∧ c = s j + 2) ∨ ((q j).c 0 = 0 ∧ a = s j + 1 ∧ c = s j) := by
 have hm1 : (-1 : Zp p) ≠ 0 := fun e => Zp.one_ne tr (by rw [← neg_neg (1 : Zp p), e, neg_zero])
 have hu : Ln (W (R (j + 1)) (C (j + 0))) 1 := by
  rw [(hR 1 (by omega)).1, (hR 0 (by omega)).2, hv 1 0 (by omega) (by omega), ceE_sub rfl (by decide)]
  exact ln_mon0 hm1
 obtain ⟨hL, x, y, hx, hy, rfl, rfl⟩ := h.pick D hj tr (by omega) (by omega) hu ha han hc hcn hne hmin
 rw [(hR x hx).1] at ha han hne hmin hL ⊢
 rw [(hR y hy).2] at hc hcn hne hmin hL ⊢
 have hpl := pln_eq hL
 have hsn : s (j + 1) ≤ n := by rw [← D.sn]; exact D.mono hj (Nat.le_refl _)
 have r0 := h.rr j (by omega)
 have c0 := h.cc j (by omega)
 have e0 := hR 0 (by omega)
 rw [Nat.add_zero] at e0
 have r2 := h.rr (j + 2) (by omega)
 rw [(hR 2 (by omega)).1] at r2
 have no : ∀ i l, i < 3 → l < 3 → Ln (W (s j + i) (s j + l)) 1 → ¬ Bf (s j + x) (s j + y) (s j + i) (s j + l) := fun i l hi hl hu hb => by
  have h1 := (hmin (s j + i) (s j + l) (by omega) (by omega) (by omega) (by omega) hu.ne).2 hb
  rw [pln_eq hu] at h1
  omega
 have n1 := no 1 0 (by omega) (by omega) (by rw [hv 1 0 (by omega) (by omega), ceE_sub rfl (by decide)]; exact ln_mon0 hm1)
 rw [hv x y hx hy] at hL
 have nx : ¬ (x = y ∧ y ≠ 2) := fun ⟨e1, e2⟩ => by
  rw [e1, ceE_dd (by omega)] at hL
  have h1 : Ln (xX p) 2 := by have := ln_x tr (0 : Zp p); rwa [mon_zero, add_zero] at this
  have := hL.unique h1; omega
 by_cases hq : (q j).c 0 = 0
 ·refine .inr ⟨hq, ?_⟩
  have hx1 : x ≠ 0 := fun e => by
   rw [e] at hL nx
   rcases (show y = 0 ∨ y = 1 ∨ y = 2 by omega) with e2 | e2 | e2
   ·exact nx ⟨e2.symm, by omega⟩
   ·rw [e2, ceE_off (by decide) (by decide) (by decide)] at hL; exact hL.ne rfl
   ·rw [e2, ceE_last (by decide) (by decide) rfl, hq, mon_zero] at hL; exact hL.ne rfl
  unfold Bf at n1
  omega
 ·refine .inl ⟨hq, ?_⟩
  have n2 := no 0 2 (by omega) (by omega) (by rw [hv 0 2 (by omega) (by omega), ceE_last (by decide) (by decide) rfl]; exact ln_mon0 hq)
  have hx0 : x = 0 := by unfold Bf at n2; omega
  rw [hx0] at hL nx
  rcases (show y = 0 ∨ y = 1 ∨ y = 2 by omega) with e2 | e2 | e2
  ·exact absurd ⟨e2.symm, by omega⟩ nx
  ·rw [e2, ceE_off (by decide) (by decide) (by decide)] at hL; exact absurd rfl hL.ne
  ·omega
theorem three_next (tr : Trial p) (D : Dat n k s d q) (hj : j < k) (hd : d j = 3) (h : Gs n k s d q (j + 1) t j 3 R C W) (hR : ∀ x, x < 3 → R (j + x) = s j + x ∧ C (j + x) = s j + x) (hv : ∀ x y, x < 3 → y < 3 → W (s j + x) (s j + y) = ceE (q j) 3 x y) {a c : Nat} (hac : ((q j).c 0 ≠ 0 ∧ a = s j ∧ c = s j + 2) ∨ ((q j).c 0 = 0 ∧ a = s j + 1 ∧ c = s j))
  {g : Pol (Zp p)} (hg : g * W a c = 1) {v' : Zp p} (hgm : g = mon v' 0) {W' : Nat → Nat → Pol (Zp p)}
  (hW : ∀ x y, t < x → x < n → t < y → y < n → W' x y = W (sw t a x) (sw t c y) - g * (W (sw t a x) c * W a (sw t c y))) : Nx n k s d q (t + 1) W' := by
 obtain ⟨hq1, hq2⟩ := D.hq j hj
 rw [hd] at hq1 hq2
 have hm1 : (-1 : Zp p) ≠ 0 := fun e => Zp.one_ne tr (by rw [← neg_neg (1 : Zp p), e, neg_zero])
 have w00 := hv 0 0 (by omega) (by omega); rw [ceE_dd (by decide)] at w00
 have w01 := hv 0 1 (by omega) (by omega); rw [ceE_off (by decide) (by decide) (by decide)] at w01
 have w02 := hv 0 2 (by omega) (by omega); rw [ceE_last (by decide) (by decide) rfl] at w02
 have w10 := hv 1 0 (by omega) (by omega); rw [ceE_sub rfl (by decide), mon_neg, ← one_mon] at w10
 have w11 := hv 1 1 (by omega) (by omega); rw [ceE_dd (by decide)] at w11
 have w12 := hv 1 2 (by omega) (by omega); rw [ceE_last (by decide) (by decide) rfl] at w12
 have w20 := hv 2 0 (by omega) (by omega); rw [ceE_off (by decide) (by decide) (by decide)] at w20
 have w21 := hv 2 1 (by omega) (by omega); rw [ceE_sub rfl (by decide), mon_neg, ← one_mon] at w21
 have w22 := hv 2 2 (by omega) (by omega); rw [ceE_end rfl] at w22
 rw [Nat.add_zero (s j)] at w00 w01 w02 w10 w20
 have R0 := hR 0 (by omega); have R1 := hR 1 (by omega); have R2 := hR 2 (by omega)
 rw [Nat.add_zero, Nat.add_zero] at R0
 have ln_m1 : Ln (-1 : Pol (Zp p)) 1 := by rw [one_mon, ← mon_neg]; exact ln_mon0 hm1
 have hq3 := q_three hq1.1 hq2
 left
 rcases hac with ⟨hq, rfl, rfl⟩ | ⟨hq, rfl, rfl⟩
 ·have hP := h.perm (m := 2) (u := 0) (v := 2) (by omega) (by omega)
  have ea : sw (j + 0) (j + 2) (j + 2) = j := sw_a _ _
  have ec : ∀ i, sw (j + 2) (j + 2) i = i := fun i => by unfold sw; split <;> (try split) <;> omega
  have eb : sw (j + 0) (j + 2) j = j + 2 := sw_t _ _
  have e1 : sw (j + 0) (j + 2) (j + 1) = j + 1 := sw_o (by omega) (by omega)
  obtain ⟨hS, hV⟩ := hP.step D (a := s j) (c := s j + 2) (by show R (sw _ _ _) = _; rw [ea]; exact R0.1) (by show C (sw _ _ _) = _; rw [ec]; exact R2.2) hW
  have val : ∀ i l, i < j + 2 → l < j + 2 → W' (sw t (s j) (R (sw (j + 0) (j + 2) i))) (sw t (s j + 2) (C (sw (j + 2) (j + 2) l))) = W (R (sw (j + 0) (j + 2) i)) (C (sw (j + 2) (j + 2) l)) - g * (W (R (sw (j + 0) (j + 2) i)) (s j + 2) * W (s j) (C (sw (j + 2) (j + 2) l))) := hV
  refine ⟨j, _, _, hj, .inl ⟨hS, ⟨0, 1, by omega, by omega, ?_⟩, ?_⟩⟩
  ·show Ln (W' (sw t (s j) (R (sw (j + 0) (j + 2) (j + 0)))) (sw t (s j + 2) (C (sw (j + 2) (j + 2) (j + 1))))) 1
   rw [val _ _ (by omega) (by omega), ec, (sw_t _ _ : sw (j + 0) (j + 2) (j + 0) = j + 2), R2.1, R1.2, w21, w01, mul_zero, mul_zero, sub_zero]
   exact ln_m1
  ·show ∃ u v : Zp p, u * v = 1 ∧ W' (sw t (s j) (R (sw (j + 0) (j + 2) j))) (sw t (s j + 2) (C (sw (j + 2) (j + 2) j))) * W' (sw t (s j) (R (sw (j + 0) (j + 2) (j + 1)))) (sw t (s j + 2) (C (sw (j + 2) (j + 2) (j + 1)))) - W' (sw t (s j) (R (sw (j + 0) (j + 2) j))) (sw t (s j + 2) (C (sw (j + 2) (j + 2) (j + 1)))) * W' (sw t (s j) (R (sw (j + 0) (j + 2) (j + 1)))) (sw t (s j + 2) (C (sw (j + 2) (j + 2) j))) = mon u 0 * q j
   rw [val _ _ (by omega) (by omega), val _ _ (by omega) (by omega), val _ _ (by omega) (by omega), val _ _ (by omega) (by omega), ec, ec, eb, e1, R2.1, R1.1, R0.2, R1.2, w20, w11, w21, w10, w22, w00, w12, w01]
   rw [w02] at hg
   refine ⟨-v', -((q j).c 0), ?_, ?_⟩
   ·rw [neg_mul, mul_neg, neg_neg]
    rw [hgm, mon_mul0] at hg
    have h1 : (mon (v' * (q j).c 0) 0 : Pol (Zp p)).c 0 = (1 : Pol (Zp p)).c 0 := congrArg (fun f : Pol (Zp p) => f.c 0) hg
    rw [c_mon, if_pos rfl, Pol.one_def, c_mon, if_pos rfl] at h1
    exact h1
   ·conv => rhs; rw [hq3]
    rw [mon_neg, ← hgm]
    have hg' : (1 : Pol (Zp p)) = g * mon ((q j).c 0) 0 := hg.symm
    have : ∀ x c0 c1 c2 : Pol (Zp p), (1 : Pol (Zp p)) = g * c0 → (0 - g * ((x + c2) * x)) * (x - g * (c1 * 0)) - (-1 - g * ((x + c2) * 0)) * (-1 - g * (c1 * x)) = -g * (x * x * x + c2 * (x * x) + c1 * x + c0) := fun x c0 c1 c2 e => by
     have e1 : (0 - g * ((x + c2) * x)) * (x - g * (c1 * 0)) - (-1 - g * ((x + c2) * 0)) * (-1 - g * (c1 * x)) = -g * (x * x * x + c2 * (x * x) + c1 * x) - 1 := by_ring [g, x, c1, c2] ((0 - X0 * ((X1 + X3) * X1)) * (X1 - X0 * (X2 * 0)) - (-1 - X0 * ((X1 + X3) * 0)) * (-1 - X0 * (X2 * X1))) (-X0 * (X1 * X1 * X1 + X3 * (X1 * X1) + X2 * X1) - 1) rfl
     rw [e1]
     conv => lhs; rhs; rw [e]
     exact by_ring [g, x, c1, c2, c0] (-X0 * (X1 * X1 * X1 + X3 * (X1 * X1) + X2 * X1) - X0 * X4) (-X0 * (X1 * X1 * X1 + X3 * (X1 * X1) + X2 * X1 + X4)) rfl
    exact this _ _ _ _ hg'
 ·have hP := h.perm (m := 2) (u := 1) (v := 0) (by omega) (by omega)
  have ea : sw (j + 1) (j + 2) (j + 2) = j + 1 := sw_a _ _
  have ec : sw (j + 0) (j + 2) (j + 2) = j := sw_a _ _
  have r0 : sw (j + 1) (j + 2) j = j := sw_o (by omega) (by omega)
  have r1 : sw (j + 1) (j + 2) (j + 1) = j + 2 := sw_t _ _
  have c0 : sw (j + 0) (j + 2) j = j + 2 := sw_t _ _
  have c1 : sw (j + 0) (j + 2) (j + 1) = j + 1 := sw_o (by omega) (by omega)
  obtain ⟨hS, hV⟩ := hP.step D (a := s j + 1) (c := s j) (by show R (sw _ _ _) = _; rw [ea]; exact R1.1) (by show C (sw _ _ _) = _; rw [ec]; exact R0.2) hW
  have val : ∀ i l, i < j + 2 → l < j + 2 → W' (sw t (s j + 1) (R (sw (j + 1) (j + 2) i))) (sw t (s j) (C (sw (j + 0) (j + 2) l))) = W (R (sw (j + 1) (j + 2) i)) (C (sw (j + 0) (j + 2) l)) - g * (W (R (sw (j + 1) (j + 2) i)) (s j) * W (s j + 1) (C (sw (j + 0) (j + 2) l))) := hV
  refine ⟨j, _, _, hj, .inl ⟨hS, ⟨1, 1, by omega, by omega, ?_⟩, -1, -1, by rw [neg_mul, mul_neg, neg_neg, mul_one], ?_⟩⟩
  ·show Ln (W' (sw t (s j + 1) (R (sw (j + 1) (j + 2) (j + 1)))) (sw t (s j) (C (sw (j + 0) (j + 2) (j + 1))))) 1
   rw [val _ _ (by omega) (by omega), r1, c1, R2.1, R1.2, w21, w20, zero_mul, mul_zero, sub_zero]
   exact ln_m1
  ·show W' (sw t (s j + 1) (R (sw (j + 1) (j + 2) j))) (sw t (s j) (C (sw (j + 0) (j + 2) j))) * W' (sw t (s j + 1) (R (sw (j + 1) (j + 2) (j + 1)))) (sw t (s j) (C (sw (j + 0) (j + 2) (j + 1)))) - W' (sw t (s j + 1) (R (sw (j + 1) (j + 2) j))) (sw t (s j) (C (sw (j + 0) (j + 2) (j + 1)))) * W' (sw t (s j + 1) (R (sw (j + 1) (j + 2) (j + 1)))) (sw t (s j) (C (sw (j + 0) (j + 2) j))) = mon (-1) 0 * q j
   rw [val _ _ (by omega) (by omega), val _ _ (by omega) (by omega), val _ _ (by omega) (by omega), val _ _ (by omega) (by omega), r0, r1, c0, c1, R0.1, R2.1, R1.2, R2.2, w02, w00, w12, w21, w20, w11, w01, w22]
   have hg1 : g = -1 := by
    rw [w10] at hg
    rw [← neg_neg g, ← mul_one (-g)]
    have : -g * 1 = g * -1 := by rw [neg_mul, mul_neg]
    rw [this, hg]
   conv => rhs; rw [hq3]
   rw [hg1, hq, mon_zero, mon_neg, ← one_mon]
   exact by_ring [xX p, mon ((q j).c 1) 0, mon ((q j).c 2) 0] ((0 - -1 * (X0 * X1)) * (-1 - -1 * (0 * X0)) - (0 - -1 * (X0 * X0)) * ((X0 + X2) - -1 * (0 * X1))) (-1 * (X0 * X0 * X0 + X2 * (X0 * X0) + X1 * X0 + 0)) rfl
end
end
end Go.Proofs.Ytkmfhabgempjiaa
/- Plain: what a place asks whose pivot is a unit; a block companion's matrix from place to place. -/
namespace Go.Proofs.Ytkmfhabgempjiaa
set_option maxHeartbeats 4000000
open Go.RowKit
open CR
section
variable {p n k : Nat} {s d : Nat → Nat} {q : Nat → Pol (Zp p)} {t : Nat} {W U V : Nat → Nat → Pol (Zp p)}
def Dg (t : Nat) (W : Nat → Nat → Pol (Zp p)) : Prop := ∀ a, a < t → (W a a).dlt 1
theorem Up.some (tr : Trial p) (D : Dat n k s d q) (h : Up n k s d q t W) : t + k < n ∧ ∃ a c, t ≤ a ∧ a < n ∧ t ≤ c ∧ c < n ∧ W a c ≠ 0 := by
 have hm1 : (-1 : Zp p) ≠ 0 := fun e => Zp.one_ne tr (by rw [← neg_neg (1 : Zp p), e, neg_zero])
 have lg : ∀ u j, u = k - j → j ≤ k → s j + (k - j) ≤ n := fun u => by
  induction u with
  | zero =>
   intro j hu hj
   obtain rfl : j = k := by omega
   rw [D.sn]; omega
  | succ u ih =>
   intro j hu hj
   have h1 := ih (j + 1) (by omega) (by omega)
   have h2 := D.ss j (by omega)
   have h3 := D.hd j (by omega)
   omega
 obtain ⟨j, R, C, hj, h | h⟩ := h
 ·obtain ⟨hG, ⟨x, y, hx, hy, hu⟩, -⟩ := h
  have h1 := lg _ (j + 1) rfl hj
  have h2 := hG.pos
  have h3 := hG.rr (j + x) (by omega)
  have h4 := hG.cc (j + y) (by omega)
  exact ⟨by omega, _, _, h3.1, by omega, h4.1, by omega, hu.ne⟩
 ·obtain ⟨hd, hG, hR, hv⟩ := h
  have h1 := lg _ (j + 1) rfl hj
  have h2 := hG.pos
  have h3 := hG.rr (j + 1) (by omega)
  have h4 := hG.cc (j + 0) (by omega)
  rw [(hR 1 (by omega)).1] at h3
  rw [(hR 0 (by omega)).2] at h4
  refine ⟨by omega, _, _, h3.1, by omega, h4.1, by omega, ?_⟩
  rw [hv 1 0 (by omega) (by omega), ceE_sub rfl (by decide)]
  exact (ln_mon0 hm1).ne
def Sch (t n : Nat) (W W' : Nat → Nat → Pol (Zp p)) : Prop := ∃ (g : Pol (Zp p)) (v : Zp p), g * W t t = 1 ∧ g = mon v 0 ∧ ∀ x y, t < x → x < n → t < y → y < n → W' x y = W x y - g * (W x t * W t y)
theorem up_go (tr : Trial p) (D : Dat n k s d q) (h : Up n k s d q t W) {a c : Nat} (ha : t ≤ a) (han : a < n) (hc : t ≤ c) (hcn : c < n) (hne : W a c ≠ 0)
  (hmin : ∀ i l, t ≤ i → i < n → t ≤ l → l < n → W i l ≠ 0 → pln (W a c) ≤ pln (W i l) ∧ (Bf a c i l → pln (W a c) < pln (W i l))) :
  (W a c).dlt 1 ∧ ∀ W', Sch t n (swC (swR W t a) t c) W' → Nx n k s d q (t + 1) W' := by
 have tr4 : ∀ x y, swC (swR W t a) t c x y = W (sw t a x) (sw t c y) := fun x y => swRC W t a c x y
 obtain ⟨j, R, C, hj, h | h⟩ := h
 ·obtain ⟨hG, hT⟩ := h
  obtain ⟨⟨x0, y0, hx0, hy0, hu⟩, -⟩ := id hT
  obtain ⟨hL, x, y, hx, hy, rfl, rfl⟩ := hG.pick D hj tr hx0 hy0 hu ha han hc hcn hne hmin
  refine ⟨hL.1, fun W' ⟨g, v, hg, hgm, hW⟩ => ?_⟩
  rw [tr4, sw_t, sw_t] at hg
  refine two_next tr D hG hT hx hy hL hg hgm fun i l h1 h2 h3 h4 => ?_
  rw [hW i l h1 h2 h3 h4, tr4, tr4, tr4, sw_t, sw_t]
 ·obtain ⟨hd, hG, hR, hv⟩ := h
  have hac := three_pick tr D hj hG hR hv ha han hc hcn hne hmin
  refine ⟨?_, fun W' ⟨g, v, hg, hgm, hW⟩ => ?_⟩
  ·rcases hac with ⟨_, rfl, rfl⟩ | ⟨_, rfl, rfl⟩
   ·have := hv 0 2 (by omega) (by omega)
    rw [Nat.add_zero (s j)] at this
    rw [this, ceE_last (by decide) (by decide) rfl]; exact dlt_m0 _
   ·have := hv 1 0 (by omega) (by omega)
    rw [Nat.add_zero (s j)] at this
    rw [this, ceE_sub rfl (by decide)]; exact dlt_m0 _
  ·rw [tr4, sw_t, sw_t] at hg
   refine three_next tr D hj hd hG hR hv hac hg hgm fun i l h1 h2 h3 h4 => ?_
   rw [hW i l h1 h2 h3 h4, tr4, tr4, tr4, sw_t, sw_t]
theorem bds_sw {L LU LV a c : Nat} (h : Bds n n L LU LV W U V) (ht : t < n) (ha : a < n) (hc : c < n) : Bds n n L LU LV (swC (swR W t a) t c) (swR U t a) (swC V t c) :=
 ⟨fun x y hx hy => by rw [swRC]; exact h.1 _ _ (sw_lt ht ha hx) (sw_lt ht hc hy), fun x y hx hy => by
  have e : swR U t a x y = U (sw t a x) y := by unfold swR sw; split; rfl; split <;> rfl
  rw [e]; exact h.2.1 _ _ (sw_lt ht ha hx) hy, fun x y hx hy => by
  have e : swC V t c x y = V x (sw t c y) := by unfold swC sw; split; rfl; split <;> rfl
  rw [e]; exact h.2.2 _ _ hx (sw_lt ht hc hy)⟩
theorem stp_unit (tr : Trial p) (D : Dat n k s d q) (ht : t ≤ 9) (htn : t < n) :
  Stp p n n t (fun _ W U V => Up n k s d q t W ∧ Dg t W ∧ Bds n n (2 ^ t + 1) (2 ^ t) (2 ^ t) W U V)
   (fun _ W U V => (∀ W', Sch t n W W' → Nx n k s d q (t + 1) W') ∧ (W t t).dlt 1 ∧ Dg t W ∧ Bds n n (2 ^ t + 1) (2 ^ t) (2 ^ t) W U V)
   (fun _ W U V => (∀ W', (∀ x y, t < x → x < n → t < y → y < n → W' x y = W x y) → Nx n k s d q (t + 1) W') ∧ (W t t).dlt 1 ∧ Dg t W ∧ Bds n n (2 ^ (t + 1) + 1) (2 ^ (t + 1)) (2 ^ (t + 1)) W U V)
   (fun W U V => Nx n k s d q (t + 1) W ∧ Dg (t + 1) W ∧ Bds n n (2 ^ (t + 1) + 1) (2 ^ (t + 1)) (2 ^ (t + 1)) W U V) := by
 have e2 : 2 ^ (t + 1) = 2 ^ t + 2 ^ t := by rw [Nat.pow_succ, Nat.mul_two]
 have e9 : 2 ^ t ≤ 512 := Nat.le_trans (Nat.pow_le_pow_right (by decide) ht) (by decide)
 have k1 : 2 ^ t + 1 + (2 ^ t + 1 - 1) ≤ 2 ^ (t + 1) + 1 := by rw [e2]; generalize 2 ^ t = K; omega
 have k2 : 2 ^ t + (2 ^ t + 1 - 1) ≤ 2 ^ (t + 1) := by rw [e2]; generalize 2 ^ t = K; omega
 have k3 : max (2 ^ t) (2 ^ t + (2 ^ t + 1 - 1)) ≤ 2 ^ (t + 1) := Nat.max_le.2 ⟨by rw [e2]; generalize 2 ^ t = K; omega, k2⟩
 have ln1 : ∀ {f : Pol (Zp p)}, f.dlt 1 → f ≠ 0 → Ln f 1 := fun {f} h1 h2 => by
  obtain ⟨m, hm⟩ := Ln.exists f
  have h3 := hm.le h1
  obtain ⟨i, rfl⟩ := hm.pos h2
  obtain rfl : i = 0 := by omega
  exact hm
 constructor
 ·intro b W U V ⟨hU, _, _⟩ h0
  obtain ⟨-, a, c, h1, h2, h3, h4, h5⟩ := hU.some tr D
  exact absurd (h0 a c h1 h2 h3 h4) h5
 ·intro b W U V a c ⟨hU, hD, hB⟩ ha han hc hcn hne hmin
  obtain ⟨h1, h2⟩ := up_go tr D hU ha han hc hcn hne hmin
  refine ⟨h2, by rw [swp_tt]; exact h1, fun x hx => ?_, bds_sw hB htn han hcn⟩
  rw [swRC, sw_o (by omega) (by omega), sw_o (by omega) (by omega)]; exact hD x hx
 ·intro b W U V ⟨_, _, _, hB⟩
  exact ⟨_, _, _, by omega, by omega, by omega, hB⟩
 ·intro b W U V q0 r0 q1 r1 L ⟨_, h1, _, _⟩ h0 _ hD hD' hne
  have hl := ln1 h1 h0
  exact absurd ⟨fun a a1 a2 => dlt_nil (hD.rlen hl a1 a2), fun c a1 a2 => dlt_nil (hD'.rlen hl a1 a2)⟩ hne
 ·intro b W U V q0 r0 q1 r1 L ⟨hN, h1, hG, hB⟩ h0 hI hD hD' hr hr'
  have hl := ln1 h1 h0
  have hDL := hD.re tr hl h0 (fun a _ ha => hB.1 a t ha htn)
  have hDL' := hD'.re tr hl h0 (fun c _ hc => hB.1 t c htn hc)
  have ett : clC t n q1 (clR t n q0 W) t t = W t t := by rw [clC_t, clR_t]
  have bA := cl_bdA tr hDL hDL' h0 hl hI htn htn hB.1
  have bU := cl_bdU (U := U) tr hDL h0 hl htn htn hB.1 hB.2.1
  have bV := cl_bdV (V := V) tr hDL' h0 hl htn htn hB.1 hB.2.2 (fun a ha => hB.2.2 a t ha htn)
  refine ⟨fun W' hW => hN W' ?_, by rw [ett]; exact h1, fun a ha => ?_, fun a c ha hc => dlt_mono (bA a c ha hc) k1, fun a c ha hc => dlt_mono (bU a c ha hc) k2, fun a c ha hc => dlt_mono (bV a c ha hc) k3⟩
  ·obtain ⟨u, v, huv, hu, hg⟩ := ln1_inv tr hl
   refine ⟨mon v 0, v, hg, rfl, fun x y h2 h3 h4 h5 => ?_⟩
   have hx := hD.div x h2 h3
   rw [hr x h2 h3, add_zero] at hx
   have hcx : clR t n q0 W x t = 0 := by rw [clR_at hD h2 h3, hr x h2 h3]
   rw [hW x y h2 h3 h4 h5]
   unfold clC
   rw [if_pos ⟨h4, h5⟩, hcx, mul_zero, add_zero]
   unfold clR
   have hq : q0 x = mon v 0 * W x t := by rw [hx, mul_left_comm, hg, mul_one]
   rw [if_pos ⟨h2, h3⟩, hq]
   exact by_ring [W x y, mon v 0, W x t, W t y] (X0 + -(X1 * X2) * X3) (X0 - X1 * (X2 * X3)) rfl
  ·unfold clC
   rw [if_neg (by omega)]
   unfold clR
   rw [if_neg (by omega)]; exact hG a ha
 ·intro b W U V ⟨_, _, _, hB⟩
  exact ⟨_, _, _, by omega, by omega, by omega, hB⟩
 ·intro b W U V i l q0 r0 q1 r1 L ⟨_, h1, _, _⟩ h0 _ _ _ h2 h3 h4 h5 hnd
  obtain ⟨u, v, huv, hu, hg⟩ := ln1_inv tr (ln1 h1 h0)
  exact absurd ⟨mon v 0 * W i l, by rw [← mul_assoc, mul_comm (W t t), hg, one_mul]⟩ hnd
 ·intro b W U V u ⟨hN, h1, hG, hB⟩
  have eo : ∀ a c, a ≠ t → scl W t (mon u 0) a c = W a c := fun a c ha => if_neg ha
  refine ⟨hN _ fun x y h2 _ _ _ => eo x y (by omega), fun a ha => ?_, scl_dlt u hB.1, scl_dlt u hB.2.1, hB.2.2⟩
  by_cases e : a = t
  ·rw [e, show scl W t (mon u 0) t t = W t t * mon u 0 from if_pos rfl]
   exact mul_dlt1 h1 (dlt_m0 u)
  ·rw [eo a a e]; exact hG a (by omega)
theorem fn_dlt (D : Dat n k s d q) (h : Fn n k s d q t W) (hI : SmI t n n W) (hG : Dg t W) : t + k = n ∧ ∀ a c, a < n → c < n → (W a c).dlt 4 := by
 obtain ⟨R, C, h⟩ := h
 have hpos := h.pos
 rw [D.sn] at hpos
 refine ⟨by omega, fun a c ha hc => ?_⟩
 by_cases e : a < t ∨ c < t
 ·by_cases e2 : a = c
  ·rw [e2]; exact dlt_mono (hG c (by omega)) (by omega)
  ·rw [hI.off a c ha hc e2 e]; exact dlt_zero _
 ·obtain ⟨i, h1, rfl⟩ := h.rc a (by omega) (by rw [D.sn]; exact ha)
  obtain ⟨l, h2, rfl⟩ := h.cv c (by omega) (by rw [D.sn]; exact hc)
  by_cases e2 : i = l
  ·subst e2
   obtain ⟨u, v, _, h3⟩ := h.one i (by omega)
   obtain ⟨hq, _⟩ := D.hq i (by omega)
   have := D.hd i (by omega)
   rw [h3]
   exact dlt_mono (mul_dlt1 (dlt_m0 u) hq.1) (by omega)
  ·rw [h.z i l h1 h2 e2 (.inl (by omega))]; exact dlt_zero _
def Frz (n k : Nat) (s d : Nat → Nat) (q : Nat → Pol (Zp p)) (A : MT (Pol (Zp p)) n n) : Prop := ∃ W U V, SmR A U W V ∧ SmI (n - k) n n W ∧ Dg (n - k) W ∧ Fn n k s d q (n - k) W
def UPh (n k : Nat) (s d : Nat → Nat) (q : Nat → Pol (Zp p)) (A : MT (Pol (Zp p)) n n) (t : Nat) (W U V : Nat → Nat → Pol (Zp p)) : Prop :=
 (Nx n k s d q t W ∧ Dg t W ∧ t ≤ n ∧ Bds n n (2 ^ t + 1) (2 ^ t) (2 ^ t) W U V) ∨ (n - k < t ∧ t ≤ n ∧ Frz n k s d q A ∧ Bds n n (lsq3 (t - (n - k))) (1024 + lsq3 (t - (n - k))) (1024 + 2 * lsq3 (t - (n - k))) W U V)
theorem lsq3_le (r : Nat) : lsq3 r ≤ 32767 := by unfold lsq3; split <;> (try split) <;> omega
theorem lsq3_mono (r : Nat) : lsq3 r ≤ lsq3 (r + 1) := by unfold lsq3; split <;> (try split) <;> (try split) <;> (try split) <;> omega
theorem uph_last (tr : Trial p) (hk : k ≤ 3) (hkn : k ≤ n) {A : MT (Pol (Zp p)) n n} (hF : Frz n k s d q A) (htn : t < n) (ht : n - k ≤ t) {r : Nat} (hr : t - (n - k) = r) {LU LV : Nat} (hLU : LU ≤ 1024 + lsq3 r) (hLV : LV ≤ 1024 + 2 * lsq3 r) (hB : Bds n n (lsq3 r) LU LV W U V) :
  ∃ (B C O : Nat → (Nat → Nat → Pol (Zp p)) → (Nat → Nat → Pol (Zp p)) → (Nat → Nat → Pol (Zp p)) → Prop) (F : (Nat → Nat → Pol (Zp p)) → (Nat → Nat → Pol (Zp p)) → (Nat → Nat → Pol (Zp p)) → Prop) (b : Nat), Stp p n n t B C O F ∧ B b W U V ∧ ∀ W' U' V', F W' U' V' → UPh n k s d q A (t + 1) W' U' V' := by
 have l1 := lsq3_le r
 have l2 := lsq3_mono r
 have hr1 : t + 1 - (n - k) = r + 1 := by omega
 have fin : ∀ Lf W' U' V', Lf ≤ lsq3 (r + 1) → lsq3 r ≤ Lf → Bds n n Lf (LU + (Lf - lsq3 r)) (LV + 2 * (Lf - lsq3 r)) W' U' V' → UPh n k s d q A (t + 1) W' U' V' := fun Lf W' U' V' h1 h2 h3 => by
  refine .inr ⟨by omega, by omega, hF, ?_⟩
  rw [hr1]
  exact ⟨fun a c ha hc => dlt_mono (h3.1 a c ha hc) h1, fun a c ha hc => dlt_mono (h3.2.1 a c ha hc) (by omega), fun a c ha hc => dlt_mono (h3.2.2 a c ha hc) (by omega)⟩
 by_cases e : t + 1 = n
 ·refine ⟨_, _, _, _, lsq3 r, stp_pot (L0 := lsq3 r) (LU := LU) (LV := LV) (K := 0) tr htn htn (by omega) (by omega) (by omega) (by omega), ⟨_, PlB.start hB.1 hB.2.1 hB.2.2 (.inr ⟨e, e⟩)⟩, ?_⟩
  rintro W' U' V' ⟨Lf, k1, k2, k3⟩
  exact fin Lf W' U' V' (by omega) k1 k3
 ·have hr2 : r = 0 ∨ r = 1 := by omega
  have hK : 2 ^ lsq3 r ≤ lsq3 (r + 1) + 1 := by rcases hr2 with rfl | rfl <;> decide
  have l3 := lsq3_le (r + 1)
  refine ⟨_, _, _, _, lsq3 r, stp_pot (L0 := lsq3 r) (LU := LU) (LV := LV) (K := lsq3 (r + 1) + 1) tr htn htn (by omega) (by omega) (by omega) (by omega), ⟨_, PlB.start hB.1 hB.2.1 hB.2.2 (.inl hK)⟩, ?_⟩
  rintro W' U' V' ⟨Lf, k1, k2, k3⟩
  exact fin Lf W' U' V' (by omega) k1 k3
theorem sms_blk (tr : Trial p) (D : Dat n k s d q) (hn : n ≤ 9) (hk : k ≤ 3) (hkn : k ≤ n) (A : MT (Pol (Zp p)) n n) : SmS p n n A (UPh n k s d q A) := by
 intro t W U V htn _ hΦ hI hS
 rcases hΦ with ⟨hN, hG, htk, hB⟩ | ⟨ht, htk, hF, hB⟩
 ·rcases hN with hU | hF
  ·obtain ⟨h1, -⟩ := hU.some tr D
   refine ⟨_, _, _, _, 1, stp_unit tr D (by omega) htn, ⟨hU, hG, hB⟩, fun W' U' V' hF => .inl ⟨hF.1, hF.2.1, htn, hF.2.2⟩⟩
  ·obtain ⟨h1, h2⟩ := fn_dlt D hF hI hG
   obtain rfl : t = n - k := by omega
   have e9 : 2 ^ (n - k) ≤ 512 := Nat.le_trans (Nat.pow_le_pow_right (by decide) (show n - k ≤ 9 by omega)) (by decide)
   exact uph_last (r := 0) tr hk hkn ⟨W, U, V, hS, hI, hG, hF⟩ htn (Nat.le_refl _) (Nat.sub_self _) (by omega) (by omega) ⟨h2, hB.2.1, hB.2.2⟩
 ·exact uph_last tr hk hkn hF htn (by omega) rfl (Nat.le_refl _) (Nat.le_refl _) hB
theorem uph_bds (hn : n ≤ 9) {A : MT (Pol (Zp p)) n n} (h : UPh n k s d q A t W U V) : Bds n n 66600 66600 66600 W U V := by
 rcases h with ⟨_, _, h1, hB⟩ | ⟨_, _, _, hB⟩
 ·have e9 : 2 ^ t ≤ 512 := Nat.le_trans (Nat.pow_le_pow_right (by decide) (show t ≤ 9 by omega)) (by decide)
  exact ⟨fun a c ha hc => dlt_mono (hB.1 a c ha hc) (by omega), fun a c ha hc => dlt_mono (hB.2.1 a c ha hc) (by omega), fun a c ha hc => dlt_mono (hB.2.2 a c ha hc) (by omega)⟩
 ·have l1 := lsq3_le (t - (n - k))
  exact ⟨fun a c ha hc => dlt_mono (hB.1 a c ha hc) (by omega), fun a c ha hc => dlt_mono (hB.2.1 a c ha hc) (by omega), fun a c ha hc => dlt_mono (hB.2.2 a c ha hc) (by omega)⟩
theorem uph_end (tr : Trial p) (D : Dat n k s d q) (hn : 0 < k) {A : MT (Pol (Zp p)) n n} (h : UPh n k s d q A t W U V) (hP : Pst n n t W) : Frz n k s d q A := by
 have ne : ∀ {a c}, t ≤ a → a < n → t ≤ c → c < n → W a c ≠ 0 → False := fun {a c} h1 h2 h3 h4 h5 => by
  rcases hP with hP | hP | hP
  ·omega
  ·omega
  ·exact h5 (hP a c (by omega) h2 (by omega) h4)
 rcases h with ⟨hN, _, _, _⟩ | ⟨_, _, hF, _⟩
 ·exfalso
  rcases hN with hU | ⟨R, C, hF⟩
  ·obtain ⟨-, a, c, h1, h2, h3, h4, h5⟩ := hU.some tr D
   exact ne h1 h2 h3 h4 h5
  ·have hpos := hF.pos
   have h1 := hF.rr 0 (by omega)
   have h2 := hF.cc 0 (by omega)
   rw [D.sn] at h1 h2 hpos
   obtain ⟨u, v, huv, h3⟩ := hF.one 0 hn
   obtain ⟨hq, -⟩ := D.hq 0 hn
   have hl := (show Ln (mon u 0 : Pol (Zp p)) (0 + 1) from ln_mon tr huv).mul tr hq
   rw [← h3] at hl
   exact ne h1.1 (by omega) h2.1 (by omega) hl.ne
 ·exact hF
theorem raw_start (D : Dat n k s d q) (h : ∀ i, i < k → ∀ a, a < d i → ∀ c, c < n → W (s i + a) c = if s i ≤ c ∧ c < s i + d i then ceE (q i) (d i) a (c - s i) else 0) : Gs n k s d q 0 0 0 0 (fun _ => 0) (fun _ => 0) W := by
 refine ⟨D.s0.symm, Nat.zero_le _, fun i hi => absurd hi (by omega), fun i hi => absurd hi (by omega), fun i l hi => absurd hi (by omega), fun i l hi => absurd hi (by omega), fun a _ ha => absurd ha (by rw [D.s0]; omega), fun a _ ha => absurd ha (by rw [D.s0]; omega), fun i _ hi a ha => ⟨fun c _ hc => h i hi a ha c hc, fun r _ hr => ?_⟩, fun i hi => absurd hi (by omega), fun i l hi => absurd hi (by omega)⟩
 obtain ⟨l, x, -, hl, hx, rfl⟩ := D.find (j := 0) (Nat.zero_le _) (by rw [D.s0]; omega) hr
 have hin : s i + d i ≤ n := by rw [← D.sn]; exact D.next hi (Nat.le_refl _)
 rw [h l hl x hx (s i + a) (by omega)]
 rcases Nat.lt_trichotomy l i with e | e | e
 ·have := D.next e (by omega)
  rw [if_neg (by omega), if_neg (by omega)]
 ·subst e
  rw [if_pos (by omega), if_pos (by omega), Nat.add_sub_cancel_left, Nat.add_sub_cancel_left]
 ·have := D.next e (by omega)
  rw [if_neg (by omega), if_neg (by omega)]
theorem uph_start (tr : Trial p) (D : Dat n k s d q) {A : MT (Pol (Zp p)) n n} (h : ∀ i, i < k → ∀ a, a < d i → ∀ c, c < n → W (s i + a) c = if s i ≤ c ∧ c < s i + d i then ceE (q i) (d i) a (c - s i) else 0)
  (hU : ∀ i l, i < n → l < n → U i l = if i = l then 1 else 0) (hV : ∀ i l, i < n → l < n → V i l = if i = l then 1 else 0) : UPh n k s d q A 0 W U V := by
 have d1 : (1 : Pol (Zp p)).dlt 1 := by rw [one_mon]; exact dlt_m0 1
 refine .inl ⟨Gs.norm tr D (k - 0) rfl (raw_start D h), fun a ha => absurd ha (by omega), Nat.zero_le _, fun a c ha hc => ?_, fun a c ha hc => ?_, fun a c ha hc => ?_⟩
 ·obtain ⟨i, x, -, hi, hx, rfl⟩ := D.find (j := 0) (Nat.zero_le _) (by rw [D.s0]; omega) ha
  rw [h i hi x hx c hc]
  split
  ·unfold ceE
   refine dlt_sub ?_ (dlt_mono (dlt_m0 _) (by decide))
   split
   ·exact dlt_x
   ·exact dlt_zero _
  ·exact dlt_zero _
 ·rw [hU a c ha hc]; split
  ·exact d1
  ·exact dlt_zero _
 ·rw [hV a c ha hc]; split
  ·exact d1
  ·exact dlt_zero _
end
end Go.Proofs.Ytkmfhabgempjiaa
/- Plain algebra: the characteristic polynomial is monic, of the matrix's degree. -/
namespace Go.Proofs.Ytkmfhabgempjiaa
set_option maxHeartbeats 4000000
open CR
section
variable {R : Type} [CR R]
def esum : Nat → (Nat → Nat) → Nat
 | 0, _ => 0
 | n + 1, e => e 0 + esum n (fun i => e (i + 1))
theorem esum_one : ∀ (n : Nat) {e : Nat → Nat}, (∀ i, i < n → e i = 1) → esum n e = n
 | 0, _, _ => rfl
 | n + 1, e, h => by
  unfold esum
  rw [h 0 (by omega), esum_one n fun i hi => h (i + 1) (by omega)]; omega
theorem esum_skip : ∀ (n k : Nat), k < n → esum n (fun i => if i = k then 0 else 1) + 1 = n
 | 0, _, h => by omega
 | n + 1, 0, _ => by
  show (0 + esum n (fun i => if i + 1 = 0 then 0 else 1)) + 1 = n + 1
  rw [esum_one n fun i _ => if_neg (by omega)]; omega
 | n + 1, k + 1, h => by
  show (1 + esum n (fun i => if i + 1 = k + 1 then 0 else 1)) + 1 = n + 1
  have := esum_skip n k (by omega)
  have e : (fun i => if i + 1 = k + 1 then 0 else 1) = (fun i => if i = k then 0 else 1) := by
   funext i
   by_cases h : i = k
   ·rw [if_pos h, if_pos (by omega)]
   ·rw [if_neg h, if_neg (by omega)]
  rw [e]; omega
theorem sm_dlt {f : Nat → Pol R} {m : Nat} : ∀ n, (∀ i, i < n → (f i).dlt m) → (sm n f).dlt m
 | 0, _ => dlt_zero m
 | n + 1, h => dlt_add (sm_dlt n fun i hi => h i (Nat.lt_succ_of_lt hi)) (h n (Nat.lt_succ_self n))
theorem sg_dlt {f : Pol R} {m k : Nat} (h : f.dlt m) : (sg k f).dlt m := by
 unfold sg; split
 ·exact dlt_neg h
 ·exact h
theorem dn_dlt : ∀ (n : Nat) (e : Nat → Nat) (A : Nat → Nat → Pol R), (∀ i j, i < n → j < n → (A i j).dlt (e i + 1)) → (dn n A).dlt (esum n e + 1)
 | 0, _, _, _ => fun i hi => by
  have : esum 0 ‹Nat → Nat› = 0 := rfl
  show (1 : Pol R).c i = 0
  rw [Pol.one_def, c_mon, if_neg (by omega)]
 | n + 1, e, A, h => by
  show (sm (n + 1) (fun k => sg k (A 0 k * dn n (mnr A k)))).dlt (e 0 + esum n (fun i => e (i + 1)) + 1)
  refine sm_dlt _ fun k hk => sg_dlt (mul_dlt' (h 0 k (by omega) hk) (dn_dlt n _ _ fun i j hi hj => ?_))
  unfold mnr
  exact h (i + 1) _ (by omega) (by split <;> omega)
theorem mon0_dlt (a : R) : (mon a 0).dlt 1 := fun i hi => by rw [c_mon, if_neg (by omega)]
theorem xh_dlt (H : Nat → Nat → R) (i j : Nat) : (xh H i j).dlt 2 := by
 unfold xh
 refine dlt_sub ?_ (dlt_mono (mon0_dlt _) (by omega))
 split
 ·exact fun i hi => by rw [c_mon, if_neg (by omega)]
 ·exact dlt_zero 2
theorem xh_off {H : Nat → Nat → R} {i j : Nat} (h : i ≠ j) : (xh H i j).dlt 1 := by
 unfold xh
 rw [if_neg h]
 exact dlt_sub (dlt_zero 1) (mon0_dlt _)
theorem chi_top : ∀ (n : Nat) (H : Nat → Nat → R), (dn n (xh H)).dlt (n + 1) ∧ (dn n (xh H)).c n = 1
 | 0, H => ⟨fun i hi => by show (1 : Pol R).c i = 0; rw [Pol.one_def, c_mon, if_neg (by omega)], by show (1 : Pol R).c 0 = 1; rw [Pol.one_def, c_mon, if_pos rfl]⟩
 | n + 1, H => by
  obtain ⟨h1, h2⟩ := chi_top n (fun a b => H (a + 1) (b + 1))
  have e0 : dn n (mnr (xh H) 0) = dn n (xh fun a b => H (a + 1) (b + 1)) := dn_congr n fun i j _ _ => by
   show xh H (i + 1) (if j < 0 then j else j + 1) = _
   rw [if_neg (show ¬ j < 0 by omega)]
   unfold xh
   by_cases h : i = j
   ·rw [if_pos h, if_pos (by omega)]
   ·rw [if_neg h, if_neg (by omega)]
  have hr : ∀ k, k < n → (sg (k + 1) (xh H 0 (k + 1) * dn n (mnr (xh H) (k + 1)))).dlt (n + 1) := fun k hk => by
   refine sg_dlt ?_
   have hs := esum_skip n k hk
   have h3 : (dn n (mnr (xh H) (k + 1))).dlt (esum n (fun i => if i = k then 0 else 1) + 1) := dn_dlt n _ _ fun i j hi hj => by
    unfold mnr
    by_cases h : i = k
    ·show (xh H (i + 1) (if j < k + 1 then j else j + 1)).dlt ((if i = k then 0 else 1) + 1)
     rw [if_pos h]
     exact xh_off (by split <;> omega)
    ·show (xh H (i + 1) (if j < k + 1 then j else j + 1)).dlt ((if i = k then 0 else 1) + 1)
     rw [if_neg h]
     exact xh_dlt H _ _
   have h4 := mul_dlt' (xh_off (H := H) (show 0 ≠ k + 1 by omega)) h3
   exact dlt_mono h4 (by omega)
  have e1 : dn (n + 1) (xh H) = xh H 0 0 * dn n (xh fun a b => H (a + 1) (b + 1)) + sm n (fun k => sg (k + 1) (xh H 0 (k + 1) * dn n (mnr (xh H) (k + 1)))) := by
   show sm (n + 1) (fun k => sg k (xh H 0 k * dn n (mnr (xh H) k))) = _
   rw [sm_head, sg_zero, e0]
  have h5 := sm_dlt n hr
  have h6 := mul_dlt' (xh_dlt H 0 0) h1
  rw [e1]
  refine ⟨dlt_add (dlt_mono h6 (by omega)) (dlt_mono h5 (by omega)), ?_⟩
  rw [Pol.c_add, h5 (n + 1) (Nat.le_refl _), add_zero, show n + 1 = 1 + n by omega, mul_top (xh_dlt H 0 0) h1, h2, mul_one]
  unfold xh
  rw [if_pos rfl, Pol.c_sub, c_mon, if_pos rfl, c_mon, if_neg (by omega), sub_zero]
end
theorem chi_ln {p n : Nat} (ht : Trial p) (A : MT (Zp p) n n) : Ln (chi A) (n + 1) := by
 have h := chi_top n A.e
 rw [← chi_xh] at h
 exact Mo.ln ht h.1 h.2
end Go.Proofs.Ytkmfhabgempjiaa
/- Layer 25, plain: Frobenius' form out of Smith's form of x less the matrix. -/
namespace Go.Proofs.Ytkmfhabgempjiaa
set_option maxHeartbeats 4000000
open Go.RowKit
section
open CR
variable {p n : Nat}
noncomputable def prts (A : MT (Zp p) n n) (W : (Nat → Nat → Pol (Zp p))) (X : MT (Pol (Zp p)) n n) (k : Nat) : Prt p n := (pln (W k k) - 1, fun i => (W k k).c i, ph A (cl X k))
theorem mo_top (tr : Trial p) {f : Pol (Zp p)} (h : Mo f) (h0 : f ≠ 0) : Ln f (pln f) ∧ 0 < pln f ∧ f.c (pln f - 1) = 1 := by
 rcases h with rfl | ⟨d, h1, h2⟩
 ·exact absurd rfl h0
 ·have h3 := Mo.ln tr h1 h2
  have h4 := pln_eq h3
  rw [h4]
  exact ⟨h3, by omega, by rw [Nat.add_sub_cancel]; exact h2⟩
theorem pr_ln (tr : Trial p) {d : Nat → Pol (Zp p)} : ∀ n, (∀ k, k < n → Mo (d k) ∧ d k ≠ 0) → Ln (pr d n) (bdm ((List.range n).map fun k => (pln (d k) - 1, fun _ => 0, (0 : MT (Zp p) 0 1))) + 1)
 | 0, _ => by show Ln (1 : Pol (Zp p)) 1; exact ln_one1 tr
 | n + 1, h => by
  have ih := pr_ln tr n fun k hk => h k (by omega)
  obtain ⟨h1, h2, h3⟩ := mo_top tr (h n (by omega)).1 (h n (by omega)).2
  obtain ⟨e, he⟩ : ∃ e, pln (d n) = e + 1 := ⟨pln (d n) - 1, by omega⟩
  rw [he] at h1
  have h4 := ih.mul tr h1
  have h5 : ∀ (l : List (Prt p 0)) (x : Prt p 0), bdm (l ++ [x]) = bdm l + x.1 := by
   intro l x
   induction l with
   | nil => show x.1 + 0 = 0 + x.1; omega
   | cons y l ih => show y.1 + bdm (l ++ [x]) = y.1 + bdm l + x.1; rw [ih]; omega
  rw [List.range_succ, List.map_append]
  show Ln (pr d n * d n) (bdm (List.map _ (List.range n) ++ [_]) + 1)
  rw [h5]
  show Ln (pr d n * d n) (bdm _ + (pln (d n) - 1) + 1)
  rw [he, Nat.add_sub_cancel]; exact h4
theorem bdm_map {m m' : Nat} (ks : List Nat) (f : Nat → Prt p m) (g : Nat → Prt p m') (h : ∀ k, (f k).1 = (g k).1) : bdm (ks.map f) = bdm (ks.map g) := by
 induction ks with
 | nil => rfl
 | cons k ks ih => show (f k).1 + bdm (ks.map f) = (g k).1 + bdm (ks.map g); rw [ih, h]
theorem smith_deg (tr : Trial p) {A : MT (Zp p) n n} {U W V : (Nat → Nat → Pol (Zp p))} (h : SmR (XA A) U W V) (hoff : ∀ i k, i < n → k < n → i ≠ k → W i k = 0) (hm : ∀ k, k < n → Mo (W k k)) :
  (∀ k, k < n → W k k ≠ 0) ∧ ∀ X, bdm ((List.range n).map (prts A W X)) = n := by
 obtain ⟨X1, hX1⟩ := h.u
 obtain ⟨Y1, hY1⟩ := h.v
 have l1 := inv_ln tr hX1
 have l2 := inv_ln tr hY1
 have l3 : Ln (XA A).det (n + 1) := chi_ln tr A
 have e : (MT.of n n W).det = (MT.of n n U).det * (XA A).det * (MT.of n n V).det := by rw [h.e, MT.det_mul, MT.det_mul]
 have l4 : Ln (MT.of n n W).det (n + 1) := by
  rw [e]
  have := (l1.mul tr l3).mul tr l2
  rwa [show 0 + n + 0 + 1 = n + 1 by omega] at this
 have e2 : (MT.of n n W).det = pr (fun k => W k k) n := by
  rw [← dn_dg]
  exact dn_congr n fun i k hi hk => by
   rw [MT.of_e _ hi hk]
   unfold dg
   by_cases hik : i = k
   ·subst hik; rw [if_pos rfl]
   ·rw [if_neg hik]; exact hoff i k hi hk hik
 rw [e2] at l4
 have hne : ∀ k, k < n → W k k ≠ 0 := fun k hk h0 => by
  have hz : ∀ m, k < m → pr (fun k => W k k) m = 0 := by
   intro m
   induction m with
   | zero => intro h; omega
   | succ m ih =>
    intro hkm
    show pr (fun k => W k k) m * W m m = 0
    by_cases e : k = m
    ·subst e; rw [h0, mul_zero]
    ·rw [ih (by omega), zero_mul]
  exact l4.ne (hz n hk)
 refine ⟨hne, fun X => ?_⟩
 have l5 := (pr_ln tr n fun k hk => ⟨hm k hk, hne k hk⟩).unique l4
 rw [bdm_map (List.range n) (prts A W X) (fun k => (pln (W k k) - 1, fun _ => 0, (0 : MT (Zp p) 0 1))) fun k => rfl]
 omega
end
end Go.Proofs.Ytkmfhabgempjiaa
/- The reference of chapter 22: values. -/
namespace Go.Proofs.Ytkmfhabgempjiaa
set_option maxHeartbeats 4000000
open Go.RowKit
theorem mk1 {P : Program} {o : Oper} {a : Act} {K : Act → World → Prop} {Q : Exit → Act → World → Prop} (k : IntKind) (T e bytes : Nat)
  (hu : P.underlying T = some (.slice e)) (hi : (P.info? e).map (fun i => (i.zero, i.size, i.bytes)) = some (some (.int k 0), 1, bytes)) (hby : bytes ≤ 8)
  (l c : Operand) (ho : o.op = .makeSlice T l c) (kl kc : IntKind) (n : Nat) (hn : n ≤ 1000000000)
  (w : World) (L C : Int) (hl : a.eval l = .int kl L) (hc : a.eval c = .int kc C) (hL : L = n) (hC : C = n)
  (h : ∀ (w' : World), Own k e w' w.heap.size (.slice (some ⟨w.heap.size, 0, none⟩) n n) (List.replicate n 0) → Below w.heap.size w w' → K (a.put o.dst (.slice (some ⟨w.heap.size, 0, none⟩) n n)) w') : Oper.wp P o a w K Q := by
 obtain ⟨i0, h1, h2, h3, h4⟩ := info_parts hi
 subst h4 hL hC
 have hb : i0.bytes * n ≤ 8 * n := Nat.mul_le_mul_right _ hby
 have hb2 : (i0.bytes : Int) * (n : Int) ≤ 281474976710656 := by
  have h9 : ((i0.bytes * n : Nat) : Int) ≤ 281474976710656 := by omega
  rwa [Int.natCast_mul] at h9
 have hr := run_make (P := P) w T e i0 (.int k 0) hu h1 h2 kl kc (n : Int) (n : Int) (by omega) (by omega) hb2 (by omega)
 have hcells : (madeCells (Value.int k 0).cells (((n : Int)).toNat * i0.size)).toList = vs k (List.replicate n 0) := by
  rw [h3, vs_replicate]; simp [Value.cells, toList_madeCells_one]
 have hsz : (madeCells (Value.int k 0).cells (((n : Int)).toNat * i0.size)).size = n * 1 := by rw [size_madeCells, h3]; simp
 have hown := World.ownsRow_lit (base := w.heap.size) (e := e) (size := 1) w (madeCells (Value.int k 0).cells (((n : Int)).toNat * i0.size)) n (Nat.le_refl _) (by unfold maxLen; omega) hsz
 rw [hcells] at hown
 have ho2 : Own k e (w.alloc (.cells (madeCells (Value.int k 0).cells (((n : Int)).toNat * i0.size)) e)) w.heap.size (.slice (some ⟨w.heap.size, 0, none⟩) n n) (List.replicate n 0) := by
  unfold Own; rw [List.length_replicate]; exact hown
 unfold Oper.wp
 simp [execOp, ho, hl, hc, hr, Result.andThen]
 have h2 := h _ ho2 ((Below.refl _ _).alloc (Nat.le_refl _) _)
 simpa [Oper.upon] using h2
section
variable {p n : Nat}
end
end Go.Proofs.Ytkmfhabgempjiaa
