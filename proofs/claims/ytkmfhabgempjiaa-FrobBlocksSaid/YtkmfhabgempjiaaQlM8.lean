/- Plain: Smith's form of matrices of polynomials, place by place: rows and columns mixed by what may be turned back. -/
import Derived.Test.YtkmfhabgempjiaaQlM7
import Derived.Test.YtkmfhabgempjiaaQlM5
import Derived.Test.YtkmfhabgempjiaaQlM6
namespace Go.Proofs.Ytkmfhabgempjiaa
set_option maxHeartbeats 4000000
open CR
section
variable {R : Type} [CR R] {n m : Nat}
theorem Inv.tr {A : MT R n m} {B : MT R m n} (h : Inv A B) : Inv A.tr B.tr := ⟨by rw [← MT.tr_mul, h.2, MT.tr_one], by rw [← MT.tr_mul, h.1, MT.tr_one]⟩
theorem mixT {s t : Nat} (hst : s ≠ t) (hs : s < n) (ht : t < n) (a b c d : R) (W : Nat → Nat → R) : MT.of n m (mix2 W s t a b c d) = MT.of n n (mixM s t a b c d) * MT.of n m W := MT.ext fun i k hi hk => by
 rw [MT.of_e _ hi hk, MT.e_mul, ← mixM_mul hst hs ht a b c d W hi]
 exact sm_congr fun j hj => by rw [MT.of_e _ hi hj, MT.of_e _ hj hk]
theorem mix_inv {s t : Nat} (hst : s ≠ t) (hs : s < n) (ht : t < n) {a b c d a' b' c' d' : R} (h1 : a * a' + b * c' = 1) (h2 : a * b' + b * d' = 0) (h3 : c * a' + d * c' = 0) (h4 : c * b' + d * d' = 1)
  (k1 : a' * a + b' * c = 1) (k2 : a' * b + b' * d = 0) (k3 : c' * a + d' * c = 0) (k4 : c' * b + d' * d = 1) : Inv (MT.of n n (mixM s t a b c d)) (MT.of n n (mixM s t a' b' c' d')) := by
 have key : ∀ {a b c d a' b' c' d' : R}, a * a' + b * c' = 1 → a * b' + b * d' = 0 → c * a' + d * c' = 0 → c * b' + d * d' = 1 → MT.of n n (mixM s t a b c d) * MT.of n n (mixM s t a' b' c' d') = MT.one n := by
  intro a b c d a' b' c' d' h1 h2 h3 h4
  rw [← mixT hst hs ht]
  refine MT.ext fun i k hi hk => ?_
  rw [MT.of_e _ hi hk, MT.e_one hi hk]
  by_cases e1 : i = s
  ·rw [e1, mix2_s, mixM_s, mixM_t hst]
   by_cases e3 : k = s
   ·rw [if_pos e3, if_pos e3, if_pos e3.symm]; exact h1
   ·have e5 : ¬ s = k := fun e => e3 e.symm
    rw [if_neg e3, if_neg e3, if_neg e5]
    by_cases e4 : k = t
    ·rw [if_pos e4, if_pos e4]; exact h2
    ·rw [if_neg e4, if_neg e4, mul_zero, mul_zero, add_zero]
  ·by_cases e2 : i = t
   ·rw [e2, mix2_t _ hst, mixM_s, mixM_t hst]
    by_cases e3 : k = s
    ·have e5 : ¬ t = k := fun e => hst (by omega)
     rw [if_pos e3, if_pos e3, if_neg e5]; exact h3
    ·rw [if_neg e3, if_neg e3]
     by_cases e4 : k = t
     ·rw [if_pos e4, if_pos e4, if_pos e4.symm]; exact h4
     ·have e5 : ¬ t = k := fun e => e4 e.symm
      rw [if_neg e4, if_neg e4, if_neg e5, mul_zero, mul_zero, add_zero]
   ·rw [mix2_o _ e1 e2, mixM_o e1 e2]
 exact ⟨key h1 h2 h3 h4, key k1 k2 k3 k4⟩
theorem inv_add {s t : Nat} (hst : s ≠ t) (hs : s < n) (ht : t < n) (c : R) : Inv (MT.of n n (mixM s t 1 c 0 1)) (MT.of n n (mixM s t 1 (-c) 0 1)) :=
 mix_inv hst hs ht (by_ring [c] (1 * 1 + X0 * 0) 1 rfl) (by_ring [c] (1 * -X0 + X0 * 1) 0 rfl) (by_ring [c] (0 * 1 + 1 * 0) 0 rfl) (by_ring [c] (0 * -X0 + 1 * 1) 1 rfl)
  (by_ring [c] (1 * 1 + -X0 * 0) 1 rfl) (by_ring [c] (1 * X0 + -X0 * 1) 0 rfl) (by_ring [c] (0 * 1 + 1 * 0) 0 rfl) (by_ring [c] (0 * X0 + 1 * 1) 1 rfl)
theorem inv_swap {s t : Nat} (hst : s ≠ t) (hs : s < n) (ht : t < n) : Inv (MT.of n n (mixM s t (0 : R) 1 1 0)) (MT.of n n (mixM s t (0 : R) 1 1 0)) :=
 mix_inv hst hs ht (by_ring [(0 : R)] (0 * 0 + 1 * 1) 1 rfl) (by_ring [(0 : R)] (0 * 1 + 1 * 0) 0 rfl) (by_ring [(0 : R)] (1 * 0 + 0 * 1) 0 rfl) (by_ring [(0 : R)] (1 * 1 + 0 * 0) 1 rfl)
  (by_ring [(0 : R)] (0 * 0 + 1 * 1) 1 rfl) (by_ring [(0 : R)] (0 * 1 + 1 * 0) 0 rfl) (by_ring [(0 : R)] (1 * 0 + 0 * 1) 0 rfl) (by_ring [(0 : R)] (1 * 1 + 0 * 0) 1 rfl)
def dgM (t : Nat) (c : R) : Nat → Nat → R := fun i j => if i = j then (if i = t then c else 1) else 0
theorem sclT {t : Nat} (c : R) (W : Nat → Nat → R) : MT.of n m (scl W t c) = MT.of n n (dgM t c) * MT.of n m W := MT.ext fun i k hi hk => by
 rw [MT.of_e _ hi hk, MT.e_mul, sm_one hi fun j hj h => by rw [MT.of_e _ hi hj]; unfold dgM; rw [if_neg (fun e => h e.symm), zero_mul], MT.of_e _ hi hi, MT.of_e _ hi hk]
 unfold scl dgM
 rw [if_pos rfl]
 split
 ·rw [mul_comm]
 ·rw [one_mul]
theorem inv_scl {t : Nat} {c d : R} (h : c * d = 1) : Inv (MT.of n n (dgM t c)) (MT.of n n (dgM t d)) := by
 have key : ∀ {c d : R}, c * d = 1 → MT.of n n (dgM t c) * MT.of n n (dgM t d) = MT.one n := by
  intro c d h
  rw [← sclT]
  refine MT.ext fun i k hi hk => ?_
  rw [MT.of_e _ hi hk, MT.e_one hi hk]
  unfold scl dgM
  by_cases e1 : i = t
  ·rw [if_pos e1]
   by_cases e2 : i = k
   ·rw [if_pos e2, if_pos e1, if_pos e2, mul_comm]; exact h
   ·rw [if_neg e2, if_neg e2, zero_mul]
  ·rw [if_neg e1]
   by_cases e2 : i = k
   ·rw [if_pos e2, if_neg e1, if_pos e2]
   ·rw [if_neg e2, if_neg e2]
 exact ⟨key h, key (by rw [mul_comm]; exact h)⟩
structure SmR (A : MT R n m) (U W V : Nat → Nat → R) : Prop where
 u : ∃ X, Inv (MT.of n n U) X
 v : ∃ Y, Inv (MT.of m m V) Y
 e : MT.of n m W = MT.of n n U * A * MT.of m m V
theorem SmR.row {A : MT R n m} {U W V U' W' : Nat → Nat → R} (h : SmR A U W V) {T T' : MT R n n} (hT : Inv T T') (eU : MT.of n n U' = T * MT.of n n U) (eW : MT.of n m W' = T * MT.of n m W) : SmR A U' W' V := by
 obtain ⟨X, hX⟩ := h.u
 exact ⟨⟨X * T', by rw [eU]; exact hT.mul hX⟩, h.v, by rw [eW, eU, h.e]; simp only [MT.mul_assoc]⟩
theorem SmR.col {A : MT R n m} {U W V V' W' : Nat → Nat → R} (h : SmR A U W V) {T T' : MT R m m} (hT : Inv T T') (eV : MT.of m m V' = MT.of m m V * T) (eW : MT.of n m W' = MT.of n m W * T) : SmR A U W' V' := by
 obtain ⟨Y, hY⟩ := h.v
 exact ⟨h.u, ⟨T' * Y, by rw [eV]; exact hY.mul hT⟩, by rw [eW, eV, h.e]; simp only [MT.mul_assoc]⟩
def adR (W : Nat → Nat → R) (i k : Nat) (c : R) : Nat → Nat → R := fun a b => if a = i then W i b + c * W k b else W a b
def adC (W : Nat → Nat → R) (i k : Nat) (c : R) : Nat → Nat → R := fun a b => if b = i then W a i + c * W a k else W a b
def swR (W : Nat → Nat → R) (i k : Nat) : Nat → Nat → R := fun a b => if a = i then W k b else if a = k then W i b else W a b
def swC (W : Nat → Nat → R) (i k : Nat) : Nat → Nat → R := fun a b => if b = i then W a k else if b = k then W a i else W a b
theorem adR_mix (W : Nat → Nat → R) (i k : Nat) (c : R) : adR W i k c = mix2 W i k 1 c 0 1 := by
 funext a b
 unfold adR mix2
 split
 ·rw [one_mul]
 ·split
  ·rename_i h1 h2; rw [zero_mul, zero_add, one_mul, h2]
  ·rfl
theorem swR_mix (W : Nat → Nat → R) (i k : Nat) : swR W i k = mix2 W i k 0 1 1 0 := by
 funext a b
 unfold swR mix2
 split
 ·rw [zero_mul, zero_add, one_mul]
 ·split
  ·rw [zero_mul, add_zero, one_mul]
  ·rfl
theorem swR_self {S : Type} (W : Nat → Nat → S) (i : Nat) : swR W i i = W := by
 funext a b; unfold swR; split
 ·rename_i h; rw [h]
 ·rfl
theorem swC_self {S : Type} (W : Nat → Nat → S) (i : Nat) : swC W i i = W := by
 funext a b; unfold swC; split
 ·rename_i h; rw [h]
 ·rfl
theorem SmR.adR {A : MT R n m} {U W V : Nat → Nat → R} (h : SmR A U W V) {i k : Nat} (hik : i ≠ k) (hi : i < n) (hk : k < n) (c : R) : SmR A (adR U i k c) (adR W i k c) V :=
 h.row (inv_add hik hi hk c) (by rw [adR_mix, mixT hik hi hk]) (by rw [adR_mix, mixT hik hi hk])
theorem SmR.swR {A : MT R n m} {U W V : Nat → Nat → R} (h : SmR A U W V) {i k : Nat} (hi : i < n) (hk : k < n) : SmR A (swR U i k) (swR W i k) V := by
 by_cases hik : i = k
 ·subst hik; rw [swR_self, swR_self]; exact h
 ·exact h.row (inv_swap hik hi hk) (by rw [swR_mix, mixT hik hi hk]) (by rw [swR_mix, mixT hik hi hk])
theorem SmR.scl {A : MT R n m} {U W V : Nat → Nat → R} (h : SmR A U W V) {t : Nat} {c d : R} (hc : c * d = 1) : SmR A (scl U t c) (scl W t c) V :=
 h.row (inv_scl hc) (sclT c U) (sclT c W)
theorem of_tr (W : Nat → Nat → R) : (MT.of n m W).tr = MT.of m n fun i k => W k i := MT.ext fun i k hi hk => by rw [MT.e_tr, MT.of_e _ hk hi, MT.of_e _ hi hk]
theorem colT {W W' : Nat → Nat → R} {T : MT R m m} (h : MT.of m n (fun i k => W' k i) = T * MT.of m n fun i k => W k i) : MT.of n m W' = MT.of n m W * T.tr := by
 have := congrArg MT.tr h
 rw [MT.tr_mul, of_tr, of_tr] at this
 exact this
theorem SmR.adC {A : MT R n m} {U W V : Nat → Nat → R} (h : SmR A U W V) {i k : Nat} (hik : i ≠ k) (hi : i < m) (hk : k < m) (c : R) : SmR A U (adC W i k c) (adC V i k c) := by
 have e : ∀ X : Nat → Nat → R, (fun a b => Go.Proofs.Ytkmfhabgempjiaa.adC X i k c b a) = Go.Proofs.Ytkmfhabgempjiaa.adR (fun a b => X b a) i k c := fun X => rfl
 exact h.col (inv_add hik hi hk c).tr (colT (by rw [e, adR_mix, mixT hik hi hk])) (colT (by rw [e, adR_mix, mixT hik hi hk]))
theorem SmR.swC {A : MT R n m} {U W V : Nat → Nat → R} (h : SmR A U W V) {i k : Nat} (hi : i < m) (hk : k < m) : SmR A U (swC W i k) (swC V i k) := by
 by_cases hik : i = k
 ·subst hik; rw [swC_self, swC_self]; exact h
 ·have e : ∀ X : Nat → Nat → R, (fun a b => Go.Proofs.Ytkmfhabgempjiaa.swC X i k b a) = Go.Proofs.Ytkmfhabgempjiaa.swR (fun a b => X b a) i k := fun X => rfl
  exact h.col (inv_swap hik hi hk).tr (colT (by rw [e, swR_mix, mixT hik hi hk])) (colT (by rw [e, swR_mix, mixT hik hi hk]))
end
section
variable {p : Nat}
structure SmI (t n m : Nat) (W : Nat → Nat → Pol (Zp p)) : Prop where
 off : ∀ i k, i < n → k < m → i ≠ k → (i < t ∨ k < t) → W i k = 0
 mo : ∀ i, i < t → Mo (W i i)
 dv : ∀ i, i < t → ∀ a b, i ≤ a → a < n → i ≤ b → b < m → Dv (W i i) (W a b)
theorem SmI.start (n m : Nat) (W : Nat → Nat → Pol (Zp p)) : SmI 0 n m W := ⟨fun i k _ _ _ h => by omega, fun i h => by omega, fun i h => by omega⟩
theorem SmI.tr {t n m : Nat} {W : Nat → Nat → Pol (Zp p)} (h : SmI t n m W) : SmI t m n fun i k => W k i :=
 ⟨fun i k hi hk hne h1 => h.off k i hk hi (fun e => hne e.symm) h1.symm, h.mo, fun i hi a b h1 h2 h3 h4 => h.dv i hi b a h3 h4 h1 h2⟩
theorem SmI.rows {t n m : Nat} {W V : Nat → Nat → Pol (Zp p)} (h : SmI t n m W) (C : Nat → Nat → Pol (Zp p)) (h0 : ∀ a b, a < t → a < n → b < m → V a b = W a b) (h1 : ∀ a b, t ≤ a → a < n → b < m → V a b = sm n fun j => if t ≤ j then C a j * W j b else 0) (htn : t ≤ n) (htm : t ≤ m) : SmI t n m V := by
 refine ⟨fun i k hi hk hne hlt => ?_, fun i hi => ?_, fun i hi a b a1 a2 a3 a4 => ?_⟩
 ·by_cases hit : i < t
  ·rw [h0 i k hit hi hk]; exact h.off i k hi hk hne hlt
  ·rw [h1 i k (by omega) hi hk]
   refine sm_zero' fun j hj => ?_
   split
   ·rw [h.off j k hj hk (by omega) (by omega), mul_zero]
   ·rfl
 ·rw [h0 i i hi (by omega) (by omega)]; exact h.mo i hi
 ·rw [h0 i i hi (by omega) (by omega)]
  by_cases hat : a < t
  ·rw [h0 a b hat a2 a4]; exact h.dv i hi a b a1 a2 a3 a4
  ·rw [h1 a b (by omega) a2 a4]
   refine Dv.sm n fun j hj => ?_
   split
   ·exact (h.dv i hi j b (by omega) hj a3 a4).mul _
   ·exact Dv.zero _
theorem SmI.adR {t n m i k : Nat} {W : Nat → Nat → Pol (Zp p)} (h : SmI t n m W) (hik : i ≠ k) (hi : t ≤ i) (hin : i < n) (hk : t ≤ k) (hkn : k < n) (htm : t ≤ m) (c : Pol (Zp p)) : SmI t n m (adR W i k c) := by
 refine h.rows (mixM i k 1 c 0 1) (fun a b ha _ _ => by unfold Go.Proofs.Ytkmfhabgempjiaa.adR; rw [if_neg (by omega)]) (fun a b ha han hb => ?_) (by omega) htm
 rw [adR_mix, ← mixM_mul hik hin hkn _ _ _ _ W han]
 refine sm_congr fun j hj => ?_
 by_cases hj2 : t ≤ j
 ·rw [if_pos hj2]
 ·rw [if_neg hj2]
  have : mixM i k 1 c 0 1 a j = 0 := by
   unfold mixM
   split
   ·rw [if_neg (by omega), if_neg (by omega)]
   ·split
    ·rw [if_neg (by omega), if_neg (by omega)]
    ·rw [if_neg (by omega)]
  rw [this, zero_mul]
theorem SmI.swR {t n m i k : Nat} {W : Nat → Nat → Pol (Zp p)} (h : SmI t n m W) (hi : t ≤ i) (hin : i < n) (hk : t ≤ k) (hkn : k < n) (htm : t ≤ m) : SmI t n m (swR W i k) := by
 refine h.rows (fun a j => if a = i then (if j = k then 1 else 0) else if a = k then (if j = i then 1 else 0) else if j = a then 1 else 0) (fun a b ha _ _ => by unfold Go.Proofs.Ytkmfhabgempjiaa.swR; rw [if_neg (by omega), if_neg (by omega)]) (fun a b ha han hb => ?_) (by omega) htm
 unfold Go.Proofs.Ytkmfhabgempjiaa.swR
 have one : ∀ q, t ≤ q → q < n → sm n (fun j => if t ≤ j then (if j = q then (1 : Pol (Zp p)) else 0) * W j b else 0) = W q b := fun q h1 h2 => by
  rw [sm_one h2 fun j hj hne => ?_, if_pos h1, if_pos rfl, one_mul]
  split
  ·first | rw [zero_mul] | rw [if_neg hne, zero_mul]
  ·rfl
 by_cases e1 : a = i
 ·simp only [e1, if_true]; exact (one k hk hkn).symm
 ·by_cases e2 : a = k
  ·have e3 : ¬ k = i := by omega
   simp only [e2, e3, if_true, if_false]; exact (one i hi hin).symm
  ·simp only [e1, e2, if_false]; exact (one a ha han).symm
theorem SmI.scl {t n m i : Nat} {W : Nat → Nat → Pol (Zp p)} (h : SmI t n m W) (hi : t ≤ i) (hin : i < n) (htm : t ≤ m) (c : Pol (Zp p)) : SmI t n m (scl W i c) := by
 refine h.rows (fun a j => if j = a then (if a = i then c else 1) else 0) (fun a b ha _ _ => by unfold Go.Proofs.Ytkmfhabgempjiaa.scl; rw [if_neg (by omega)]) (fun a b ha han hb => ?_) (by omega) htm
 rw [sm_one han fun j hj hne => by
  split
  ·first | rw [zero_mul] | rw [if_neg hne, zero_mul]
  ·rfl, if_pos ha, if_pos rfl]
 unfold Go.Proofs.Ytkmfhabgempjiaa.scl
 split
 ·rw [mul_comm]
 ·rw [one_mul]
theorem SmI.adC {t n m i k : Nat} {W : Nat → Nat → Pol (Zp p)} (h : SmI t n m W) (hik : i ≠ k) (hi : t ≤ i) (hin : i < m) (hk : t ≤ k) (hkn : k < m) (htn : t ≤ n) (c : Pol (Zp p)) : SmI t n m (adC W i k c) := (h.tr.adR hik hi hin hk hkn htn c).tr
theorem SmI.swC {t n m i k : Nat} {W : Nat → Nat → Pol (Zp p)} (h : SmI t n m W) (hi : t ≤ i) (hin : i < m) (hk : t ≤ k) (hkn : k < m) (htn : t ≤ n) : SmI t n m (swC W i k) := (h.tr.swR hi hin hk hkn htn).tr
theorem SmI.next {t n m : Nat} {W : Nat → Nat → Pol (Zp p)} (h : SmI t n m W) (hm : Mo (W t t)) (hr : ∀ i, t < i → i < n → W i t = 0) (hc : ∀ k, t < k → k < m → W t k = 0) (hd : ∀ a b, t < a → a < n → t < b → b < m → Dv (W t t) (W a b)) : SmI (t + 1) n m W := by
 refine ⟨fun i k hi hk hne hlt => ?_, fun i hi => ?_, fun i hi a b a1 a2 a3 a4 => ?_⟩
 ·by_cases h1 : i < t ∨ k < t
  ·exact h.off i k hi hk hne h1
  ·by_cases e : i = t
   ·rw [e]; exact hc k (by omega) hk
   ·have e2 : k = t := by omega
    rw [e2]; exact hr i (by omega) hi
 ·by_cases e : i = t
  ·rw [e]; exact hm
  ·exact h.mo i (by omega)
 ·by_cases e : i = t
  ·subst e
   by_cases e1 : a = i
   ·by_cases e2 : b = i
    ·rw [e1, e2]; exact Dv.refl _
    ·rw [e1, hc b (by omega) a4]; exact Dv.zero _
   ·by_cases e2 : b = i
    ·rw [e2, hr a (by omega) a2]; exact Dv.zero _
    ·exact hd a b (by omega) a2 (by omega) a4
  ·exact h.dv i (by omega) a b a1 a2 a3 a4
def dgo (t : Nat) (W : Nat → Nat → Pol (Zp p)) : Nat → Pol (Zp p) := fun i => if i < t then W i i else 0
end
end Go.Proofs.Ytkmfhabgempjiaa
/- Plain: the least number of a kind; lengths of quotients and products. -/
namespace Go.Proofs.Ytkmfhabgempjiaa
set_option maxHeartbeats 4000000
open CR
section
variable {p : Nat}
theorem nrm_len (hp : 0 < p) {zs : List Nat} {L : Nat} (h : Nrm p zs) (hd : (pl p zs).dlt L) : zs.length ≤ L := (nrm_ln hp h).le hd
theorem mul_dlt1 {R : Type} [CR R] {f g : Pol R} {a b : Nat} (hf : f.dlt a) (hg : g.dlt b) : (f * g).dlt (a + b - 1) := by
 cases a with
 | zero => rw [dlt_nil hf, CR.zero_mul]; exact dlt_zero _
 | succ a =>
  cases b with
  | zero => rw [dlt_nil hg, CR.mul_zero]; exact dlt_zero _
  | succ b => exact dlt_mono (mul_dlt' hf hg) (by omega)
theorem divq_dlt (tr : Trial p) {a b q r : Pol (Zp p)} {la lb : Nat} (h : a = q * b + r) (ha : a.dlt la) (hb : Ln b lb) (h0 : b ≠ 0) (hr : r.dlt (lb - 1)) : q.dlt (la + 1 - lb) := by
 obtain ⟨n, rfl⟩ := hb.pos h0
 obtain ⟨m, hm⟩ := Ln.exists q
 by_cases hq : q = 0
 ·rw [hq]; exact dlt_zero _
 ·obtain ⟨m, rfl⟩ := hm.pos hq
  have h1 := hm.mul tr hb
  have e : q * b = a - r := by rw [h]; exact by_ring [q * b, r] X0 (X0 + X1 - X1) rfl
  rw [e] at h1
  have h2 := h1.le (dlt_sub (dlt_mono ha (Nat.le_max_left la n)) (dlt_mono hr (by omega)))
  exact dlt_mono hm.1 (by omega)
end
end Go.Proofs.Ytkmfhabgempjiaa
/- Package xform: rows of a matrix, a matrix of rows; rows mixed. -/
namespace Go.Proofs.Ytkmfhabgempjiaa
set_option maxHeartbeats 4000000
open Go.RowKit
def RetXr (p : Nat) (w : World) (n c : Nat) (W : Nat → Nat → Pol (Zp p)) (e : Ending) (w' : World) : Prop := ∃ rv U E, e = .returned rv ∧ Xr p w' w.heap.size rv n (fun _ => c) U E W ∧ Below w.heap.size w w'
set_option maxRecDepth 20000 in
theorem xf_rowsOf (p : Nat) (a : Value) (r c : Nat) (xs : List (List Nat)) (w : World) (hp : FP p) (hA : Xm w a r c xs) (hr : r ≤ 64) (hc : c ≤ 64) (hx : xs.length = r * c) (hl : ∀ j, j < r * c → (xs.getD j []).length ≤ 1000000000000) :
  Calls Try.prog 71 #[.agg #[.int .u64 p], a] w (RetXr p w r c (aT p c xs)) := by
 obtain ⟨aA, cA, rfl⟩ := hA.agg
 obtain ⟨wb, ew, KF, KA, B0, hsz⟩ := boxes2 w 29 24 [.int .u64 p] [.int .i64 r, .int .i64 c, .slice aA xs.length cA]
 clear hsz
 replace hA := hA.next B0
 have HP := Lib.hid hp; have HX := Lib.hid hx; have HLL := Lib.hid hl; clear hp hx hl
 go_enter Try.func71, Try.ntmps71
 go_upto_region 1 with (fail)
 rw [← ew]
 obtain ⟨g, eg⟩ : ∃ g, g = w.heap.size := ⟨_, rfl⟩
 rw [← eg] at KF KA ⊢
 clear ew eg
 have HKA := Lib.hid KA; have HKF := Lib.hid KF; have HA := Lib.hid hA; have HB0 := Lib.hid B0
 have c0 := KA.cell 0
 clear KA KF hA B0
 go_wp2
 go_loopw [11, 5] (fun iv lv wr => ∃ (i : Nat) (U : Nat → Value) (E : Nat → Nat → Value), i ≤ r ∧ iv = .int .i64 i ∧ Xr p wr wb.heap.size lv i (fun _ => c) U E (aT p c xs) ∧ Below wb.heap.size wb wr) (fun iv _ _ => r - (intOf iv).toNat)
 case atStart => exact ⟨0, fun _ => .slice none 0 0, fun _ _ => .slice none 0 0, by omega, rfl, Xr.nil _ _ _ _ _ _, Below.refl _ _⟩
 case round =>
  obtain ⟨i, U, E, hi, rfl, XR, B1⟩ := hrel
  obtain ⟨wk, hwk⟩ : ∃ wk, wk = wr := ⟨_, rfl⟩
  subst hwk
  by_cases hir : i < r
  ·have KA := HKA.out.next B1
   have c1 := KA.cell 1
   clear KA
   go_wp2
   clear c1
   go_loopw [16, 7] (fun kv rv wr => ∃ (k : Nat) (F : Nat → Value), k ≤ c ∧ kv = .int .i64 k ∧ wr.ownsRow wk.heap.size 43 1 rv k (rowL k F) ∧ (∀ j, j < k → Vn p wr wk.heap.size (F j) (aT p c xs i j)) ∧ Below wk.heap.size wk wr) (fun kv _ _ => c - (intOf kv).toNat)
   case atStart => exact ⟨0, fun _ => .slice none 0 0, by omega, rfl, World.ownsRow_nil _ _ _ _, fun j hj => absurd hj (by omega), Below.refl _ _⟩
   case round =>
    obtain ⟨k, F, hk, rfl, hrow, hel, B2⟩ := hrel
    by_cases hkc : k < c
    ·have B3 := B1.trans (B2.mono B1.size)
     have KA := HKA.out.next B3; have KF := HKF.out.next B3
     have hA := HA.out.next B3
     have c0 := KA.cell 0; have c1 := KA.cell 1; have c2 := KA.cell 2; have f0 := KF.cell 0
     have hlt : i * c + k < r * c := at_lt rfl hir hkc
     have hll := HLL.out _ hlt
     clear KA KF
     go_wp2_with fail
     refine (xm_At p i k _ r c xs _ HP.out hA hr hc HX.out hir hkc hll).mono ?_; rintro e w5 ⟨r5, z5, rfl, o5, n5, v5, l5, b5⟩
     clear c0 c1 c2 f0 hA B3
     obtain ⟨a5, c5, rfl⟩ := o5.sliced
     have hks : wk.heap.size ≤ w5.heap.size := Nat.le_trans B2.size b5.size
     have hrow5 := rowOwn_next hrow b5 (Nat.le_refl _)
     have hv5 : Vn p w5 wr.heap.size (.slice a5 z5.length c5) (aT p c xs i k) := ⟨z5, o5, n5, v5⟩
     clear o5 n5 v5 l5 hll
     go_wp2_with (at_builtin; refine apVl 22 43 24 (.slice none 0 0) Try.underlying22 (by kernel_rfl) (by decide) rfl rfl _ _ rfl w5 wk.heap.size _ k (rowL k F) (.slice a5 z5.length c5) rfl hrow5 (by omega) hks rfl rfl ?_; intro g8 cap8 w8 ho8 hb8 hg8 _)
     have hS : ∀ b, b < w5.heap.size → _ → Tyb w5 43 b := fun b _ hb => (rowOwn_tyb hrow5 hb).1
     have keep : ∀ {u : Value} {q : Pol (Zp p)} {c : Nat}, Vn p w5 c u q → Vn p w8 c u q := fun hu => hu.chg (Chg.grown hg8) (e := 43) hS (by decide)
     have T1 := Lib.hid (show w8.ownsRow wk.heap.size 43 1 (.slice (some ⟨g8, 0, none⟩) (k + 1) cap8) (k + 1) (rowL (k + 1) fun j => if j < k then F j else .slice a5 z5.length c5) by
      rw [rowL_snoc, if_neg (by omega), rowL_congr (V := F) (fun j hj => if_pos hj)]; exact ho8)
     have T2 := Lib.hid (show ∀ j, j < k + 1 → Vn p w8 wk.heap.size (if j < k then F j else .slice a5 z5.length c5) (aT p c xs i j) from fun j hj => by
      by_cases h : j < k
      ·rw [if_pos h]; exact keep ((hel j h).next b5)
      ·obtain rfl : j = k := by omega
       rw [if_neg h]; exact (keep hv5).mono B2.size)
     have T3 := Lib.hid ((B2.trans (b5.mono B2.size)).trans hb8)
     clear hrow hel B2 hrow5 hv5 b5 ho8 hb8 hg8 hS keep XR B1
     go_wp2
     go_roundw
     case rel => exact ⟨k + 1, _, by omega, by go_num, T1.out, T2.out, T3.out⟩
     case measure => simp [intOf] <;> omega
    ·obtain rfl : k = c := by omega
     have hs1 := rowOwn_next XR.own B2 (Nat.le_refl _)
     have hbs : wb.heap.size ≤ wr.heap.size := Nat.le_trans B1.size B2.size
     obtain ⟨ax, cx, ex⟩ : ∃ a c, u7 = .slice a k c := by
      rcases rowOwn_shape hrow with ⟨e1, e2⟩ | ⟨_, _, e1, _⟩
      ·exact ⟨none, 0, by rw [e1, e2]⟩
      ·exact ⟨_, _, e1⟩
     subst ex
     go_wp2_with (at_builtin; refine apVl 98 22 24 (.slice none 0 0) Try.underlying98 (by kernel_rfl) (by decide) rfl rfl _ _ rfl wr wb.heap.size _ i (rowL i U) _ rfl hs1 (by omega) hbs rfl rfl ?_; intro g8 cap8 w8 ho8 hb8 hg8 _)
     have st := Lib.hid (XR.push B2 hrow (Nat.le_refl _) B1.size hel hg8 ho8)
     have B8 := Lib.hid ((B1.trans (B2.mono B1.size)).trans hb8)
     clear hrow hel B2 hs1 ho8 hb8 hg8 XR B1
     go_wp2
     go_roundw
     case rel => exact ⟨i + 1, _, _, by omega, by go_num, st.out.congr (fun a _ => by simp) (fun _ _ => rfl) (fun _ _ _ _ => rfl) (fun a b _ _ => by
      by_cases e : a = i
      ·simp [e]
      ·simp [e]), B8.out⟩
     case measure => simp [intOf] <;> omega
  ·obtain rfl : i = r := by omega
   have FIN := Lib.hid (show RetXr p w i c (aT p c xs) (.returned u5) wk from ⟨_, U, E, rfl, XR.mono HB0.out.size, HB0.out.trans (B1.mono HB0.out.size)⟩)
   clear XR B1
   go_wp2
   go_ret
   exact FIN.out
theorem xf_minus (p gW : Nat) (rv : Value) (top : Int) (v : Value) (xs : List Nat) (w : World) (hp : FP p) (KW : Blk 116 w gW [.int .u64 p, rv, .int .i64 top]) (hv : Sl .u64 w v xs) (hm : xs.length ≤ 1000000000000) :
  Calls Try.prog 164 #[.pointer (some ⟨gW, 0, none⟩), v] w (RetP p w xs.length (-pl p xs)) := by
 have HP := Lib.hid hp; clear hp
 have c0 := KW.cell 0
 go_enter Try.func164, Try.ntmps164
 go_wp2_with fail
 refine (fp_Sub p _ v [] xs w HP.out (Sl.nil _ _) hv (by simp) hm).mono ?_; rintro e w2 ⟨r2, z2, rfl, o2, n2, v2, l2, b2⟩
 have FIN := Lib.hid (show RetP p w xs.length (-pl p xs) (.returned r2) w2 from ⟨r2, z2, rfl, o2, n2, by rw [v2, pl_nil, CR.zero_sub], by simpa using l2, b2⟩)
 clear o2 n2 v2 l2 b2 c0
 go_wp2
 go_ret
 exact FIN.out
theorem wp_makeV {P : Program} {ops : Array Oper} {rest : List Oper} {o : Oper} {a : Act} {Q : Exit → Act → World → Prop} (T e bytes : Nat)
  (hu : P.underlying T = some (.slice e)) (hi : (P.info? e).map (fun i => (i.zero, i.size, i.bytes)) = some (some (.slice none 0 0), 1, bytes)) (hby : bytes ≤ 32)
  (hgd : o.guard = none) (l c : Operand) (ho : o.op = .makeSlice T l c) (kl kc : IntKind) (n : Nat) (hn : n ≤ 1000000000)
  (w : World) (L C : Int) (hl : a.eval l = .int kl L) (hc : a.eval c = .int kc C) (hL : L = n) (hC : C = n)
  (h : ∀ (w' : World), w'.ownsRow w.heap.size e 1 (.slice (some ⟨w.heap.size, 0, none⟩) n n) n (rowL n fun _ => .slice none 0 0) → Below w.heap.size w w' → w.heap.size < w'.heap.size → wpList P ops Q rest (a.put o.dst (.slice (some ⟨w.heap.size, 0, none⟩) n n)) w') :
  wpList P ops Q (o :: rest) a w := by
 obtain ⟨i0, h1, h2, h3, h4⟩ := info_parts hi
 subst h4
 refine wpList_make_full w hgd l c T ho w.heap.size e i0 (.slice none 0 0) 1 hu h1 h2 h3 kl kc L C n hl hc hL hC ?_ ?_ (Nat.le_refl _) ?_
 ·have : i0.bytes * n ≤ 32 * n := Nat.mul_le_mul_right _ hby
  omega
 ·unfold maxLen; omega
 ·intro w' h5 h6
  refine h w' ?_ ((Below.refl _ w).grown h6 (Nat.le_refl _) (fun k hk => by simp at hk)) ?_
  ·have e2 : rowL n (fun _ => (.slice none 0 0 : Value)) = List.replicate n (.slice none 0 0) := by unfold rowL; rw [List.map_const', List.length_range]
   rw [e2]
   simpa [Value.cells, toList_madeCells_one] using h5
  ·rcases h5.2 with ⟨h, _⟩ | ⟨g, cap, cur, hv, _, hg, _⟩
   ·simp at h
   ·simp only [Value.slice.injEq, Option.some.injEq, Addr.mk.injEq] at hv
    obtain ⟨⟨rfl, -⟩, -⟩ := hv
    exact (Array.getElem?_eq_some_iff.1 hg).1
def RowP (p L : Nat) (w : World) (v : Value) (M : Nat) (P : Nat → Pol (Zp p)) : Prop := ∃ (b c : Nat) (E : Nat → Value), v = .slice (some ⟨b, 0, none⟩) M c ∧ M ≤ c ∧ b < w.heap.size ∧ ∀ k, k < M → w.cell? ⟨b, k, none⟩ = some (E k) ∧ ∃ zs, Sl .u64 w (E k) zs ∧ Nrm p zs ∧ pl p zs = P k ∧ zs.length ≤ L
theorem RowP.next {p L M : Nat} {w w' : World} {v : Value} {P : Nat → Pol (Zp p)} (h : RowP p L w v M P) (hb : Below w.heap.size w w') : RowP p L w' v M P := by
 obtain ⟨b, c, E, e, h1, h2, h3⟩ := h
 refine ⟨b, c, E, e, h1, by have := hb.size; omega, fun k hk => ?_⟩
 obtain ⟨k1, zs, k2, k3⟩ := h3 k hk
 exact ⟨(hb.cell (p := ⟨b, k, none⟩) h2).trans k1, zs, k2.next hb, k3⟩
theorem Xr.rowP {p L n : Nat} {w : World} {base : Nat} {rv : Value} {N : Nat → Nat} {U : Nat → Value} {E : Nat → Nat → Value} {W : Nat → Nat → Pol (Zp p)} (h : Xr p w base rv n N U E W) (hp : 0 < p) {i : Nat} (hi : i < n) (hN : 0 < N i) (hL : ∀ k, k < N i → (W i k).dlt L) : RowP p L w (U i) (N i) (W i) := by
 obtain ⟨b, c, e, h1, h2, h3, h4, h5, h6⟩ := h.at hi hN
 exact ⟨b, c, E i, e, h3, h2, fun k hk => ⟨h5 k hk, by
  obtain ⟨zs, k1, k2, k3⟩ := h.el i k hi hk
  exact ⟨zs, k1.sl, k2, k3, nrm_len hp k2 (by rw [k3]; exact hL k hk)⟩⟩⟩
def RetRow (p : Nat) (w : World) (M : Nat) (R : Nat → Pol (Zp p)) (e : Ending) (w' : World) : Prop := ∃ g F, e = .returned (.slice (some ⟨g, 0, none⟩) M M) ∧ w'.ownsRow w.heap.size 43 1 (.slice (some ⟨g, 0, none⟩) M M) M (rowL M F) ∧ (∀ k, k < M → Vn p w' w.heap.size (F k) (R k)) ∧ Below w.heap.size w w'
set_option maxRecDepth 20000 in
theorem xf_mixed (p gW L M : Nat) (rv : Value) (top : Int) (vx vp vy vq : Value) (X Y : List Nat) (P Q : Nat → Pol (Zp p)) (w : World) (hp : FP p) (KW : Blk 116 w gW [.int .u64 p, rv, .int .i64 top]) (hX : Sl .u64 w vx X) (hY : Sl .u64 w vy Y) (hP : RowP p L w vp M P) (hQ : RowP p L w vq M Q)
  (lX : X.length ≤ L) (lY : Y.length ≤ L) (hL : L ≤ 400000000000) (hM : M ≤ 1000) (hM0 : 0 < M) :
  Calls Try.prog 163 #[.pointer (some ⟨gW, 0, none⟩), vx, vp, vy, vq] w (RetRow p w M fun k => pl p X * P k + pl p Y * Q k) := by
 obtain ⟨bp, cp, EP, rfl, hcp, hbp, hp2⟩ := hP
 obtain ⟨bq, cq, EQ, rfl, hcq, hbq, hq2⟩ := hQ
 have HP := Lib.hid hp; have HP2 := Lib.hid hp2; have HQ2 := Lib.hid hq2; clear hp hp2 hq2
 obtain ⟨T, eT⟩ : ∃ T : Nat → Pol (Zp p), T = fun k => pl p X * P k + pl p Y * Q k := ⟨_, rfl⟩
 rw [← eT]
 have ET := Lib.hid eT; clear eT
 go_enter Try.func163, Try.ntmps163
 go_wp2_with (at_make; refine wp_makeV 22 43 24 Try.underlying22 (by kernel_rfl) (by decide) rfl _ _ rfl .i64 .i64 M (by omega) _ _ _ rfl rfl rfl rfl ?_; intro w1 hown hbel hsz)
 obtain ⟨g, eg⟩ : ∃ g, g = w.heap.size := ⟨_, rfl⟩
 rw [← eg] at hown hsz ⊢
 have hgw : w.heap.size ≤ g := by omega
 have EG := Lib.hid eg
 clear eg
 have st : ∃ F : Nat → Value, w1.ownsRow g 43 1 (.slice (some ⟨g, 0, none⟩) M M) M (rowL M F) ∧ (∀ j, j < 0 → Vn p w1 w.heap.size (F j) (T j)) ∧ Below w.heap.size w w1 := ⟨_, hown, fun j hj => absurd hj (by omega), hbel⟩
 clear hown hbel hsz
 go_loopw [18] (fun kv wr => ∃ k : Nat, k ≤ M ∧ kv = .int .i64 k ∧ ∃ F : Nat → Value, wr.ownsRow g 43 1 (.slice (some ⟨g, 0, none⟩) M M) M (rowL M F) ∧ (∀ j, j < k → Vn p wr w.heap.size (F j) (T j)) ∧ Below w.heap.size w wr) (fun kv _ => M - (intOf kv).toNat)
 case atStart => exact ⟨0, by omega, rfl, st⟩
 case round =>
  clear st w1
  obtain ⟨k, hk, rfl, F, hown, hel, B0⟩ := hrel
  by_cases hkm : k < M
  ·obtain ⟨q0, zp, sp, np, vp, lp⟩ := HP2.out k hkm
   obtain ⟨q0', zq, sq, nq, vq, lq⟩ := HQ2.out k hkm
   have VP := Lib.hid vp; have VQ := Lib.hid vq
   have hgl : g < wr.heap.size := (rowOwn_tyb hown rfl).2.2
   clear vp vq np nq
   go_upto_region 5 with (fail)
   have bd := dw wr
   have hown := rowOwn_next hown bd (Nat.le_refl _)
   have hel : ∀ j, j < k → Vn p wr.drew w.heap.size (F j) (T j) := fun j hj => (hel j hj).next bd
   replace B0 := B0.trans (bd.mono B0.size)
   clear bd
   have q1 : wr.drew.cell? ⟨bp, k, none⟩ = some (EP k) := (B0.cell (p := ⟨bp, k, none⟩) hbp).trans q0
   have q2 : wr.drew.cell? ⟨bq, k, none⟩ = some (EQ k) := (B0.cell (p := ⟨bq, k, none⟩) hbq).trans q0'
   have l1 : bp < wr.drew.heap.size := by have := B0.size; omega
   have l2 : bq < wr.drew.heap.size := by have := B0.size; omega
   have K0 := KW.next B0
   have hX1 := hX.next B0; have hY1 := hY.next B0
   replace sp := sp.next B0; replace sq := sq.next B0
   have HEL := Lib.hid hel
   clear hel q0 q0'
   have zF0 := Lib.hid fun (w : World) (hS : Below (wr.drew).heap.size (wr.drew) w) => And.intro ((K0.at hS) 0) (And.intro ((hS.cell (p := ⟨bp, k, none⟩) l1).trans q1) ((hS.cell (p := ⟨bq, k, none⟩) l2).trans q2))
   refine startP (S := (fun w' => Below (wr.drew).heap.size (wr.drew) w')) (by kernel_rfl) _ rfl rfl rfl (by kernel_rfl) (Below.refl _ _) (fun hHeld => ?_)
   refine tk 0 ?_
   refine tk 1 ?_
   refine tk 2 ?_
   refine tk 3 ?_
   refine tk 4 ?_
   refine tf 5 zF0.out ?_
   refine tk 6 ?_
   refine tk 7 ?_
   refine tk 8 ?_
   refine tf 9 zF0.out ?_
   refine tk 10 ?_
   refine tk 11 ?_
   refine tk 12 ?_
   refine tk 13 ?_
   refine tf 14 zF0.out ?_
   refine tk 16 ?_
   refine tk 17 ?_
   refine tk 18 ?_
   refine tf 19 zF0.out ?_
   refine tk 20 ?_
   refine tk 21 ?_
   refine tk 22 ?_
   refine tk 23 ?_
   refine tf 24 zF0.out ?_
   refine on 15 fun K hK => ?_
   go_simp
   go_at_call 65
   (with_reducible refine (fp_Mul p vx (EP k) X zp _ HP.out (hX1.next hHeld) (sp.next hHeld) (by omega) (by omega)).mono ?_); rintro e w3 ⟨r3, z3, rfl, o3, n3, v3, l3, b3⟩
   have t3 := o3.sl; clear o3
   refine hK.out _ _ (hHeld.trans (b3.mono hHeld.size)) (fun hHeld => ?_)
   clear hK K
   try simp only [Act.put, zq1, zq2, zq3]
   refine on 25 fun K hK => ?_
   go_simp
   go_at_call 65
   (with_reducible refine (fp_Mul p vy (EQ k) Y zq _ HP.out (hY1.next hHeld) (sq.next hHeld) (by omega) (by omega)).mono ?_); rintro e w4 ⟨r4, z4, rfl, o4, n4, v4, l4, b4⟩
   have t4 := o4.sl; clear o4; replace t3 := t3.next b4
   refine hK.out _ _ (hHeld.trans (b4.mono hHeld.size)) (fun hHeld => ?_)
   clear hK K
   try simp only [Act.put, zq1, zq2, zq3]
   refine on 26 fun K hK => ?_
   go_simp
   go_at_call 90
   (with_reducible refine (fp_Add p r3 r4 z3 z4 _ HP.out t3 t4 (by omega) (by omega)).mono ?_); rintro e w5 ⟨r5, z5, rfl, o5, n5, v5, l5, b5⟩; obtain ⟨a5, c5, e5⟩ := o5.sliced; subst e5
   refine hK.out _ _ (hHeld.trans (b5.mono hHeld.size)) (fun hHeld => ?_)
   clear hK K
   try simp only [Act.put, zq1, zq2, zq3]
   refine tk 27 ?_
   clear zF0; refine doneL (by kernel_rfl) ?_ _
   refine lastL rfl (by rfl) ?_
   have hown := rowOwn_next hown hHeld (Nat.le_refl _)
   have hsz := B0.size
   have B0 := B0.trans (hHeld.mono B0.size)
   have c2 := World.ownsRow.cellAt hown k (by omega)
   rw [rowL_get hkm] at c2
   have f2 := World.ownsRow.frozenAt hown k
   have hT : Tyb w5 43 g := (rowOwn_tyb hown rfl).1
   have own' := (World.ownsRow.stored hown k (.slice a5 z5.length c5)).1
   rw [rowL_set] at own'
   have keep : ∀ {u : Value} {q : Pol (Zp p)} {c : Nat}, Vn p w5 c u q → Vn p (w5.setCell ⟨g, k, none⟩ (.slice a5 z5.length c5)) c u q := fun hu => hu.chg (Chg.setCell w5 ⟨g, k, none⟩ (.slice a5 z5.length c5)) (e := 43) (fun b _ hb => by rw [hb]; exact hT) (by decide)
   have T1 := Lib.hid own'
   have T2 := Lib.hid (show ∀ j, j < k + 1 → Vn p (w5.setCell ⟨g, k, none⟩ (.slice a5 z5.length c5)) w.heap.size (if j = k then .slice a5 z5.length c5 else F j) (T j) from fun j hj => by
    by_cases h : j = k
    ·rw [if_pos h, h]
     exact keep ⟨z5, o5.mono (by have := b3.size; have := b4.size; omega), n5, by rw [v5, v3, v4, ET.out, VP.out, VQ.out]⟩
    ·rw [if_neg h]
     exact keep ((HEL.out j (by omega)).next hHeld))
   have T3 := Lib.hid (B0.setCell (p := ⟨g, k, none⟩) hgw (.slice a5 z5.length c5))
   clear hown own' B0 hHeld K0 hX1 hY1 sp sq o5 n5 v5 l5 v3 v4 l3 l4 n3 n4 b3 b4 b5 t3 t4 q1 q2
   go_wp2
   go_roundw
   case rel => exact ⟨k + 1, by omega, by go_num, _, T1.out, T2.out, T3.out⟩
   case measure => simp [intOf] <;> omega
  ·obtain rfl : k = M := by omega
   have FIN := Lib.hid (show RetRow p w k T (.returned (.slice (some ⟨g, 0, none⟩) k k)) wr from ⟨g, F, rfl, rowOwn_mono hown hgw, hel, B0⟩)
   clear hown hel B0
   go_wp2
   go_ret
   exact FIN.out
end Go.Proofs.Ytkmfhabgempjiaa
/- xform: two rows are joined in a column. -/
namespace Go.Proofs.Ytkmfhabgempjiaa
set_option maxHeartbeats 4000000
open Go.RowKit
structure Hst (p : Nat) (w : World) (base gW : Nat) (rv : Value) (top n M : Nat) (U : Nat → Value) (E : Nat → Nat → Value) (W : Nat → Nat → Pol (Zp p)) : Prop where
 blk : Blk 116 w gW [.int .u64 p, rv, .int .i64 top]
 gw : base ≤ gW
 rows : Xr p w base rv n (fun _ => M) U E W
theorem Hst.next {p : Nat} {w w' : World} {base gW : Nat} {rv : Value} {top n M : Nat} {U : Nat → Value} {E : Nat → Nat → Value} {W : Nat → Nat → Pol (Zp p)} (h : Hst p w base gW rv top n M U E W) (hb : Below w.heap.size w w') : Hst p w' base gW rv top n M U E W := ⟨h.blk.next hb, h.gw, h.rows.next hb⟩
def JoinR {p : Nat} (n M col top i L : Nat) (W W' : Nat → Nat → Pol (Zp p)) : Prop :=
 (W' = W ∧ W i col = 0) ∨ (∃ a b c d : Pol (Zp p), a * d - b * c = 1 ∧ W' = mix2 W top i a b c d ∧ W' i col = 0 ∧ W' top col ≠ 0 ∧ (∀ r k, r < n → k < M → (W' r k).dlt (2 * L)) ∧ Dl a c)
theorem dl_neg {p : Nat} {f g : Pol (Zp p)} (h : Dl f g) : Dl f (-g) := by
 obtain ⟨d, h1, h2, h3⟩ := h
 exact ⟨d, h1, dlt_neg h2, fun m hm e => h3 m hm (by rw [Pol.c_neg] at e; have e2 := congrArg Neg.neg e; rwa [CR.neg_neg, CR.neg_zero] at e2)⟩
def RetHs (p : Nat) (w : World) (base gW : Nat) (rv : Value) (n M : Nat) (Q : Nat → (Nat → Nat → Pol (Zp p)) → Prop) (e : Ending) (w' : World) : Prop :=
 e = .returned (.tuple #[]) ∧ ∃ top' U' E' W', Hst p w' base gW rv top' n M U' E' W' ∧ Q top' W' ∧ Below base w w'
theorem xg_vals {p : Nat} (hp : 0 < p) (tr : Trial p) {a b g x y v : Pol (Zp p)} {la lb lx : Nat} (hg : g = x * a + y * b) (hv : b = v * g) (hb : b ≠ 0) (ha : a.dlt la) (hbl : b.dlt lb) (hx : x.dlt lx) {zv : List Nat} (nv : Nrm p zv) (ev : pl p zv = v) (hxv : lx < zv.length) (hl1 : 1 ≤ la) : y.dlt la ∧ zv.length ≤ lb := by
 obtain ⟨nb, hnb⟩ := Ln.exists b
 have lv : Ln v zv.length := by rw [← ev]; exact nrm_ln hp nv
 have h1 := gcd_len tr hg hv hb ha hnb lv hx hxv
 refine ⟨dlt_mono h1 (by omega), ?_⟩
 have h2 : zv.length ≤ nb := Dv.len tr ⟨g, hv⟩ hb lv hnb
 have h3 := hnb.le hbl
 omega
theorem exact_q {p : Nat} (hp : 0 < p) (tr : Trial p) {a g q r : Pol (Zp p)} {zg zr : List Nat} (hd : Dv g a) (eg : pl p zg = g) (h : a = q * g + r) (er : pl p zr = r) (hl : zr.length < (nl p zg).length) : a = q * g := by
 obtain ⟨n, hn⟩ : ∃ n, (nl p zg).length = n + 1 := ⟨(nl p zg).length - 1, by omega⟩
 have hy : Ln g (n + 1) := by rw [← hn, ← eg, ← nl_pl p zg]; exact nrm_ln hp (nl_nrm hp zg)
 have h0 := (dv_rem tr hy (r := r) (fun i hi => by rw [← er]; exact pl_dlt p zr i (by omega)) h).1 hd
 rw [h0, CR.add_zero] at h; exact h
theorem Hst.put2 {p : Nat} {w : World} {base gW : Nat} {rv : Value} {top n M : Nat} {U : Nat → Value} {E : Nat → Nat → Value} {W : Nat → Nat → Pol (Zp p)} (H : Hst p w base gW rv top n M U E W) {g cap : Nat} (hrv : rv = .slice (some ⟨g, 0, none⟩) n cap) {A B : Value} {FA FB : Nat → Value} {PA PB : Nat → Pol (Zp p)}
  (hA : w.ownsRow base 43 1 A M (rowL M FA)) (eA : ∀ k, k < M → Vn p w base (FA k) (PA k)) (hB : w.ownsRow base 43 1 B M (rowL M FB)) (eB : ∀ k, k < M → Vn p w base (FB k) (PB k)) {s t : Nat}
  (fA : ∀ j, j < n → ∀ b, A.ownBlock = some b → (U j).ownBlock ≠ some b) (fB : ∀ j, j < n → ∀ b, B.ownBlock = some b → (U j).ownBlock ≠ some b ∧ A.ownBlock ≠ some b) {W' : Nat → Nat → Pol (Zp p)} (hW : ∀ a k, a < n → k < M → W' a k = if a = t then PB k else if a = s then PA k else W a k) :
  ∃ U' E', Hst p ((w.setCell ⟨g, s, none⟩ A).setCell ⟨g, t, none⟩ B) base gW rv top n M U' E' W' := by
 have ho := H.rows.own
 rw [hrv] at ho
 have hgt : Tyb w 22 g := (rowOwn_tyb ho rfl).1
 have hc : Chg w (w.setCell ⟨g, s, none⟩ A) (fun j => j = g) := Chg.setCell w ⟨g, s, none⟩ A
 have X1 := H.rows.setU hrv hA (fun j hj _ b hb => fA j hj b hb) eA (i := s)
 have hB1 := rowOwn_chgT hB hc (e' := 22) (fun c _ hcb => by rw [hcb]; exact hgt) (by decide)
 have eB1 : ∀ k, k < M → Vn p (w.setCell ⟨g, s, none⟩ A) base (FB k) (PB k) := fun k hk => (eB k hk).chg hc (e := 22) (fun c _ hcb => by rw [hcb]; exact hgt) (by decide)
 have X2 := X1.setU hrv hB1 (fun j hj _ b hb => by
  show (if j = s then A else U j).ownBlock ≠ some b
  split
  ·exact (fB j hj b hb).2
  ·exact (fB j hj b hb).1) eB1 (i := t)
 have hgw : gW ≠ g := H.blk.tyb.ne hgt (by decide)
 have K1 := H.blk.chg hc hgw
 have K2 := K1.chg (Chg.setCell _ ⟨g, t, none⟩ B) hgw
 exact ⟨_, _, K2, H.gw, X2.congr (fun a _ => by simp) (fun _ _ => rfl) (fun _ _ _ _ => rfl) fun a k ha hk => by
  have hk' : k < M := by simpa using hk
  rw [hW a k ha hk']
  show (if a = t then PB k else if a = s then PA k else W a k) = (if a = t then PB else if a = s then PA else W a) k
  by_cases h1 : a = t
  ·rw [if_pos h1, if_pos h1]
  ·rw [if_neg h1, if_neg h1]
   by_cases h2 : a = s
   ·rw [if_pos h2, if_pos h2]
   ·rw [if_neg h2, if_neg h2]⟩
theorem mix2_dlt {p : Nat} {W : Nat → Nat → Pol (Zp p)} {s t n M L : Nat} {a b c d : Pol (Zp p)} (hs : s < n) (ht : t < n) (hb : ∀ r k, r < n → k < M → (W r k).dlt L) (ha : a.dlt L) (hbb : b.dlt L) (hc : c.dlt L) (hd : d.dlt L) : ∀ r k, r < n → k < M → (mix2 W s t a b c d r k).dlt (2 * L) := fun r k hr hk => by
 have e : ∀ {x y : Pol (Zp p)}, x.dlt L → y.dlt L → (x * y).dlt (2 * L) := fun hx hy => dlt_mono (mul_dlt hx hy) (by omega)
 unfold mix2
 split
 ·exact dlt_add (e ha (hb s k hs hk)) (e hbb (hb t k ht hk))
 ·split
  ·exact dlt_add (e hc (hb s k hs hk)) (e hd (hb t k ht hk))
  ·exact dlt_mono (hb r k hr hk) (by omega)
set_option maxRecDepth 20000 in
theorem xf_join (p : Nat) (w : World) (base gW : Nat) (rv : Value) (top n M : Nat) (U : Nat → Value) (E : Nat → Nat → Value) (W : Nat → Nat → Pol (Zp p)) (i col L : Nat) (hp : FP p) (ht : Trial p) (h : Hst p w base gW rv top n M U E W) (hti : top < i) (hin : i < n) (hcol : col < M) (hL : L ≤ 200000000000) (hM : M ≤ 1000) (hbase : base ≤ w.heap.size)
  (hb : ∀ r k, r < n → k < M → (W r k).dlt L) :
  Calls Try.prog 162 #[.pointer (some ⟨gW, 0, none⟩), .int .i64 i, .int .i64 col] w (RetHs p w base gW rv n M fun top' W' => top' = top ∧ JoinR n M col top i L W W') := by
 have hM0 : 0 < M := by omega
 have htn : top < n := by omega
 have hk : gW < w.heap.size := h.blk.lt
 have KW := h.blk
 have XR := h.rows
 have hgw := h.gw
 obtain ⟨g, cap, rfl, hg1, hg2, hnc, hgt, hcells, hfree⟩ := XR.hdr hin
 obtain ⟨bT, cT, eT, hT1, hT2, hT3, -, hTc, -⟩ := XR.at (i := top) (by omega) hM0
 obtain ⟨bI, cI, eI, hI1, hI2, hI3, -, hIc, -⟩ := XR.at hin hM0
 have qT := hcells top (by omega); have qI := hcells i hin
 rw [eT] at qT; rw [eI] at qI
 obtain ⟨aP, nP, cP, zP, eP, lP, oP, mP, vP⟩ := (XR.el top col (by omega) hcol).open
 obtain ⟨aQ, nQ, cQ, zQ, eQ, lQ, oQ, mQ, vQ⟩ := (XR.el i col hin hcol).open
 have kP := hTc col hcol; have kQ := hIc col hcol
 rw [eP] at kP; rw [eQ] at kQ
 have hzP : zP.length ≤ L := nrm_len hp.pos mP (by rw [vP]; exact hb top col (by omega) hcol)
 have hzQ : zQ.length ≤ L := nrm_len hp.pos mQ (by rw [vQ]; exact hb i col hin hcol)
 have rT := XR.rowP hp.pos (i := top) (by omega) hM0 (fun k hk => hb top k (by omega) hk)
 have rI := XR.rowP hp.pos hin hM0 (fun k hk => hb i k hin hk)
 rw [eT] at rT; rw [eI] at rI
 have VP := Lib.hid vP; have VQ := Lib.hid vQ; have HB := Lib.hid hb; have HP := Lib.hid hp; have HTR := Lib.hid ht
 have LP := Lib.hid lP; have LQ := Lib.hid lQ
 have ET := Lib.hid eT; have EI := Lib.hid eI
 have HF := Lib.hid hfree
 have tP := oP.sl; have tQ := oQ.sl
 have HMP := Lib.hid mP; have HMQ := Lib.hid mQ
 have h0 := h
 clear h hgt hcells hfree hTc hIc eP eQ vP vQ hb hp ht oP oQ lP lQ eT eI mP mQ XR
 have hnn : nP = zP.length := LP.out.symm
 have hnq : nQ = zQ.length := LQ.out.symm
 subst hnn hnq
 go_enter Try.func162, Try.ntmps162
 go_upto_region 0 with (fail)
 have bd := dw w
 replace KW := KW.next bd
 have qT' : w.drew.cell? ⟨g, top, none⟩ = some (.slice (some ⟨bT, 0, none⟩) M cT) := qT
 have qI' : w.drew.cell? ⟨g, i, none⟩ = some (.slice (some ⟨bI, 0, none⟩) M cI) := qI
 have hgl : g < w.drew.heap.size := hg2
 clear bd
 refine startL (S := (fun w' => Below (w.drew).heap.size (w.drew) w')) (by kernel_rfl) (Below.refl _ _) (fun hHeld => ?_)
 refine tk 0 ?_
 refine tk 1 ?_
 refine tk 2 ?_
 refine tg 3 rfl (fun w hS => by have fa := KW.at hS; have f1 := fa 1; have f2 := fa 2; clear fa; have f3 := (hS.cell (p := ⟨g, top, none⟩) hgl).trans qT'; have f4 := (hS.cell (p := ⟨g, i, none⟩) hgl).trans qI'; go_simp <;> with_reducible rfl) ?_
 refine tk 4 ?_
 refine tk 5 ?_
 refine tk 6 ?_
 refine tg 7 rfl (fun w hS => by have fa := KW.at hS; have f1 := fa 1; have f2 := fa 2; clear fa; have f3 := (hS.cell (p := ⟨g, top, none⟩) hgl).trans qT'; have f4 := (hS.cell (p := ⟨g, i, none⟩) hgl).trans qI'; go_simp <;> with_reducible rfl) ?_
 refine tk 8 ?_
 refine tg 9 rfl (fun w hS => by have fa := KW.at hS; have f1 := fa 1; have f2 := fa 2; clear fa; have f3 := (hS.cell (p := ⟨g, top, none⟩) hgl).trans qT'; have f4 := (hS.cell (p := ⟨g, i, none⟩) hgl).trans qI'; go_simp <;> with_reducible rfl) ?_
 refine tk 10 ?_
 refine tk 11 ?_
 refine tk 12 ?_
 refine tg 13 rfl (fun w hS => by have fa := KW.at hS; have f1 := fa 1; have f2 := fa 2; clear fa; have f3 := (hS.cell (p := ⟨g, top, none⟩) hgl).trans qT'; have f4 := (hS.cell (p := ⟨g, i, none⟩) hgl).trans qI'; go_simp <;> with_reducible rfl) ?_
 refine tk 14 ?_
 refine tk 15 ?_
 refine tg 16 rfl (fun w hS => by have fa := KW.at hS; have f1 := fa 1; have f2 := fa 2; clear fa; have f3 := (hS.cell (p := ⟨g, top, none⟩) hgl).trans qT'; have f4 := (hS.cell (p := ⟨g, i, none⟩) hgl).trans qI'; go_simp <;> with_reducible rfl) ?_
 refine tk 17 ?_
 refine tk 18 ?_
 refine doneL (by kernel_rfl) ?_ _
 clear hHeld qT' qI' hgl KW
 have B1 : Below w.heap.size w w.drew := dw w
 have HW := Lib.hid h0
 obtain ⟨w1, ew1⟩ : ∃ w1, w1 = w.drew := ⟨_, rfl⟩
 rw [← ew1] at B1 ⊢
 clear ew1
 have kQ1 := (B1.cell (p := ⟨bI, col, none⟩) hI2).trans kQ
 obtain ⟨m, em⟩ : ∃ m, m = zQ.length := ⟨_, rfl⟩
 have EM := Lib.hid em
 rw [← em] at kQ1 hzQ
 by_cases hz : m = 0
 ·have hW0 : W i col = 0 := by
   rw [← VQ.out, List.length_eq_zero_iff.1 (show zQ.length = 0 by omega), pl_nil]
  have FIN := Lib.hid (show RetHs p w base gW (.slice (some ⟨g, 0, none⟩) n cap) n M (fun top' W' => top' = top ∧ JoinR n M col top i L W W') (.returned (.tuple #[])) w1 from ⟨rfl, top, U, E, W, h0.next B1, ⟨rfl, .inl ⟨rfl, hW0⟩⟩, B1.mono hbase⟩)
  have hz1 : ((m : Int) == 0) = true := by simp [hz]
  clear em B1 hz rT rI tP tQ kP kQ
  go_wp2
  go_end0
  exact FIN.out
 ·have hz1 : ((m : Int) == 0) = false := by simp [hz]
  have hQ0 : W i col ≠ 0 := by
   intro e
   rw [← VQ.out] at e
   have := pl_inj HP.out.pos HMQ.out (nrm_nil p) (e.trans (pl_nil p).symm)
   rw [this] at em; simp at em; omega
  have HQ0 := Lib.hid hQ0
  have HL1 := Lib.hid (show 1 ≤ L by omega)
  clear em hz hQ0
  go_upto_region 2 with (fail)
  clear kQ1
  have bd := dw w1
  have B2 := B1.trans (bd.mono B1.size)
  clear bd B1
  have KW := (h0.next B2).blk
  have kP2 := (B2.cell (p := ⟨bT, col, none⟩) hT2).trans kP
  have kQ2 := (B2.cell (p := ⟨bI, col, none⟩) hI2).trans kQ
  rw [← EM.out] at kQ2
  have u1 : bT < w1.drew.heap.size := by have := B2.size; omega
  have u2 : bI < w1.drew.heap.size := by have := B2.size; omega
  have z0 := Lib.hid fun (w : World) (hS : Below (w1.drew).heap.size (w1.drew) w) => And.intro ((KW.at hS) 0) (And.intro ((hS.cell (p := ⟨bT, col, none⟩) u1).trans kP2) ((hS.cell (p := ⟨bI, col, none⟩) u2).trans kQ2))
  refine startL (S := (fun w' => Below (w1.drew).heap.size (w1.drew) w')) (by kernel_rfl) (Below.refl _ _) (fun hHeld => ?_)
  refine tk 0 ?_
  refine tk 1 ?_
  refine tk 2 ?_
  refine tf 3 z0.out ?_
  refine tk 4 ?_
  refine tk 5 ?_
  refine tk 6 ?_
  refine tf 7 z0.out ?_
  refine tk 8 ?_
  refine tk 9 ?_
  refine tk 10 ?_
  refine tf 11 z0.out ?_
  refine on 12 fun K hK => ?_
  go_simp
  go_at_call 179
  (with_reducible refine (fp_Xgcd p _ _ zP zQ _ HP.out HTR.out (tP.next (B2.trans (hHeld.mono B2.size))) (by rw [EM.out]; exact tQ.next (B2.trans (hHeld.mono B2.size))) (by omega) (by rw [← EM.out]; omega)).mono ?_); rintro e w2 ⟨rg, rs, rt, zg, zs, zt, rfl, sg, ss, st, ng, ns, nt, hgcd, hbez, hnil, hfac, lg, ls, lt, b2⟩
  have HX1 := Lib.hid (show pl p zg = pl p zs * pl p zP + pl p zt * pl p zQ ∧ zs.length ≤ L ∧ zt.length ≤ L ∧ pl p zg ≠ 0 ∧ ∃ v, pl p zQ = v * pl p zg ∧ Dl (pl p zs) v by
   have hQn : nl p zQ ≠ [] := fun e => HQ0.out (by rw [← VQ.out]; exact (nl_nil HP.out.pos).1 e)
   obtain ⟨zp, np, ep, lp⟩ := hfac hQn
   have hQ1 : pl p zQ ≠ 0 := by rw [VQ.out]; exact HQ0.out
   obtain ⟨h1, h2⟩ := xg_vals HP.out.pos HTR.out hbez ep hQ1 (by rw [VP.out]; exact HB.out top col (by omega) hcol) (by rw [VQ.out]; exact HB.out i col hin hcol) (pl_dlt p zs) np rfl lp HL1.out
   refine ⟨hbez, by omega, nrm_len HP.out.pos nt h1, fun e => hQ1 (by rw [ep, e, CR.mul_zero]), pl p zp, ep, zp.length - 1, dlt_mono (pl_dlt p zs) (by omega), by rw [show zp.length - 1 + 1 = zp.length by omega]; exact nrm_ln HP.out.pos np⟩)
  have HDV := Lib.hid (show Dv (pl p zg) (pl p zP) ∧ Dv (pl p zg) (pl p zQ) from ⟨hgcd.2.1, hgcd.2.2.1⟩)
  have HNG := Lib.hid ng; have HNS := Lib.hid ns; have HNT := Lib.hid nt
  clear hbez hfac ng ns nt
  refine hK.out _ _ (hHeld.trans (b2.mono hHeld.size)) (fun hHeld => ?_)
  clear hK K
  try simp only [Act.put, zq1, zq2, zq3]
  refine tk 13 ?_
  refine tk 14 ?_
  refine tk 15 ?_
  refine tk 16 ?_
  refine tk 17 ?_
  refine tk 18 ?_
  refine tk 19 ?_
  clear z0; refine doneL (by kernel_rfl) ?_ _
  replace B2 := B2.trans (hHeld.mono B2.size)
  clear hHeld KW kP2 kQ2 u1 u2 b2 hgcd hnil
  have hg0 : pl p zg ≠ 0 := HX1.out.2.2.2.1
  have hgn : nl p zg ≠ [] := fun e => hg0 ((nl_nil HP.out.pos).1 e)
  have HGN := Lib.hid hgn
  clear hg0 hgn
  go_upto_region 3 with (fail)
  have bd := dw w2
  have B3 := B2.trans (bd.mono B2.size)
  replace sg := sg.next bd; replace ss := ss.next bd; replace st := st.next bd
  clear bd B2
  have KW := (h0.next B3).blk
  have kP2 := (B3.cell (p := ⟨bT, col, none⟩) hT2).trans kP
  have u1 : bT < w2.drew.heap.size := by have := B3.size; omega
  have z0 := Lib.hid fun (w : World) (hS : Below (w2.drew).heap.size (w2.drew) w) => And.intro ((KW.at hS) 0) ((hS.cell (p := ⟨bT, col, none⟩) u1).trans kP2)
  refine startL (S := (fun w' => Below (w2.drew).heap.size (w2.drew) w')) (by kernel_rfl) (Below.refl _ _) (fun hHeld => ?_)
  refine tk 0 ?_
  refine tk 1 ?_
  refine tk 2 ?_
  refine tf 3 z0.out ?_
  refine tk 4 ?_
  refine tk 5 ?_
  refine tk 6 ?_
  refine tf 7 z0.out ?_
  refine tk 8 ?_
  refine on 9 fun K hK => ?_
  go_simp
  go_at_call 88
  (with_reducible refine (fp_DivMod p _ rg zP zg _ HP.out HTR.out (tP.next (B3.trans (hHeld.mono B3.size))) (sg.next hHeld) (by omega) (by omega) HGN.out).mono ?_); rintro e w3 ⟨rq3, rr3, zy3, zr3, rfl, o3, p3, m3, n3, v3, d3, l3, k3, b3⟩
  have HX3 := Lib.hid (show pl p zP = pl p zy3 * pl p zg from exact_q HP.out.pos HTR.out HDV.out.1 rfl v3 rfl d3)
  have s3 := o3.sl
  have hl3 : zy3.length ≤ L := by omega
  clear o3 p3 m3 n3 v3 d3 l3 k3
  refine hK.out _ _ (hHeld.trans (b3.mono hHeld.size)) (fun hHeld => ?_)
  clear hK K
  try simp only [Act.put, zq1, zq2, zq3]
  refine tk 10 ?_
  refine tk 11 ?_
  refine tk 12 ?_
  refine tk 13 ?_
  refine tk 14 ?_
  refine tk 15 ?_
  refine tk 16 ?_
  clear z0; refine doneL (by kernel_rfl) ?_ _
  replace B3 := B3.trans (hHeld.mono B3.size)
  replace sg := sg.next hHeld; replace ss := ss.next hHeld; replace st := st.next hHeld
  clear hHeld KW kP2 u1 b3
  go_upto_region 4 with (fail)
  have bd := dw w3
  have B4 := B3.trans (bd.mono B3.size)
  replace sg := sg.next bd; replace ss := ss.next bd; replace st := st.next bd; replace s3 := s3.next bd
  clear bd B3
  have KW := (h0.next B4).blk
  have kQ2 := (B4.cell (p := ⟨bI, col, none⟩) hI2).trans kQ
  rw [← EM.out] at kQ2
  have u2 : bI < w3.drew.heap.size := by have := B4.size; omega
  have z0 := Lib.hid fun (w : World) (hS : Below (w3.drew).heap.size (w3.drew) w) => And.intro ((KW.at hS) 0) ((hS.cell (p := ⟨bI, col, none⟩) u2).trans kQ2)
  refine startL (S := (fun w' => Below (w3.drew).heap.size (w3.drew) w')) (by kernel_rfl) (Below.refl _ _) (fun hHeld => ?_)
  refine tk 0 ?_
  refine tk 1 ?_
  refine tk 2 ?_
  refine tf 3 z0.out ?_
  refine tk 4 ?_
  refine tk 5 ?_
  refine tk 6 ?_
  refine tf 7 z0.out ?_
  refine tk 8 ?_
  refine on 9 fun K hK => ?_
  go_simp
  go_at_call 88
  (with_reducible refine (fp_DivMod p _ rg zQ zg _ HP.out HTR.out (by rw [EM.out]; exact tQ.next (B4.trans (hHeld.mono B4.size))) (sg.next hHeld) (by rw [← EM.out]; omega) (by omega) HGN.out).mono ?_); rintro e w4 ⟨rq4, rr4, zy4, zr4, rfl, o4, p4, m4, n4, v4, d4, l4, k4, b4⟩
  have HX2 := Lib.hid (show pl p zg = pl p zs * pl p zP + pl p zt * pl p zQ ∧ pl p zP = pl p zy3 * pl p zg ∧ pl p zQ = pl p zy4 * pl p zg from ⟨HX1.out.1, HX3.out, exact_q HP.out.pos HTR.out HDV.out.2 rfl v4 rfl d4⟩)
  have s4 := o4.sl
  have hl4 : zy4.length ≤ L := by rw [← EM.out] at l4; omega
  clear o4 p4 m4 n4 v4 d4 l4 k4
  refine hK.out _ _ (hHeld.trans (b4.mono hHeld.size)) (fun hHeld => ?_)
  clear hK K
  try simp only [Act.put, zq1, zq2, zq3]
  refine tk 10 ?_
  refine tk 11 ?_
  refine tk 12 ?_
  refine tk 13 ?_
  refine tk 14 ?_
  refine tk 15 ?_
  refine tk 16 ?_
  clear z0; refine doneL (by kernel_rfl) ?_ _
  replace B4 := B4.trans (hHeld.mono B4.size)
  replace ss := ss.next hHeld; replace st := st.next hHeld; replace s3 := s3.next hHeld
  clear hHeld KW kQ2 u2 b4 sg
  obtain ⟨hg1', hu1, hv1⟩ := HX2.out
  obtain ⟨hdet, hzero, hgn0⟩ := gcd_mix HTR.out HX1.out.1 hu1 hv1 (by rw [VQ.out]; exact HQ0.out)
  have HDL := Lib.hid (show Dl (pl p zs) (-pl p zy4) from by
   obtain ⟨v, hv', hD'⟩ := HX1.out.2.2.2.2
   have ev : v = pl p zy4 := mul_cancel HTR.out HX1.out.2.2.2.1 (by rw [CR.mul_comm, ← hv', hv1, CR.mul_comm])
   rw [← ev]; exact dl_neg hD')
  have HDET := Lib.hid hdet; have HZERO := Lib.hid hzero; have HGN0 := Lib.hid hgn0
  have hls : zs.length ≤ L := by have := HX1.out.2.1; omega
  have hlt' : zt.length ≤ L := HX1.out.2.2.1
  clear hg1' hu1 hv1 hdet hzero hgn0
  go_upto_region 5 with (fail)
  have bd := dw w4
  have B5 := B4.trans (bd.mono B4.size)
  replace ss := ss.next bd; replace st := st.next bd; replace s3 := s3.next bd; replace s4 := s4.next bd
  clear bd B4
  have H5 := h0.next B5
  have KW := H5.blk
  have rT5 := rT.next B5; have rI5 := rI.next B5
  refine startD (S := (fun w' => Below (w4.drew).heap.size (w4.drew) w')) 28 (by kernel_rfl) (Below.refl _ _) (fun hHeld => ?_)
  refine takeDA 0 (v := ?_) rfl (by kernel_rfl) (by kernel_rfl) (by kernel_rfl) (fun _ _ _ h => h) (by decide) ⟨by rfl, ?_⟩ (by assumption) ?_
  rotate_left
  ·intro w; go_simp <;> with_reducible rfl
  simp only [Act.put, zq1, zq2, zq3]
  refine takeDA 1 (v := ?_) rfl (by kernel_rfl) (by kernel_rfl) (by kernel_rfl) (fun _ _ _ h => h) (by decide) ⟨by rfl, ?_⟩ (by assumption) ?_
  rotate_left
  ·intro w; go_simp <;> with_reducible rfl
  simp only [Act.put, zq1, zq2, zq3]
  refine takeDA 2 (v := ?_) rfl (by kernel_rfl) (by kernel_rfl) (by kernel_rfl) (fun _ _ _ h => h) (by decide) ⟨by rfl, ?_⟩ (by assumption) ?_
  rotate_left
  ·intro w; go_simp <;> with_reducible rfl
  simp only [Act.put, zq1, zq2, zq3]
  refine takeD0 3 (v := ?_) rfl (by kernel_rfl) (by kernel_rfl) (by kernel_rfl) (fun _ _ _ h => h) (by decide) (by kernel_rfl) (by kernel_rfl) ⟨by rfl, ?_⟩ (by assumption) ?_
  rotate_left
  ·intro w hS; have fa := KW.at hS; have f1 := fa 1; have f2 := fa 2; clear fa; go_simp <;> with_reducible rfl
  simp only [Act.put, zq1, zq2, zq3]
  refine takeDA 4 (v := ?_) rfl (by kernel_rfl) (by kernel_rfl) (by kernel_rfl) (fun _ _ _ h => h) (by decide) ⟨by rfl, ?_⟩ (by assumption) ?_
  rotate_left
  ·intro w; go_simp <;> with_reducible rfl
  simp only [Act.put, zq1, zq2, zq3]
  refine takeDA 5 (v := ?_) rfl (by kernel_rfl) (by kernel_rfl) (by kernel_rfl) (fun _ _ _ h => h) (by decide) ⟨by rfl, ?_⟩ (by assumption) ?_
  rotate_left
  ·intro w; go_simp <;> with_reducible rfl
  simp only [Act.put, zq1, zq2, zq3]
  refine takeDA 6 (v := ?_) rfl (by kernel_rfl) (by kernel_rfl) (by kernel_rfl) (fun _ _ _ h => h) (by decide) ⟨by rfl, ?_⟩ (by assumption) ?_
  rotate_left
  ·intro w; go_simp <;> with_reducible rfl
  simp only [Act.put, zq1, zq2, zq3]
  refine takeD0 7 (v := ?_) rfl (by kernel_rfl) (by kernel_rfl) (by kernel_rfl) (fun _ _ _ h => h) (by decide) (by kernel_rfl) (by kernel_rfl) ⟨by rfl, ?_⟩ (by assumption) ?_
  rotate_left
  ·intro w hS; have fa := KW.at hS; have f1 := fa 1; have f2 := fa 2; clear fa; go_simp <;> with_reducible rfl
  simp only [Act.put, zq1, zq2, zq3]
  refine takeDA 8 (v := ?_) rfl (by kernel_rfl) (by kernel_rfl) (by kernel_rfl) (fun _ _ _ h => h) (by decide) ⟨by rfl, ?_⟩ (by assumption) ?_
  rotate_left
  ·intro w; go_simp <;> with_reducible rfl
  simp only [Act.put, zq1, zq2, zq3]
  refine takeDA 9 (v := ?_) rfl (by kernel_rfl) (by kernel_rfl) (by kernel_rfl) (fun _ _ _ h => h) (by decide) ⟨by rfl, ?_⟩ (by assumption) ?_
  rotate_left
  ·intro w; go_simp <;> with_reducible rfl
  simp only [Act.put, zq1, zq2, zq3]
  refine takeDA 10 (v := ?_) rfl (by kernel_rfl) (by kernel_rfl) (by kernel_rfl) (fun _ _ _ h => h) (by decide) ⟨by rfl, ?_⟩ (by assumption) ?_
  rotate_left
  ·intro w; go_simp <;> with_reducible rfl
  simp only [Act.put, zq1, zq2, zq3]
  refine takeD0 11 (v := ?_) rfl (by kernel_rfl) (by kernel_rfl) (by kernel_rfl) (fun _ _ _ h => h) (by decide) (by kernel_rfl) (by kernel_rfl) ⟨by rfl, ?_⟩ (by assumption) ?_
  rotate_left
  ·intro w hS; have fa := KW.at hS; have f1 := fa 1; have f2 := fa 2; clear fa; go_simp <;> with_reducible rfl
  simp only [Act.put, zq1, zq2, zq3]
  refine takeDA 12 (v := ?_) rfl (by kernel_rfl) (by kernel_rfl) (by kernel_rfl) (fun _ _ _ h => h) (by decide) ⟨by rfl, ?_⟩ (by assumption) ?_
  rotate_left
  ·intro w; go_simp <;> with_reducible rfl
  simp only [Act.put, zq1, zq2, zq3]
  refine takeDA 13 (v := ?_) rfl (by kernel_rfl) (by kernel_rfl) (by kernel_rfl) (fun _ _ _ h => h) (by decide) ⟨by rfl, ?_⟩ (by assumption) ?_
  rotate_left
  ·intro w; go_simp <;> with_reducible rfl
  simp only [Act.put, zq1, zq2, zq3]
  refine takeDA 14 (v := ?_) rfl (by kernel_rfl) (by kernel_rfl) (by kernel_rfl) (fun _ _ _ h => h) (by decide) ⟨by rfl, ?_⟩ (by assumption) ?_
  rotate_left
  ·intro w; go_simp <;> with_reducible rfl
  simp only [Act.put, zq1, zq2, zq3]
  refine takeDA 15 (v := ?_) rfl (by kernel_rfl) (by kernel_rfl) (by kernel_rfl) (fun _ _ _ h => h) (by decide) ⟨by rfl, ?_⟩ (by assumption) ?_
  rotate_left
  ·intro w; go_simp <;> with_reducible rfl
  simp only [Act.put, zq1, zq2, zq3]
  refine takeDA 16 (v := ?_) rfl (by kernel_rfl) (by kernel_rfl) (by kernel_rfl) (fun _ _ _ h => h) (by decide) ⟨by rfl, ?_⟩ (by assumption) ?_
  rotate_left
  ·intro w; go_simp <;> with_reducible rfl
  simp only [Act.put, zq1, zq2, zq3]
  refine takeDA 17 (v := ?_) rfl (by kernel_rfl) (by kernel_rfl) (by kernel_rfl) (fun _ _ _ h => h) (by decide) ⟨by rfl, ?_⟩ (by assumption) ?_
  rotate_left
  ·intro w; go_simp <;> with_reducible rfl
  simp only [Act.put, zq1, zq2, zq3]
  refine takeDA 19 (v := ?_) rfl (by kernel_rfl) (by kernel_rfl) (by kernel_rfl) (fun _ _ _ h => h) (by decide) ⟨by rfl, ?_⟩ (by assumption) ?_
  rotate_left
  ·intro w; go_simp <;> with_reducible rfl
  simp only [Act.put, zq1, zq2, zq3]
  refine takeDA 20 (v := ?_) rfl (by kernel_rfl) (by kernel_rfl) (by kernel_rfl) (fun _ _ _ h => h) (by decide) ⟨by rfl, ?_⟩ (by assumption) ?_
  rotate_left
  ·intro w; go_simp <;> with_reducible rfl
  simp only [Act.put, zq1, zq2, zq3]
  refine takeDA 21 (v := ?_) rfl (by kernel_rfl) (by kernel_rfl) (by kernel_rfl) (fun _ _ _ h => h) (by decide) ⟨by rfl, ?_⟩ (by assumption) ?_
  rotate_left
  ·intro w; go_simp <;> with_reducible rfl
  simp only [Act.put, zq1, zq2, zq3]
  refine takeDA 23 (v := ?_) rfl (by kernel_rfl) (by kernel_rfl) (by kernel_rfl) (fun _ _ _ h => h) (by decide) ⟨by rfl, ?_⟩ (by assumption) ?_
  rotate_left
  ·intro w; go_simp <;> with_reducible rfl
  simp only [Act.put, zq1, zq2, zq3]
  refine takeDA 24 (v := ?_) rfl (by kernel_rfl) (by kernel_rfl) (by kernel_rfl) (fun _ _ _ h => h) (by decide) ⟨by rfl, ?_⟩ (by assumption) ?_
  rotate_left
  ·intro w; go_simp <;> with_reducible rfl
  simp only [Act.put, zq1, zq2, zq3]
  refine takeDA 25 (v := ?_) rfl (by kernel_rfl) (by kernel_rfl) (by kernel_rfl) (fun _ _ _ h => h) (by decide) ⟨by rfl, ?_⟩ (by assumption) ?_
  rotate_left
  ·intro w; go_simp <;> with_reducible rfl
  simp only [Act.put, zq1, zq2, zq3]
  refine oneD 18 rfl (by kernel_rfl) (by rfl) (fun K hK => ?_)
  go_simp
  go_at_call 163
  (with_reducible refine (xf_mixed p gW L M _ _ rs _ rt _ zs zt (W top) (W i) _ HP.out ((H5.next hHeld).blk) (ss.next hHeld) (st.next hHeld) (rT5.next hHeld) (rI5.next hHeld) hls hlt' (by omega) hM hM0).mono ?_); rintro e w6 ⟨gA, FA, rfl, oA, eA, b6⟩
  have hA6 := hHeld.size
  refine hK.out _ _ (hHeld.trans (b6.mono hHeld.size)) (fun hHeld => ?_)
  clear hK K
  try simp only [Act.put, zq1, zq2, zq3]
  refine oneD 22 rfl (by kernel_rfl) (by rfl) (fun K hK => ?_)
  go_simp
  go_at_call 164
  (with_reducible refine (xf_minus p gW _ _ rq4 zy4 _ HP.out ((H5.next hHeld).blk) (s4.next hHeld) (by omega)).mono ?_); rintro e w7 ⟨r7, z7, rfl, o7, n7, v7, l7, b7⟩
  have s7 := o7.sl; clear o7 n7; have V7 := Lib.hid v7; clear v7
  refine hK.out _ _ (hHeld.trans (b7.mono hHeld.size)) (fun hHeld => ?_)
  clear hK K
  try simp only [Act.put, zq1, zq2, zq3]
  refine oneD 26 rfl (by kernel_rfl) (by rfl) (fun K hK => ?_)
  go_simp
  go_at_call 163
  (with_reducible refine (xf_mixed p gW L M _ _ r7 _ rq3 _ z7 zy3 (W top) (W i) _ HP.out ((H5.next hHeld).blk) s7 (s3.next hHeld) (rT5.next hHeld) (rI5.next hHeld) (by omega) hl3 (by omega) hM hM0).mono ?_); rintro e w8 ⟨gB, FB, rfl, oB, eB, b8⟩
  refine hK.out _ _ (hHeld.trans (b8.mono hHeld.size)) (fun hHeld => ?_)
  clear hK K
  try simp only [Act.put, zq1, zq2, zq3]
  refine takeDA 27 (v := ?_) rfl (by kernel_rfl) (by kernel_rfl) (by kernel_rfl) (fun _ _ _ h => h) (by decide) ⟨by rfl, ?_⟩ (by assumption) ?_
  rotate_left
  ·intro w; go_simp <;> with_reducible rfl
  simp only [Act.put, zq1, zq2, zq3]
  have B8 := B5.trans (hHeld.mono B5.size)
  have H8 := h0.next B8
  have c9 := (B8.cell (p := ⟨g, top, none⟩) hg2).trans qT
  have c10 := (B8.cell (p := ⟨g, i, none⟩) hg2).trans qI
  have fz1 := World.ownsRow.frozenAt H8.rows.own top
  have fz2 := World.ownsRow.frozenAt H8.rows.own i
  obtain ⟨zz, qz⟩ := cell_set_some (p := ⟨g, top, none⟩) (x := .slice (some ⟨gA, 0, none⟩) M M) c10
  refine oneM rfl (by kernel_rfl) (of_decide_eq_true (by kernel_rfl)) (by rfl) (fun K hK => ?_)
  go_simp
  refine hK.out _ _ ?_
  clear hK K
  try simp only [Act.put, zq1, zq2, zq3]
  clear fz1
  refine takeL 29 (v := ?_) rfl (by kernel_rfl) (by kernel_rfl) (by kernel_rfl) (fun _ _ _ h => h) ⟨by rfl, ?_⟩ trivial ?_
  rotate_left
  ·intro w _; go_simp <;> with_reducible rfl
  simp only [Act.put, zq1, zq2, zq3]
  refine on 30 fun K hK => ?_
  go_simp
  refine hK.out _ _ trivial (fun _ => ?_)
  clear hK K
  try simp only [Act.put, zq1, zq2, zq3]
  refine doneL (by kernel_rfl) ?_ _
  have hw5 : w.heap.size ≤ w4.drew.heap.size := B5.size
  have FIN := Lib.hid (show RetHs p w base gW (.slice (some ⟨g, 0, none⟩) n cap) n M (fun top' W' => top' = top ∧ JoinR n M col top i L W W') (.returned (.tuple #[])) ((w8.setCell ⟨g, top, none⟩ (.slice (some ⟨gA, 0, none⟩) M M)).setCell ⟨g, i, none⟩ (.slice (some ⟨gB, 0, none⟩) M M)) by
   have hfr : ∀ j, j < n → ∀ b, (U j).ownBlock = some b → b < w.heap.size := fun j hj b hb => (rowOwn_tyb (h0.rows.row j hj) hb).2.2
   have gA0 : w.heap.size ≤ gA := Nat.le_trans hw5 (rowOwn_tyb (b := gA) oA rfl).2.1
   have gB0 : gA < gB := by
    have h1 := (rowOwn_tyb (b := gB) oB rfl).2.1; have h2 := (rowOwn_tyb (b := gA) oA rfl).2.2; have h3 := b7.size; omega
   have hw7 : base ≤ w7.heap.size := by have h2 := (rowOwn_tyb (b := gA) oA rfl).2.2; have h3 := b7.size; omega
   obtain ⟨U', E', HS⟩ := H8.put2 rfl (rowOwn_mono (rowOwn_next (rowOwn_next oA b7 (Nat.le_refl _)) b8 (Nat.le_refl _)) (by omega)) (fun k hk => (((eA k hk).next b7).next b8).mono (by omega)) (rowOwn_mono oB (by omega)) (fun k hk => (eB k hk).mono (by omega)) (s := top) (t := i)
    (fun j hj b hb hb' => by have := hfr j hj b hb'; simp [Value.ownBlock] at hb; omega)
    (fun j hj b hb => ⟨fun hb' => by have := hfr j hj b hb'; simp [Value.ownBlock] at hb; omega, fun hb' => by simp [Value.ownBlock] at hb hb'; omega⟩)
    (W' := mix2 W top i (pl p zs) (pl p zt) (pl p z7) (pl p zy3)) (fun a k ha hk => by
     unfold mix2
     by_cases h1 : a = i
     ·rw [if_pos h1, if_neg (show ¬ a = top by omega), if_pos h1]
     ·rw [if_neg h1, if_neg h1])
   have dz7 : (pl p z7).dlt L := dlt_mono (pl_dlt p z7) (by omega)
   refine ⟨rfl, top, U', E', _, HS, ⟨rfl, .inr ⟨_, _, _, _, ?_, rfl, ?_, ?_, mix2_dlt (by omega) hin HB.out (dlt_mono (pl_dlt p zs) hls) (dlt_mono (pl_dlt p zt) hlt') dz7 (dlt_mono (pl_dlt p zy3) hl3), by rw [V7.out]; exact HDL.out⟩⟩, ?_⟩
   ·rw [V7.out]; exact HDET.out
   ·rw [mix2_t _ (show top ≠ i by omega), V7.out, ← VP.out, ← VQ.out]; exact HZERO.out
   ·rw [mix2_s, ← VP.out, ← VQ.out, ← HX2.out.1]; exact HGN0.out
   ·exact ((B8.mono hbase).setCell (p := ⟨g, top, none⟩) hg1 _).setCell (p := ⟨g, i, none⟩) hg1 _)
  clear oA eA oB eB H8 B8 B5 H5 KW rT5 rI5 ss st s3 s4 s7
  go_wp2
  go_end0
  exact FIN.out
end Go.Proofs.Ytkmfhabgempjiaa
