/- Plain: Smith's form of matrices of polynomials, place by place: rows and columns mixed by what may be turned back. -/
import Derived.ChangeSame
import Derived.Lib.SmallJoins
import Derived.Test.YtkmfhabgempjiaaQbM7
import Derived.Test.YtkmfhabgempjiaaQbM1
import Derived.Test.YtkmfhabgempjiaaQbM2
import Derived.Test.YtkmfhabgempjiaaQbM4
import Derived.Test.YtkmfhabgempjiaaQbM5
namespace Go.Proofs.Ytkmfhabgempjiaa
open CR

section
variable {R : Type} [CR R] {n m : Nat}
theorem Inv.tr {A : MT R n m} {B : MT R m n} (h : Inv A B) : Inv A.tr B.tr := ⟨by rw [← MT.tr_mul, h.2, MT.tr_one], by rw [← MT.tr_mul, h.1, MT.tr_one]⟩
theorem mixT {s t : Nat} (hst : s ≠ t) (hs : s < n) (ht : t < n) (a b c d : R) (W : Nat → Nat → R) : MT.of n m (mix2 W s t a b c d) = MT.of n n (mixM s t a b c d) * MT.of n m W := MT.ext fun i k hi hk => by
  rw [MT.of_e _ hi hk, MT.e_mul, ← mixM_mul hst hs ht a b c d W hi]
  exact sm_congr fun j hj => by rw [MT.of_e _ hi hj, MT.of_e _ hj hk]
/-- Two rows mixed by numbers that may be turned back. -/
theorem mix_inv {s t : Nat} (hst : s ≠ t) (hs : s < n) (ht : t < n) {a b c d a' b' c' d' : R} (h1 : a * a' + b * c' = 1) (h2 : a * b' + b * d' = 0) (h3 : c * a' + d * c' = 0) (h4 : c * b' + d * d' = 1)
    (k1 : a' * a + b' * c = 1) (k2 : a' * b + b' * d = 0) (k3 : c' * a + d' * c = 0) (k4 : c' * b + d' * d = 1) : Inv (MT.of n n (mixM s t a b c d)) (MT.of n n (mixM s t a' b' c' d')) := by
  have key : ∀ {a b c d a' b' c' d' : R}, a * a' + b * c' = 1 → a * b' + b * d' = 0 → c * a' + d * c' = 0 → c * b' + d * d' = 1 → MT.of n n (mixM s t a b c d) * MT.of n n (mixM s t a' b' c' d') = MT.one n := by
    intro a b c d a' b' c' d' h1 h2 h3 h4
    rw [← mixT hst hs ht]
    refine MT.ext fun i k hi hk => ?_
    rw [MT.of_e _ hi hk, MT.e_one hi hk]
    by_cases e1 : i = s
    · rw [e1, mix2_s, mixM_s, mixM_t hst]
      by_cases e3 : k = s
      · rw [if_pos e3, if_pos e3, if_pos e3.symm]; exact h1
      · have e5 : ¬ s = k := fun e => e3 e.symm
        rw [if_neg e3, if_neg e3, if_neg e5]
        by_cases e4 : k = t
        · rw [if_pos e4, if_pos e4]; exact h2
        · rw [if_neg e4, if_neg e4, mul_zero, mul_zero, add_zero]
    · by_cases e2 : i = t
      · rw [e2, mix2_t _ hst, mixM_s, mixM_t hst]
        by_cases e3 : k = s
        · have e5 : ¬ t = k := fun e => hst (by omega)
          rw [if_pos e3, if_pos e3, if_neg e5]; exact h3
        · rw [if_neg e3, if_neg e3]
          by_cases e4 : k = t
          · rw [if_pos e4, if_pos e4, if_pos e4.symm]; exact h4
          · have e5 : ¬ t = k := fun e => e4 e.symm
            rw [if_neg e4, if_neg e4, if_neg e5, mul_zero, mul_zero, add_zero]
      · rw [mix2_o _ e1 e2, mixM_o e1 e2]
  exact ⟨key h1 h2 h3 h4, key k1 k2 k3 k4⟩
theorem inv_add {s t : Nat} (hst : s ≠ t) (hs : s < n) (ht : t < n) (c : R) : Inv (MT.of n n (mixM s t 1 c 0 1)) (MT.of n n (mixM s t 1 (-c) 0 1)) :=
  mix_inv hst hs ht (by_ring [c] (1 * 1 + X0 * 0) 1 rfl) (by_ring [c] (1 * -X0 + X0 * 1) 0 rfl) (by_ring [c] (0 * 1 + 1 * 0) 0 rfl) (by_ring [c] (0 * -X0 + 1 * 1) 1 rfl)
    (by_ring [c] (1 * 1 + -X0 * 0) 1 rfl) (by_ring [c] (1 * X0 + -X0 * 1) 0 rfl) (by_ring [c] (0 * 1 + 1 * 0) 0 rfl) (by_ring [c] (0 * X0 + 1 * 1) 1 rfl)
theorem inv_swap {s t : Nat} (hst : s ≠ t) (hs : s < n) (ht : t < n) : Inv (MT.of n n (mixM s t (0 : R) 1 1 0)) (MT.of n n (mixM s t (0 : R) 1 1 0)) :=
  mix_inv hst hs ht (by_ring [(0 : R)] (0 * 0 + 1 * 1) 1 rfl) (by_ring [(0 : R)] (0 * 1 + 1 * 0) 0 rfl) (by_ring [(0 : R)] (1 * 0 + 0 * 1) 0 rfl) (by_ring [(0 : R)] (1 * 1 + 0 * 0) 1 rfl)
    (by_ring [(0 : R)] (0 * 0 + 1 * 1) 1 rfl) (by_ring [(0 : R)] (0 * 1 + 1 * 0) 0 rfl) (by_ring [(0 : R)] (1 * 0 + 0 * 1) 0 rfl) (by_ring [(0 : R)] (1 * 1 + 0 * 0) 1 rfl)
/-- One row multiplied. -/
def dgM (t : Nat) (c : R) : Nat → Nat → R := fun i j => if i = j then (if i = t then c else 1) else 0
theorem sclT {t : Nat} (c : R) (W : Nat → Nat → R) : MT.of n m (scl W t c) = MT.of n n (dgM t c) * MT.of n m W := MT.ext fun i k hi hk => by
  rw [MT.of_e _ hi hk, MT.e_mul, sm_one hi fun j hj h => by rw [MT.of_e _ hi hj]; unfold dgM; rw [if_neg (fun e => h e.symm), zero_mul], MT.of_e _ hi hi, MT.of_e _ hi hk]
  unfold scl dgM
  rw [if_pos rfl]
  split
  · rw [mul_comm]
  · rw [one_mul]
theorem inv_scl {t : Nat} {c d : R} (h : c * d = 1) : Inv (MT.of n n (dgM t c)) (MT.of n n (dgM t d)) := by
  have key : ∀ {c d : R}, c * d = 1 → MT.of n n (dgM t c) * MT.of n n (dgM t d) = MT.one n := by
    intro c d h
    rw [← sclT]
    refine MT.ext fun i k hi hk => ?_
    rw [MT.of_e _ hi hk, MT.e_one hi hk]
    unfold scl dgM
    by_cases e1 : i = t
    · rw [if_pos e1]
      by_cases e2 : i = k
      · rw [if_pos e2, if_pos e1, if_pos e2, mul_comm]; exact h
      · rw [if_neg e2, if_neg e2, zero_mul]
    · rw [if_neg e1]
      by_cases e2 : i = k
      · rw [if_pos e2, if_neg e1, if_pos e2]
      · rw [if_neg e2, if_neg e2]
  exact ⟨key h, key (by rw [mul_comm]; exact h)⟩

/-- A matrix made of another one by what may be turned back; U and V tell by what. -/
structure SmR (A : MT R n m) (U W V : Nat → Nat → R) : Prop where
  u : ∃ X, Inv (MT.of n n U) X
  v : ∃ Y, Inv (MT.of m m V) Y
  e : MT.of n m W = MT.of n n U * A * MT.of m m V
theorem SmR.row {A : MT R n m} {U W V U' W' : Nat → Nat → R} (h : SmR A U W V) {T T' : MT R n n} (hT : Inv T T') (eU : MT.of n n U' = T * MT.of n n U) (eW : MT.of n m W' = T * MT.of n m W) : SmR A U' W' V := by
  obtain ⟨X, hX⟩ := h.u
  exact ⟨⟨X * T', by rw [eU]; exact hT.mul hX⟩, h.v, by rw [eW, eU, h.e]; simp only [MT.mul_assoc]⟩
theorem SmR.col {A : MT R n m} {U W V V' W' : Nat → Nat → R} (h : SmR A U W V) {T T' : MT R m m} (hT : Inv T T') (eV : MT.of m m V' = MT.of m m V * T) (eW : MT.of n m W' = MT.of n m W * T) : SmR A U W' V' := by
  obtain ⟨Y, hY⟩ := h.v
  exact ⟨h.u, ⟨T' * Y, by rw [eV]; exact hY.mul hT⟩, by rw [eW, eV, h.e]; simp only [MT.mul_assoc]⟩
/-- A multiple of a row is added to another one; of a column. -/
def adR (W : Nat → Nat → R) (i k : Nat) (c : R) : Nat → Nat → R := fun a b => if a = i then W i b + c * W k b else W a b
def adC (W : Nat → Nat → R) (i k : Nat) (c : R) : Nat → Nat → R := fun a b => if b = i then W a i + c * W a k else W a b
def swR (W : Nat → Nat → R) (i k : Nat) : Nat → Nat → R := fun a b => if a = i then W k b else if a = k then W i b else W a b
def swC (W : Nat → Nat → R) (i k : Nat) : Nat → Nat → R := fun a b => if b = i then W a k else if b = k then W a i else W a b
theorem adR_mix (W : Nat → Nat → R) (i k : Nat) (c : R) : adR W i k c = mix2 W i k 1 c 0 1 := by
  funext a b
  unfold adR mix2
  split
  · rw [one_mul]
  · split
    · rename_i h1 h2; rw [zero_mul, zero_add, one_mul, h2]
    · rfl
theorem swR_mix (W : Nat → Nat → R) (i k : Nat) : swR W i k = mix2 W i k 0 1 1 0 := by
  funext a b
  unfold swR mix2
  split
  · rw [zero_mul, zero_add, one_mul]
  · split
    · rw [zero_mul, add_zero, one_mul]
    · rfl
theorem swR_self {S : Type} (W : Nat → Nat → S) (i : Nat) : swR W i i = W := by
  funext a b; unfold swR; split
  · rename_i h; rw [h]
  · rfl
theorem swC_self {S : Type} (W : Nat → Nat → S) (i : Nat) : swC W i i = W := by
  funext a b; unfold swC; split
  · rename_i h; rw [h]
  · rfl
theorem SmR.adR {A : MT R n m} {U W V : Nat → Nat → R} (h : SmR A U W V) {i k : Nat} (hik : i ≠ k) (hi : i < n) (hk : k < n) (c : R) : SmR A (adR U i k c) (adR W i k c) V :=
  h.row (inv_add hik hi hk c) (by rw [adR_mix, mixT hik hi hk]) (by rw [adR_mix, mixT hik hi hk])
theorem SmR.swR {A : MT R n m} {U W V : Nat → Nat → R} (h : SmR A U W V) {i k : Nat} (hi : i < n) (hk : k < n) : SmR A (swR U i k) (swR W i k) V := by
  by_cases hik : i = k
  · subst hik; rw [swR_self, swR_self]; exact h
  · exact h.row (inv_swap hik hi hk) (by rw [swR_mix, mixT hik hi hk]) (by rw [swR_mix, mixT hik hi hk])
theorem SmR.scl {A : MT R n m} {U W V : Nat → Nat → R} (h : SmR A U W V) {t : Nat} {c d : R} (hc : c * d = 1) : SmR A (scl U t c) (scl W t c) V :=
  h.row (inv_scl hc) (sclT c U) (sclT c W)
theorem of_tr (W : Nat → Nat → R) : (MT.of n m W).tr = MT.of m n fun i k => W k i := MT.ext fun i k hi hk => by rw [MT.e_tr, MT.of_e _ hk hi, MT.of_e _ hi hk]
/-- What is done to the turned matrix's rows is done to columns. -/
theorem colT {W W' : Nat → Nat → R} {T : MT R m m} (h : MT.of m n (fun i k => W' k i) = T * MT.of m n fun i k => W k i) : MT.of n m W' = MT.of n m W * T.tr := by
  have := congrArg MT.tr h
  rw [MT.tr_mul, of_tr, of_tr] at this
  exact this
theorem SmR.adC {A : MT R n m} {U W V : Nat → Nat → R} (h : SmR A U W V) {i k : Nat} (hik : i ≠ k) (hi : i < m) (hk : k < m) (c : R) : SmR A U (adC W i k c) (adC V i k c) := by
  have e : ∀ X : Nat → Nat → R, (fun a b => Go.Proofs.Ytkmfhabgempjiaa.adC X i k c b a) = Go.Proofs.Ytkmfhabgempjiaa.adR (fun a b => X b a) i k c := fun X => rfl
  exact h.col (inv_add hik hi hk c).tr (colT (by rw [e, adR_mix, mixT hik hi hk])) (colT (by rw [e, adR_mix, mixT hik hi hk]))
theorem SmR.swC {A : MT R n m} {U W V : Nat → Nat → R} (h : SmR A U W V) {i k : Nat} (hi : i < m) (hk : k < m) : SmR A U (swC W i k) (swC V i k) := by
  by_cases hik : i = k
  · subst hik; rw [swC_self, swC_self]; exact h
  · have e : ∀ X : Nat → Nat → R, (fun a b => Go.Proofs.Ytkmfhabgempjiaa.swC X i k b a) = Go.Proofs.Ytkmfhabgempjiaa.swR (fun a b => X b a) i k := fun X => rfl
    exact h.col (inv_swap hik hi hk).tr (colT (by rw [e, swR_mix, mixT hik hi hk])) (colT (by rw [e, swR_mix, mixT hik hi hk]))
end

section
variable {p : Nat}
/-- Brought into Smith's form as far as a place. -/
structure SmI (t n m : Nat) (W : Nat → Nat → Pol (Zp p)) : Prop where
  off : ∀ i k, i < n → k < m → i ≠ k → (i < t ∨ k < t) → W i k = 0
  mo : ∀ i, i < t → Mo (W i i)
  dv : ∀ i, i < t → ∀ a b, i ≤ a → a < n → i ≤ b → b < m → Dv (W i i) (W a b)
theorem SmI.start (n m : Nat) (W : Nat → Nat → Pol (Zp p)) : SmI 0 n m W := ⟨fun i k _ _ _ h => by omega, fun i h => by omega, fun i h => by omega⟩
theorem SmI.tr {t n m : Nat} {W : Nat → Nat → Pol (Zp p)} (h : SmI t n m W) : SmI t m n fun i k => W k i :=
  ⟨fun i k hi hk hne h1 => h.off k i hk hi (fun e => hne e.symm) h1.symm, h.mo, fun i hi a b h1 h2 h3 h4 => h.dv i hi b a h3 h4 h1 h2⟩
/-- What is made of the rows below stays so. -/
theorem SmI.rows {t n m : Nat} {W V : Nat → Nat → Pol (Zp p)} (h : SmI t n m W) (C : Nat → Nat → Pol (Zp p)) (h0 : ∀ a b, a < t → a < n → b < m → V a b = W a b) (h1 : ∀ a b, t ≤ a → a < n → b < m → V a b = sm n fun j => if t ≤ j then C a j * W j b else 0) (htn : t ≤ n) (htm : t ≤ m) : SmI t n m V := by
  refine ⟨fun i k hi hk hne hlt => ?_, fun i hi => ?_, fun i hi a b a1 a2 a3 a4 => ?_⟩
  · by_cases hit : i < t
    · rw [h0 i k hit hi hk]; exact h.off i k hi hk hne hlt
    · rw [h1 i k (by omega) hi hk]
      refine sm_zero' fun j hj => ?_
      split
      · rw [h.off j k hj hk (by omega) (by omega), mul_zero]
      · rfl
  · rw [h0 i i hi (by omega) (by omega)]; exact h.mo i hi
  · rw [h0 i i hi (by omega) (by omega)]
    by_cases hat : a < t
    · rw [h0 a b hat a2 a4]; exact h.dv i hi a b a1 a2 a3 a4
    · rw [h1 a b (by omega) a2 a4]
      refine Dv.sm n fun j hj => ?_
      split
      · exact (h.dv i hi j b (by omega) hj a3 a4).mul _
      · exact Dv.zero _
theorem SmI.adR {t n m i k : Nat} {W : Nat → Nat → Pol (Zp p)} (h : SmI t n m W) (hik : i ≠ k) (hi : t ≤ i) (hin : i < n) (hk : t ≤ k) (hkn : k < n) (htm : t ≤ m) (c : Pol (Zp p)) : SmI t n m (adR W i k c) := by
  refine h.rows (mixM i k 1 c 0 1) (fun a b ha _ _ => by unfold Go.Proofs.Ytkmfhabgempjiaa.adR; rw [if_neg (by omega)]) (fun a b ha han hb => ?_) (by omega) htm
  rw [adR_mix, ← mixM_mul hik hin hkn _ _ _ _ W han]
  refine sm_congr fun j hj => ?_
  by_cases hj2 : t ≤ j
  · rw [if_pos hj2]
  · rw [if_neg hj2]
    have : mixM i k 1 c 0 1 a j = 0 := by
      unfold mixM
      split
      · rw [if_neg (by omega), if_neg (by omega)]
      · split
        · rw [if_neg (by omega), if_neg (by omega)]
        · rw [if_neg (by omega)]
    rw [this, zero_mul]
theorem SmI.swR {t n m i k : Nat} {W : Nat → Nat → Pol (Zp p)} (h : SmI t n m W) (hi : t ≤ i) (hin : i < n) (hk : t ≤ k) (hkn : k < n) (htm : t ≤ m) : SmI t n m (swR W i k) := by
  refine h.rows (fun a j => if a = i then (if j = k then 1 else 0) else if a = k then (if j = i then 1 else 0) else if j = a then 1 else 0) (fun a b ha _ _ => by unfold Go.Proofs.Ytkmfhabgempjiaa.swR; rw [if_neg (by omega), if_neg (by omega)]) (fun a b ha han hb => ?_) (by omega) htm
  unfold Go.Proofs.Ytkmfhabgempjiaa.swR
  have one : ∀ q, t ≤ q → q < n → sm n (fun j => if t ≤ j then (if j = q then (1 : Pol (Zp p)) else 0) * W j b else 0) = W q b := fun q h1 h2 => by
    rw [sm_one h2 fun j hj hne => ?_, if_pos h1, if_pos rfl, one_mul]
    split
    · first | rw [zero_mul] | rw [if_neg hne, zero_mul]
    · rfl
  by_cases e1 : a = i
  · simp only [e1, if_true]; exact (one k hk hkn).symm
  · by_cases e2 : a = k
    · have e3 : ¬ k = i := by omega
      simp only [e2, e3, if_true, if_false]; exact (one i hi hin).symm
    · simp only [e1, e2, if_false]; exact (one a ha han).symm
theorem SmI.scl {t n m i : Nat} {W : Nat → Nat → Pol (Zp p)} (h : SmI t n m W) (hi : t ≤ i) (hin : i < n) (htm : t ≤ m) (c : Pol (Zp p)) : SmI t n m (scl W i c) := by
  refine h.rows (fun a j => if j = a then (if a = i then c else 1) else 0) (fun a b ha _ _ => by unfold Go.Proofs.Ytkmfhabgempjiaa.scl; rw [if_neg (by omega)]) (fun a b ha han hb => ?_) (by omega) htm
  rw [sm_one han fun j hj hne => by
    split
    · first | rw [zero_mul] | rw [if_neg hne, zero_mul]
    · rfl, if_pos ha, if_pos rfl]
  unfold Go.Proofs.Ytkmfhabgempjiaa.scl
  split
  · rw [mul_comm]
  · rw [one_mul]
theorem SmI.adC {t n m i k : Nat} {W : Nat → Nat → Pol (Zp p)} (h : SmI t n m W) (hik : i ≠ k) (hi : t ≤ i) (hin : i < m) (hk : t ≤ k) (hkn : k < m) (htn : t ≤ n) (c : Pol (Zp p)) : SmI t n m (adC W i k c) := (h.tr.adR hik hi hin hk hkn htn c).tr
theorem SmI.swC {t n m i k : Nat} {W : Nat → Nat → Pol (Zp p)} (h : SmI t n m W) (hi : t ≤ i) (hin : i < m) (hk : t ≤ k) (hkn : k < m) (htn : t ≤ n) : SmI t n m (swC W i k) := (h.tr.swR hi hin hk hkn htn).tr
/-- A place is done. -/
theorem SmI.next {t n m : Nat} {W : Nat → Nat → Pol (Zp p)} (h : SmI t n m W) (hm : Mo (W t t)) (hr : ∀ i, t < i → i < n → W i t = 0) (hc : ∀ k, t < k → k < m → W t k = 0) (hd : ∀ a b, t < a → a < n → t < b → b < m → Dv (W t t) (W a b)) : SmI (t + 1) n m W := by
  refine ⟨fun i k hi hk hne hlt => ?_, fun i hi => ?_, fun i hi a b a1 a2 a3 a4 => ?_⟩
  · by_cases h1 : i < t ∨ k < t
    · exact h.off i k hi hk hne h1
    · by_cases e : i = t
      · rw [e]; exact hc k (by omega) hk
      · have e2 : k = t := by omega
        rw [e2]; exact hr i (by omega) hi
  · by_cases e : i = t
    · rw [e]; exact hm
    · exact h.mo i (by omega)
  · by_cases e : i = t
    · subst e
      by_cases e1 : a = i
      · by_cases e2 : b = i
        · rw [e1, e2]; exact Dv.refl _
        · rw [e1, hc b (by omega) a4]; exact Dv.zero _
      · by_cases e2 : b = i
        · rw [e2, hr a (by omega) a2]; exact Dv.zero _
        · exact hd a b (by omega) a2 (by omega) a4
    · exact h.dv i (by omega) a b a1 a2 a3 a4
/-- The diagonal. -/
def dgo (t : Nat) (W : Nat → Nat → Pol (Zp p)) : Nat → Pol (Zp p) := fun i => if i < t then W i i else 0
theorem SmI.chain {t n m : Nat} {W : Nat → Nat → Pol (Zp p)} (h : SmI t n m W) (htn : t ≤ n) (htm : t ≤ m) : Chain (dgo t W) := by
  refine ⟨fun i => ?_, fun i j hij => ?_⟩
  · unfold dgo; split
    · exact h.mo i (by assumption)
    · exact Or.inl rfl
  · unfold dgo
    by_cases hj : j < t
    · rw [if_pos hj, if_pos (by omega)]
      exact h.dv i (by omega) j j hij (by omega) hij (by omega)
    · rw [if_neg hj]; exact Dv.zero _
/-- All is done: where nothing is left. -/
theorem SmI.done {t n m : Nat} {W : Nat → Nat → Pol (Zp p)} (h : SmI t n m W) (hz : ∀ i k, t ≤ i → i < n → t ≤ k → k < m → W i k = 0) : MT.of n m W = MT.of n m (dg (dgo t W)) := MT.of_congr fun i k hi hk => by
  unfold dg dgo
  by_cases e : i = k
  · subst e
    rw [if_pos rfl]
    by_cases h1 : i < t
    · rw [if_pos h1]
    · rw [if_neg h1]; exact hz i i (by omega) hi (by omega) hk
  · rw [if_neg e]
    by_cases h1 : i < t ∨ k < t
    · exact h.off i k hi hk e h1
    · exact hz i k (by omega) hi (by omega) hk
end
end Go.Proofs.Ytkmfhabgempjiaa
/- Plain: the least number of a kind; lengths of quotients and products. -/
namespace Go.Proofs.Ytkmfhabgempjiaa
open CR

section
variable {p : Nat}
theorem nrm_len (hp : 0 < p) {zs : List Nat} {L : Nat} (h : Nrm p zs) (hd : (pl p zs).dlt L) : zs.length ≤ L := (nrm_ln hp h).le hd
theorem mul_dlt1 {R : Type} [CR R] {f g : Pol R} {a b : Nat} (hf : f.dlt a) (hg : g.dlt b) : (f * g).dlt (a + b - 1) := by
  cases a with
  | zero => rw [dlt_nil hf, CR.zero_mul]; exact dlt_zero _
  | succ a =>
    cases b with
    | zero => rw [dlt_nil hg, CR.mul_zero]; exact dlt_zero _
    | succ b => exact dlt_mono (mul_dlt' hf hg) (by omega)
theorem divq_dlt (tr : Trial p) {a b q r : Pol (Zp p)} {la lb : Nat} (h : a = q * b + r) (ha : a.dlt la) (hb : Ln b lb) (h0 : b ≠ 0) (hr : r.dlt (lb - 1)) : q.dlt (la + 1 - lb) := by
  obtain ⟨n, rfl⟩ := hb.pos h0
  obtain ⟨m, hm⟩ := Ln.exists q
  by_cases hq : q = 0
  · rw [hq]; exact dlt_zero _
  · obtain ⟨m, rfl⟩ := hm.pos hq
    have h1 := hm.mul tr hb
    have e : q * b = a - r := by rw [h]; exact by_ring [q * b, r] X0 (X0 + X1 - X1) rfl
    rw [e] at h1
    have h2 := h1.le (dlt_sub (dlt_mono ha (Nat.le_max_left la n)) (dlt_mono hr (by omega)))
    exact dlt_mono hm.1 (by omega)
end
end Go.Proofs.Ytkmfhabgempjiaa
/- The reference of chapter 23: places, forms, matrices of one reading. -/
namespace Go.Proofs.Ytkmfhabgempjiaa
open Go.RowKit

theorem rf23_Formed (v : Value) (R C : Int) (xs : List (List Nat)) (w : World) (hm : Xm w v R C xs) (b : Bool) (hb : b = decide (Fd R C xs.length)) :
    Calls Try.prog 20 #[v] w (RetW w (.bool b)) := by
  obtain ⟨ao, ca, rfl⟩ := hm.agg
  obtain ⟨wb, ew, KA, B0, hsz⟩ := boxes1 w 24 [.int .i64 R, .int .i64 C, .slice ao xs.length ca]
  clear hsz hm
  by_cases h0 : R ≥ 0
  rotate_left
  · obtain rfl : b = false := by rw [hb]; exact decide_eq_false (fun h => h0 h.1.1)
    clear hb
    have d0 : decide (R ≥ 0) = false := decide_eq_false (by omega)
    go_enter Try.func20, Try.ntmps20
    go_upto_region 1 with (fail)
    rw [← ew]
    clear ew
    have c0 := KA.cell 0; have c1 := KA.cell 1; have c2 := KA.cell 2
    go_wp2
    go_ret
    exact ⟨rfl, B0⟩
  by_cases h1 : R ≤ 64
  rotate_left
  · obtain rfl : b = false := by rw [hb]; exact decide_eq_false (fun h => h1 h.1.2)
    clear hb
    have d0 : decide (R ≥ 0) = true := decide_eq_true (by omega)
    have d1 : decide (R ≤ 64) = false := decide_eq_false (by omega)
    go_enter Try.func20, Try.ntmps20
    go_upto_region 1 with (fail)
    rw [← ew]
    clear ew
    have c0 := KA.cell 0; have c1 := KA.cell 1; have c2 := KA.cell 2
    go_wp2
    go_ret
    exact ⟨rfl, B0⟩
  by_cases h2 : C ≥ 0
  rotate_left
  · obtain rfl : b = false := by rw [hb]; exact decide_eq_false (fun h => h2 h.2.1.1)
    clear hb
    have d0 : decide (R ≥ 0) = true := decide_eq_true (by omega)
    have d1 : decide (R ≤ 64) = true := decide_eq_true (by omega)
    have d2 : decide (C ≥ 0) = false := decide_eq_false (by omega)
    go_enter Try.func20, Try.ntmps20
    go_upto_region 1 with (fail)
    rw [← ew]
    clear ew
    have c0 := KA.cell 0; have c1 := KA.cell 1; have c2 := KA.cell 2
    go_wp2
    go_ret
    exact ⟨rfl, B0⟩
  by_cases h3 : C ≤ 64
  rotate_left
  · obtain rfl : b = false := by rw [hb]; exact decide_eq_false (fun h => h3 h.2.1.2)
    clear hb
    have d0 : decide (R ≥ 0) = true := decide_eq_true (by omega)
    have d1 : decide (R ≤ 64) = true := decide_eq_true (by omega)
    have d2 : decide (C ≥ 0) = true := decide_eq_true (by omega)
    have d3 : decide (C ≤ 64) = false := decide_eq_false (by omega)
    go_enter Try.func20, Try.ntmps20
    go_upto_region 1 with (fail)
    rw [← ew]
    clear ew
    have c0 := KA.cell 0; have c1 := KA.cell 1; have c2 := KA.cell 2
    go_wp2
    go_ret
    exact ⟨rfl, B0⟩
  by_cases h4 : (xs.length : Int) = R * C
  rotate_left
  · obtain rfl : b = false := by rw [hb]; exact decide_eq_false (fun h => h4 h.2.2)
    clear hb
    have d0 : decide (R ≥ 0) = true := decide_eq_true (by omega)
    have d1 : decide (R ≤ 64) = true := decide_eq_true (by omega)
    have d2 : decide (C ≥ 0) = true := decide_eq_true (by omega)
    have d3 : decide (C ≤ 64) = true := decide_eq_true (by omega); have hw : IntKind.i64.wrap (R * C) = R * C := Sd.mul ⟨h0, h1⟩ ⟨h2, h3⟩
    have d4 : ((xs.length : Int) == R * C) = false := by simp [h4]
    go_enter Try.func20, Try.ntmps20
    go_upto_region 1 with (fail)
    rw [← ew]
    clear ew
    have c0 := KA.cell 0; have c1 := KA.cell 1; have c2 := KA.cell 2
    go_wp2
    go_ret
    exact ⟨rfl, B0⟩
  obtain rfl : b = true := by rw [hb]; exact decide_eq_true ⟨⟨h0, h1⟩, ⟨h2, h3⟩, h4⟩
  clear hb
  have d0 : decide (R ≥ 0) = true := decide_eq_true (by omega)
  have d1 : decide (R ≤ 64) = true := decide_eq_true (by omega)
  have d2 : decide (C ≥ 0) = true := decide_eq_true (by omega)
  have d3 : decide (C ≤ 64) = true := decide_eq_true (by omega); have hw : IntKind.i64.wrap (R * C) = R * C := Sd.mul ⟨h0, h1⟩ ⟨h2, h3⟩
  have d4 : ((xs.length : Int) == R * C) = true := by simp [h4]
  go_enter Try.func20, Try.ntmps20
  go_upto_region 1 with (fail)
  rw [← ew]
  clear ew
  have c0 := KA.cell 0; have c1 := KA.cell 1; have c2 := KA.cell 2
  go_wp2
  go_ret
  exact ⟨rfl, B0⟩

theorem rf23_None (ao : Option Addr) (k : Nat) (w : World) : Calls Try.prog 21 #[.agg #[.int .i64 0, .int .i64 0, .slice ao 0 k]] w (RetW w (.bool true)) := by
  obtain ⟨wb, ew, KA, B0, hsz⟩ := boxes1 w 24 [.int .i64 0, .int .i64 0, .slice ao 0 k]
  clear hsz
  go_enter Try.func21, Try.ntmps21
  go_upto_region 1 with (fail)
  rw [← ew]
  clear ew
  have c0 := KA.cell 0; have c1 := KA.cell 1; have c2 := KA.cell 2
  go_wp2
  go_ret
  exact ⟨rfl, B0⟩

theorem Xm.open {w : World} {v : Value} {R C : Int} {xs : List (List Nat)} (h : Xm w v R C xs) : ∃ (ao : Option Addr) (b off cap : Nat) (U : Nat → Value), v = .agg #[.int .i64 R, .int .i64 C, .slice ao xs.length cap] ∧ xs.length ≤ cap ∧ (0 < xs.length → ao = some ⟨b, off, none⟩ ∧ b < w.heap.size) ∧
    ∀ j, j < xs.length → w.cell? ⟨b, off + j, none⟩ = some (U j) ∧ Sl .u64 w (U j) (xs.getD j []) ∧ wf W64 (xs.getD j []) := by
  obtain ⟨u, rfl, ao, b, off, cap, U, rfl, h1, h2, h3⟩ := h
  exact ⟨ao, b, off, cap, U, rfl, h1, h2, h3⟩

/-- A matrix of a size that is looked at. -/
def Fwx (s n : Int) (R C : Int) (xs : List (List Nat)) : Prop := R ≤ s ∧ C ≤ s ∧ xs.length ≤ 100 ∧ ∀ j, j < xs.length → ((xs.getD j []).length : Int) ≤ n
set_option maxHeartbeats 1000000 in
theorem rf23_Few (v : Value) (R C s n : Int) (xs : List (List Nat)) (w : World) (hm : Xm w v R C xs) (b : Bool) (hb : b = true ↔ Fwx s n R C xs) :
    Calls Try.prog 16 #[v, .int .i64 s, .int .i64 n] w (RetW w (.bool b)) := by
  obtain ⟨ao, bo, off, ca, U, rfl, -, hao, hat⟩ := hm.open
  obtain ⟨wb, ew, KA, B0, hsz⟩ := boxes1 w 24 [.int .i64 R, .int .i64 C, .slice ao xs.length ca]
  have HB := Lib.hid hb; have HAO := Lib.hid hao; have HAT := Lib.hid hat
  clear hsz hm hb hao hat
  have HB0 := Lib.hid B0
  go_enter Try.func16, Try.ntmps16
  go_upto_region 1 with (fail)
  rw [← ew]
  clear ew
  have c0 := KA.cell 0; have c1 := KA.cell 1; have c2 := KA.cell 2
  go_wp2
  go_loop [7] (fun iv => ∃ i : Nat, i ≤ xs.length ∧ iv = .int .i64 i ∧ Hid (∀ j, j < i → ((xs.getD j []).length : Int) ≤ n)) (fun iv => xs.length - (intOf iv).toNat)
  case atStart => exact ⟨0, by omega, rfl, Lib.hid fun j hj => by omega⟩
  case round =>
    obtain ⟨i, hi, rfl, HK⟩ := hrel
    by_cases hil : i < xs.length
    · by_cases hic : i < 100
      · obtain ⟨rfl, hbl⟩ := HAO.out (by omega)
        obtain ⟨q0, s0, -⟩ := HAT.out i hil
        obtain ⟨b1, -, -, b2, e0, -, -⟩ := id s0
        rw [e0] at q0
        have q1 := (HB0.out.cell (p := ⟨bo, off + i, none⟩) hbl).trans q0
        obtain ⟨m, em⟩ : ∃ m, m = (xs.getD i []).length := ⟨_, rfl⟩
        rw [← em] at q1
        have EM := Lib.hid em
        clear q0 s0 e0 em
        by_cases hmn : (m : Int) ≤ n
        · have d0 : decide ((m : Int) > n) = false := decide_eq_false (by omega)
          have HN := Lib.hid (show ∀ j, j < i + 1 → ((xs.getD j []).length : Int) ≤ n from fun j hj => by
            by_cases e : j = i
            · rw [e, ← EM.out]; exact hmn
            · exact HK.out j (by omega))
          go_wp2
          go_round
          case rel => exact ⟨i + 1, by omega, by go_num, HN⟩
          case measure => simp [intOf] <;> omega
        · have d0 : decide ((m : Int) > n) = true := decide_eq_true (by omega)
          obtain rfl : b = false := by
            cases b with
            | false => rfl
            | true => exact absurd ((HB.out.1 rfl).2.2.2 i hil) (by rw [← EM.out]; exact hmn)
          go_wp2
          go_ret
          exact ⟨rfl, HB0.out⟩
      · obtain rfl : b = false := by
          cases b with
          | false => rfl
          | true => have := (HB.out.1 rfl).2.2.1; omega
        have d9 : decide (((xs.length : Nat) : Int) ≤ 100) = false := decide_eq_false (by omega)
        by_cases h0 : R ≤ s
        · have d0 : decide (R ≤ s) = true := decide_eq_true h0
          by_cases h1 : C ≤ s
          · have d1 : decide (C ≤ s) = true := decide_eq_true h1
            go_wp2
            go_ret
            exact ⟨rfl, HB0.out⟩
          · have d1 : decide (C ≤ s) = false := decide_eq_false h1
            go_wp2
            go_ret
            exact ⟨rfl, HB0.out⟩
        · have d0 : decide (R ≤ s) = false := decide_eq_false h0
          go_wp2
          go_ret
          exact ⟨rfl, HB0.out⟩
    · obtain rfl : i = xs.length := by omega
      by_cases h0 : R ≤ s
      · have d0 : decide (R ≤ s) = true := decide_eq_true h0
        by_cases h1 : C ≤ s
        · have d1 : decide (C ≤ s) = true := decide_eq_true h1
          by_cases h2 : xs.length ≤ 100
          · have d2 : decide (((xs.length : Nat) : Int) ≤ 100) = true := decide_eq_true (by omega)
            obtain rfl : b = true := HB.out.2 ⟨h0, h1, h2, HK.out⟩
            go_wp2
            go_ret
            exact ⟨rfl, HB0.out⟩
          · have d2 : decide (((xs.length : Nat) : Int) ≤ 100) = false := decide_eq_false (by omega)
            obtain rfl : b = false := by
              cases b with
              | false => rfl
              | true => exact absurd (HB.out.1 rfl).2.2.1 h2
            go_wp2
            go_ret
            exact ⟨rfl, HB0.out⟩
        · have d1 : decide (C ≤ s) = false := decide_eq_false h1
          obtain rfl : b = false := by
            cases b with
            | false => rfl
            | true => exact absurd (HB.out.1 rfl).2.1 h1
          go_wp2
          go_ret
          exact ⟨rfl, HB0.out⟩
      · have d0 : decide (R ≤ s) = false := decide_eq_false h0
        obtain rfl : b = false := by
          cases b with
          | false => rfl
          | true => exact absurd (HB.out.1 rfl).1 h0
        go_wp2
        go_ret
        exact ⟨rfl, HB0.out⟩

theorem rf23_At (v : Value) (R : Int) (c i k p : Nat) (xs : List (List Nat)) (w : World) (hp : FP p) (hm : Xm w v R c xs) (hi : i ≤ 1000) (hc : c ≤ 1000) (hk : k ≤ 1000) (hj : i * c + k < xs.length) (hl : (xs.getD (i * c + k) []).length ≤ 1000000) :
    Calls Try.prog 75 #[v, .int .i64 i, .int .i64 k, .int .u64 p] w (RetP p w (xs.getD (i * c + k) []).length (pl p (xs.getD (i * c + k) []))) := by
  obtain ⟨ao, bo, off, ca, U, rfl, -, hao, hat⟩ := hm.open
  obtain ⟨rfl, hbl⟩ := hao (by omega)
  have hw : i * c ≤ 1000 * 1000 := Nat.mul_le_mul hi hc
  obtain ⟨lo, elo⟩ : ∃ lo, lo = i * c := ⟨_, rfl⟩
  obtain ⟨ix, eix⟩ : ∃ ix, ix = lo + k := ⟨_, rfl⟩
  have h1 : IntKind.i64.wrap ((i : Int) * (c : Int)) = (lo : Int) := by rw [elo, ← Int.natCast_mul]; exact IntWalk.i64_in _ ⟨by omega, by omega⟩
  have h2 : IntKind.i64.wrap ((lo : Int) + (k : Int)) = (ix : Int) := by rw [eix, ← Int.natCast_add]; exact IntWalk.i64_in _ ⟨by omega, by omega⟩
  rw [← elo, ← eix] at hj hl ⊢
  obtain ⟨q0, s0, -⟩ := hat _ hj
  obtain ⟨ys, ey⟩ : ∃ ys, ys = xs.getD ix [] := ⟨_, rfl⟩
  rw [← ey] at s0 hl ⊢
  obtain ⟨wb, ew, KA, B0, hsz⟩ := boxes1 w 24 [.int .i64 R, .int .i64 c, .slice (some ⟨bo, off, none⟩) xs.length ca]
  have HP := Lib.hid hp
  have q1 := (B0.cell (p := ⟨bo, off + ix, none⟩) hbl).trans q0
  have s1 := s0.next B0
  clear hsz hm hp hao hat q0 s0 ey hw elo eix
  go_enter Try.func75, Try.ntmps75
  go_upto_region 1 with (fail)
  rw [← ew]
  clear ew
  have c1 := KA.cell 1; have c2 := KA.cell 2
  clear KA
  go_wp2_with fail
  refine (ref9_Norm p (U ix) ys _ HP.out s1 (by omega)).mono ?_; rintro e w2 ⟨r2, z2, rfl, o2, n2, v2, l2, b2⟩
  have FIN := Lib.hid (show RetP p w ys.length (pl p ys) (.returned r2) w2 from ⟨r2, z2, rfl, o2.mono B0.size, n2, v2, l2, B0.trans (b2.mono B0.size)⟩)
  clear o2 n2 v2 l2 b2 s1 B0 c1 c2 q1
  go_wp2
  go_ret
  exact FIN.out

set_option maxHeartbeats 1000000 in
theorem rf23_Normal (v : Value) (R C : Int) (p : Nat) (xs : List (List Nat)) (w : World) (hp : FP p) (hm : Xm w v R C xs) (hF : Fd R C xs.length) (hx : ∀ j, j < xs.length → Nrm p (xs.getD j []) ∧ (xs.getD j []).length ≤ 1000000) (hl : xs.length ≤ 1000000) :
    Calls Try.prog 22 #[v, .int .u64 p] w (RetW w (.bool true)) := by
  obtain ⟨ao, bo, off, ca, U, rfl, -, hao, hat⟩ := hm.open
  obtain ⟨wb, ew, KA, B0, hsz⟩ := boxes1 w 24 [.int .i64 R, .int .i64 C, .slice ao xs.length ca]
  have hA := hm.next B0
  have HAT := Lib.hid hat; have HX := Lib.hid hx; have HF := Lib.hid hF; have HP := Lib.hid hp
  have HAO := Lib.hid hao
  clear hsz hm hat hx hF hp hao
  obtain ⟨g, eg⟩ : ∃ g, g = w.heap.size := ⟨_, rfl⟩
  have HE := Lib.hid eg
  rw [← eg] at KA
  go_enter Try.func22, Try.ntmps22
  go_upto_region 1 with (fail)
  rw [← ew, ← eg]
  clear ew eg
  go_wp2
  go_loopw [5] (fun iv wr => ∃ i : Nat, i ≤ xs.length ∧ iv = .int .i64 i ∧ Below wb.heap.size wb wr) (fun iv _ => xs.length - (intOf iv).toNat)
  case atStart => exact ⟨0, by omega, rfl, Below.refl _ _⟩
  case round =>
    obtain ⟨i, hi, rfl, B1⟩ := hrel
    have K1 := KA.next B1
    have c2 := K1.cell 2
    by_cases hil : i < xs.length
    · obtain ⟨rfl, hbl⟩ := HAO.out (by omega)
      obtain ⟨q0, s0, -⟩ := HAT.out i hil
      have q1 := ((B0.trans (B1.mono B0.size)).cell (p := ⟨bo, off + i, none⟩) hbl).trans q0
      have s1 := s0.next (B0.trans (B1.mono B0.size))
      obtain ⟨nz, lz⟩ := HX.out i hil
      obtain ⟨ys, ey⟩ : ∃ ys, ys = xs.getD i [] := ⟨_, rfl⟩
      rw [← ey] at s1 nz lz
      clear q0 s0 ey
      go_upto_region 4 with (fail)
      clear c2
      have bd := Drawn.below (w' := wr.drew) ⟨1, rfl⟩ wr.heap.size
      have hbr : bo < wr.drew.heap.size := World.block_lt_of_cell? wr _ q1
      have q2 : wr.drew.cell? ⟨bo, off + i, none⟩ = some (U i) := (bd.cell (p := ⟨bo, off + i, none⟩) hbr).trans q1
      replace K1 := K1.next bd; replace s1 := s1.next bd
      replace B1 := B1.trans (bd.mono B1.size)
      clear bd q1
      refine startL (S := (fun w' => Below (wr.drew).heap.size (wr.drew) w')) (by kernel_rfl) (Below.refl _ _) (fun hHeld => ?_)
      refine takeL 0 (v := ?_) rfl (by kernel_rfl) (by kernel_rfl) (by kernel_rfl) (fun _ _ _ h => h) ⟨by rfl, ?_⟩ (by assumption) ?_
      rotate_left
      · intro w hS; go_simp <;> with_reducible rfl
      simp only [Act.put, List.setIfInBounds_toArray, List.set_cons_zero, List.set_cons_succ]
      refine takeL 1 (v := ?_) rfl (by kernel_rfl) (by kernel_rfl) (by kernel_rfl) (fun _ _ _ h => h) ⟨by rfl, ?_⟩ (by assumption) ?_
      rotate_left
      · intro w hS; have f1 := (K1.at hS) 2; have f3 := (hS.cell (p := ⟨bo, off + i, none⟩) hbr).trans q2; go_simp <;> with_reducible rfl
      simp only [Act.put, List.setIfInBounds_toArray, List.set_cons_zero, List.set_cons_succ]
      refine takeL 2 (v := ?_) rfl (by kernel_rfl) (by kernel_rfl) (by kernel_rfl) (fun _ _ _ h => h) ⟨by rfl, ?_⟩ (by assumption) ?_
      rotate_left
      · intro w hS; go_simp <;> with_reducible rfl
      simp only [Act.put, List.setIfInBounds_toArray, List.set_cons_zero, List.set_cons_succ]
      refine takeL 3 (v := ?_) rfl (by kernel_rfl) (by kernel_rfl) (by kernel_rfl) (fun _ _ _ h => h) ⟨by rfl, ?_⟩ (by assumption) ?_
      rotate_left
      · intro w hS; go_simp <;> with_reducible rfl
      simp only [Act.put, List.setIfInBounds_toArray, List.set_cons_zero, List.set_cons_succ]
      refine takeL 4 (v := ?_) rfl (by kernel_rfl) (by kernel_rfl) (by kernel_rfl) (fun _ _ _ h => h) ⟨by rfl, ?_⟩ (by assumption) ?_
      rotate_left
      · intro w hS; have f1 := (K1.at hS) 2; have f3 := (hS.cell (p := ⟨bo, off + i, none⟩) hbr).trans q2; go_simp <;> with_reducible rfl
      simp only [Act.put, List.setIfInBounds_toArray, List.set_cons_zero, List.set_cons_succ]
      refine takeL 5 (v := ?_) rfl (by kernel_rfl) (by kernel_rfl) (by kernel_rfl) (fun _ _ _ h => h) ⟨by rfl, ?_⟩ (by assumption) ?_
      rotate_left
      · intro w hS; go_simp <;> with_reducible rfl
      simp only [Act.put, List.setIfInBounds_toArray, List.set_cons_zero, List.set_cons_succ]
      refine takeL 6 (v := ?_) rfl (by kernel_rfl) (by kernel_rfl) (by kernel_rfl) (fun _ _ _ h => h) ⟨by rfl, ?_⟩ (by assumption) ?_
      rotate_left
      · intro w hS; have f1 := (K1.at hS) 2; have f3 := (hS.cell (p := ⟨bo, off + i, none⟩) hbr).trans q2; go_simp <;> with_reducible rfl
      simp only [Act.put, List.setIfInBounds_toArray, List.set_cons_zero, List.set_cons_succ]
      refine takeL 7 (v := ?_) rfl (by kernel_rfl) (by kernel_rfl) (by kernel_rfl) (fun _ _ _ h => h) ⟨by rfl, ?_⟩ (by assumption) ?_
      rotate_left
      · intro w hS; go_simp <;> with_reducible rfl
      simp only [Act.put, List.setIfInBounds_toArray, List.set_cons_zero, List.set_cons_succ]
      refine takeL 8 (v := ?_) rfl (by kernel_rfl) (by kernel_rfl) (by kernel_rfl) (fun _ _ _ h => h) ⟨by rfl, ?_⟩ (by assumption) ?_
      rotate_left
      · intro w hS; go_simp <;> with_reducible rfl
      simp only [Act.put, List.setIfInBounds_toArray, List.set_cons_zero, List.set_cons_succ]
      refine takeL 9 (v := ?_) rfl (by kernel_rfl) (by kernel_rfl) (by kernel_rfl) (fun _ _ _ h => h) ⟨by rfl, ?_⟩ (by assumption) ?_
      rotate_left
      · intro w hS; have f1 := (K1.at hS) 2; have f3 := (hS.cell (p := ⟨bo, off + i, none⟩) hbr).trans q2; go_simp <;> with_reducible rfl
      simp only [Act.put, List.setIfInBounds_toArray, List.set_cons_zero, List.set_cons_succ]
      refine takeL 10 (v := ?_) rfl (by kernel_rfl) (by kernel_rfl) (by kernel_rfl) (fun _ _ _ h => h) ⟨by rfl, ?_⟩ (by assumption) ?_
      rotate_left
      · intro w hS; go_simp <;> with_reducible rfl
      simp only [Act.put, List.setIfInBounds_toArray, List.set_cons_zero, List.set_cons_succ]
      refine oneL 11 rfl (by kernel_rfl) (by rfl) (fun K hK => ?_)
      go_simp
      go_at_call 43
      (with_reducible refine (ref9_Norm p (U i) ys _ HP.out (s1.next hHeld) (by omega)).mono ?_); rintro e w2 ⟨r2, z2, rfl, o2, n2, v2, l2, b2⟩
      have t2 := o2.sl; clear o2
      refine hK.out _ _ (hHeld.trans (b2.mono hHeld.size)) (fun hHeld => ?_)
      clear hK K
      try simp only [Act.put, List.setIfInBounds_toArray, List.set_cons_zero, List.set_cons_succ]
      refine oneL 12 rfl (by kernel_rfl) (by rfl) (fun K hK => ?_)
      go_simp
      go_at_call 29
      (with_reducible refine (ref9_Same (U i) r2 ys z2 true _ ((s1.next hHeld)) t2 (by omega) (by omega) (by rw [pl_inj HP.out.pos n2 nz v2]; simp)).mono ?_); rintro e w3 ⟨rfl, q3⟩; have b3 := q3.below w2.heap.size; clear q3
      refine hK.out _ _ (hHeld.trans (b3.mono hHeld.size)) (fun hHeld => ?_)
      clear hK K
      try simp only [Act.put, List.setIfInBounds_toArray, List.set_cons_zero, List.set_cons_succ]
      refine takeL 13 (v := ?_) rfl (by kernel_rfl) (by kernel_rfl) (by kernel_rfl) (fun _ _ _ h => h) ⟨by rfl, ?_⟩ (by assumption) ?_
      rotate_left
      · intro w hS; go_simp <;> with_reducible rfl
      simp only [Act.put, List.setIfInBounds_toArray, List.set_cons_zero, List.set_cons_succ]
      refine doneL (by kernel_rfl) ?_ _
      replace B1 := B1.trans (hHeld.mono B1.size)
      clear hHeld K1 s1 q2 b2 b3 n2 v2 l2 t2
      go_wp2
      go_roundw
      case rel => exact ⟨i + 1, by omega, by go_num, B1⟩
      case measure => simp [intOf] <;> omega
    · obtain rfl : i = xs.length := by omega
      have hA1 := hA.next B1
      have c0 := K1.cell 0; have c1 := K1.cell 1
      go_wp2_with fail
      refine (rf23_Formed _ R C xs _ hA1 true (decide_eq_true HF.out).symm).mono ?_; rintro e w2 ⟨rfl, b2⟩
      have BF := B0.trans ((B1.trans (b2.mono B1.size)).mono B0.size)
      clear c0 c1 c2 K1 hA1 b2 B1
      go_wp2
      go_ret
      exact ⟨rfl, BF⟩

set_option maxHeartbeats 2000000 in
theorem rf23_Same (a b : Value) (R C : Int) (p : Nat) (xs ys : List (List Nat)) (w : World) (hp : FP p) (hA : Xm w a R C xs) (hB : Xm w b R C ys) (hl : ys.length = xs.length) (β : Bool) (hβ : β = true ↔ ∀ j, j < xs.length → nl p (xs.getD j []) = nl p (ys.getD j [])) (hm : xs.length ≤ 1000000)
    (hx : ∀ j, j < xs.length → (xs.getD j []).length ≤ 1000000) (hy : ∀ j, j < xs.length → (ys.getD j []).length ≤ 1000000) :
    Calls Try.prog 76 #[a, b, .int .u64 p] w (RetW w (.bool β)) := by
  obtain ⟨aA, bA, oA, cA, UA, rfl, -, hao, hat⟩ := hA.open
  obtain ⟨aB, bB, oB, cB, UB, rfl, -, hbo, hbt⟩ := hB.open
  rw [hl] at hbo hbt ⊢
  obtain ⟨wb, ew, KA, KB, B0, hsz⟩ := boxes2 w 24 24 [.int .i64 R, .int .i64 C, .slice aA xs.length cA] [.int .i64 R, .int .i64 C, .slice aB xs.length cB]
  have HAT := Lib.hid hat; have HBT := Lib.hid hbt; have HAO := Lib.hid hao; have HBO := Lib.hid hbo; have HX := Lib.hid hx; have HY := Lib.hid hy; have HP := Lib.hid hp; have HB := Lib.hid hβ
  clear hsz hA hB hat hbt hao hbo hx hy hp hβ hl
  obtain ⟨g, eg⟩ : ∃ g, g = w.heap.size := ⟨_, rfl⟩
  rw [← eg] at KA KB
  have hRR : (R != R) = false := by simp
  have hCC : (C != C) = false := by simp
  have hNN : ((xs.length : Int) != (xs.length : Int)) = false := by simp
  have c0 := KA.cell 0; have c1 := KA.cell 1; have c2 := KA.cell 2
  have d0 := KB.cell 0; have d1 := KB.cell 1; have d2 := KB.cell 2
  go_enter Try.func76, Try.ntmps76
  go_upto_region 1 with (fail)
  rw [← ew, ← eg]
  clear ew eg
  go_wp2
  clear c0 c1 c2 d0 d1 d2
  go_loopw [7] (fun iv wr => ∃ i : Nat, i ≤ xs.length ∧ iv = .int .i64 i ∧ Hid (∀ j, j < i → nl p (xs.getD j []) = nl p (ys.getD j [])) ∧ Below wb.heap.size wb wr) (fun iv _ => xs.length - (intOf iv).toNat)
  case atStart => exact ⟨0, by omega, rfl, Lib.hid fun j hj => by omega, Below.refl _ _⟩
  case round =>
    obtain ⟨i, hi, rfl, HK, B1⟩ := hrel
    have KA1 := KA.next B1; have KB1 := KB.next B1
    have c2 := KA1.cell 2
    by_cases hin : i < xs.length
    · obtain ⟨rfl, hbA⟩ := HAO.out (by omega)
      obtain ⟨rfl, hbB⟩ := HBO.out (by omega)
      obtain ⟨q0, s0, -⟩ := HAT.out i hin
      obtain ⟨q0', s0', -⟩ := HBT.out i hin
      have BB := B0.trans (B1.mono B0.size)
      have q1 := (BB.cell (p := ⟨bA, oA + i, none⟩) hbA).trans q0
      have q2 := (BB.cell (p := ⟨bB, oB + i, none⟩) hbB).trans q0'
      have s1 := s0.next BB; have s2 := s0'.next BB
      have lx := HX.out i hin; have ly := HY.out i hin
      obtain ⟨x, ex⟩ : ∃ x, x = xs.getD i [] := ⟨_, rfl⟩
      obtain ⟨y, ey⟩ : ∃ y, y = ys.getD i [] := ⟨_, rfl⟩
      rw [← ex] at s1 lx; rw [← ey] at s2 ly
      have EX := Lib.hid ex; have EY := Lib.hid ey
      clear q0 s0 q0' s0' ex ey BB
      go_upto_region 6 with (fail)
      clear c2
      have bd := Drawn.below (w' := wr.drew) ⟨1, rfl⟩ wr.heap.size
      have l1 : bA < wr.drew.heap.size := World.block_lt_of_cell? wr _ q1
      have l2 : bB < wr.drew.heap.size := World.block_lt_of_cell? wr _ q2
      have q1 : wr.drew.cell? ⟨bA, oA + i, none⟩ = some (UA i) := (bd.cell (p := ⟨bA, oA + i, none⟩) l1).trans q1
      have q2 : wr.drew.cell? ⟨bB, oB + i, none⟩ = some (UB i) := (bd.cell (p := ⟨bB, oB + i, none⟩) l2).trans q2
      replace KA1 := KA1.next bd; replace KB1 := KB1.next bd
      replace s1 := s1.next bd; replace s2 := s2.next bd
      replace B1 := B1.trans (bd.mono B1.size)
      clear bd
      obtain ⟨γ, eγ⟩ : ∃ γ, γ = decide (nl p x = nl p y) := ⟨_, rfl⟩
      have EG := Lib.hid eγ; clear eγ
      refine startL (S := (fun w' => Below (wr.drew).heap.size (wr.drew) w')) (by kernel_rfl) (Below.refl _ _) (fun hHeld => ?_)
      refine takeL 0 (v := ?_) rfl (by kernel_rfl) (by kernel_rfl) (by kernel_rfl) (fun _ _ _ h => h) ⟨by rfl, ?_⟩ (by assumption) ?_
      rotate_left
      · intro w hS; go_simp <;> with_reducible rfl
      simp only [Act.put, List.setIfInBounds_toArray, List.set_cons_zero, List.set_cons_succ]
      refine takeL 1 (v := ?_) rfl (by kernel_rfl) (by kernel_rfl) (by kernel_rfl) (fun _ _ _ h => h) ⟨by rfl, ?_⟩ (by assumption) ?_
      rotate_left
      · intro w hS; have f1 := (KA1.at hS) 2; have f2 := (KB1.at hS) 2; have f3 := (hS.cell (p := ⟨bA, oA + i, none⟩) l1).trans q1; have f4 := (hS.cell (p := ⟨bB, oB + i, none⟩) l2).trans q2; go_simp <;> with_reducible rfl
      simp only [Act.put, List.setIfInBounds_toArray, List.set_cons_zero, List.set_cons_succ]
      refine takeL 2 (v := ?_) rfl (by kernel_rfl) (by kernel_rfl) (by kernel_rfl) (fun _ _ _ h => h) ⟨by rfl, ?_⟩ (by assumption) ?_
      rotate_left
      · intro w hS; go_simp <;> with_reducible rfl
      simp only [Act.put, List.setIfInBounds_toArray, List.set_cons_zero, List.set_cons_succ]
      refine takeL 3 (v := ?_) rfl (by kernel_rfl) (by kernel_rfl) (by kernel_rfl) (fun _ _ _ h => h) ⟨by rfl, ?_⟩ (by assumption) ?_
      rotate_left
      · intro w hS; go_simp <;> with_reducible rfl
      simp only [Act.put, List.setIfInBounds_toArray, List.set_cons_zero, List.set_cons_succ]
      refine takeL 4 (v := ?_) rfl (by kernel_rfl) (by kernel_rfl) (by kernel_rfl) (fun _ _ _ h => h) ⟨by rfl, ?_⟩ (by assumption) ?_
      rotate_left
      · intro w hS; have f1 := (KA1.at hS) 2; have f2 := (KB1.at hS) 2; have f3 := (hS.cell (p := ⟨bA, oA + i, none⟩) l1).trans q1; have f4 := (hS.cell (p := ⟨bB, oB + i, none⟩) l2).trans q2; go_simp <;> with_reducible rfl
      simp only [Act.put, List.setIfInBounds_toArray, List.set_cons_zero, List.set_cons_succ]
      refine takeL 5 (v := ?_) rfl (by kernel_rfl) (by kernel_rfl) (by kernel_rfl) (fun _ _ _ h => h) ⟨by rfl, ?_⟩ (by assumption) ?_
      rotate_left
      · intro w hS; go_simp <;> with_reducible rfl
      simp only [Act.put, List.setIfInBounds_toArray, List.set_cons_zero, List.set_cons_succ]
      refine takeL 7 (v := ?_) rfl (by kernel_rfl) (by kernel_rfl) (by kernel_rfl) (fun _ _ _ h => h) ⟨by rfl, ?_⟩ (by assumption) ?_
      rotate_left
      · intro w hS; go_simp <;> with_reducible rfl
      simp only [Act.put, List.setIfInBounds_toArray, List.set_cons_zero, List.set_cons_succ]
      refine takeL 8 (v := ?_) rfl (by kernel_rfl) (by kernel_rfl) (by kernel_rfl) (fun _ _ _ h => h) ⟨by rfl, ?_⟩ (by assumption) ?_
      rotate_left
      · intro w hS; have f1 := (KA1.at hS) 2; have f2 := (KB1.at hS) 2; have f3 := (hS.cell (p := ⟨bA, oA + i, none⟩) l1).trans q1; have f4 := (hS.cell (p := ⟨bB, oB + i, none⟩) l2).trans q2; go_simp <;> with_reducible rfl
      simp only [Act.put, List.setIfInBounds_toArray, List.set_cons_zero, List.set_cons_succ]
      refine takeL 9 (v := ?_) rfl (by kernel_rfl) (by kernel_rfl) (by kernel_rfl) (fun _ _ _ h => h) ⟨by rfl, ?_⟩ (by assumption) ?_
      rotate_left
      · intro w hS; go_simp <;> with_reducible rfl
      simp only [Act.put, List.setIfInBounds_toArray, List.set_cons_zero, List.set_cons_succ]
      refine takeL 10 (v := ?_) rfl (by kernel_rfl) (by kernel_rfl) (by kernel_rfl) (fun _ _ _ h => h) ⟨by rfl, ?_⟩ (by assumption) ?_
      rotate_left
      · intro w hS; go_simp <;> with_reducible rfl
      simp only [Act.put, List.setIfInBounds_toArray, List.set_cons_zero, List.set_cons_succ]
      refine takeL 11 (v := ?_) rfl (by kernel_rfl) (by kernel_rfl) (by kernel_rfl) (fun _ _ _ h => h) ⟨by rfl, ?_⟩ (by assumption) ?_
      rotate_left
      · intro w hS; have f1 := (KA1.at hS) 2; have f2 := (KB1.at hS) 2; have f3 := (hS.cell (p := ⟨bA, oA + i, none⟩) l1).trans q1; have f4 := (hS.cell (p := ⟨bB, oB + i, none⟩) l2).trans q2; go_simp <;> with_reducible rfl
      simp only [Act.put, List.setIfInBounds_toArray, List.set_cons_zero, List.set_cons_succ]
      refine takeL 12 (v := ?_) rfl (by kernel_rfl) (by kernel_rfl) (by kernel_rfl) (fun _ _ _ h => h) ⟨by rfl, ?_⟩ (by assumption) ?_
      rotate_left
      · intro w hS; go_simp <;> with_reducible rfl
      simp only [Act.put, List.setIfInBounds_toArray, List.set_cons_zero, List.set_cons_succ]
      refine oneL 6 rfl (by kernel_rfl) (by rfl) (fun K hK => ?_)
      go_simp
      go_at_call 43
      (with_reducible refine (ref9_Norm p (UA i) x _ HP.out (s1.next hHeld) (by omega)).mono ?_); rintro e w3 ⟨r3, z3, rfl, o3, n3, v3, l3, b3⟩
      have t3 := o3.sl; clear o3
      refine hK.out _ _ (hHeld.trans (b3.mono hHeld.size)) (fun hHeld => ?_)
      clear hK K
      try simp only [Act.put, List.setIfInBounds_toArray, List.set_cons_zero, List.set_cons_succ]
      refine oneL 13 rfl (by kernel_rfl) (by rfl) (fun K hK => ?_)
      go_simp
      go_at_call 43
      (with_reducible refine (ref9_Norm p (UB i) y _ HP.out (s2.next hHeld) (by omega)).mono ?_); rintro e w4 ⟨r4, z4, rfl, o4, n4, v4, l4, b4⟩
      have t4 := o4.sl; clear o4; replace t3 := t3.next b4
      refine hK.out _ _ (hHeld.trans (b4.mono hHeld.size)) (fun hHeld => ?_)
      clear hK K
      try simp only [Act.put, List.setIfInBounds_toArray, List.set_cons_zero, List.set_cons_succ]
      refine oneL 14 rfl (by kernel_rfl) (by rfl) (fun K hK => ?_)
      go_simp
      go_at_call 29
      (with_reducible refine (ref9_Same r3 r4 z3 z4 γ _ t3 t4 (by omega) (by omega) (by rw [nl_is HP.out.pos n3 v3, nl_is HP.out.pos n4 v4]; exact EG.out)).mono ?_); rintro e w5 ⟨rfl, q5⟩; have b5 := q5.below w4.heap.size; clear q5
      refine hK.out _ _ (hHeld.trans (b5.mono hHeld.size)) (fun hHeld => ?_)
      clear hK K
      try simp only [Act.put, List.setIfInBounds_toArray, List.set_cons_zero, List.set_cons_succ]
      refine takeL 15 (v := ?_) rfl (by kernel_rfl) (by kernel_rfl) (by kernel_rfl) (fun _ _ _ h => h) ⟨by rfl, ?_⟩ (by assumption) ?_
      rotate_left
      · intro w hS; go_simp <;> with_reducible rfl
      simp only [Act.put, List.setIfInBounds_toArray, List.set_cons_zero, List.set_cons_succ]
      refine doneL (by kernel_rfl) ?_ _
      replace B1 := B1.trans (hHeld.mono B1.size)
      clear q1 q2 KA1 KB1 hHeld s1 s2 n3 v3 l3 t3 n4 v4 l4 t4 b3 b4 b5
      cases γ with
      | true =>
        have HN := Lib.hid (show ∀ j, j < i + 1 → nl p (xs.getD j []) = nl p (ys.getD j []) from fun j hj => by
          by_cases e : j = i
          · rw [e, ← EX.out, ← EY.out]; exact of_decide_eq_true EG.out.symm
          · exact HK.out j (by omega))
        go_wp2
        go_roundw
        case rel => exact ⟨i + 1, by omega, by go_num, HN, B1⟩
        case measure => simp [intOf] <;> omega
      | false =>
        obtain rfl : β = false := by
          cases β with
          | false => rfl
          | true => exact absurd (HB.out.1 rfl i hin) (by rw [← EX.out, ← EY.out]; exact of_decide_eq_false EG.out.symm)
        have BF := B0.trans (B1.mono B0.size)
        clear B1
        go_wp2
        go_ret
        exact ⟨rfl, BF⟩
    · obtain rfl : i = xs.length := by omega
      obtain rfl : β = true := HB.out.2 fun j hj => HK.out j hj
      have BF := B0.trans (B1.mono B0.size)
      clear B1
      go_wp2
      go_ret
      exact ⟨rfl, BF⟩

theorem rf23_Is (a b : Value) (R C : Int) (p : Nat) (xs ys : List (List Nat)) (w : World) (hp : FP p) (hA : Xm w a R C xs) (hB : Xm w b R C ys) (hF : Fd R C xs.length) (hl : ys.length = xs.length) (hm : xs.length ≤ 1000000) (hx : ∀ j, j < xs.length → Nrm p (xs.getD j []) ∧ (xs.getD j []).length ≤ 1000000)
    (hy : ∀ j, j < xs.length → (ys.getD j []).length ≤ 1000000) (hs : ∀ j, j < xs.length → nl p (xs.getD j []) = nl p (ys.getD j [])) :
    Calls Try.prog 25 #[a, b, .int .u64 p] w (RetW w (.bool true)) := by
  obtain ⟨aA, cA, rfl⟩ := hA.agg
  obtain ⟨aB, cB, rfl⟩ := hB.agg
  obtain ⟨wb, ew, KA, KB, B0, hsz⟩ := boxes2 w 24 24 [.int .i64 R, .int .i64 C, .slice aA xs.length cA] [.int .i64 R, .int .i64 C, .slice aB ys.length cB]
  clear hsz
  replace hA := hA.next B0; replace hB := hB.next B0
  have HS := Lib.hid hs; have HX := Lib.hid hx; have HY := Lib.hid hy; have HF := Lib.hid hF; have HL := Lib.hid hl; have HP := Lib.hid hp; clear hs hx hy hF hl hp
  have c0 := KA.cell 0; have c1 := KA.cell 1; have c2 := KA.cell 2
  go_enter Try.func25, Try.ntmps25
  go_upto_region 1 with (fail)
  rw [← ew]
  clear ew
  go_wp2_with fail
  refine (rf23_Normal _ R C p xs _ HP.out hA HF.out HX.out hm).mono ?_; rintro e w2 ⟨rfl, b2⟩
  replace hA := hA.next b2; replace hB := hB.next b2
  replace KA := KA.next b2; replace KB := KB.next b2
  clear c0 c1 c2
  have c0 := KA.cell 0; have c1 := KA.cell 1; have c2 := KA.cell 2
  have d0 := KB.cell 0; have d1 := KB.cell 1; have d2 := KB.cell 2
  go_wp2_with fail
  refine (rf23_Same _ _ R C p xs ys _ HP.out hA hB HL.out true ⟨fun _ => HS.out, fun _ => rfl⟩ hm (fun j hj => (HX.out j hj).2) HY.out).mono ?_; rintro e w3 ⟨rfl, b3⟩
  go_wp2
  go_ret
  exact ⟨rfl, (B0.trans (b2.mono B0.size)).trans (b3.mono (B0.trans (b2.mono B0.size)).size)⟩

end Go.Proofs.Ytkmfhabgempjiaa
/- The reference of chapter 23: rows made columns; sums. -/
namespace Go.Proofs.Ytkmfhabgempjiaa
open Go.RowKit

/-- A row that is owned. -/
def Orw (w : World) (base : Nat) (v : Value) (n : Nat) (E : Nat → Value) : Prop := w.ownsRow base 43 1 v n (rowL n E)
theorem Orw.next {w w' : World} {base n : Nat} {v : Value} {E : Nat → Value} (h : Orw w base v n E) (hb : Below w.heap.size w w') : Orw w' base v n E := rowOwn_next h hb (Nat.le_refl _)
theorem Orw.slc {w : World} {base n : Nat} {v : Value} {E : Nat → Value} (h : Orw w base v n E) : ∃ ao k, v = .slice ao n k := by
  rcases rowOwn_shape h with ⟨e1, e2⟩ | ⟨_, _, e1, _⟩
  · exact ⟨none, 0, by rw [e1, e2]⟩
  · exact ⟨_, _, e1⟩
/-- Where the loop of the reference's sum stands. -/
def AdR (p : Nat) (w wb wr : World) (g : Nat) (r c : Int) (L : Nat) (F : Nat → Pol (Zp p)) (n : Nat) : Prop := ∃ v us, Blk 24 wr (g + 1 + 1 + 1) [.int .i64 r, .int .i64 c, v] ∧ Blk 24 wr (g + 1 + 1) [.int .i64 0, .int .i64 0, .slice none 0 0] ∧
  Qls p wr (g + 1 + 1 + 1 + 1) v us n L F ∧ Below (g + 1 + 1) wb wr ∧ Below w.heap.size w wr

end Go.Proofs.Ytkmfhabgempjiaa
/- The reference of chapter 23: products, determinants. -/
namespace Go.Proofs.Ytkmfhabgempjiaa
open Go.RowKit

theorem AdR.next {p : Nat} {w wb wr w' : World} {g : Nat} {r c : Int} {L : Nat} {F : Nat → Pol (Zp p)} {n : Nat} (h : AdR p w wb wr g r c L F n) (hg : g + 1 + 1 ≤ wr.heap.size) (b : Below wr.heap.size wr w') : AdR p w wb w' g r c L F n := by
  obtain ⟨v, us, K1, K2, o, B1, B2⟩ := h
  exact ⟨v, us, K1.next b, K2.next b, o.next b, B1.trans (b.mono hg), B2.trans (b.mono B2.size)⟩
theorem AdR.big {p : Nat} {w wb wr : World} {g : Nat} {r c : Int} {L : Nat} {F : Nat → Pol (Zp p)} {n : Nat} (h : AdR p w wb wr g r c L F n) : g + 1 + 1 + 1 < wr.heap.size := by
  obtain ⟨v, us, K1, _⟩ := h; exact K1.lt
/-- A polynomial that is owned. -/
def Opl (p : Nat) (w : World) (base : Nat) (v : Value) (L : Nat) (f : Pol (Zp p)) : Prop := ∃ zs, Own .u64 27 w base v zs ∧ Nrm p zs ∧ pl p zs = f ∧ zs.length ≤ L
set_option maxRecDepth 20000 in
set_option maxHeartbeats 4000000 in
theorem rf23_Mul (p L M : Nat) (a b : Value) (r m c : Nat) (xs ys : List (List Nat)) (w : World) (hp : FP p) (hA : Xm w a r m xs) (hB : Xm w b m c ys) (hr : r ≤ 64) (hm : m ≤ 64) (hc : c ≤ 64) (hx : xs.length = r * m) (hy : ys.length = m * c) (hM : M ≤ 100000) (hL : L = 2 * M)
    (hlx : ∀ j, j < xs.length → (xs.getD j []).length ≤ M) (hly : ∀ j, j < ys.length → (ys.getD j []).length ≤ M) (F : Nat → Pol (Zp p)) (hF : ∀ i k, i < r → k < c → F (i * c + k) = dotq p xs ys m c i k m) :
    Calls Try.prog 26 #[a, b, .int .u64 p] w (RetXm p w r c L F) := by
  obtain ⟨aA, cA, rfl⟩ := hA.agg
  obtain ⟨aB, cB, rfl⟩ := hB.agg
  have hrc : r * c ≤ 64 * 64 := Nat.mul_le_mul hr hc
  obtain ⟨wb, ew, KA, KB, KR, KT, B0, hsz⟩ := boxes4 w 24 24 24 24 [.int .i64 r, .int .i64 m, .slice aA xs.length cA] [.int .i64 m, .int .i64 c, .slice aB ys.length cB] [.int .i64 0, .int .i64 0, .slice none 0 0] [.int .i64 r, .int .i64 c, .slice none 0 0]
  clear hsz
  have HX := Lib.hid hx; have HY := Lib.hid hy; have HLX := Lib.hid hlx; have HLY := Lib.hid hly; have HF := Lib.hid hF; have HL := Lib.hid hL; have HP := Lib.hid hp
  clear hx hy hlx hly hF hL hp
  go_enter Try.func26, Try.ntmps26
  go_upto_region 2 with (fail)
  rw [← ew]
  obtain ⟨g, eg⟩ : ∃ g, g = w.heap.size := ⟨_, rfl⟩
  rw [← eg] at KA KB KR KT ⊢
  have hgw : w.heap.size ≤ g := by omega
  clear ew eg
  have hwb : g + 1 + 1 + 1 < wb.heap.size := KT.lt
  have st : AdR p w wb wb g r c L F (0 * c) := ⟨_, [], KT, KR, by rw [Nat.zero_mul]; exact ⟨World.ownsRow_nil _ _ _ _, rfl, fun j v hv => by simp at hv⟩, Below.refl _ _, B0⟩
  have HA := Lib.hid hA; have HB := Lib.hid hB; have HKA := Lib.hid KA; have HKB := Lib.hid KB
  clear hA hB KT KR B0 KA KB
  go_wp2
  go_loopw [8] (fun iv wr => ∃ i : Nat, i ≤ r ∧ iv = .int .i64 i ∧ AdR p w wb wr g r c L F (i * c)) (fun iv _ => r - (intOf iv).toNat)
  case atStart => exact ⟨0, by omega, rfl, st⟩
  case round =>
    clear st
    obtain ⟨i, hi, rfl, st⟩ := hrel
    have B1 := st.choose_spec.choose_spec.2.2.2.1
    have KA := HKA.out.below B1 (by omega)
    have c0 := KA.cell 0
    by_cases hir : i < r
    · go_wp2
      clear c0 KA B1
      go_loopw [9] (fun kv wr => ∃ k : Nat, k ≤ c ∧ kv = .int .i64 k ∧ AdR p w wb wr g r c L F (i * c + k)) (fun kv _ => c - (intOf kv).toNat)
      case atStart => exact ⟨0, by omega, rfl, st⟩
      case round =>
        clear st
        obtain ⟨k, hk, rfl, st⟩ := hrel
        have B1 := st.choose_spec.choose_spec.2.2.2.1
        have KB := HKB.out.below B1 (by omega)
        have c1 := KB.cell 1
        by_cases hkc : k < c
        · go_wp2
          clear c1 KB B1
          go_loopw [11, 10] (fun jv xv wr => ∃ j : Nat, j ≤ m ∧ jv = .int .i64 j ∧ Opl p wr (g + 1 + 1 + 1 + 1) xv L (dotq p xs ys m c i k j) ∧ AdR p w wb wr g r c L F (i * c + k)) (fun jv _ _ => m - (intOf jv).toNat)
          case atStart => exact ⟨0, by omega, rfl, ⟨[], Own.nil _ _ _ _, nrm_nil p, pl_nil p, Nat.zero_le _⟩, st⟩
          case round =>
            clear st
            obtain ⟨j, hj, rfl, PX, st⟩ := hrel
            have hbig := st.big
            have B1 := st.choose_spec.choose_spec.2.2.2.1
            have B2 := st.choose_spec.choose_spec.2.2.2.2
            have KA := HKA.out.below B1 (by omega)
            have c1 := KA.cell 1
            by_cases hjm : j < m
            · obtain ⟨zx, ox, nx, vx, lx⟩ := PX
              rename_i xv _ _ _ _ _ _ _ _ _ _ _ _ _ _ _
              go_upto_region 12 with (fail)
              clear c1 KA
              have bd := Drawn.below (w' := wr.drew) ⟨1, rfl⟩ wr.heap.size
              have hbig : g + 1 + 1 + 1 < wr.drew.heap.size := hbig
              replace st := st.next (by omega) bd
              replace ox := ox.next bd
              replace B1 := B1.trans (bd.mono (show g + 1 + 1 ≤ wr.heap.size by have : wr.drew.heap.size = wr.heap.size := rfl; omega))
              replace B2 := B2.trans (bd.mono B2.size)
              clear bd
              have KA := HKA.out.below B1 (by omega); have KB := HKB.out.below B1 (by omega)
              have sx := ox.sl
              have hxj : i * m + j < xs.length := at_lt HX.out hir hjm
              have hyj : j * c + k < ys.length := at_lt HY.out hjm hkc
              have hlx := HLX.out _ hxj; have hly := HLY.out _ hyj; have hL := HL.out
              obtain ⟨u, eu⟩ : ∃ u, u = xs.getD (i * m + j) [] := ⟨_, rfl⟩
              obtain ⟨v, ev⟩ : ∃ v, v = ys.getD (j * c + k) [] := ⟨_, rfl⟩
              have hatA := Lib.hid (fun w' (hb : Below wr.drew.heap.size wr.drew w') => rf23_At _ r m i j p xs w' HP.out (HA.out.next (B2.trans (hb.mono B2.size))) (by omega) (by omega) (by omega) hxj (by omega))
              have hatB := Lib.hid (fun w' (hb : Below wr.drew.heap.size wr.drew w') => rf23_At _ m c j k p ys w' HP.out (HB.out.next (B2.trans (hb.mono B2.size))) (by omega) (by omega) (by omega) hyj (by omega))
              rw [← eu] at hatA hlx; rw [← ev] at hatB hly
              have UU := Lib.hid eu; have VV := Lib.hid ev; have VX := Lib.hid vx
              clear eu ev vx hxj hyj
              refine startL (S := (fun w' => Below (wr.drew).heap.size (wr.drew) w')) (by kernel_rfl) (Below.refl _ _) (fun hHeld => ?_)
              refine takeL 0 (v := ?_) rfl (by kernel_rfl) (by kernel_rfl) (by kernel_rfl) (fun _ _ _ h => h) ⟨by rfl, ?_⟩ (by assumption) ?_
              rotate_left
              · intro w hS; go_simp <;> with_reducible rfl
              simp only [Act.put, List.setIfInBounds_toArray, List.set_cons_zero, List.set_cons_succ]
              refine takeL 1 (v := ?_) rfl (by kernel_rfl) (by kernel_rfl) (by kernel_rfl) (fun _ _ _ h => h) ⟨by rfl, ?_⟩ (by assumption) ?_
              rotate_left
              · intro w hS; have fa := KA.at hS; have f1 := fa 0; have f2 := fa 1; have f3 := fa 2; clear fa; have fb := KB.at hS; have f4 := fb 0; have f5 := fb 1; have f6 := fb 2; clear fb; go_simp <;> with_reducible rfl
              simp only [Act.put, List.setIfInBounds_toArray, List.set_cons_zero, List.set_cons_succ]
              refine takeL 2 (v := ?_) rfl (by kernel_rfl) (by kernel_rfl) (by kernel_rfl) (fun _ _ _ h => h) ⟨by rfl, ?_⟩ (by assumption) ?_
              rotate_left
              · intro w hS; go_simp <;> with_reducible rfl
              simp only [Act.put, List.setIfInBounds_toArray, List.set_cons_zero, List.set_cons_succ]
              refine takeL 3 (v := ?_) rfl (by kernel_rfl) (by kernel_rfl) (by kernel_rfl) (fun _ _ _ h => h) ⟨by rfl, ?_⟩ (by assumption) ?_
              rotate_left
              · intro w hS; go_simp <;> with_reducible rfl
              simp only [Act.put, List.setIfInBounds_toArray, List.set_cons_zero, List.set_cons_succ]
              refine takeL 4 (v := ?_) rfl (by kernel_rfl) (by kernel_rfl) (by kernel_rfl) (fun _ _ _ h => h) ⟨by rfl, ?_⟩ (by assumption) ?_
              rotate_left
              · intro w hS; go_simp <;> with_reducible rfl
              simp only [Act.put, List.setIfInBounds_toArray, List.set_cons_zero, List.set_cons_succ]
              refine takeL 6 (v := ?_) rfl (by kernel_rfl) (by kernel_rfl) (by kernel_rfl) (fun _ _ _ h => h) ⟨by rfl, ?_⟩ (by assumption) ?_
              rotate_left
              · intro w hS; have fa := KA.at hS; have f1 := fa 0; have f2 := fa 1; have f3 := fa 2; clear fa; have fb := KB.at hS; have f4 := fb 0; have f5 := fb 1; have f6 := fb 2; clear fb; go_simp <;> with_reducible rfl
              simp only [Act.put, List.setIfInBounds_toArray, List.set_cons_zero, List.set_cons_succ]
              refine takeL 7 (v := ?_) rfl (by kernel_rfl) (by kernel_rfl) (by kernel_rfl) (fun _ _ _ h => h) ⟨by rfl, ?_⟩ (by assumption) ?_
              rotate_left
              · intro w hS; go_simp <;> with_reducible rfl
              simp only [Act.put, List.setIfInBounds_toArray, List.set_cons_zero, List.set_cons_succ]
              refine takeL 8 (v := ?_) rfl (by kernel_rfl) (by kernel_rfl) (by kernel_rfl) (fun _ _ _ h => h) ⟨by rfl, ?_⟩ (by assumption) ?_
              rotate_left
              · intro w hS; go_simp <;> with_reducible rfl
              simp only [Act.put, List.setIfInBounds_toArray, List.set_cons_zero, List.set_cons_succ]
              refine takeL 9 (v := ?_) rfl (by kernel_rfl) (by kernel_rfl) (by kernel_rfl) (fun _ _ _ h => h) ⟨by rfl, ?_⟩ (by assumption) ?_
              rotate_left
              · intro w hS; go_simp <;> with_reducible rfl
              simp only [Act.put, List.setIfInBounds_toArray, List.set_cons_zero, List.set_cons_succ]
              refine takeL 11 (v := ?_) rfl (by kernel_rfl) (by kernel_rfl) (by kernel_rfl) (fun _ _ _ h => h) ⟨by rfl, ?_⟩ (by assumption) ?_
              rotate_left
              · intro w hS; go_simp <;> with_reducible rfl
              simp only [Act.put, List.setIfInBounds_toArray, List.set_cons_zero, List.set_cons_succ]
              refine takeL 13 (v := ?_) rfl (by kernel_rfl) (by kernel_rfl) (by kernel_rfl) (fun _ _ _ h => h) ⟨by rfl, ?_⟩ (by assumption) ?_
              rotate_left
              · intro w hS; go_simp <;> with_reducible rfl
              simp only [Act.put, List.setIfInBounds_toArray, List.set_cons_zero, List.set_cons_succ]
              refine oneL 5 rfl (by kernel_rfl) (by rfl) (fun K hK => ?_)
              go_simp
              go_at_call 75
              (refine (hatA.out _ hHeld).mono ?_); rintro e w5 ⟨r5, z5, rfl, o5, n5, v5, l5, b5⟩
              have t5 := o5.sl; clear o5
              refine hK.out _ _ (hHeld.trans (b5.mono hHeld.size)) (fun hHeld => ?_)
              clear hK K
              try simp only [Act.put, List.setIfInBounds_toArray, List.set_cons_zero, List.set_cons_succ]
              refine oneL 10 rfl (by kernel_rfl) (by rfl) (fun K hK => ?_)
              go_simp
              go_at_call 75
              (refine (hatB.out _ hHeld).mono ?_); rintro e w6 ⟨r6, z6, rfl, o6, n6, v6, l6, b6⟩
              have t6 := o6.sl; clear o6; replace t5 := t5.next b6
              refine hK.out _ _ (hHeld.trans (b6.mono hHeld.size)) (fun hHeld => ?_)
              clear hK K
              try simp only [Act.put, List.setIfInBounds_toArray, List.set_cons_zero, List.set_cons_succ]
              refine oneL 12 rfl (by kernel_rfl) (by rfl) (fun K hK => ?_)
              go_simp
              go_at_call 27
              (with_reducible refine (ref9_Mul p r5 r6 z5 z6 _ HP.out t5 t6 (by omega) (by omega)).mono ?_); rintro e w7 ⟨r7, z7, rfl, o7, n7, v7, l7, b7⟩
              have t7 := o7.sl; clear o7
              refine hK.out _ _ (hHeld.trans (b7.mono hHeld.size)) (fun hHeld => ?_)
              clear hK K
              try simp only [Act.put, List.setIfInBounds_toArray, List.set_cons_zero, List.set_cons_succ]
              refine oneL 14 rfl (by kernel_rfl) (by rfl) (fun K hK => ?_)
              go_simp
              go_at_call 77
              (with_reducible refine (ref9_Add p _ r7 zx z7 _ HP.out (sx.next hHeld) t7 (by omega) (by omega)).mono ?_); rintro e w8 ⟨r8, z8, rfl, o8, n8, v8, l8, b8⟩; have hw7 := hHeld.size
              refine hK.out _ _ (hHeld.trans (b8.mono hHeld.size)) (fun hHeld => ?_)
              clear hK K
              try simp only [Act.put, List.setIfInBounds_toArray, List.set_cons_zero, List.set_cons_succ]
              refine takeL 15 (v := ?_) rfl (by kernel_rfl) (by kernel_rfl) (by kernel_rfl) (fun _ _ _ h => h) ⟨by rfl, ?_⟩ (by assumption) ?_
              rotate_left
              · intro w hS; go_simp <;> with_reducible rfl
              simp only [Act.put, List.setIfInBounds_toArray, List.set_cons_zero, List.set_cons_succ]
              refine doneL (by kernel_rfl) ?_ _
              have st := Lib.hid (st.next (by omega) hHeld)
              have PN := Lib.hid (show Opl p w8 (g + 1 + 1 + 1 + 1) r8 L (dotq p xs ys m c i k (j + 1)) from ⟨z8, o8.mono (by omega), n8, by rw [v8, v7, v5, v6, dotq_succ, VX.out, UU.out, VV.out], by omega⟩)
              clear B1 B2 KA KB hHeld hatA hatB ox sx nx o8 n8 v8 v7 v5 v6 l5 l6 l7 l8 t5 t6 t7 b5 b6 b7 b8 n5 n6 n7
              go_wp2
              go_roundw
              case rel => exact ⟨j + 1, by omega, by go_num, PN.out, st.out⟩
              case measure => simp [intOf] <;> omega
            · obtain rfl : j = m := by omega
              obtain ⟨zx, ox, nx, vx, lx⟩ := PX
              obtain ⟨bv, us, K2, K1, ho, B3, B0⟩ := st
              obtain ⟨ax, cx, rfl⟩ := ox.sliced
              have f2 := K2.cell 2; have z2 := K2.free 2
              have hgx : g + 1 + 1 + 1 + 1 ≤ wr.heap.size := by have := K2.lt; omega
              have hic : i * c ≤ 64 * 64 := Nat.mul_le_mul (by omega) hc
              have VX := Lib.hid (show pl p zx = F (i * c + k) by rw [vx, HF.out i k hir hkc])
              clear vx
              go_wp2_with (at_builtin; refine apVl 22 43 24 (.slice none 0 0) Try.underlying22 (by kernel_rfl) (by decide) rfl rfl _ _ rfl wr (g + 1 + 1 + 1 + 1) bv (i * c + k) us (.slice ax zx.length cx) rfl ho.1 (by omega) hgx rfl rfl ?_; intro g4 c4 w4 ho4 hb4 hg4 _; have K4 := K2.below hb4 (by omega); have q1 := K4.cell 2; have q2 := K4.free 2)
              have K5 := K4.set 2 (.slice (some ⟨g4, 0, none⟩) (i * c + k + 1) c4)
              have K6 := (K1.below hb4 (by omega)).far (a := ⟨g + 1 + 1 + 1, 2, none⟩) (show g + 1 + 1 ≠ g + 1 + 1 + 1 by omega) (.slice (some ⟨g4, 0, none⟩) (i * c + k + 1) c4)
              have o6 := (ho.push hg4 ho4 ox (Nat.le_refl _) nx VX.out lx).low (a := ⟨g + 1 + 1 + 1, 2, none⟩) (show g + 1 + 1 + 1 < g + 1 + 1 + 1 + 1 by omega) (.slice (some ⟨g4, 0, none⟩) (i * c + k + 1) c4)
              have B6 := (B3.trans (hb4.mono (by omega))).setCell (p := ⟨g + 1 + 1 + 1, 2, none⟩) (show g + 1 + 1 ≤ g + 1 + 1 + 1 by omega) (.slice (some ⟨g4, 0, none⟩) (i * c + k + 1) c4)
              have B7 := (B0.trans (hb4.mono (by omega))).setCell (p := ⟨g + 1 + 1 + 1, 2, none⟩) (show w.heap.size ≤ g + 1 + 1 + 1 by omega) (.slice (some ⟨g4, 0, none⟩) (i * c + k + 1) c4)
              have st := Lib.hid (show AdR p w wb (w4.setCell ⟨g + 1 + 1 + 1, 2, none⟩ (.slice (some ⟨g4, 0, none⟩) (i * c + k + 1) c4)) g r c L F (i * c + (k + 1)) from ⟨_, _, K5, K6, o6, B6, B7⟩)
              clear K1 K2 K4 K5 K6 o6 B6 B7 ho ho4 hb4 hg4 B0 B3 B1 B2 KA c1 f2 z2 q1 q2 ox nx
              go_wp2
              go_roundw
              case rel => exact ⟨k + 1, by omega, by go_num, st.out⟩
              case measure => simp [intOf] <;> omega
        · obtain rfl : k = c := by omega
          go_wp2
          go_roundw
          case rel => exact ⟨i + 1, by omega, by go_num, by rw [Nat.succ_mul]; exact st⟩
          case measure => simp [intOf] <;> omega
    · obtain rfl : i = r := by omega
      obtain ⟨bv, us, K2, K1, ho, B3, B0⟩ := st
      obtain ⟨aq, cq, rfl⟩ := ho.slc
      have c0 := K2.cell 0; have c1 := K2.cell 1; have c2 := K2.cell 2
      have e0 := K1.cell 0; have e1 := K1.cell 1; have e2 := K1.cell 2
      have f0 := K1.free 0; have f1 := K1.free 1; have f2 := K1.free 2
      have KF := ((K1.set 0 (.int .i64 i)).set 1 (.int .i64 c)).set 2 (.slice aq (i * c) cq)
      have d0 := KF.cell 0; have d1 := KF.cell 1; have d2 := KF.cell 2
      have hlt : g + 1 + 1 < g + 1 + 1 + 1 + 1 := by omega
      have hof := ((ho.low (a := ⟨g + 1 + 1, 0, none⟩) hlt (.int .i64 i)).low (a := ⟨g + 1 + 1, 1, none⟩) hlt (.int .i64 c)).low (a := ⟨g + 1 + 1, 2, none⟩) hlt (.slice aq (i * c) cq)
      have hgw2 : w.heap.size ≤ g + 1 + 1 := by omega
      have BF := ((B0.setCell (p := ⟨g + 1 + 1, 0, none⟩) hgw2 (.int .i64 i)).setCell (p := ⟨g + 1 + 1, 1, none⟩) hgw2 (.int .i64 c)).setCell (p := ⟨g + 1 + 1, 2, none⟩) hgw2 (.slice aq (i * c) cq)
      have FR := Lib.hid (show RetXm p w i c L F (.returned (.agg #[.int .i64 i, .int .i64 c, .slice aq (i * c) cq])) (((wr.setCell ⟨g + 1 + 1, 0, none⟩ (.int .i64 i)).setCell ⟨g + 1 + 1, 1, none⟩ (.int .i64 c)).setCell ⟨g + 1 + 1, 2, none⟩ (.slice aq (i * c) cq)) from ⟨_, _, us, rfl, hof.mono (by omega), BF⟩)
      clear KF K1 K2 hof BF ho B0 B3 KA B1
      go_wp2
      exact bodyPost_ret (v := .agg #[.int .i64 i, .int .i64 c, .slice aq (i * c) cq]) (by simp [results, Try.results26, go_sem, d0, d1, d2]) rfl FR.out

theorem ChO.finB {n B : Nat} {p : Nat} {w0 wr : World} {T : Nat → Nat → List Nat} {lv : Value} (h : ChO w0 wr n n T lv) (hT : ∀ i k, i < n → k < n → (T i k).length ≤ B) : ∃ U E, Pm p B wr lv n n (fun i k => pl p (T i k)) U E := by
  obtain ⟨U, E, h1, h2, h3, h4⟩ := h
  exact ⟨U, E, VsF.of_own h1, fun i hi => VsF.of_own (h2 i hi), fun i k hi hk => ⟨T i k, (h3 i k hi hk).sl, hT i k hi hk, rfl⟩⟩

set_option maxRecDepth 20000 in
set_option maxHeartbeats 4000000 in
theorem rf23_Det (p B : Nat) (a : Value) (n : Nat) (xs : List (List Nat)) (w : World) (hp : FP p) (hA : Xm w a n n xs) (hn : n ≤ 8) (hx : xs.length = n * n) (hB : n * B + 1 ≤ 100000) (hl : ∀ j, j < n * n → (xs.getD j []).length ≤ B) (hB1 : B ≤ 1000000) :
    Calls Try.prog 74 #[a, .int .u64 p] w (RetP p w (n * B + 1) (dn n (aT p n xs))) := by
  obtain ⟨aA, cA, rfl⟩ := hA.agg
  obtain ⟨wb, ew, KA, B0, hsz⟩ := boxes1 w 24 [.int .i64 n, .int .i64 n, .slice aA xs.length cA]
  clear hsz
  replace hA := hA.next B0
  have HP := Lib.hid hp; have HX := Lib.hid hx; have HLL := Lib.hid hl; clear hp hx hl
  obtain ⟨T, eT⟩ : ∃ T : Nat → Nat → List Nat, T = fun i k => nl p (xs.getD (i * n + k) []) := ⟨_, rfl⟩
  have ET := Lib.hid eT; clear eT
  go_enter Try.func74, Try.ntmps74
  go_upto_region 1 with (fail)
  rw [← ew]
  obtain ⟨g, eg⟩ : ∃ g, g = w.heap.size := ⟨_, rfl⟩
  have HG := Lib.hid eg
  rw [← eg] at KA ⊢
  clear ew eg
  have HKA := Lib.hid KA; have HA := Lib.hid hA; have HB0 := Lib.hid B0
  have hg1 : g < wb.heap.size := KA.lt
  clear KA hA B0
  go_wp2
  go_loopw [6, 5] (fun iv lv wr => ∃ i : Nat, i ≤ n ∧ iv = .int .i64 i ∧ ChO wb wr n i T lv) (fun iv _ _ => n - (intOf iv).toNat)
  case atStart => exact ⟨0, by omega, rfl, fun _ => .slice none 0 0, fun _ _ => .slice none 0 0, World.ownsRow_nil _ _ _ _, fun r hr => absurd hr (by omega), fun r j hr => absurd hr (by omega), Below.refl _ _⟩
  case round =>
    obtain ⟨i, hi, rfl, U, E, s1, s2, s3, B1⟩ := hrel
    obtain ⟨wk, hwk⟩ : ∃ wk, wk = wr := ⟨_, rfl⟩
    subst hwk
    have KA := HKA.out.next B1
    have c0 := KA.cell 0
    by_cases hin : i < n
    · go_wp2
      clear c0
      go_loopw [8, 7] (fun kv rv wr => ∃ (k : Nat) (ar : Option Addr) (cr : Nat), k ≤ n ∧ kv = .int .i64 k ∧ rv = .slice ar k cr ∧ ChI wk wr i k T (.slice ar k cr)) (fun kv _ _ => n - (intOf kv).toNat)
      case atStart => exact ⟨0, none, 0, by omega, rfl, rfl, fun _ => .slice none 0 0, World.ownsRow_nil _ _ _ _, fun j hj => absurd hj (by omega), Below.refl _ _⟩
      case round =>
        obtain ⟨k, ar, cr, hk, rfl, rfl, st⟩ := hrel
        have hB2 : Below wk.heap.size wk wr := by obtain ⟨_, _, _, h⟩ := st; exact h
        have KA2 := KA.next hB2
        have c0 := KA2.cell 0; have c1 := KA2.cell 1; have c2 := KA2.cell 2
        by_cases hkn : k < n
        · obtain ⟨E', t1, t2, _⟩ := st
          have hlt : i * n + k < n * n := at_lt rfl hin hkn
          have hll := HLL.out _ hlt
          go_wp2_with fail
          refine (rf23_At _ n n i k p xs _ HP.out (HA.out.next (B1.trans (hB2.mono B1.size))) (by omega) (by omega) (by omega) (by rw [HX.out]; exact hlt) (by omega)).mono ?_; rintro e w5 ⟨r5, z5, rfl, o5, n5, v5, l5, b5⟩
          clear c0 c1 c2 KA2
          obtain ⟨a5, c5, rfl⟩ := o5.sliced
          have hz5 : z5 = T i k := by rw [ET.out]; exact nl_is HP.out.pos n5 v5
          subst hz5
          clear n5 v5 l5 hll
          have hks : wk.heap.size ≤ w5.heap.size := Nat.le_trans hB2.size b5.size
          have t16 := rowOwn_next t1 b5 (Nat.le_refl _)
          go_wp2_with (at_builtin; refine apVl 68 41 24 (.slice none 0 0) Try.underlying68 (by kernel_rfl) (by decide) rfl rfl _ _ rfl w5 wk.heap.size _ k (rowL k E') _ rfl t16 (by omega) hks rfl rfl ?_; intro g8 cap8 w8 ho8 hb8 hg8 _)
          have st := Lib.hid (ChI.push t1 t2 hB2 b5 o5 hb8 hg8 ho8)
          clear t1 t2 hB2 b5 o5 hb8 hg8 ho8 t16 s1 s2 s3 B1 KA
          go_wp2
          go_roundw
          case rel => exact ⟨k + 1, _, _, by omega, by go_num, rfl, st.out⟩
          case measure => simp [intOf] <;> omega
        · obtain rfl : k = n := by omega
          have s12 := rowOwn_next s1 hB2 (Nat.le_refl _)
          have hbs : wb.heap.size ≤ wr.heap.size := Nat.le_trans B1.size hB2.size
          go_wp2_with (at_builtin; refine apVl 154 68 24 (.slice none 0 0) Try.underlying154 (by kernel_rfl) (by decide) rfl rfl _ _ rfl wr wb.heap.size _ i (rowL i U) _ rfl s12 (by omega) hbs rfl rfl ?_; intro g8 cap8 w8 ho8 hb8 hg8 _)
          have st := Lib.hid (ChO.push s1 s2 s3 B1 st hb8 hg8 ho8)
          clear s1 s2 s3 B1 hb8 hg8 ho8 s12 KA KA2 hB2 c0 c1 c2
          go_wp2
          go_roundw
          case rel => exact ⟨i + 1, by omega, by go_num, st.out⟩
          case measure => simp [intOf] <;> omega
    · obtain rfl : i = n := by omega
      obtain ⟨U2, E2, hpm⟩ := ChO.finB (p := p) (B := B) (T := T) ⟨U, E, s1, s2, s3, B1⟩ (fun i k hi hk => by rw [ET.out]; exact Nat.le_trans (nl_len p _) (HLL.out _ (at_lt rfl hi hk)))
      have B2 := HB0.out.trans (B1.mono HB0.out.size)
      clear s1 s2 s3 B1 KA
      go_wp2_with fail
      refine (rf22_Det p B HP.out i hn hB _ _ U2 E2 _ hpm).mono ?_; rintro e w9 ⟨r9, z9, rfl, o9, n9, v9, l9, b9⟩
      have V9 := Lib.hid (show pl p z9 = dn i (aT p i xs) by rw [v9, ET.out]; exact dn_congr i fun a b _ _ => nl_pl p _)
      have B9 := B2.trans (b9.mono B2.size)
      have o9' := o9.mono B2.size
      clear v9 o9 b9 hpm B2 c0
      go_wp2
      go_ret
      exact ⟨r9, z9, rfl, o9', n9, V9.out, l9, B9⟩

end Go.Proofs.Ytkmfhabgempjiaa
/- What the laws of layer 23 begin with: awake; a matrix of polynomials as an argument. -/
namespace Go.Proofs.Ytkmfhabgempjiaa
open Go.RowKit

open Go.ChangeShapes Go.WideShapes Go.ChangeAt Go.RowKit Go.Deep Go.Joins
section
variable {H : Type} {enc : TypeId × Value → H} {w : World} {base : Nat} {spare : Nat → Bool} {held : Bool}
set_option maxRecDepth 100000 in
theorem open_xm {r : Reach} {b0 : Nat} {v : Value} {d : DataW H} {p : List MemPlace} (hv : Value.okWide Try.prog w r b0 24 v) (h : DataW.Trod enc Try.prog w base spare held 24 v d p) :
    ∃ (R C : Int) (qs : List (List Nat)), Xm w v R C qs ∧ (-9223372036854775808 ≤ R ∧ R ≤ 9223372036854775807) ∧ (-9223372036854775808 ≤ C ∧ C ≤ 9223372036854775807) := by
  obtain ⟨v0, v1, v2, y0, y1, y2, n, rfl, -, -, h0, h1, h2⟩ := open_agg3 Try.underlying24 (by kernel_rfl) (by kernel_rfl) hv h
  obtain ⟨R, e0, -, w0⟩ := DataW.trod_int Try.underlying3 h0
  obtain ⟨C, e1, -, w1⟩ := DataW.trod_int Try.underlying3 h1
  obtain ⟨qs, hq⟩ := trod_ns Try.underlying22 Try.underlying43 Try.underlying27 (by kernel_rfl) (by kernel_rfl) h2
  simp at e0 e1; subst e0 e1
  exact ⟨R, C, qs, ⟨v2, rfl, hq⟩, wf_i64_bounds w0, wf_i64_bounds w1⟩
end

end Go.Proofs.Ytkmfhabgempjiaa
