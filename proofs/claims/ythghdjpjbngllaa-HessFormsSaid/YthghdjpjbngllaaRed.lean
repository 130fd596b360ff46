/- Plain algebra: rows that are reduced, over the whole numbers by a prime. -/
import Derived.Test.YthghdjpjbngllaaMx
import Derived.Test.YthghdjpjbngllaaFermat
namespace Go.Proofs.Ythghdjpjbngllaa
open CR

section
variable {R : Type} [CR R] {n m l : Nat}

/-- Two rows change places. -/
def swp (W : Nat → Nat → R) (i j : Nat) : Nat → Nat → R := fun a => if a = i then W j else if a = j then W i else W a
/-- Multiples of one row are taken out of all others. -/
def tks (W : Nat → Nat → R) (t : Nat) (c : Nat → R) : Nat → Nat → R := fun r k => if r = t then W r k else W r k - c r * W t k
/-- A row is multiplied. -/
def scl (W : Nat → Nat → R) (t : Nat) (c : R) : Nat → Nat → R := fun r k => if r = t then W r k * c else W r k

theorem dn_swp {W : Nat → Nat → R} {i j : Nat} (h : i ≠ j) (hi : i < n) (hj : j < n) : dn n (swp W i j) = -dn n W := by
  have e := dn_mix n W h hi hj 0 1 1 0
  rw [show ((0 : R) * 0 - 1 * 1) * dn n W = -dn n W from by_ring [dn n W] ((0 * 0 - 1 * 1) * X0) (-X0) rfl] at e
  rw [← e]
  refine dn_congr n fun a k _ _ => ?_
  unfold upd swp
  by_cases h1 : a = i
  · rw [if_pos h1, if_neg (fun e => h (h1.symm.trans e)), if_pos h1]
    exact by_ring [W j k, W i k] X0 (0 * X1 + 1 * X0) rfl
  · rw [if_neg h1]
    by_cases h2 : a = j
    · rw [if_pos h2, if_pos h2]
      exact by_ring [W j k, W i k] X1 (1 * X1 + 0 * X0) rfl
    · rw [if_neg h2, if_neg h2, if_neg h1]
theorem dn_scl {W : Nat → Nat → R} {t : Nat} (ht : t < n) (c : R) : dn n (scl W t c) = dn n W * c := by
  have e := dn_scale n W t ht c (W t)
  rw [upd_self, mul_comm] at e
  rw [← e]
  refine dn_congr n fun a k _ _ => ?_
  unfold scl upd
  split
  · rename_i h; subst h; exact mul_comm _ _
  · rfl
theorem dn_tks {W : Nat → Nat → R} {t : Nat} (ht : t < n) (c : Nat → R) : dn n (tks W t c) = dn n W := by
  have H : ∀ j, j ≤ n → dn n (tks W t (fun r => if r < j then c r else 0)) = dn n W := by
    intro j
    induction j with
    | zero =>
      intro _
      refine dn_congr n fun a k _ _ => ?_
      unfold tks; dsimp only; split
      · rfl
      · rw [if_neg (Nat.not_lt_zero _), zero_mul, sub_zero]
    | succ j ih =>
      intro hj
      rw [← ih (by omega)]
      by_cases hjt : j = t
      · refine dn_congr n fun a k _ _ => ?_
        unfold tks; dsimp only; split
        · rfl
        · rename_i h
          by_cases h2 : a < j
          · rw [if_pos h2, if_pos (by omega)]
          · rw [if_neg h2, if_neg (by omega)]
      · have e := dn_lin n (tks W t (fun r => if r < j then c r else 0)) j (by omega) 1 (-c j) (W j) (W t)
        have e0 : dn n (upd (tks W t (fun r => if r < j then c r else 0)) j (W t)) = 0 := by
          refine dn_rep' hjt (by omega) ht ?_
          rw [upd_same, upd_ne _ _ (fun h => hjt h.symm)]
          funext k; unfold tks; rw [if_pos rfl]
        rw [e0, mul_zero, add_zero, one_mul] at e
        have e1 : upd (tks W t (fun r => if r < j then c r else 0)) j (W j) = tks W t (fun r => if r < j then c r else 0) := by
          have := upd_self (tks W t (fun r => if r < j then c r else 0)) j
          rwa [show tks W t (fun r => if r < j then c r else 0) j = W j from by
            funext k; unfold tks; dsimp only; rw [if_neg hjt, if_neg (Nat.lt_irrefl _), zero_mul, sub_zero]] at this
        rw [e1] at e
        rw [← e]
        refine dn_congr n fun a k _ _ => ?_
        unfold upd
        by_cases h : a = j
        · subst h
          rw [if_pos rfl]; unfold tks; dsimp only; rw [if_neg hjt, if_pos (Nat.lt_succ_self _)]
          exact by_ring [W a k, c a, W t k] (X0 - X1 * X2) (1 * X0 + -X1 * X2) rfl
        · rw [if_neg h]; unfold tks; dsimp only; split
          · rfl
          · by_cases h2 : a < j
            · rw [if_pos h2, if_pos (by omega)]
            · rw [if_neg h2, if_neg (by omega)]
  rw [← H n (Nat.le_refl _)]
  refine dn_congr n fun a k ha _ => ?_
  unfold tks; dsimp only; rw [if_pos ha]

/-- Rows that are made of others by an invertible matrix. -/
def Rq (n m : Nat) (W V : Nat → Nat → R) : Prop := ∃ T T' : MT R n n, Inv T T' ∧ MT.of n m V = T * MT.of n m W
theorem Rq.refl (W : Nat → Nat → R) : Rq n m W W := ⟨_, _, Inv.one, (MT.one_mul _).symm⟩
theorem Rq.trans {W V U : Nat → Nat → R} (h : Rq n m W V) (k : Rq n m V U) : Rq n m W U := by
  obtain ⟨T, T', h1, h2⟩ := h
  obtain ⟨S, S', k1, k2⟩ := k
  exact ⟨S * T, T' * S', k1.mul h1, by rw [k2, h2, MT.mul_assoc]⟩
theorem Rq.of {W V : Nat → Nat → R} {f g : Nat → Nat → R} (h1 : Inv (MT.of n n f) (MT.of n n g)) (h : ∀ i k, i < n → k < m → V i k = sm n (fun j => f i j * W j k)) : Rq n m W V :=
  ⟨_, _, h1, MT.ext fun i k hi hk => by
    rw [MT.of_e _ hi hk, MT.e_mul, h i k hi hk]
    exact sm_congr fun j hj => by rw [MT.of_e _ hi hj, MT.of_e _ hj hk]⟩
theorem inv_of {f g : Nat → Nat → R} (h : ∀ i k, i < n → k < n → sm n (fun j => f i j * g j k) = if i = k then 1 else 0) (h' : ∀ i k, i < n → k < n → sm n (fun j => g i j * f j k) = if i = k then 1 else 0) :
    Inv (MT.of n n f) (MT.of n n g) := by
  constructor
  · refine MT.ext fun i k hi hk => ?_
    rw [MT.e_mul, MT.e_one hi hk, ← h i k hi hk]
    exact sm_congr fun j hj => by rw [MT.of_e _ hi hj, MT.of_e _ hj hk]
  · refine MT.ext fun i k hi hk => ?_
    rw [MT.e_mul, MT.e_one hi hk, ← h' i k hi hk]
    exact sm_congr fun j hj => by rw [MT.of_e _ hi hj, MT.of_e _ hj hk]

/-- Two values alone are not nought. -/
theorem sm_two {N a b : Nat} {f : Nat → R} (ha : a < N) (hb : b < N) (hab : a ≠ b) (h : ∀ i, i < N → i ≠ a → i ≠ b → f i = 0) : sm N f = f a + f b := by
  have e : sm N f = sm N (fun i => (if i = a then f a else 0) + (if i = b then f b else 0)) := by
    refine sm_congr fun i hi => ?_
    by_cases h1 : i = a
    · subst h1; rw [if_pos rfl, if_neg hab, add_zero]
    · by_cases h2 : i = b
      · subst h2; rw [if_neg h1, if_pos rfl, zero_add]
      · rw [if_neg h1, if_neg h2, zero_add, h i hi h1 h2]
  rw [e, sm_add, sm_one ha (fun i _ hi => if_neg hi), if_pos rfl, sm_one hb (fun i _ hi => if_neg hi), if_pos rfl]

theorem Rq.swp {W : Nat → Nat → R} {i j : Nat} (hi : i < n) (hj : j < n) : Rq n m W (swp W i j) := by
  have S : ∀ (V : Nat → Nat → R) r k, r < n → sm n (fun t => Go.Proofs.Ythghdjpjbngllaa.swp one1 i j r t * V t k) = Go.Proofs.Ythghdjpjbngllaa.swp V i j r k := by
    intro V r k hr
    have one : ∀ a, a < n → sm n (fun t => one1 a t * V t k) = V a k := fun a ha => one_mm V ha
    unfold Go.Proofs.Ythghdjpjbngllaa.swp
    by_cases h1 : r = i
    · simp only [if_pos h1]; exact one j hj
    · by_cases h2 : r = j
      · simp only [if_neg h1, if_pos h2]; exact one i hi
      · simp only [if_neg h1, if_neg h2]; exact one r hr
  have I : ∀ r k, r < n → k < n → sm n (fun t => Go.Proofs.Ythghdjpjbngllaa.swp (one1 : Nat → Nat → R) i j r t * Go.Proofs.Ythghdjpjbngllaa.swp one1 i j t k) = if r = k then 1 else 0 := by
    intro r k hr _
    rw [S _ r k hr]
    have e3 : Go.Proofs.Ythghdjpjbngllaa.swp (Go.Proofs.Ythghdjpjbngllaa.swp (one1 : Nat → Nat → R) i j) i j r = one1 r := by
      unfold Go.Proofs.Ythghdjpjbngllaa.swp
      by_cases h1 : r = i
      · subst h1; by_cases h2 : j = r
        · subst h2; simp
        · simp [h2]
      · by_cases h2 : r = j
        · subst h2; simp; intro h3; exact fun h4 => (h4 h3).elim
        · simp [h1, h2]
    rw [e3]; rfl
  exact Rq.of (inv_of I I) (fun r k hr _ => (S W r k hr).symm)
theorem Rq.scl {W : Nat → Nat → R} {t : Nat} {c d : R} (h : c * d = 1) : Rq n m W (scl W t c) := by
  have h' : d * c = 1 := by rw [mul_comm]; exact h
  have dg : ∀ (a b : R), a * b = 1 → ∀ r k, r < n → k < n → sm n (fun j => (if r = j then (if r = t then a else 1) else 0) * (if j = k then (if j = t then b else 1) else 0)) = if r = k then 1 else 0 := by
    intro a b hab r k hr hk
    rw [sm_one hr (fun j _ hj => by rw [if_neg (fun e => hj e.symm), zero_mul]), if_pos rfl]
    by_cases e : r = k
    · subst e; rw [if_pos rfl, if_pos rfl]
      split
      · exact hab
      · exact mul_one _
    · rw [if_neg e, if_neg e, mul_zero]
  refine Rq.of (inv_of (dg c d h) (dg d c h')) (fun r k hr hk => ?_)
  rw [sm_one hr (fun j _ hj => by rw [if_neg (fun e => hj e.symm), zero_mul]), if_pos rfl]
  unfold Go.Proofs.Ythghdjpjbngllaa.scl
  split
  · exact mul_comm _ _
  · rw [one_mul]
theorem Rq.tks {W : Nat → Nat → R} {t : Nat} (ht : t < n) (c : Nat → R) : Rq n m W (tks W t c) := by
  have mk : ∀ (d : Nat → R) (V : Nat → Nat → R) r k, r < n → sm n (fun j => Go.Proofs.Ythghdjpjbngllaa.tks one1 t d r j * V j k) = Go.Proofs.Ythghdjpjbngllaa.tks V t d r k := by
    intro d V r k hr
    unfold Go.Proofs.Ythghdjpjbngllaa.tks
    by_cases h : r = t
    · simp only [if_pos h]; exact one_mm V hr
    · simp only [if_neg h]
      have e0 : sm n (fun j => (one1 r j - d r * one1 t j) * V j k) = sm n (fun j => one1 r j * V j k + -d r * (one1 t j * V j k)) := sm_congr fun j _ => by_ring [one1 r j, d r, one1 t j, V j k] ((X0 - X1 * X2) * X3) (X0 * X3 + -X1 * (X2 * X3)) rfl
      rw [e0, sm_add, sm_mul]
      have e1 : sm n (fun j => one1 r j * V j k) = V r k := one_mm V hr
      have e2 : sm n (fun j => one1 t j * V j k) = V t k := one_mm V ht
      rw [e1, e2]
      exact by_ring [V r k, d r, V t k] (X0 + -X1 * X2) (X0 - X1 * X2) rfl
  have I : ∀ (d d' : Nat → R), (∀ r, d r + d' r = 0) → ∀ r k, r < n → k < n → sm n (fun j => Go.Proofs.Ythghdjpjbngllaa.tks (one1 : Nat → Nat → R) t d r j * Go.Proofs.Ythghdjpjbngllaa.tks one1 t d' j k) = if r = k then 1 else 0 := by
    intro d d' hd r k hr _
    rw [mk d _ r k hr]
    have e : Go.Proofs.Ythghdjpjbngllaa.tks (Go.Proofs.Ythghdjpjbngllaa.tks (one1 : Nat → Nat → R) t d') t d r k = one1 r k := by
      unfold Go.Proofs.Ythghdjpjbngllaa.tks
      by_cases h : r = t
      · simp [h]
      · rw [if_neg h, if_neg h, if_pos rfl]
        have := hd r
        have e2 : one1 r k - d' r * one1 t k - d r * one1 t k = one1 r k - (d r + d' r) * one1 t k := by_ring [one1 r k, d' r, one1 t k, d r] (X0 - X1 * X2 - X3 * X2) (X0 - (X3 + X1) * X2) rfl
        rw [e2, this, zero_mul, sub_zero]
    rw [e]; rfl
  exact Rq.of (inv_of (I c (fun r => -c r) (fun r => add_neg _)) (I (fun r => -c r) c (fun r => neg_add _))) (fun r k hr _ => (mk c W r k hr).symm)
end

end Go.Proofs.Ythghdjpjbngllaa
