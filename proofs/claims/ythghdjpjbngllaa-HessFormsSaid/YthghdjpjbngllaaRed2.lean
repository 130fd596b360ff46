/- Plain algebra: the reduced form, column by column; what it tells of rank, determinant, inverse, solutions, kernel. -/
import Derived.Test.YthghdjpjbngllaaRed
namespace Go.Proofs.Ythghdjpjbngllaa
open CR

section
variable {p : Nat} {n m : Nat}

/-- Rows that are reduced as far as a column. -/
structure RedI (n m col : Nat) (W0 W : Nat → Nat → Zp p) (P : List Nat) (d : Zp p) : Prop where
  rq : Rq n m W0 W
  det : dn n W0 = d * dn n W
  len : P.length ≤ n
  lt : ∀ t, t < P.length → P.getD t 0 < col
  inc : ∀ s t, s < t → t < P.length → P.getD s 0 < P.getD t 0
  unit : ∀ t i, t < P.length → i < n → W i (P.getD t 0) = if i = t then 1 else 0
  low : ∀ i k, P.length ≤ i → i < n → k < col → W i k = 0
  left : ∀ t k, t < P.length → k < P.getD t 0 → W t k = 0

theorem RedI.start (W : Nat → Nat → Zp p) : RedI n m 0 W W [] 1 :=
  ⟨Rq.refl W, (one_mul _).symm, Nat.zero_le _, fun t h => by simp at h, fun s t _ h => by simp at h, fun t i h => by simp at h, fun i k _ _ h => by omega, fun t k h => by simp at h⟩

theorem RedI.none {col : Nat} {W0 W : Nat → Nat → Zp p} {P : List Nat} {d : Zp p} (h : RedI n m col W0 W P d) (h0 : ∀ i, P.length ≤ i → i < n → W i col = 0) : RedI n m (col + 1) W0 W P d :=
  ⟨h.rq, h.det, h.len, fun t ht => Nat.lt_succ_of_lt (h.lt t ht), h.inc, h.unit, fun i k h1 h2 h3 => by
    by_cases e : k = col
    · rw [e]; exact h0 i h1 h2
    · exact h.low i k h1 h2 (by omega), h.left⟩

/-- The rows behind a column with a pivot. -/
def elm (W : Nat → Nat → Zp p) (t i col : Nat) (c : Zp p) : Nat → Nat → Zp p := tks (scl (swp W t i) t c) t (fun r => swp W t i r col)
theorem elm_top (W : Nat → Nat → Zp p) (t i col : Nat) (c : Zp p) (k : Nat) : elm W t i col c t k = W i k * c := by
  unfold elm tks scl swp; rw [if_pos rfl, if_pos rfl, if_pos rfl]
theorem elm_ne (W : Nat → Nat → Zp p) {t i col : Nat} (c : Zp p) {r : Nat} (h : r ≠ t) (k : Nat) : elm W t i col c r k = swp W t i r k - swp W t i r col * (W i k * c) := by
  unfold elm tks scl; rw [if_neg h, if_neg h, if_pos rfl]
  congr 2
  show swp W t i t k * c = _
  congr 1; unfold swp; rw [if_pos rfl]

theorem getD_app {P : List Nat} {x t : Nat} (h : t < (P ++ [x]).length) : (t < P.length ∧ (P ++ [x]).getD t 0 = P.getD t 0) ∨ (t = P.length ∧ (P ++ [x]).getD t 0 = x) := by
  by_cases e : t < P.length
  · exact .inl ⟨e, by simp [List.getD, List.getElem?_append_left e]⟩
  · have : t = P.length := by simp at h; omega
    subst this; exact .inr ⟨rfl, by simp [List.getD]⟩

theorem swp_self (W : Nat → Nat → Zp p) (i : Nat) : swp W i i = W := by
  funext a; unfold swp; split
  · rename_i h; rw [h]
  · rfl

theorem RedI.step {col i : Nat} {W0 W : Nat → Nat → Zp p} {P : List Nat} {d c : Zp p} (h : RedI n m col W0 W P d) (hi : P.length ≤ i) (hin : i < n) (hc : W i col * c = 1) :
    RedI n m (col + 1) W0 (elm W P.length i col c) (P ++ [col]) ((if i = P.length then d else -d) * W i col) := by
  have ht : P.length < n := by omega
  have hc' : c * W i col = 1 := by rw [mul_comm]; exact hc
  have hS : ∀ s, s < P.length → ∀ a, a < n → swp W P.length i a (P.getD s 0) = if a = s then 1 else 0 := by
    intro s hs a ha
    unfold swp
    by_cases h1 : a = P.length
    · rw [if_pos h1, h.unit s i hs hin, if_neg (by omega), if_neg (by omega)]
    · rw [if_neg h1]
      by_cases h2 : a = i
      · rw [if_pos h2, h.unit s _ hs ht, if_neg (by omega), if_neg (by omega)]
      · rw [if_neg h2, h.unit s a hs ha]
  have hL : ∀ a k, P.length ≤ a → a < n → k < col → swp W P.length i a k = 0 := by
    intro a k h1 h2 h3
    unfold swp
    split
    · exact h.low i k hi hin h3
    · split
      · exact h.low _ k (Nat.le_refl _) ht h3
      · exact h.low a k h1 h2 h3
  refine ⟨?_, ?_, by simp; omega, ?_, ?_, ?_, ?_, ?_⟩
  · exact ((h.rq.trans (Rq.swp ht hin)).trans (Rq.scl hc')).trans (Rq.tks ht _)
  · rw [h.det]
    have e : dn n (elm W P.length i col c) = dn n (swp W P.length i) * c := by unfold elm; rw [dn_tks ht, dn_scl ht]
    rw [e]
    by_cases e1 : i = P.length
    · rw [if_pos e1, e1, swp_self, ← e1]
      have : d * W i col * (dn n W * c) = d * dn n W * (W i col * c) := by_ring [d, W i col, dn n W, c] (X0 * X1 * (X2 * X3)) (X0 * X2 * (X1 * X3)) rfl
      rw [this, hc, mul_one]
    · rw [if_neg e1, dn_swp (fun e => e1 e.symm) ht hin]
      have : -d * W i col * (-dn n W * c) = d * dn n W * (W i col * c) := by_ring [d, W i col, dn n W, c] (-X0 * X1 * (-X2 * X3)) (X0 * X2 * (X1 * X3)) rfl
      rw [this, hc, mul_one]
  · intro t htl
    rcases getD_app htl with ⟨h1, h2⟩ | ⟨h1, h2⟩
    · rw [h2]; exact Nat.lt_succ_of_lt (h.lt t h1)
    · rw [h2]; exact Nat.lt_succ_self _
  · intro s t hst htl
    rcases getD_app htl with ⟨h1, h2⟩ | ⟨h1, h2⟩
    · rcases getD_app (show s < (P ++ [col]).length by simp at htl ⊢; omega) with ⟨k1, k2⟩ | ⟨k1, k2⟩
      · rw [h2, k2]; exact h.inc s t hst h1
      · omega
    · rcases getD_app (show s < (P ++ [col]).length by simp at htl ⊢; omega) with ⟨k1, k2⟩ | ⟨k1, k2⟩
      · rw [h2, k2]; exact h.lt s k1
      · omega
  · intro t a htl ha
    rcases getD_app htl with ⟨h1, h2⟩ | ⟨h1, h2⟩
    · rw [h2]
      have e0 : W i (P.getD t 0) = 0 := by rw [h.unit t i h1 hin, if_neg (by omega)]
      by_cases e : a = P.length
      · rw [e, elm_top, e0, zero_mul, if_neg (by omega)]
      · rw [elm_ne _ _ e, e0, hS t h1 a ha, zero_mul, mul_zero, sub_zero]
    · rw [h2, h1]
      by_cases e : a = P.length
      · rw [e, elm_top, hc, if_pos rfl]
      · rw [elm_ne _ _ e, hc, mul_one, sub_self, if_neg e]
  · intro a k h1 h2 h3
    rw [List.length_append, List.length_singleton] at h1
    have ea : a ≠ P.length := by omega
    rw [elm_ne _ _ ea]
    by_cases e : k = col
    · rw [e, hc, mul_one, sub_self]
    · rw [hL a k (by omega) h2 (by omega), h.low i k hi hin (by omega), zero_mul, mul_zero, sub_zero]
  · intro t k htl hk
    rcases getD_app htl with ⟨h1, h2⟩ | ⟨h1, h2⟩
    · rw [h2] at hk
      have := h.lt t h1
      rw [elm_ne _ _ (by omega), h.low i k hi hin (by omega), zero_mul, mul_zero, sub_zero]
      unfold swp; rw [if_neg (by omega), if_neg (by omega)]
      exact h.left t k h1 hk
    · rw [h2] at hk
      rw [h1, elm_top, h.low i k hi hin hk, zero_mul]

/-- Rows that are reduced, of so many columns. -/
structure RedF (n m C : Nat) (W0 W : Nat → Nat → Zp p) (P : List Nat) (d : Zp p) : Prop where
  cols : ∃ col, col ≤ C ∧ RedI n m col W0 W P d ∧ (P.length = n ∨ col = C)

section
variable {C : Nat} {W0 W : Nat → Nat → Zp p} {P : List Nat} {d : Zp p}
theorem RedF.rq (h : RedF n m C W0 W P d) : Rq n m W0 W := by obtain ⟨_, _, h, _⟩ := h.cols; exact h.rq
theorem RedF.det (h : RedF n m C W0 W P d) : dn n W0 = d * dn n W := by obtain ⟨_, _, h, _⟩ := h.cols; exact h.det
theorem RedF.len (h : RedF n m C W0 W P d) : P.length ≤ n := by obtain ⟨_, _, h, _⟩ := h.cols; exact h.len
theorem RedF.lt (h : RedF n m C W0 W P d) (t : Nat) (ht : t < P.length) : P.getD t 0 < C := by
  obtain ⟨_, hc, h, _⟩ := h.cols; have := h.lt t ht; omega
theorem RedF.inc (h : RedF n m C W0 W P d) : ∀ s t, s < t → t < P.length → P.getD s 0 < P.getD t 0 := by obtain ⟨_, _, h, _⟩ := h.cols; exact h.inc
theorem RedF.unit (h : RedF n m C W0 W P d) : ∀ t i, t < P.length → i < n → W i (P.getD t 0) = if i = t then 1 else 0 := by obtain ⟨_, _, h, _⟩ := h.cols; exact h.unit
theorem RedF.low (h : RedF n m C W0 W P d) (i k : Nat) (hi : P.length ≤ i) (hn : i < n) (hk : k < C) : W i k = 0 := by
  obtain ⟨_, _, h, e | e⟩ := h.cols
  · omega
  · exact h.low i k hi hn (by omega)

/-- Increasing numbers. -/
def Incr (P : List Nat) (C : Nat) : Prop := (∀ t, t < P.length → P.getD t 0 < C) ∧ ∀ s t, s < t → t < P.length → P.getD s 0 < P.getD t 0
theorem RedF.incr (h : RedF n m C W0 W P d) : Incr P C := ⟨h.lt, h.inc⟩
theorem Incr.inj {P : List Nat} {C s t : Nat} (h : Incr P C) (hs : s < P.length) (ht : t < P.length) (e : P.getD s 0 = P.getD t 0) : s = t := by
  rcases Nat.lt_trichotomy s t with hl | hl | hl
  · have := h.2 s t hl ht; omega
  · exact hl
  · have := h.2 t s hl hs; omega
theorem Incr.ge {P : List Nat} {C : Nat} (h : Incr P C) : ∀ t, t < P.length → t ≤ P.getD t 0
  | 0, _ => Nat.zero_le _
  | t + 1, ht => by
    have := h.ge t (by omega)
    have := h.2 t (t + 1) (by omega) ht
    omega
theorem Incr.len {P : List Nat} {C : Nat} (h : Incr P C) : P.length ≤ C := by
  rcases Nat.eq_zero_or_pos P.length with e | e
  · omega
  · have h1 := h.ge (P.length - 1) (by omega)
    have h2 := h.1 (P.length - 1) (by omega)
    omega
theorem Incr.full {P : List Nat} {C : Nat} (h : Incr P C) (hl : P.length = C) : ∀ t, t < C → P.getD t 0 = t := by
  have H : ∀ k, k < C → P.getD (C - 1 - k) 0 ≤ C - 1 - k := by
    intro k
    induction k with
    | zero => intro hk; have := h.1 (C - 1) (by omega); rw [Nat.sub_zero]; omega
    | succ k ih =>
      intro hk
      have h1 := ih (by omega)
      have h2 := h.2 (C - 1 - (k + 1)) (C - 1 - k) (by omega) (by omega)
      omega
  intro t ht
  have h1 := h.ge t (by omega)
  have h2 := H (C - 1 - t) (by omega)
  rw [show C - 1 - (C - 1 - t) = t by omega] at h2
  omega
theorem Incr.init {P : List Nat} {C x : Nat} (h : Incr (P ++ [x]) (C + 1)) : Incr P x := by
  have hx : (P ++ [x]).getD P.length 0 = x := by simp [List.getD]
  have hg : ∀ t, t < P.length → (P ++ [x]).getD t 0 = P.getD t 0 := fun t ht => by simp [List.getD, List.getElem?_append_left ht]
  refine ⟨fun t ht => ?_, fun s t hst ht => ?_⟩
  · have := h.2 t P.length ht (by simp); rw [hx, hg t ht] at this; exact this
  · have := h.2 s t hst (by simp; omega); rw [hg s (by omega), hg t ht] at this; exact this

/-- A sum whose values are noughts but at some places. -/
theorem Incr.sum {R : Type} [CR R] : ∀ (C : Nat) {P : List Nat} {f : Nat → R}, Incr P C → (∀ i, i < C → (∀ t, t < P.length → P.getD t 0 ≠ i) → f i = 0) → sm C f = sm P.length (fun t => f (P.getD t 0))
  | 0, P, f, h, _ => by
    have := h.len
    obtain rfl : P = [] := List.length_eq_zero_iff.1 (by omega)
    rfl
  | C + 1, P, f, h, h0 => by
    rcases List.eq_nil_or_concat P with rfl | ⟨Q, x, rfl⟩
    · exact sm_zero' fun i hi => h0 i hi (fun t ht => by simp at ht)
    · rw [List.concat_eq_append] at h h0 ⊢
      have hx : (Q ++ [x]).getD Q.length 0 = x := by simp [List.getD]
      have hg : ∀ t, t < Q.length → (Q ++ [x]).getD t 0 = Q.getD t 0 := fun t ht => by simp [List.getD, List.getElem?_append_left ht]
      have hxC := h.1 Q.length (by simp)
      rw [hx] at hxC
      have hQ := h.init
      rw [List.length_append, List.length_singleton]
      simp only [sm]
      rw [hx]
      by_cases e : x = C
      · subst e
        congr 1
        rw [Incr.sum x hQ (fun i hi hn => h0 i (by omega) (fun t ht => by
          rcases getD_app ht with ⟨h1, h2⟩ | ⟨h1, h2⟩
          · rw [h2]; exact hn t h1
          · rw [h2]; omega))]
        exact sm_congr fun t ht => by rw [hg t ht]
      · have hQx : Incr (Q ++ [x]) C := ⟨fun t ht => by
          rcases getD_app ht with ⟨h1, h2⟩ | ⟨h1, h2⟩
          · rw [h2]; have := hQ.1 t h1; omega
          · rw [h2]; omega, h.2⟩
        rw [h0 C (by omega) (fun t ht => Nat.ne_of_lt (hQx.1 t ht)), add_zero, Incr.sum C hQx (fun i hi hn => h0 i (by omega) hn), List.length_append, List.length_singleton]
        simp only [sm]
        rw [hx]

theorem rq_row (h : Rq n m W0 W) : ∃ T T' : MT (Zp p) n n, Inv T T' ∧ ∀ i k, i < n → k < m → W i k = sm n (fun j => T.e i j * W0 j k) := by
  obtain ⟨T, T', h1, h2⟩ := h
  refine ⟨T, T', h1, fun i k hi hk => ?_⟩
  have := congrArg (fun M : MT (Zp p) n m => M.e i k) h2
  simp only [MT.e_mul] at this
  rw [MT.of_e _ hi hk] at this
  rw [this]; exact sm_congr fun j hj => by rw [MT.of_e _ hj hk]

/-- Rows of which none hangs on the others have as many pivots. -/
theorem RedF.full (h : RedF n m C W0 W P d) (hC : C ≤ m) (h01 : (1 : Zp p) ≠ 0) (hf : ∀ x : Nat → Zp p, (∀ k, k < C → sm n (fun j => x j * W0 j k) = 0) → ∀ j, j < n → x j = 0) : P.length = n := by
  rcases Nat.lt_or_ge P.length n with hl | hl
  · exfalso
    obtain ⟨T, T', hi, hr⟩ := rq_row h.rq
    have h0 := hf (fun j => T.e P.length j) (fun k hk => by rw [← hr P.length k hl (by omega)]; exact h.low _ k (Nat.le_refl _) hl hk)
    apply h01
    have := congrArg (fun M : MT (Zp p) n n => M.e P.length P.length) hi.1
    simp only [MT.e_mul] at this
    rw [MT.e_one hl hl, if_pos rfl] at this
    rw [← this]
    exact sm_zero' fun j hj => by rw [h0 j hj, zero_mul]
  · have := h.len; omega

theorem RedF.dfull (h : RedF n m n W0 W P d) (hl : P.length = n) : dn n W0 = d := by
  have e : dn n W = 1 := by
    rw [← dn_one n]
    refine dn_congr n fun i k hi hk => ?_
    have h1 := h.unit k i (by omega) hi
    rw [h.incr.full hl k hk] at h1
    exact h1
  rw [h.det, e, mul_one]
theorem RedF.dless (h : RedF n m n W0 W P d) (hl : P.length ≠ n) : dn n W0 = 0 := by
  have h1 := h.len
  rw [h.det, dn_row0 (i := P.length) (by omega) (fun k hk => h.low P.length k (Nat.le_refl _) (by omega) hk), mul_zero]
end
end

end Go.Proofs.Ythghdjpjbngllaa
