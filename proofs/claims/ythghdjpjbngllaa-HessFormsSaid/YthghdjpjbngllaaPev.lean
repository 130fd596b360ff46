/- Plain algebra: polynomials at matrices; every matrix makes noughts of its characteristic polynomial. -/
import Derived.Test.YthghdjpjbngllaaRed3
import Derived.Test.YthghdjpjbngllaaFdeg
namespace Go.Proofs.Ythghdjpjbngllaa
open CR

section
variable {R : Type} [CR R] {n m l : Nat}

/-- The value of a polynomial, as far as an element. -/
def pvN (f : Pol R) (A : MT R n n) (N : Nat) : MT R n n := ms N fun i => (A.pow i).sc (f.c i)
/-- The value of a polynomial at a matrix. -/
noncomputable def pev (f : Pol R) (A : MT R n n) : MT R n n := pvN f A (Classical.choose f.fin)

theorem pvN_more (f : Pol R) (A : MT R n n) {N : Nat} (h : f.dlt N) : ∀ k, pvN f A (N + k) = pvN f A N
  | 0 => rfl
  | k + 1 => by
    show ms (N + k) _ + (A.pow (N + k)).sc (f.c (N + k)) = _
    rw [h (N + k) (by omega), MT.zero_sc, MT.add_zero]
    exact pvN_more f A h k
theorem pev_eq {f : Pol R} {N : Nat} (h : f.dlt N) (A : MT R n n) : pev f A = pvN f A N := by
  have h0 : f.dlt (Classical.choose f.fin) := Classical.choose_spec f.fin
  unfold pev
  rcases Nat.le_total N (Classical.choose f.fin) with hl | hl
  · obtain ⟨k, hk⟩ := Nat.exists_eq_add_of_le hl
    rw [hk]; exact pvN_more f A h k
  · obtain ⟨k, hk⟩ := Nat.exists_eq_add_of_le hl
    rw [hk]; exact (pvN_more f A h0 k).symm
theorem pev_zero (A : MT R n n) : pev (0 : Pol R) A = 0 := by rw [pev_eq (N := 0) (fun _ _ => rfl)]; rfl
theorem pev_add (f g : Pol R) (A : MT R n n) : pev (f + g) A = pev f A + pev g A := by
  obtain ⟨a, ha⟩ := f.fin
  obtain ⟨b, hb⟩ := g.fin
  have ha' : f.dlt (a + b) := fun i hi => ha i (by omega)
  have hb' : g.dlt (a + b) := fun i hi => hb i (by omega)
  have hc : (f + g).dlt (a + b) := fun i hi => by rw [Pol.c_add, ha' i hi, hb' i hi, zero_add]
  rw [pev_eq ha', pev_eq hb', pev_eq hc]
  unfold pvN
  rw [← ms_add]
  exact ms_congr fun i _ => by rw [Pol.c_add, MT.add_sc]
theorem pev_mon (a : R) (k : Nat) (A : MT R n n) : pev (mon a k) A = (A.pow k).sc a := by
  rw [pev_eq (N := k + 1) (fun i hi => by rw [c_mon, if_neg (by omega)])]
  unfold pvN
  rw [ms_one (a := k) (by omega) (fun j _ hj => by rw [c_mon, if_neg hj, MT.zero_sc]), c_mon, if_pos rfl]
theorem pev_one (A : MT R n n) : pev (1 : Pol R) A = MT.one n := by rw [Pol.one_def, pev_mon, MT.one_sc]; rfl
theorem pev_neg (f : Pol R) (A : MT R n n) : pev (-f) A = -pev f A := by
  have h : pev (-f) A + pev f A = 0 := by rw [← pev_add, neg_add, pev_zero]
  have := MT.add_neg (pev f A)
  rw [← MT.zero_add (-pev f A), ← h, MT.add_assoc, this, MT.add_zero]
theorem pev_sub (f g : Pol R) (A : MT R n n) : pev (f - g) A = pev f A - pev g A := by rw [sub_eq, pev_add, pev_neg, MT.sub_eq]
theorem pev_mul (f g : Pol R) (A : MT R n n) : pev (f * g) A = pev f A * pev g A := by
  refine Pol.ind (fun f => pev (f * g) A = pev f A * pev g A) ?_ ?_ ?_ f
  · rw [zero_mul, pev_zero, MT.zero_mul]
  · intro a k
    refine Pol.ind (fun g => pev (mon a k * g) A = pev (mon a k) A * pev g A) ?_ ?_ ?_ g
    · rw [mul_zero, pev_zero, MT.mul_zero]
    · intro b j
      rw [mon_mul, pev_mon, pev_mon, pev_mon, MT.sc_mul, MT.mul_sc, MT.sc_sc, MT.pow_add]
    · intro f g h1 h2; rw [mul_add, pev_add, pev_add, MT.mul_add, h1, h2]
  · intro f h h1 h2; rw [add_mul, pev_add, pev_add, MT.add_mul, h1, h2]
theorem pev_comm (f g : Pol R) (A : MT R n n) : pev f A * pev g A = pev g A * pev f A := by rw [← pev_mul, mul_comm, pev_mul]
theorem pev_dv {f g : Pol R} {A : MT R n n} (h : Dv f g) (k : pev f A = 0) : pev g A = 0 := by
  obtain ⟨c, rfl⟩ := h
  rw [pev_mul, k, MT.zero_mul]
theorem pev_dvc {f g : Pol R} {A : MT R n n} {v : MT R n m} (h : Dv f g) (k : pev f A * v = 0) : pev g A * v = 0 := by
  obtain ⟨c, rfl⟩ := h
  rw [mul_comm, pev_mul, MT.mul_assoc, k, MT.mul_zero]
theorem pev_conj {A B P : MT R n n} (h : P * A = B * P) (f : Pol R) : P * pev f A = pev f B * P := by
  refine Pol.ind (fun f => P * pev f A = pev f B * P) ?_ ?_ ?_ f
  · rw [pev_zero, pev_zero, MT.mul_zero, MT.zero_mul]
  · intro a k; rw [pev_mon, pev_mon, MT.mul_sc, MT.sc_mul, MT.pow_conj h]
  · intro f g h1 h2; rw [pev_add, pev_add, MT.mul_add, MT.add_mul, h1, h2]
theorem pev_col {f : Pol R} {N : Nat} (h : f.dlt N) (A : MT R n n) (v : MT R n m) : pev f A * v = ms N fun i => (A.pow i * v).sc (f.c i) := by
  rw [pev_eq h]; unfold pvN; rw [mul_ms]; exact ms_congr fun i _ => by rw [MT.sc_mul]

/-- The linear form of a row's place. -/
theorem dn_upd_sum (A : Nat → Nat → R) {i : Nat} (hi : i < n) (r : Nat → R) : dn n (upd A i r) = sm n (fun j => r j * dn n (upd A i (one1 j))) := by
  have H : ∀ N, dn n (upd A i (fun k => sm N (fun j => r j * one1 j k))) = sm N (fun j => r j * dn n (upd A i (one1 j))) := by
    intro N
    induction N with
    | zero => exact dn_row0 hi (fun k _ => by rw [upd_same]; rfl)
    | succ N ih =>
      have e := dn_lin n A i hi 1 (r N) (fun k => sm N (fun j => r j * one1 j k)) (one1 N)
      rw [ih, one_mul] at e
      rw [show sm (N + 1) (fun j => r j * dn n (upd A i (one1 j))) = sm N (fun j => r j * dn n (upd A i (one1 j))) + r N * dn n (upd A i (one1 N)) from rfl, ← e]
      congr 2
      funext k
      show sm N _ + _ = _
      rw [one_mul]
  rw [← H n]
  refine dn_congr n fun a k _ hk => ?_
  unfold upd
  split
  · have : sm n (fun j => r j * one1 j k) = r k := by
      rw [sm_one hk (fun j _ hj => by unfold one1; rw [if_neg hj, mul_zero])]
      unfold one1; rw [if_pos rfl, mul_one]
    exact this.symm
  · rfl

/-- The adjugate. -/
def adj (A : MT R n n) : MT R n n := MT.of n n fun j k => dn n (upd A.e k (one1 j))
theorem mul_adj (A : MT R n n) : A * adj A = (MT.one n).sc A.det := MT.ext fun i k hi hk => by
  rw [MT.e_mul, MT.e_sc, MT.e_one hi hk, sm_congr (g := fun j => A.e i j * dn n (upd A.e k (one1 j))) (fun j hj => by unfold adj; rw [MT.of_e _ hj hk]), ← dn_upd_sum A.e hk]
  by_cases e : i = k
  · subst e; rw [upd_self, if_pos rfl, mul_one]; rfl
  · rw [if_neg e, mul_zero]
    exact dn_rep' e hi hk (by rw [upd_same, upd_ne _ _ e])

theorem sm_c (f : Nat → Pol R) (t : Nat) : ∀ N, (sm N f).c t = sm N (fun j => (f j).c t)
  | 0 => rfl
  | N + 1 => by simp only [sm]; rw [Pol.c_add, sm_c f t N]

/-- x less a matrix. -/
def XA (A : MT R n n) : MT (Pol R) n n := MT.of n n fun i k => (if i = k then mon 1 1 else 0) - mon (A.e i k) 0
/-- The characteristic polynomial. -/
def chi (A : MT R n n) : Pol R := (XA A).det
/-- The matrix of the elements of a power. -/
def cf (B : MT (Pol R) n m) (t : Nat) : MT R n m := ⟨fun i k => (B.e i k).c t, fun i k h => by rw [B.out i k h]; rfl⟩
theorem cf_e (B : MT (Pol R) n m) (t i k : Nat) : (cf B t).e i k = (B.e i k).c t := rfl

theorem c_mon1 (f : Pol R) (t : Nat) : (mon (1 : R) 1 * f).c t = if t = 0 then 0 else f.c (t - 1) := by
  rw [Pol.c_mul]
  cases t with
  | zero => rw [if_pos rfl]; simp only [sm]; rw [c_mon, if_neg (by omega), zero_mul, zero_add]
  | succ t =>
    rw [if_neg (by omega), sm_one (k := 1) (by omega) (fun i _ hi => by rw [c_mon, if_neg hi, zero_mul]), c_mon, if_pos rfl, one_mul]
theorem c_mon0 (a : R) (f : Pol R) (t : Nat) : (mon a 0 * f).c t = a * f.c t := by
  rw [Pol.c_mul, sm_one (k := 0) (by omega) (fun i _ hi => by rw [c_mon, if_neg hi, zero_mul]), c_mon, if_pos rfl, Nat.sub_zero]

theorem cf_XA (A : MT R n n) (B : MT (Pol R) n m) (t : Nat) : cf (XA A * B) t = (if t = 0 then 0 else cf B (t - 1)) - A * cf B t := MT.ext fun i k hi hk => by
  rw [cf_e, MT.e_sub, MT.e_mul, MT.e_mul, sm_c]
  have e : sm n (fun j => ((XA A).e i j * B.e j k).c t) = sm n (fun j => (if i = j then (if t = 0 then 0 else (B.e j k).c (t - 1)) else 0) + -(A.e i j * (cf B t).e j k)) := by
    refine sm_congr fun j hj => ?_
    unfold XA
    rw [MT.of_e _ hi hj]
    have e2 : ((if i = j then mon 1 1 else 0) - mon (A.e i j) 0) * B.e j k = (if i = j then mon 1 1 else 0) * B.e j k - mon (A.e i j) 0 * B.e j k :=
      by_ring [if i = j then mon 1 1 else 0, mon (A.e i j) 0, B.e j k] ((X0 - X1) * X2) (X0 * X2 - X1 * X2) rfl
    rw [e2, Pol.c_sub, c_mon0, sub_eq]
    congr 1
    split
    · exact c_mon1 _ _
    · rw [zero_mul]; rfl
  rw [e, sm_add, sm_neg, sm_one (k := i) hi (fun j _ hj => by rw [if_neg (fun e => hj e.symm)]), if_pos rfl, sub_eq]
  congr 1
  split
  · rfl
  · rfl

theorem cf_sc1 (f : Pol R) (t : Nat) : cf ((MT.one n).sc f) t = (MT.one n).sc (f.c t) := MT.ext fun i k hi hk => by
  rw [cf_e, MT.e_sc, MT.e_sc, MT.e_one hi hk, MT.e_one hi hk]
  split
  · rw [mul_one, mul_one]
  · rw [mul_zero, mul_zero]; rfl

theorem MT.bound (B : MT (Pol R) n m) : ∃ N, ∀ t, N ≤ t → cf B t = 0 := by
  have H : ∀ a b, ∃ N, ∀ t, N ≤ t → ∀ i k, i < a → k < b → (B.e i k).c t = 0 := by
    intro a b
    induction a with
    | zero => exact ⟨0, fun t _ i k h => by omega⟩
    | succ a ih =>
      obtain ⟨N1, h1⟩ := ih
      have : ∃ N, ∀ t, N ≤ t → ∀ k, k < b → (B.e a k).c t = 0 := by
        induction b with
        | zero => exact ⟨0, fun t _ k h => by omega⟩
        | succ b ihb =>
          obtain ⟨N2, h2⟩ := ihb (fun t ht i k hi hk => h1 t ht i k hi (by omega))
          obtain ⟨N3, h3⟩ := (B.e a b).fin
          refine ⟨N2 + N3, fun t ht k hk => ?_⟩
          by_cases e : k = b
          · rw [e]; exact h3 t (by omega)
          · exact h2 t (by omega) k (by omega)
      obtain ⟨N2, h2⟩ := this
      refine ⟨N1 + N2, fun t ht i k hi hk => ?_⟩
      by_cases e : i = a
      · rw [e]; exact h2 t (by omega) k hk
      · exact h1 t (by omega) i k (by omega) hk
  obtain ⟨N, hN⟩ := H n m
  exact ⟨N, fun t ht => MT.zero_of fun i k hi hk => hN t ht i k hi hk⟩

/-- A matrix makes noughts of what is made of x less the matrix. -/
theorem pev_of_XA {A : MT R n n} {B : MT (Pol R) n n} {f : Pol R} (h : XA A * B = (MT.one n).sc f) : pev f A = 0 := by
  have hc : ∀ t, (if t = 0 then 0 else cf B (t - 1)) - A * cf B t = (MT.one n).sc (f.c t) := fun t => by rw [← cf_XA, h, cf_sc1]
  have S : ∀ T, pvN f A (T + 1) = -(A.pow (T + 1) * cf B T) := by
    intro T
    induction T with
    | zero =>
      have h0 := hc 0
      rw [if_pos rfl] at h0
      show ms 0 _ + (A.pow 0).sc (f.c 0) = _
      rw [show A.pow 0 = MT.one n from rfl, ← h0, MT.pow_succ, show A.pow 0 = MT.one n from rfl, MT.one_mul, MT.sub_eq]
      show 0 + (0 + -(A * cf B 0)) = _
      rw [MT.zero_add, MT.zero_add]
    | succ T ih =>
      have h1 := hc (T + 1)
      rw [if_neg (by omega), Nat.add_sub_cancel] at h1
      show pvN f A (T + 1) + (A.pow (T + 1)).sc (f.c (T + 1)) = _
      rw [ih, ← MT.mul_sc_one, ← h1, MT.mul_sub, ← MT.mul_assoc, ← MT.pow_succ, MT.sub_eq, ← MT.add_assoc, MT.add_comm (-_), MT.add_neg, MT.zero_add]
  obtain ⟨N, hN⟩ := B.bound
  obtain ⟨M, hM⟩ := f.fin
  have hd : f.dlt (N + M + 1) := fun i hi => hM i (by omega)
  rw [pev_eq hd, S, hN _ (by omega), MT.mul_zero]
  exact MT.zero_of fun i k _ _ => by rw [MT.e_neg, MT.e_zero, neg_zero]

/-- Cayley and Hamilton. -/
theorem cayley (A : MT R n n) : pev (chi A) A = 0 := pev_of_XA (mul_adj (XA A))
end

end Go.Proofs.Ythghdjpjbngllaa
