/- Plain algebra: matrices made of each other have one characteristic polynomial; Hessenberg's form, step by step; its characteristic polynomial. -/
import Derived.Test.YthghdjpjbngllaaZeMz
namespace Go.Proofs.Ythghdjpjbngllaa
open CR

section
variable {R : Type} [CR R] {n m : Nat}

/-- A matrix of elements, as one of polynomials. -/
def cst (A : MT R n m) : MT (Pol R) n m := ⟨fun i k => mon (A.e i k) 0, fun i k h => by rw [A.out i k h]; exact mon_zero 0⟩
theorem cst_e (A : MT R n m) (i k : Nat) : (cst A).e i k = mon (A.e i k) 0 := rfl
theorem mon_sm (f : Nat → R) : ∀ N, mon (sm N f) 0 = sm N (fun j => mon (f j) 0)
  | 0 => mon_zero 0
  | N + 1 => by simp only [sm]; rw [mon_add, mon_sm f N]
theorem cst_mul {l : Nat} (A : MT R n m) (B : MT R m l) : cst (A * B) = cst A * cst B := MT.ext fun i k _ _ => by
  rw [cst_e, MT.e_mul, MT.e_mul, mon_sm]; exact sm_congr fun j _ => by rw [cst_e, cst_e, mon_mul]
theorem cst_one : cst (MT.one n : MT R n n) = MT.one n := MT.ext fun i k hi hk => by
  rw [cst_e, MT.e_one hi hk, MT.e_one hi hk]
  split
  · rfl
  · exact mon_zero 0
theorem XA_eq (A : MT R n n) : XA A = (MT.one n).sc (mon 1 1) - cst A := MT.ext fun i k hi hk => by
  unfold XA; rw [MT.of_e _ hi hk, MT.e_sub, MT.e_sc, MT.e_one hi hk, cst_e]
  congr 1
  split
  · rw [mul_one]
  · rw [mul_zero]
theorem XA_conj {A H P : MT R n n} (h : P * A = H * P) : cst P * XA A = XA H * cst P := by
  rw [XA_eq, XA_eq, MT.mul_sub, MT.sub_mul, MT.mul_sc_one, MT.sc_one_mul, ← cst_mul, ← cst_mul, h]
/-- Matrices that are made of each other have one characteristic polynomial. -/
theorem chi_conj {A H P X : MT R n n} (hi : Inv P X) (h : P * A = H * P) : chi A = chi H := by
  have e := congrArg MT.det (XA_conj h)
  rw [MT.det_mul, MT.det_mul] at e
  have hd : (cst P).det * (cst X).det = 1 := by rw [← MT.det_mul, ← cst_mul, hi.1, cst_one, MT.det_one]
  have e2 : (cst X).det * ((cst P).det * (XA A).det) = (cst X).det * ((XA H).det * (cst P).det) := by rw [e]
  have e3 : (cst X).det * ((cst P).det * (XA A).det) = (XA A).det := by
    rw [← mul_assoc, mul_comm (cst X).det, hd, one_mul]
  have e4 : (cst X).det * ((XA H).det * (cst P).det) = (XA H).det := by
    rw [mul_left_comm, mul_comm (cst X).det, hd, mul_one]
  unfold chi
  rw [← e3, e2, e4]

/-- Two numbers change places. -/
def tsp (i k a : Nat) : Nat := if a = i then k else if a = k then i else a
theorem tsp_lt {i k a : Nat} (hi : i < n) (hk : k < n) (ha : a < n) : tsp i k a < n := by
  unfold tsp; split
  · exact hk
  · split <;> assumption
theorem tsp_tsp (i k a : Nat) : tsp i k (tsp i k a) = a := by
  unfold tsp
  by_cases h1 : a = i
  · subst h1; by_cases h2 : k = a
    · subst h2; simp
    · simp [h2]
  · by_cases h2 : a = k
    · subst h2; simp [h1]
    · simp [h1, h2]
theorem tsp_eq (i k : Nat) {a b : Nat} : tsp i k a = b ↔ a = tsp i k b := ⟨fun h => by rw [← h, tsp_tsp], fun h => by rw [h, tsp_tsp]⟩
/-- Rows and columns change places. -/
def hsw (H : Nat → Nat → R) (i k : Nat) : Nat → Nat → R := fun a b => H (tsp i k a) (tsp i k b)
def psw (P : Nat → Nat → R) (i k : Nat) : Nat → Nat → R := fun a b => P (tsp i k a) b
/-- A multiple of the row k is taken out of the row i; as many of the column i are put to the column k. -/
def rcl (H : Nat → Nat → R) (i k : Nat) (c : R) : Nat → Nat → R := fun a b => if a = i then H a b - c * H k b else H a b
def hcl (H : Nat → Nat → R) (i k : Nat) (c : R) : Nat → Nat → R := fun a b => if b = k then rcl H i k c a k + c * rcl H i k c a i else rcl H i k c a b

/-- H is made of A by P. -/
def Sim (A : MT R n n) (H P : Nat → Nat → R) : Prop := (∃ X, Inv (MT.of n n P) X) ∧ MT.of n n P * A = MT.of n n H * MT.of n n P

theorem Sim.step {A E F : MT R n n} {H P H' P' : Nat → Nat → R} (h : Sim A H P) (hE : Inv E F) (hP : MT.of n n P' = E * MT.of n n P) (hH : MT.of n n H' * E = E * MT.of n n H) : Sim A H' P' := by
  obtain ⟨⟨X, hX⟩, h2⟩ := h
  refine ⟨⟨_, by rw [hP]; exact hE.mul hX⟩, ?_⟩
  rw [hP, MT.mul_assoc, h2, ← MT.mul_assoc, ← hH, MT.mul_assoc]

theorem Sim.swap {A : MT R n n} {H P : Nat → Nat → R} (h : Sim A H P) {i k : Nat} (hi : i < n) (hk : k < n) : Sim A (hsw H i k) (psw P i k) := by
  have row : ∀ (V : Nat → Nat → R) a b, a < n → sm n (fun t => (if tsp i k a = t then (1 : R) else 0) * V t b) = V (tsp i k a) b := by
    intro V a b ha
    rw [sm_one (tsp_lt hi hk ha) (fun t _ ht => by rw [if_neg (fun e => ht e.symm), zero_mul]), if_pos rfl, one_mul]
  have I : Inv (MT.of n n fun a t => if tsp i k a = t then (1 : R) else 0) (MT.of n n fun a t => if tsp i k a = t then (1 : R) else 0) := by
    have e : (MT.of n n fun a t => if tsp i k a = t then (1 : R) else 0) * (MT.of n n fun a t => if tsp i k a = t then (1 : R) else 0) = MT.one n := MT.ext fun a b ha hb => by
      rw [MT.e_mul, MT.e_one ha hb]
      refine (sm_congr fun t ht => by rw [MT.of_e _ ha ht, MT.of_e _ ht hb]).trans ((row (fun t b => if tsp i k t = b then (1 : R) else 0) a b ha).trans ?_)
      show (if tsp i k (tsp i k a) = b then (1 : R) else 0) = _
      rw [tsp_tsp]
    exact ⟨e, e⟩
  refine h.step I (MT.ext fun a b ha hb => ?_) (MT.ext fun a b ha hb => ?_)
  · rw [MT.of_e _ ha hb, MT.e_mul]
    exact ((sm_congr fun t ht => by rw [MT.of_e _ ha ht, MT.of_e _ ht hb]).trans (row P a b ha)).symm
  · rw [MT.e_mul, MT.e_mul]
    have e1 : sm n (fun j => (MT.of n n fun a t => if tsp i k a = t then (1 : R) else 0 : MT R n n).e a j * (MT.of n n H).e j b) = H (tsp i k a) b :=
      (sm_congr fun t ht => by rw [MT.of_e _ ha ht, MT.of_e _ ht hb]).trans (row H a b ha)
    have e2 : sm n (fun j => (MT.of n n (hsw H i k)).e a j * (MT.of n n fun a t => if tsp i k a = t then (1 : R) else 0 : MT R n n).e j b) = hsw H i k a (tsp i k b) := by
      rw [sm_one (tsp_lt hi hk hb) (fun t htn ht => by rw [MT.of_e _ htn hb, if_neg (fun e => ht ((tsp_eq i k).1 e)), mul_zero]), MT.of_e _ ha (tsp_lt hi hk hb), MT.of_e _ (tsp_lt hi hk hb) hb, tsp_tsp, if_pos rfl, mul_one]
    rw [e1, e2]
    unfold hsw; rw [tsp_tsp]

theorem Sim.clear {A : MT R n n} {H P : Nat → Nat → R} (h : Sim A H P) {i k : Nat} (hi : i < n) (hk : k < n) (hik : i ≠ k) (c : R) : Sim A (hcl H i k c) (rcl P i k c) := by
  have row : ∀ (d : R) (V : Nat → Nat → R) a b, a < n → sm n (fun t => (one1 a t + (if a = i ∧ t = k then d else 0)) * V t b) = V a b + (if a = i then d * V k b else 0) := by
    intro d V a b ha
    have e : sm n (fun t => (one1 a t + (if a = i ∧ t = k then d else 0)) * V t b) = sm n (fun t => one1 a t * V t b + (if a = i ∧ t = k then d else 0) * V t b) := sm_congr fun t _ => add_mul _ _ _
    rw [e, sm_add, show sm n (fun t => one1 a t * V t b) = V a b from one_mm V ha]
    congr 1
    by_cases h1 : a = i
    · rw [if_pos h1, sm_one hk (fun t _ ht => by rw [if_neg (fun h => ht h.2), zero_mul]), if_pos ⟨h1, rfl⟩]
    · rw [if_neg h1]; exact sm_zero' fun t _ => by rw [if_neg (fun h => h1 h.1), zero_mul]
  have col : ∀ (d : R) (V : Nat → Nat → R) a b, b < n → sm n (fun t => V a t * (one1 t b + (if t = i ∧ b = k then d else 0))) = V a b + (if b = k then V a i * d else 0) := by
    intro d V a b hb
    have e : sm n (fun t => V a t * (one1 t b + (if t = i ∧ b = k then d else 0))) = sm n (fun t => V a t * one1 t b + V a t * (if t = i ∧ b = k then d else 0)) := sm_congr fun t _ => mul_add _ _ _
    rw [e, sm_add, show sm n (fun t => V a t * one1 t b) = V a b from mm_one V hb]
    congr 1
    by_cases h1 : b = k
    · rw [if_pos h1, sm_one hi (fun t _ ht => by rw [if_neg (fun h => ht h.1), mul_zero]), if_pos ⟨rfl, h1⟩]
    · rw [if_neg h1]; exact sm_zero' fun t _ => by rw [if_neg (fun h => h1 h.2), mul_zero]
  have II : ∀ d d' : R, d + d' = 0 → (MT.of n n fun a t => one1 a t + (if a = i ∧ t = k then d else 0)) * (MT.of n n fun a t => one1 a t + (if a = i ∧ t = k then d' else 0)) = MT.one n := by
    intro d d' hd
    refine MT.ext fun a b ha hb => ?_
    rw [MT.e_mul, MT.e_one ha hb]
    refine (sm_congr fun t ht => by rw [MT.of_e _ ha ht, MT.of_e _ ht hb]).trans ((row d (fun a t => one1 a t + (if a = i ∧ t = k then d' else 0)) a b ha).trans ?_)
    have e0 : (if k = i ∧ b = k then d' else 0) = 0 := if_neg (fun h => hik h.1.symm)
    rw [e0, add_zero]
    show one1 a b + _ + _ = one1 a b
    by_cases h1 : a = i
    · by_cases h2 : b = k
      · rw [if_pos ⟨h1, h2⟩, if_pos h1, h2]
        have : (one1 k k : R) = 1 := if_pos rfl
        rw [this, mul_one, add_assoc, add_comm d', hd, add_zero]
      · rw [if_neg (fun h => h2 h.2), if_pos h1]
        have : (one1 k b : R) = 0 := if_neg (fun e => h2 e.symm)
        rw [this, mul_zero, add_zero, add_zero]
    · rw [if_neg (fun h => h1 h.1), if_neg h1, add_zero, add_zero]
  have I : Inv (MT.of n n fun a t => one1 a t + (if a = i ∧ t = k then -c else 0)) (MT.of n n fun a t => one1 a t + (if a = i ∧ t = k then c else 0)) := ⟨II _ _ (neg_add c), II _ _ (add_neg c)⟩
  have sub : ∀ x y : R, x + -c * y = x - c * y := fun x y => by_ring [x, c, y] (X0 + -X1 * X2) (X0 - X1 * X2) rfl
  have rc : ∀ (V : Nat → Nat → R) a b, V a b + (if a = i then -c * V k b else 0) = rcl V i k c a b := by
    intro V a b
    unfold rcl
    split
    · exact sub _ _
    · exact add_zero _
  refine h.step I (MT.ext fun a b ha hb => ?_) (MT.ext fun a b ha hb => ?_)
  · rw [MT.of_e _ ha hb, MT.e_mul, ← rc]
    exact ((sm_congr fun t ht => by rw [MT.of_e _ ha ht, MT.of_e _ ht hb]).trans (row (-c) P a b ha)).symm
  · rw [MT.e_mul, MT.e_mul]
    have e1 : sm n (fun j => (MT.of n n fun a t => one1 a t + (if a = i ∧ t = k then -c else 0) : MT R n n).e a j * (MT.of n n H).e j b) = rcl H i k c a b :=
      ((sm_congr fun t ht => by rw [MT.of_e _ ha ht, MT.of_e _ ht hb]).trans (row (-c) H a b ha)).trans (rc H a b)
    have e2 : sm n (fun j => (MT.of n n (hcl H i k c)).e a j * (MT.of n n fun a t => one1 a t + (if a = i ∧ t = k then -c else 0) : MT R n n).e j b) = hcl H i k c a b + (if b = k then hcl H i k c a i * -c else 0) :=
      (sm_congr fun t ht => by rw [MT.of_e _ ha ht, MT.of_e _ ht hb]).trans (col (-c) (hcl H i k c) a b hb)
    rw [e1, e2]
    unfold hcl
    by_cases h1 : b = k
    · rw [if_pos h1, if_pos h1, if_neg hik, h1]
      exact by_ring [rcl H i k c a k, c, rcl H i k c a i] (X0 + X1 * X2 + X2 * -X1) X0 rfl
    · rw [if_neg h1, if_neg h1, add_zero]

theorem io_sgF (m : Nat) (s : Nat → R) (cs : List Nat) (F : List Nat → R) : io s cs (fun l => sg m (F l)) = sg m (io s cs F) := by
  unfold sg
  split
  · exact io_negF s cs F
  · rfl
/-- A row is put last. -/
theorem ops_last (r : Nat → R) : ∀ (rs : List (Nat → R)) (F : List Nat → R) (cs : List Nat), ops (rs ++ [r]) F cs = sg rs.length (io r cs (ops rs F))
  | [], F, cs => rfl
  | s :: rs, F, cs => by
    show io s cs (ops (rs ++ [r]) F) = sg (rs.length + 1) (io r cs (fun l => io s l (ops rs F)))
    rw [io_congr cs (G := fun l => sg rs.length (io r l (ops rs F))) (fun _ _ => rfl) (fun l _ => ops_last r rs F l), io_sgF, io_anti s r, sg_succ, sg_neg]
theorem rows_snoc {R : Type} : ∀ (n : Nat) (A : Nat → Nat → R), rows (n + 1) A = rows n A ++ [A n]
  | 0, _ => rfl
  | n + 1, A => by
    show A 0 :: rows (n + 1) (fun i => A (i + 1)) = A 0 :: rows n (fun i => A (i + 1)) ++ [A (n + 1)]
    rw [rows_snoc n]; rfl

/-- The determinant of the first rows, with the first columns and another one. -/
def hesU (M : Nat → Nat → R) (j k : Nat) : R := ops (rows (j + 1) M) (fun _ => 1) (List.range j ++ [k])
theorem hesU_zero (M : Nat → Nat → R) (k : Nat) : hesU M 0 k = M 0 k := by
  show io (M 0) [k] (fun _ => 1) = _
  simp only [io]
  rw [mul_one, sub_zero]
theorem dn_hesU (M : Nat → Nat → R) (k : Nat) : dn (k + 1) M = hesU M k k := by
  rw [dn_ops, List.range_succ]; rfl
theorem sg_sg (m : Nat) (x : R) : sg m (sg m x) = x := by
  unfold sg; split
  · exact neg_neg x
  · rfl
theorem hesU_succ (M : Nat → Nat → R) (j k : Nat) (h0 : ∀ c, c < j → M (j + 1) c = 0) : hesU M (j + 1) k = M (j + 1) k * dn (j + 1) M - M (j + 1) j * hesU M j k := by
  unfold hesU
  rw [rows_snoc (j + 1), ops_last, rows_len, io_sum]
  have hl : (List.range (j + 1) ++ [k]).length = j + 1 + 1 := by simp
  have hg : ∀ t, t < j + 1 → (List.range (j + 1) ++ [k]).getD t 0 = t := fun t ht => by
    simp only [List.getD, List.getElem?_append_left (show t < (List.range (j + 1)).length by simpa using ht), List.getElem?_range ht]; rfl
  rw [hl, sm_two (a := j) (b := j + 1) (by omega) (by omega) (by omega) (fun t ht h1 h2 => by
    rw [hg t (by omega), h0 t (by omega), zero_mul]; unfold sg; split
    · exact neg_zero
    · rfl)]
  have e1 : (List.range (j + 1) ++ [k]).getD (j + 1) 0 = k := by simp [List.getD]
  have e2 : (List.range (j + 1) ++ [k]).eraseIdx j = List.range j ++ [k] := by
    rw [List.eraseIdx_append_of_lt_length (by simp), List.range_succ]
    congr 1
    rw [List.eraseIdx_append_of_length_le (by simp)]
    simp
  have e3 : (List.range (j + 1) ++ [k]).eraseIdx (j + 1) = List.range (j + 1) := by
    rw [List.eraseIdx_append_of_length_le (by simp)]; simp
  rw [e1, e2, e3, hg j (by omega), ← dn_ops]
  have hs : ∀ x y : R, sg (j + 1) (sg j x + sg (j + 1) y) = y - x := by
    intro x y
    rw [show sg j x = -sg (j + 1) x by rw [sg_succ, neg_neg]]
    have : sg (j + 1) (-sg (j + 1) x + sg (j + 1) y) = -sg (j + 1) (sg (j + 1) x) + sg (j + 1) (sg (j + 1) y) := by
      unfold sg; split
      · exact by_ring [x, y] (-(- -X0 + -X1)) (-(- -X0) + - -X1) rfl
      · rfl
    rw [this, sg_sg, sg_sg]
    exact by_ring [x, y] (-X0 + X1) (X1 - X0) rfl
  rw [hs]

/-- x less a matrix, as a function. -/
def xh (H : Nat → Nat → R) : Nat → Nat → Pol R := fun i k => (if i = k then mon 1 1 else 0) - mon (H i k) 0
theorem chi_xh (A : MT R n n) : chi A = dn n (xh A.e) := dn_congr n fun i k hi hk => by unfold XA; rw [MT.of_e _ hi hk]; rfl
/-- Hessenberg's form. -/
def Hes (n : Nat) (H : Nat → Nat → R) : Prop := ∀ i c, c + 1 < i → i < n → H i c = 0

/-- What is left of a row's sum: below the place j. -/
def hesV (H : Nat → Nat → R) : Nat → Nat → Pol R
  | 0, _ => 0
  | j + 1, k => mon (H (j + 1) j) 0 * hesU (xh H) j k
theorem hesU_V {H : Nat → Nat → R} (hH : Hes n H) {j : Nat} (hj : j < n) (k : Nat) : hesU (xh H) j k = xh H j k * dn j (xh H) + hesV H j k := by
  cases j with
  | zero => rw [hesU_zero]; show _ = xh H 0 k * 1 + 0; rw [mul_one, add_zero]
  | succ j =>
    rw [hesU_succ (xh H) j k (fun c hc => by
      unfold xh; rw [if_neg (by omega), hH (j + 1) c (by omega) hj, mon_zero, sub_zero])]
    show _ = _ + mon (H (j + 1) j) 0 * hesU (xh H) j k
    have e : xh H (j + 1) j = -mon (H (j + 1) j) 0 := by unfold xh; rw [if_neg (by omega), zero_sub]
    rw [e]
    exact by_ring [xh H (j + 1) k, dn (j + 1) (xh H), mon (H (j + 1) j) 0, hesU (xh H) j k] (X0 * X1 - -X2 * X3) (X0 * X1 + X2 * X3) rfl
/-- One place more of a row's sum. -/
theorem hesV_step {H : Nat → Nat → R} (hH : Hes n H) {i k : Nat} (hik : i < k) (hk : k < n) {out : Pol R} {by_ : R} (h : dn (k + 1) (xh H) = out + mon by_ 0 * hesV H (i + 1) k) :
    dn (k + 1) (xh H) = (out - dn i (xh H) * mon (by_ * H (i + 1) i * H i k) 0) + mon (by_ * H (i + 1) i) 0 * hesV H i k := by
  rw [h]
  show out + mon by_ 0 * (mon (H (i + 1) i) 0 * hesU (xh H) i k) = _
  rw [hesU_V hH (by omega)]
  have e : xh H i k = -mon (H i k) 0 := by unfold xh; rw [if_neg (by omega), zero_sub]
  have e2 : mon (by_ * H (i + 1) i) 0 = mon by_ 0 * mon (H (i + 1) i) 0 := (mon_mul _ _ 0 0).symm
  have e3 : mon (by_ * H (i + 1) i * H i k) 0 = mon by_ 0 * mon (H (i + 1) i) 0 * mon (H i k) 0 := by rw [← e2, mon_mul]
  rw [e, e2, e3]
  exact by_ring [out, mon by_ 0, mon (H (i + 1) i) 0, mon (H i k) 0, dn i (xh H), hesV H i k] (X0 + X1 * (X2 * (-X3 * X4 + X5))) (X0 - X4 * (X1 * X2 * X3) + X1 * X2 * X5) rfl
theorem hesV_start {H : Nat → Nat → R} (hH : Hes n H) {k : Nat} (hk : k < n) : dn (k + 1) (xh H) = (mon 1 1 - mon (H k k) 0) * dn k (xh H) + mon 1 0 * hesV H k k := by
  rw [dn_hesU, hesU_V hH hk, show (mon 1 0 : Pol R) = 1 from rfl, one_mul]
  unfold xh; rw [if_pos rfl]
theorem hesV_end {H : Nat → Nat → R} {k : Nat} {out : Pol R} {by_ : R} (h : dn (k + 1) (xh H) = out + mon by_ 0 * hesV H 0 k) : dn (k + 1) (xh H) = out := by
  rw [h]; show out + mon by_ 0 * 0 = out; rw [mul_zero, add_zero]

end

end Go.Proofs.Ythghdjpjbngllaa
