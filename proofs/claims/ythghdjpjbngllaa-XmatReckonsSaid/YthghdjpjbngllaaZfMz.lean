/- Plain algebra: determinants over a commutative ring, by the first row: they are linear in each row, nought where two rows are the same, and go with products. -/
import Derived.Test.YthghdjpjbngllaaZfAlg
import Derived.Test.YthghdjpjbngllaaZfFermat
import Derived.Test.YthghdjpjbngllaaZfFdeg
namespace Go.Proofs.Ythghdjpjbngllaa
open CR

section
variable {R : Type}
/-- Rows of a matrix. -/
def rows : Nat → (Nat → Nat → R) → List (Nat → R)
  | 0, _ => []
  | n + 1, A => A 0 :: rows n (fun i => A (i + 1))
theorem rows_len : ∀ (n : Nat) (A : Nat → Nat → R), (rows n A).length = n
  | 0, _ => rfl
  | n + 1, A => by simp [rows, rows_len n]
theorem rows_get : ∀ (n : Nat) (A : Nat → Nat → R) (i : Nat), i < n → (rows n A)[i]? = some (A i)
  | 0, _, _, h => by omega
  | n + 1, A, 0, _ => rfl
  | n + 1, A, i + 1, h => by simp only [rows, List.getElem?_cons_succ]; exact rows_get n _ i (by omega)
theorem rows_ext {n : Nat} {A : Nat → Nat → R} {rs : List (Nat → R)} (hl : rs.length = n) (h : ∀ i, i < n → rs[i]? = some (A i)) : rs = rows n A := by
  refine List.ext_getElem? fun i => ?_
  by_cases hi : i < n
  · rw [h i hi, rows_get n A i hi]
  · rw [List.getElem?_eq_none (by omega), List.getElem?_eq_none (by rw [rows_len]; omega)]

/-- A matrix with another row at a place. -/
def upd (A : Nat → Nat → R) (i : Nat) (r : Nat → R) : Nat → Nat → R := fun a => if a = i then r else A a
theorem upd_same (A : Nat → Nat → R) (i : Nat) (r : Nat → R) : upd A i r i = r := if_pos rfl
theorem upd_ne (A : Nat → Nat → R) {i a : Nat} (r : Nat → R) (h : a ≠ i) : upd A i r a = A a := if_neg h
theorem upd_self (A : Nat → Nat → R) (i : Nat) : upd A i (A i) = A := by
  funext a; unfold upd; split
  · rename_i h; rw [h]
  · rfl
theorem rows_upd (n : Nat) (A : Nat → Nat → R) (i : Nat) (hi : i < n) (r : Nat → R) : rows n (upd A i r) = (rows n A).set i r := by
  refine (rows_ext (by rw [List.length_set, rows_len]) fun a ha => ?_).symm
  rw [List.getElem?_set]
  by_cases h : i = a
  · subst h; rw [if_pos rfl, upd_same, if_pos (by rw [rows_len]; exact hi)]
  · rw [if_neg h, upd_ne _ _ (fun e => h e.symm), rows_get n A a ha]

theorem upd_comm (A : Nat → Nat → R) {i j : Nat} (h : i ≠ j) (r s : Nat → R) : upd (upd A i r) j s = upd (upd A j s) i r := by
  funext a; unfold upd
  by_cases h1 : a = j
  · rw [if_pos h1, if_neg (fun e => h (e.symm.trans h1)), if_pos h1]
  · rw [if_neg h1]; split <;> simp_all

theorem rows_map (g : (Nat → R) → Nat → R) : ∀ (n : Nat) (A : Nat → Nat → R), (rows n A).map g = rows n (fun i => g (A i))
  | 0, _ => rfl
  | n + 1, A => by simp only [rows, List.map_cons, rows_map g n]

theorem range_map_rows (n : Nat) (B : Nat → Nat → R) : (List.range n).map B = rows n B := by
  refine rows_ext (by simp) fun i hi => ?_
  rw [List.getElem?_map, List.getElem?_range hi]; rfl

end

section
variable {R : Type} [CR R]

/-- One row taken out of a form on columns. -/
def io (r : Nat → R) : List Nat → (List Nat → R) → R
  | [], _ => 0
  | c :: cs, F => r c * F cs - io r cs (fun l => F (c :: l))

theorem io_congr {r s : Nat → R} : ∀ (cs : List Nat) {F G : List Nat → R}, (∀ c, c ∈ cs → r c = s c) → (∀ l : List Nat, (∀ x, x ∈ l → x ∈ cs) → F l = G l) → io r cs F = io s cs G
  | [], _, _, _, _ => rfl
  | c :: cs, F, G, h, k => by
    simp only [io]
    rw [h c (by simp), k cs (fun x hx => by simp [hx]), io_congr cs (F := fun l => F (c :: l)) (G := fun l => G (c :: l)) (fun c hc => h c (by simp [hc])) (fun l hl => k (c :: l) (fun x hx => by
      rcases List.mem_cons.1 hx with rfl | hx
      · simp
      · simp [hl x hx]))]

theorem io_add (r s : Nat → R) : ∀ (cs : List Nat) (F : List Nat → R), io (fun c => r c + s c) cs F = io r cs F + io s cs F
  | [], _ => by simp only [io]; rw [add_zero]
  | c :: cs, F => by
    simp only [io]; rw [io_add r s cs]
    exact by_ring [r c, s c, F cs, io r cs (fun l => F (c :: l)), io s cs (fun l => F (c :: l))] ((X0 + X1) * X2 - (X3 + X4)) (X0 * X2 - X3 + (X1 * X2 - X4)) rfl
theorem io_mul (x : R) (r : Nat → R) : ∀ (cs : List Nat) (F : List Nat → R), io (fun c => x * r c) cs F = x * io r cs F
  | [], _ => by simp only [io]; rw [mul_zero]
  | c :: cs, F => by
    simp only [io]; rw [io_mul x r cs]
    exact by_ring [x, r c, F cs, io r cs (fun l => F (c :: l))] (X0 * X1 * X2 - X0 * X3) (X0 * (X1 * X2 - X3)) rfl
theorem io_zero (cs : List Nat) (F : List Nat → R) : io (fun _ => (0 : R)) cs F = 0 := by
  exact (io_congr cs (fun c _ => (zero_mul (0 : R)).symm) (fun _ _ => rfl)).trans ((io_mul (0 : R) (fun _ => 0) cs F).trans (zero_mul _))
theorem io_addF (r : Nat → R) : ∀ (cs : List Nat) (F G : List Nat → R), io r cs (fun l => F l + G l) = io r cs F + io r cs G
  | [], _, _ => by simp only [io]; rw [add_zero]
  | c :: cs, F, G => by
    simp only [io]; rw [io_addF r cs (fun l => F (c :: l)) (fun l => G (c :: l))]
    exact by_ring [r c, F cs, G cs, io r cs (fun l => F (c :: l)), io r cs (fun l => G (c :: l))] (X0 * (X1 + X2) - (X3 + X4)) (X0 * X1 - X3 + (X0 * X2 - X4)) rfl
theorem io_mulF (r : Nat → R) (x : R) : ∀ (cs : List Nat) (F : List Nat → R), io r cs (fun l => x * F l) = x * io r cs F
  | [], _ => by simp only [io]; rw [mul_zero]
  | c :: cs, F => by
    simp only [io]; rw [io_mulF r x cs (fun l => F (c :: l))]
    exact by_ring [r c, x, F cs, io r cs (fun l => F (c :: l))] (X0 * (X1 * X2) - X1 * X3) (X1 * (X0 * X2 - X3)) rfl
theorem io_zeroF (r : Nat → R) (cs : List Nat) : io r cs (fun _ => (0 : R)) = 0 := by
  exact (io_congr cs (fun c _ => rfl) (fun _ _ => (zero_mul (0 : R)).symm)).trans ((io_mulF r (0 : R) cs (fun _ => 0)).trans (zero_mul _))
theorem io_negF (r : Nat → R) (cs : List Nat) (F : List Nat → R) : io r cs (fun l => -F l) = -io r cs F := by
  rw [io_congr cs (G := fun l => -1 * F l) (fun _ _ => rfl) (fun l _ => by rw [neg_mul, one_mul]), io_mulF, neg_mul, one_mul]
theorem io_subF (r : Nat → R) (cs : List Nat) (F G : List Nat → R) : io r cs (fun l => F l - G l) = io r cs F - io r cs G := by
  rw [io_congr cs (G := fun l => F l + -G l) (fun _ _ => rfl) (fun l _ => sub_eq _ _), io_addF, io_negF, ← sub_eq]

theorem io_anti (r s : Nat → R) : ∀ (cs : List Nat) (F : List Nat → R), io r cs (fun l => io s l F) = -io s cs (fun l => io r l F)
  | [], _ => by simp only [io]; rw [neg_zero]
  | c :: cs, F => by
    have h := io_anti r s cs (fun l => F (c :: l))
    simp only [io]
    rw [io_subF, io_mulF, io_subF, io_mulF, h]
    exact by_ring [r c, s c, io s cs F, io r cs F, io s cs (fun l => io r l fun l => F (c :: l))] (X0 * X2 - (X1 * X3 - -X4)) (-(X1 * X3 - (X0 * X2 - X4))) rfl
theorem io_self (r : Nat → R) : ∀ (cs : List Nat) (F : List Nat → R), io r cs (fun l => io r l F) = 0
  | [], _ => by simp only [io]
  | c :: cs, F => by
    have h := io_self r cs (fun l => F (c :: l))
    simp only [io]
    rw [io_subF, io_mulF, h]
    exact by_ring [r c, io r cs F] (X0 * X1 - (X0 * X1 - 0)) 0 rfl

/-- Rows taken out one behind the other. -/
def ops : List (Nat → R) → (List Nat → R) → List Nat → R
  | [], F, cs => F cs
  | r :: rs, F, cs => io r cs (ops rs F)

theorem ops_mulF (x : R) : ∀ (rs : List (Nat → R)) (F : List Nat → R) (cs : List Nat), ops rs (fun l => x * F l) cs = x * ops rs F cs
  | [], _, _ => rfl
  | r :: rs, F, cs => by
    simp only [ops]; rw [← io_mulF]
    exact io_congr cs (fun _ _ => rfl) (fun l _ => ops_mulF x rs F l)
/-- A row ahead of itself is nought. -/
theorem ops_kill (r : Nat → R) : ∀ (rs : List (Nat → R)), r ∈ rs → ∀ (F : List Nat → R) (cs : List Nat), io r cs (ops rs F) = 0
  | [], h, _, _ => by simp at h
  | s :: rs, h, F, cs => by
    show io r cs (fun l => io s l (ops rs F)) = 0
    rcases List.mem_cons.1 h with rfl | h
    · exact io_self _ _ _
    · rw [io_anti, io_congr cs (G := fun _ => 0) (fun _ _ => rfl) (fun l _ => ops_kill r rs h F l), io_zeroF, neg_zero]

theorem ops_same : ∀ (rs : List (Nat → R)) (i j : Nat) (r : Nat → R), i < j → rs[i]? = some r → rs[j]? = some r → ∀ (F : List Nat → R) (cs : List Nat), ops rs F cs = 0
  | [], i, j, r, _, h, _, _, _ => by simp at h
  | s :: rs, 0, j + 1, r, _, h, k, F, cs => by
    simp at h; subst h
    exact ops_kill s rs (List.mem_of_getElem? (by simpa using k)) F cs
  | s :: rs, i + 1, j + 1, r, hij, h, k, F, cs => by
    simp only [ops]
    rw [io_congr cs (G := fun _ => 0) (fun _ _ => rfl) (fun l _ => ops_same rs i j r (by omega) (by simpa using h) (by simpa using k) F l), io_zeroF]

theorem ops_lin (x y : R) (r s : Nat → R) : ∀ (rs : List (Nat → R)) (i : Nat), i < rs.length → ∀ (F : List Nat → R) (cs : List Nat),
    ops (rs.set i (fun c => x * r c + y * s c)) F cs = x * ops (rs.set i r) F cs + y * ops (rs.set i s) F cs
  | [], i, h, _, _ => by simp at h
  | t :: rs, 0, _, F, cs => by simp only [List.set_cons_zero, ops]; rw [io_add, io_mul, io_mul]
  | t :: rs, i + 1, h, F, cs => by
    simp only [List.set_cons_succ, ops]
    rw [← io_mulF, ← io_mulF, ← io_addF]
    exact io_congr cs (fun _ _ => rfl) (fun l _ => ops_lin x y r s rs i (by simpa using h) F l)

/-- A sign by a place. -/
def sg (k : Nat) (x : R) : R := if k % 2 = 1 then -x else x
theorem sg_zero (x : R) : sg 0 x = x := rfl
theorem sg_succ (k : Nat) (x : R) : sg (k + 1) x = -sg k x := by
  unfold sg
  rcases Nat.mod_two_eq_zero_or_one k with h | h
  · rw [if_pos (by omega), if_neg (by omega)]
  · rw [if_neg (by omega), if_pos h, neg_neg]
theorem sg_mul (k : Nat) (x y : R) : sg k (x * y) = x * sg k y := by unfold sg; split <;> simp [mul_neg]
theorem sg_mul' (k : Nat) (x y : R) : sg k (x * y) = sg k x * y := by unfold sg; split <;> simp [neg_mul]
theorem io_sum (r : Nat → R) : ∀ (cs : List Nat) (F : List Nat → R), io r cs F = sm cs.length (fun k => sg k (r (cs.getD k 0) * F (cs.eraseIdx k)))
  | [], _ => rfl
  | c :: cs, F => by
    simp only [io, List.length_cons]
    rw [sm_head, io_sum r cs (fun l => F (c :: l)), sub_eq, ← sm_neg]
    congr 1
    exact sm_congr fun i _ => by rw [sg_succ]; simp

/-- A matrix without its first row and a column. -/
def mnr (A : Nat → Nat → R) (k : Nat) : Nat → Nat → R := fun i j => A (i + 1) (if j < k then j else j + 1)
/-- The determinant, by the first row. -/
def dn : Nat → (Nat → Nat → R) → R
  | 0, _ => 1
  | n + 1, A => sm (n + 1) (fun k => sg k (A 0 k * dn n (mnr A k)))

theorem dn_congr : ∀ (n : Nat) {A B : Nat → Nat → R}, (∀ i j, i < n → j < n → A i j = B i j) → dn n A = dn n B
  | 0, _, _, _ => rfl
  | n + 1, A, B, h => by
    simp only [dn]
    refine sm_congr fun k hk => ?_
    rw [h 0 k (by omega) hk, dn_congr n (A := mnr A k) (B := mnr B k) (fun i j hi hj => h _ _ (by omega) (by split <;> omega))]

theorem ops_dn : ∀ (n : Nat) (A : Nat → Nat → R) (cs : List Nat), cs.length = n → ops (rows n A) (fun _ => 1) cs = dn n (fun i j => A i (cs.getD j 0))
  | 0, _, _, _ => rfl
  | n + 1, A, cs, h => by
    simp only [rows, ops, dn]
    rw [io_sum, h]
    refine sm_congr fun k hk => ?_
    rw [ops_dn n _ _ (by rw [List.length_eraseIdx, if_pos (by omega)]; omega)]
    congr 2
    refine dn_congr n fun i j _ hj => ?_
    unfold mnr
    congr 1
    simp only [List.getD, List.getElem?_eraseIdx]
    split <;> rfl

theorem dn_ops (n : Nat) (A : Nat → Nat → R) : dn n A = ops (rows n A) (fun _ => 1) (List.range n) := by
  rw [ops_dn n A _ (by simp)]
  exact dn_congr n fun i j _ hj => by simp [List.getD, hj]

theorem dn_lin (n : Nat) (A : Nat → Nat → R) (i : Nat) (hi : i < n) (x y : R) (r s : Nat → R) :
    dn n (upd A i (fun c => x * r c + y * s c)) = x * dn n (upd A i r) + y * dn n (upd A i s) := by
  rw [dn_ops, dn_ops, dn_ops, rows_upd n A i hi, rows_upd n A i hi, rows_upd n A i hi]
  exact ops_lin x y r s _ i (by rw [rows_len]; exact hi) _ _
theorem dn_rep {n : Nat} {A : Nat → Nat → R} {i j : Nat} (hij : i < j) (hj : j < n) (h : A i = A j) : dn n A = 0 := by
  rw [dn_ops]
  exact ops_same _ i j (A i) hij (rows_get n A i (by omega)) (by rw [rows_get n A j hj, h]) _ _
theorem dn_rep' {n : Nat} {A : Nat → Nat → R} {i j : Nat} (hij : i ≠ j) (hi : i < n) (hj : j < n) (h : A i = A j) : dn n A = 0 := by
  rcases Nat.lt_or_gt_of_ne hij with hl | hl
  · exact dn_rep hl hj h
  · exact dn_rep hl hi h.symm
theorem dn_scale (n : Nat) (A : Nat → Nat → R) (i : Nat) (hi : i < n) (x : R) (r : Nat → R) : dn n (upd A i (fun c => x * r c)) = x * dn n (upd A i r) := by
  refine (dn_congr n fun a j _ _ => ?_).trans ((dn_lin n A i hi x 0 r r).trans (by rw [zero_mul, add_zero]))
  unfold upd; split
  · show x * r j = x * r j + 0 * r j
    rw [zero_mul, add_zero]
  · rfl

/-- Two rows mixed. -/
theorem dn_mix (n : Nat) (A : Nat → Nat → R) {i j : Nat} (h : i ≠ j) (hi : i < n) (hj : j < n) (a b c d : R) :
    dn n (upd (upd A i (fun k => a * A i k + b * A j k)) j (fun k => c * A i k + d * A j k)) = (a * d - b * c) * dn n A := by
  have lin2 : ∀ r s t x y, dn n (upd (upd A i r) j (fun k => x * s k + y * t k)) = x * dn n (upd (upd A i r) j s) + y * dn n (upd (upd A i r) j t) :=
    fun r s t x y => dn_lin n _ j hj x y s t
  have lin1 : ∀ r s t x y, dn n (upd (upd A i (fun k => x * s k + y * t k)) j r) = x * dn n (upd (upd A i s) j r) + y * dn n (upd (upd A i t) j r) := by
    intro r s t x y
    rw [upd_comm A h, upd_comm A h, upd_comm A h]; exact dn_lin n _ i hi x y s t
  have rep : ∀ r, dn n (upd (upd A i r) j r) = 0 := fun r => dn_rep' h hi hj (by rw [upd_same, upd_ne _ _ h, upd_same])
  have e : upd (upd A i (A i)) j (A j) = A := by rw [upd_self, upd_self]
  have sw : dn n A + dn n (upd (upd A i (A j)) j (A i)) = 0 := by
    have h1 := rep (fun k => 1 * A i k + 1 * A j k)
    rw [lin1, lin2, lin2, rep, rep, e] at h1
    rw [← h1]
    exact by_ring [dn n A, dn n (upd (upd A i (A j)) j (A i))] (X0 + X1) (1 * (1 * 0 + 1 * X0) + 1 * (1 * X1 + 1 * 0)) rfl
  rw [lin1, lin2, lin2, rep, rep, e, neg_unique sw]
  exact by_ring [a, b, c, d, dn n A] (X0 * (X2 * 0 + X3 * X4) + X1 * (X2 * -X4 + X3 * 0)) ((X0 * X3 - X1 * X2) * X4) rfl

/-- A sum over a list. -/
def ls : List Nat → (Nat → R) → R
  | [], _ => 0
  | j :: js, f => f j + ls js f
theorem ls_range_aux (f : Nat → R) : ∀ n k, ls (List.range' k n) f = sm n (fun i => f (k + i))
  | 0, _ => rfl
  | n + 1, k => by
    rw [List.range'_succ, sm_head]; simp only [ls]
    rw [ls_range_aux f n (k + 1)]
    congr 1
    exact sm_congr fun i _ => by rw [show k + 1 + i = k + (i + 1) by omega]
theorem ls_range (f : Nat → R) (n : Nat) : ls (List.range n) f = sm n f := by
  rw [List.range_eq_range', ls_range_aux]; exact sm_congr fun i _ => by rw [Nat.zero_add]
theorem ls_erase (f : Nat → R) : ∀ (js : List Nat) (k : Nat), k < js.length → ls js f = f (js.getD k 0) + ls (js.eraseIdx k) f
  | [], _, h => by simp at h
  | j :: js, 0, _ => rfl
  | j :: js, k + 1, h => by
    simp only [ls, List.eraseIdx_cons_succ]
    rw [ls_erase f js k (by simpa using h), add_left_comm]; simp

/-- Rows ahead of which a row stands don't see it. -/
theorem ops_blind (b : Nat → R) (x : (Nat → R) → R) (g : (Nat → R) → Nat → R) : ∀ (as : List (Nat → R)) (F : List Nat → R) (cs : List Nat),
    io b cs (ops (as.map fun a => fun c => g a c + x a * b c) F) = io b cs (ops (as.map g) F)
  | [], _, _ => rfl
  | a :: as, F, cs => by
    simp only [List.map_cons]
    show io b cs (fun l => io (fun c => g a c + x a * b c) l (ops (as.map fun a => fun c => g a c + x a * b c) F)) = io b cs (fun l => io (g a) l (ops (as.map g) F))
    have h : ∀ G : List Nat → R, io b cs (fun l => io (fun c => g a c + x a * b c) l G) = io b cs (fun l => io (g a) l G) := by
      intro G
      rw [io_congr cs (G := fun l => io (g a) l G + x a * io b l G) (fun _ _ => rfl) (fun l _ => by rw [io_add, io_mul]), io_addF, io_mulF, io_self, mul_zero, add_zero]
    rw [h, io_anti, io_anti b]
    exact congrArg (fun z => -z) (io_congr cs (fun _ _ => rfl) (fun l _ => ops_blind b x g as F l))

theorem ops_front (B : Nat → Nat → R) : ∀ (js : List Nat) (k : Nat), k < js.length → ∀ (F : List Nat → R) (cs : List Nat),
    io (B (js.getD k 0)) cs (ops ((js.eraseIdx k).map B) F) = sg k (ops (js.map B) F cs)
  | [], _, h, _, _ => by simp at h
  | j :: js, 0, _, F, cs => rfl
  | j :: js, k + 1, h, F, cs => by
    simp only [List.eraseIdx_cons_succ, List.map_cons, List.getD_cons_succ]
    show io (B (js.getD k 0)) cs (fun l => io (B j) l (ops ((js.eraseIdx k).map B) F)) = sg (k + 1) (io (B j) cs (ops (js.map B) F))
    rw [io_anti, io_congr cs (G := fun l => sg k (ops (js.map B) F l)) (fun _ _ => rfl) (fun l _ => ops_front B js k (by simpa using h) F l), sg_succ]
    congr 1
    unfold sg
    split
    · exact io_negF _ _ _
    · rfl

theorem io_sums (f : Nat → R) (B : Nat → Nat → R) (cs : List Nat) (F : List Nat → R) : ∀ n, io (fun c => sm n (fun k => f k * B k c)) cs F = sm n (fun k => f k * io (B k) cs F)
  | 0 => io_zero cs F
  | n + 1 => by simp only [sm]; rw [io_add, io_mul, io_sums f B cs F n]

theorem ls_sm (f : Nat → R) : ∀ js : List Nat, ls js f = sm js.length (fun k => f (js.getD k 0))
  | [] => rfl
  | j :: js => by
    simp only [ls, List.length_cons]; rw [sm_head, ls_sm f js]
    rfl

/-- Rows that are sums of multiples of as many rows. -/
theorem ops_comb (B : Nat → Nat → R) : ∀ (as : List (Nat → R)) (js : List Nat), as.length = js.length → ∀ (F : List Nat → R) (cs : List Nat),
    ops (as.map fun a => fun c => ls js fun j => a j * B j c) F cs = ops as (fun _ => 1) js * ops (js.map B) F cs
  | [], [], _, F, cs => by simp only [List.map_nil, ops]; rw [one_mul]
  | [], _ :: _, h, _, _ => by simp at h
  | _ :: _, [], h, _, _ => by simp at h
  | a :: as, j0 :: js0, h, F, cs => by
    generalize hjs : j0 :: js0 = js at h ⊢
    simp only [List.map_cons, ops]
    rw [io_congr cs (s := fun c => sm js.length (fun k => a (js.getD k 0) * B (js.getD k 0) c)) (F := ops (as.map fun a => fun c => ls js fun j => a j * B j c) F) (fun c _ => ls_sm _ js) (fun _ _ => rfl),
      io_sums (fun k => a (js.getD k 0)) (fun k => B (js.getD k 0)), io_sum, mul_comm, ← sm_mul]
    refine sm_congr fun k hk => ?_
    have e1 : (fun (a : Nat → R) => fun c => ls js fun j => a j * B j c) = (fun a => fun c => (fun c => ls (js.eraseIdx k) fun j => a j * B j c) c + (fun a : Nat → R => a (js.getD k 0)) a * B (js.getD k 0) c) := by
      funext a c; rw [ls_erase _ js k hk, add_comm]
    rw [e1, ops_blind (B (js.getD k 0)) (fun a => a (js.getD k 0)) (fun a => fun c => ls (js.eraseIdx k) fun j => a j * B j c) as F cs]
    have e2 := fun l => ops_comb B as (js.eraseIdx k) (by rw [List.length_eraseIdx, if_pos hk]; simp at h; omega) F l
    rw [io_congr cs (G := fun l => ops as (fun _ => 1) (js.eraseIdx k) * ops ((js.eraseIdx k).map B) F l) (fun _ _ => rfl) (fun l _ => e2 l), io_mulF, ops_front B js k hk]
    unfold sg
    split
    · exact by_ring [a (js.getD k 0), ops as (fun _ => 1) (js.eraseIdx k), ops (js.map B) F cs] (X0 * (X1 * -X2)) (X2 * -(X0 * X1)) rfl
    · exact by_ring [a (js.getD k 0), ops as (fun _ => 1) (js.eraseIdx k), ops (js.map B) F cs] (X0 * (X1 * X2)) (X2 * (X0 * X1)) rfl

/-- The product of matrices. -/
def mm (n : Nat) (A B : Nat → Nat → R) : Nat → Nat → R := fun i k => sm n (fun j => A i j * B j k)
/-- The matrix that changes nothing. -/
def one1 : Nat → Nat → R := fun i k => if i = k then 1 else 0

/-- The determinant of a product is the product. -/
theorem dn_mul (n : Nat) (A B : Nat → Nat → R) : dn n (mm n A B) = dn n A * dn n B := by
  rw [dn_ops n (mm n A B), dn_ops n A, dn_ops n B, ← range_map_rows n B, ← ops_comb B (rows n A) (List.range n) (by rw [rows_len]; simp), rows_map]
  congr 2
  funext i c
  rw [ls_range]; rfl

theorem mm_assoc (n m : Nat) (A B C : Nat → Nat → R) : mm m (mm n A B) C = mm n A (mm m B C) := by
  funext i k
  show sm m (fun j => sm n (fun t => A i t * B t j) * C j k) = sm n (fun t => A i t * sm m (fun j => B t j * C j k))
  rw [sm_congr (g := fun j => sm n (fun t => A i t * (B t j * C j k))) (fun j _ => by
    rw [mul_comm, ← sm_mul]; exact sm_congr fun t _ => by rw [mul_comm, mul_assoc]), sm_swap]
  exact sm_congr fun t _ => by rw [← sm_mul]
end

end Go.Proofs.Ythghdjpjbngllaa
/- Plain algebra: matrices with sides, over a commutative ring: sums, products, powers, inverses. -/
namespace Go.Proofs.Ythghdjpjbngllaa
open CR

/-- A matrix of n rows and m columns; noughts beside it. -/
structure MT (R : Type) [CR R] (n m : Nat) where
  e : Nat → Nat → R
  out : ∀ i k, n ≤ i ∨ m ≤ k → e i k = 0

section
variable {R : Type} [CR R] {n m l q : Nat}

theorem MT.ext {A B : MT R n m} (h : ∀ i k, i < n → k < m → A.e i k = B.e i k) : A = B := by
  obtain ⟨a, ha⟩ := A; obtain ⟨b, hb⟩ := B
  have : a = b := by
    funext i k
    by_cases hi : i < n
    · by_cases hk : k < m
      · exact h i k hi hk
      · rw [ha i k (.inr (by omega)), hb i k (.inr (by omega))]
    · rw [ha i k (.inl (by omega)), hb i k (.inl (by omega))]
  subst this; rfl

/-- The matrix of some values. -/
def MT.of (n m : Nat) (f : Nat → Nat → R) : MT R n m := ⟨fun i k => if i < n ∧ k < m then f i k else 0, fun _ _ h => if_neg (by omega)⟩
theorem MT.of_e (f : Nat → Nat → R) {i k : Nat} (hi : i < n) (hk : k < m) : (MT.of n m f).e i k = f i k := if_pos ⟨hi, hk⟩
theorem MT.of_congr {f g : Nat → Nat → R} (h : ∀ i k, i < n → k < m → f i k = g i k) : MT.of n m f = MT.of n m g :=
  MT.ext fun i k hi hk => by rw [MT.of_e f hi hk, MT.of_e g hi hk, h i k hi hk]
instance : HMul (MT R n m) (MT R m l) (MT R n l) := ⟨fun A B => ⟨mm m A.e B.e, fun i k h => sm_zero' fun j _ => by
  rcases h with h | h
  · rw [A.out i j (.inl h), zero_mul]
  · rw [B.out j k (.inr h), mul_zero]⟩⟩
/-- The matrix that changes nothing. -/
def MT.one (n : Nat) : MT R n n := MT.of n n one1
/-- A multiple. -/
def MT.sc (c : R) (A : MT R n m) : MT R n m := ⟨fun i k => c * A.e i k, fun i k h => by rw [A.out i k h, mul_zero]⟩

theorem MT.e_mul (A : MT R n m) (B : MT R m l) (i k : Nat) : (A * B).e i k = sm m (fun j => A.e i j * B.e j k) := rfl
theorem MT.e_sc (c : R) (A : MT R n m) (i k : Nat) : (A.sc c).e i k = c * A.e i k := rfl
theorem MT.e_one {i k : Nat} (hi : i < n) (hk : k < n) : (MT.one n : MT R n n).e i k = if i = k then 1 else 0 := MT.of_e one1 hi hk

theorem MT.mul_assoc (A : MT R n m) (B : MT R m l) (C : MT R l q) : A * B * C = A * (B * C) := MT.ext fun i k _ _ => congrFun (congrFun (mm_assoc m l A.e B.e C.e) i) k
theorem MT.mul_one (A : MT R n m) : A * (MT.one m : MT R m m) = A := MT.ext fun i k _ hk => by
  rw [MT.e_mul, sm_one hk (fun j hj hn => by rw [MT.e_one hj hk, if_neg hn, mul_zero]), MT.e_one hk hk, if_pos rfl, CR.mul_one]
theorem MT.one_mul (A : MT R n m) : (MT.one n : MT R n n) * A = A := MT.ext fun i k hi _ => by
  rw [MT.e_mul, sm_one hi (fun j hj hn => by rw [MT.e_one hi hj, if_neg (fun e => hn e.symm), zero_mul]), MT.e_one hi hi, if_pos rfl, CR.one_mul]
theorem MT.sc_mul (c : R) (A : MT R n m) (B : MT R m l) : A.sc c * B = (A * B).sc c := MT.ext fun i k _ _ => by
  rw [MT.e_sc, MT.e_mul, MT.e_mul, ← sm_mul]; exact sm_congr fun j _ => by rw [MT.e_sc, CR.mul_assoc]
theorem MT.mul_sc (c : R) (A : MT R n m) (B : MT R m l) : A * B.sc c = (A * B).sc c := MT.ext fun i k _ _ => by
  rw [MT.e_sc, MT.e_mul, MT.e_mul, ← sm_mul]; exact sm_congr fun j _ => by rw [MT.e_sc, CR.mul_left_comm]
theorem MT.sc_sc (c d : R) (A : MT R n m) : (A.sc d).sc c = A.sc (c * d) := MT.ext fun i k _ _ => by simp only [MT.e_sc]; rw [CR.mul_assoc]
/-- The determinant. -/
def MT.det (A : MT R n n) : R := dn n A.e
theorem MT.det_mul (A B : MT R n n) : (A * B).det = A.det * B.det := dn_mul n A.e B.e
/-- A row that is nought makes the determinant nought. -/
theorem dn_row0 {A : Nat → Nat → R} {i : Nat} (hi : i < n) (h : ∀ k, k < n → A i k = 0) : dn n A = 0 := by
  refine (dn_congr n fun a k _ hk => ?_).trans ((dn_scale n A i hi 0 (A i)).trans (CR.zero_mul _))
  unfold upd; split
  · rename_i h1; subst h1; rw [h k hk]; exact (CR.zero_mul _).symm
  · rfl

end

end Go.Proofs.Ythghdjpjbngllaa
/- Plain algebra: rows that are reduced, over the whole numbers by a prime. -/
namespace Go.Proofs.Ythghdjpjbngllaa
open CR

section
variable {R : Type} [CR R] {n m l : Nat}

end

end Go.Proofs.Ythghdjpjbngllaa
/- Plain algebra: the reduced form, column by column; what it tells of rank, determinant, inverse, solutions, kernel. -/
namespace Go.Proofs.Ythghdjpjbngllaa
open CR

section
variable {p : Nat} {n m : Nat}

section
variable {C : Nat} {W0 W : Nat → Nat → Zp p} {P : List Nat} {d : Zp p}
end
end

end Go.Proofs.Ythghdjpjbngllaa
/- Plain algebra: inverses, solutions and kernels by the reduced form. -/
namespace Go.Proofs.Ythghdjpjbngllaa
open CR

section
variable {p : Nat} {n m C : Nat} {W0 W : Nat → Nat → Zp p} {P : List Nat} {d : Zp p}

end

end Go.Proofs.Ythghdjpjbngllaa
/- Plain algebra: polynomials at matrices; every matrix makes noughts of its characteristic polynomial. -/
namespace Go.Proofs.Ythghdjpjbngllaa
open CR

section
variable {R : Type} [CR R] {n m l : Nat}

/-- The linear form of a row's place. -/
theorem dn_upd_sum (A : Nat → Nat → R) {i : Nat} (hi : i < n) (r : Nat → R) : dn n (upd A i r) = sm n (fun j => r j * dn n (upd A i (one1 j))) := by
  have H : ∀ N, dn n (upd A i (fun k => sm N (fun j => r j * one1 j k))) = sm N (fun j => r j * dn n (upd A i (one1 j))) := by
    intro N
    induction N with
    | zero => exact dn_row0 hi (fun k _ => by rw [upd_same]; rfl)
    | succ N ih =>
      have e := dn_lin n A i hi 1 (r N) (fun k => sm N (fun j => r j * one1 j k)) (one1 N)
      rw [ih, one_mul] at e
      rw [show sm (N + 1) (fun j => r j * dn n (upd A i (one1 j))) = sm N (fun j => r j * dn n (upd A i (one1 j))) + r N * dn n (upd A i (one1 N)) from rfl, ← e]
      congr 2
      funext k
      show sm N _ + _ = _
      rw [one_mul]
  rw [← H n]
  refine dn_congr n fun a k _ hk => ?_
  unfold upd
  split
  · have : sm n (fun j => r j * one1 j k) = r k := by
      rw [sm_one hk (fun j _ hj => by unfold one1; rw [if_neg hj, mul_zero])]
      unfold one1; rw [if_pos rfl, mul_one]
    exact this.symm
  · rfl

/-- The adjugate. -/
def adj (A : MT R n n) : MT R n n := MT.of n n fun j k => dn n (upd A.e k (one1 j))
theorem mul_adj (A : MT R n n) : A * adj A = (MT.one n).sc A.det := MT.ext fun i k hi hk => by
  rw [MT.e_mul, MT.e_sc, MT.e_one hi hk, sm_congr (g := fun j => A.e i j * dn n (upd A.e k (one1 j))) (fun j hj => by unfold adj; rw [MT.of_e _ hj hk]), ← dn_upd_sum A.e hk]
  by_cases e : i = k
  · subst e; rw [upd_self, if_pos rfl, mul_one]; rfl
  · rw [if_neg e, mul_zero]
    exact dn_rep' e hi hk (by rw [upd_same, upd_ne _ _ e])

end

end Go.Proofs.Ythghdjpjbngllaa
/- Plain algebra: division with a rest, greatest common divisors exist. -/
namespace Go.Proofs.Ythghdjpjbngllaa
open CR

section
variable {p : Nat}

theorem pln_one (ht : Trial p) : Ln (1 : Pol (Zp p)) 1 :=
  ⟨fun i hi => by rw [Pol.one_def, c_mon, if_neg (by omega)], fun m hm => by obtain rfl : m = 0 := by omega
                                                                             rw [Pol.one_def, c_mon, if_pos rfl]; exact Zp.one_ne ht⟩

end

end Go.Proofs.Ythghdjpjbngllaa
/- Plain algebra: the order of a column, the minimal polynomial, least common multiples. -/
namespace Go.Proofs.Ythghdjpjbngllaa
open CR

section
variable {p : Nat} {n m : Nat}

end

end Go.Proofs.Ythghdjpjbngllaa
