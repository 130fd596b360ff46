/- Plain algebra: determinants over a commutative ring, by the first row: they are linear in each row, nought where two rows are the same, and go with products. -/
import Derived.Deep.AppendLies
import Derived.Test.YtkmfhabgempjiaaQjM1
namespace Go.Proofs.Ytkmfhabgempjiaa
open CR
section
variable {R : Type}
def rows : Nat → (Nat → Nat → R) → List (Nat → R)
 | 0, _ => []
 | n + 1, A => A 0 :: rows n (fun i => A (i + 1))
theorem rows_len : ∀ (n : Nat) (A : Nat → Nat → R), (rows n A).length = n
 | 0, _ => rfl
 | n + 1, A => by simp [rows, rows_len n]
theorem rows_get : ∀ (n : Nat) (A : Nat → Nat → R) (i : Nat), i < n → (rows n A)[i]? = some (A i)
 | 0, _, _, h => by omega
 | n + 1, A, 0, _ => rfl
 | n + 1, A, i + 1, h => by simp only [rows, List.getElem?_cons_succ]; exact rows_get n _ i (by omega)
theorem rows_ext {n : Nat} {A : Nat → Nat → R} {rs : List (Nat → R)} (hl : rs.length = n) (h : ∀ i, i < n → rs[i]? = some (A i)) : rs = rows n A := by
 refine List.ext_getElem? fun i => ?_
 by_cases hi : i < n
 ·rw [h i hi, rows_get n A i hi]
 ·rw [List.getElem?_eq_none (by omega), List.getElem?_eq_none (by rw [rows_len]; omega)]
def upd (A : Nat → Nat → R) (i : Nat) (r : Nat → R) : Nat → Nat → R := fun a => if a = i then r else A a
theorem upd_same (A : Nat → Nat → R) (i : Nat) (r : Nat → R) : upd A i r i = r := if_pos rfl
theorem upd_ne (A : Nat → Nat → R) {i a : Nat} (r : Nat → R) (h : a ≠ i) : upd A i r a = A a := if_neg h
theorem upd_self (A : Nat → Nat → R) (i : Nat) : upd A i (A i) = A := by
 funext a; unfold upd; split
 ·rename_i h; rw [h]
 ·rfl
theorem rows_upd (n : Nat) (A : Nat → Nat → R) (i : Nat) (hi : i < n) (r : Nat → R) : rows n (upd A i r) = (rows n A).set i r := by
 refine (rows_ext (by rw [List.length_set, rows_len]) fun a ha => ?_).symm
 rw [List.getElem?_set]
 by_cases h : i = a
 ·subst h; rw [if_pos rfl, upd_same, if_pos (by rw [rows_len]; exact hi)]
 ·rw [if_neg h, upd_ne _ _ (fun e => h e.symm), rows_get n A a ha]
theorem upd_comm (A : Nat → Nat → R) {i j : Nat} (h : i ≠ j) (r s : Nat → R) : upd (upd A i r) j s = upd (upd A j s) i r := by
 funext a; unfold upd
 by_cases h1 : a = j
 ·rw [if_pos h1, if_neg (fun e => h (e.symm.trans h1)), if_pos h1]
 ·rw [if_neg h1]; split <;> simp_all
theorem rows_map (g : (Nat → R) → Nat → R) : ∀ (n : Nat) (A : Nat → Nat → R), (rows n A).map g = rows n (fun i => g (A i))
 | 0, _ => rfl
 | n + 1, A => by simp only [rows, List.map_cons, rows_map g n]
theorem range_map_rows (n : Nat) (B : Nat → Nat → R) : (List.range n).map B = rows n B := by
 refine rows_ext (by simp) fun i hi => ?_
 rw [List.getElem?_map, List.getElem?_range hi]; rfl
end
section
variable {R : Type} [CR R]
def io (r : Nat → R) : List Nat → (List Nat → R) → R
 | [], _ => 0
 | c :: cs, F => r c * F cs - io r cs (fun l => F (c :: l))
theorem io_congr {r s : Nat → R} : ∀ (cs : List Nat) {F G : List Nat → R}, (∀ c, c ∈ cs → r c = s c) → (∀ l : List Nat, (∀ x, x ∈ l → x ∈ cs) → F l = G l) → io r cs F = io s cs G
 | [], _, _, _, _ => rfl
 | c :: cs, F, G, h, k => by
  simp only [io]
  rw [h c (by simp), k cs (fun x hx => by simp [hx]), io_congr cs (F := fun l => F (c :: l)) (G := fun l => G (c :: l)) (fun c hc => h c (by simp [hc])) (fun l hl => k (c :: l) (fun x hx => by
   rcases List.mem_cons.1 hx with rfl | hx
   ·simp
   ·simp [hl x hx]))]
theorem io_add (r s : Nat → R) : ∀ (cs : List Nat) (F : List Nat → R), io (fun c => r c + s c) cs F = io r cs F + io s cs F
 | [], _ => by simp only [io]; rw [add_zero]
 | c :: cs, F => by
  simp only [io]; rw [io_add r s cs]
  exact by_ring [r c, s c, F cs, io r cs (fun l => F (c :: l)), io s cs (fun l => F (c :: l))] ((X0 + X1) * X2 - (X3 + X4)) (X0 * X2 - X3 + (X1 * X2 - X4)) rfl
theorem io_mul (x : R) (r : Nat → R) : ∀ (cs : List Nat) (F : List Nat → R), io (fun c => x * r c) cs F = x * io r cs F
 | [], _ => by simp only [io]; rw [mul_zero]
 | c :: cs, F => by
  simp only [io]; rw [io_mul x r cs]
  exact by_ring [x, r c, F cs, io r cs (fun l => F (c :: l))] (X0 * X1 * X2 - X0 * X3) (X0 * (X1 * X2 - X3)) rfl
theorem io_zero (cs : List Nat) (F : List Nat → R) : io (fun _ => (0 : R)) cs F = 0 := by
 exact (io_congr cs (fun c _ => (zero_mul (0 : R)).symm) (fun _ _ => rfl)).trans ((io_mul (0 : R) (fun _ => 0) cs F).trans (zero_mul _))
theorem io_addF (r : Nat → R) : ∀ (cs : List Nat) (F G : List Nat → R), io r cs (fun l => F l + G l) = io r cs F + io r cs G
 | [], _, _ => by simp only [io]; rw [add_zero]
 | c :: cs, F, G => by
  simp only [io]; rw [io_addF r cs (fun l => F (c :: l)) (fun l => G (c :: l))]
  exact by_ring [r c, F cs, G cs, io r cs (fun l => F (c :: l)), io r cs (fun l => G (c :: l))] (X0 * (X1 + X2) - (X3 + X4)) (X0 * X1 - X3 + (X0 * X2 - X4)) rfl
theorem io_mulF (r : Nat → R) (x : R) : ∀ (cs : List Nat) (F : List Nat → R), io r cs (fun l => x * F l) = x * io r cs F
 | [], _ => by simp only [io]; rw [mul_zero]
 | c :: cs, F => by
  simp only [io]; rw [io_mulF r x cs (fun l => F (c :: l))]
  exact by_ring [r c, x, F cs, io r cs (fun l => F (c :: l))] (X0 * (X1 * X2) - X1 * X3) (X1 * (X0 * X2 - X3)) rfl
theorem io_zeroF (r : Nat → R) (cs : List Nat) : io r cs (fun _ => (0 : R)) = 0 := by
 exact (io_congr cs (fun c _ => rfl) (fun _ _ => (zero_mul (0 : R)).symm)).trans ((io_mulF r (0 : R) cs (fun _ => 0)).trans (zero_mul _))
theorem io_negF (r : Nat → R) (cs : List Nat) (F : List Nat → R) : io r cs (fun l => -F l) = -io r cs F := by
 rw [io_congr cs (G := fun l => -1 * F l) (fun _ _ => rfl) (fun l _ => by rw [neg_mul, one_mul]), io_mulF, neg_mul, one_mul]
theorem io_subF (r : Nat → R) (cs : List Nat) (F G : List Nat → R) : io r cs (fun l => F l - G l) = io r cs F - io r cs G := by
 rw [io_congr cs (G := fun l => F l + -G l) (fun _ _ => rfl) (fun l _ => sub_eq _ _), io_addF, io_negF, ← sub_eq]
theorem io_anti (r s : Nat → R) : ∀ (cs : List Nat) (F : List Nat → R), io r cs (fun l => io s l F) = -io s cs (fun l => io r l F)
 | [], _ => by simp only [io]; rw [neg_zero]
 | c :: cs, F => by
  have h := io_anti r s cs (fun l => F (c :: l))
  simp only [io]
  rw [io_subF, io_mulF, io_subF, io_mulF, h]
  exact by_ring [r c, s c, io s cs F, io r cs F, io s cs (fun l => io r l fun l => F (c :: l))] (X0 * X2 - (X1 * X3 - -X4)) (-(X1 * X3 - (X0 * X2 - X4))) rfl
theorem io_self (r : Nat → R) : ∀ (cs : List Nat) (F : List Nat → R), io r cs (fun l => io r l F) = 0
 | [], _ => by simp only [io]
 | c :: cs, F => by
  have h := io_self r cs (fun l => F (c :: l))
  simp only [io]
  rw [io_subF, io_mulF, h]
  exact by_ring [r c, io r cs F] (X0 * X1 - (X0 * X1 - 0)) 0 rfl
def ops : List (Nat → R) → (List Nat → R) → List Nat → R
 | [], F, cs => F cs
 | r :: rs, F, cs => io r cs (ops rs F)
theorem ops_kill (r : Nat → R) : ∀ (rs : List (Nat → R)), r ∈ rs → ∀ (F : List Nat → R) (cs : List Nat), io r cs (ops rs F) = 0
 | [], h, _, _ => by simp at h
 | s :: rs, h, F, cs => by
  show io r cs (fun l => io s l (ops rs F)) = 0
  rcases List.mem_cons.1 h with rfl | h
  ·exact io_self _ _ _
  ·rw [io_anti, io_congr cs (G := fun _ => 0) (fun _ _ => rfl) (fun l _ => ops_kill r rs h F l), io_zeroF, neg_zero]
theorem ops_same : ∀ (rs : List (Nat → R)) (i j : Nat) (r : Nat → R), i < j → rs[i]? = some r → rs[j]? = some r → ∀ (F : List Nat → R) (cs : List Nat), ops rs F cs = 0
 | [], i, j, r, _, h, _, _, _ => by simp at h
 | s :: rs, 0, j + 1, r, _, h, k, F, cs => by
  simp at h; subst h
  exact ops_kill s rs (List.mem_of_getElem? (by simpa using k)) F cs
 | s :: rs, i + 1, j + 1, r, hij, h, k, F, cs => by
  simp only [ops]
  rw [io_congr cs (G := fun _ => 0) (fun _ _ => rfl) (fun l _ => ops_same rs i j r (by omega) (by simpa using h) (by simpa using k) F l), io_zeroF]
theorem ops_lin (x y : R) (r s : Nat → R) : ∀ (rs : List (Nat → R)) (i : Nat), i < rs.length → ∀ (F : List Nat → R) (cs : List Nat),
  ops (rs.set i (fun c => x * r c + y * s c)) F cs = x * ops (rs.set i r) F cs + y * ops (rs.set i s) F cs
 | [], i, h, _, _ => by simp at h
 | t :: rs, 0, _, F, cs => by simp only [List.set_cons_zero, ops]; rw [io_add, io_mul, io_mul]
 | t :: rs, i + 1, h, F, cs => by
  simp only [List.set_cons_succ, ops]
  rw [← io_mulF, ← io_mulF, ← io_addF]
  exact io_congr cs (fun _ _ => rfl) (fun l _ => ops_lin x y r s rs i (by simpa using h) F l)
def sg (k : Nat) (x : R) : R := if k % 2 = 1 then -x else x
theorem sg_zero (x : R) : sg 0 x = x := rfl
theorem sg_succ (k : Nat) (x : R) : sg (k + 1) x = -sg k x := by
 unfold sg
 rcases Nat.mod_two_eq_zero_or_one k with h | h
 ·rw [if_pos (by omega), if_neg (by omega)]
 ·rw [if_neg (by omega), if_pos h, neg_neg]
theorem sg_mul (k : Nat) (x y : R) : sg k (x * y) = x * sg k y := by unfold sg; split <;> simp [mul_neg]
theorem sg_mul' (k : Nat) (x y : R) : sg k (x * y) = sg k x * y := by unfold sg; split <;> simp [neg_mul]
theorem io_sum (r : Nat → R) : ∀ (cs : List Nat) (F : List Nat → R), io r cs F = sm cs.length (fun k => sg k (r (cs.getD k 0) * F (cs.eraseIdx k)))
 | [], _ => rfl
 | c :: cs, F => by
  simp only [io, List.length_cons]
  rw [sm_head, io_sum r cs (fun l => F (c :: l)), sub_eq, ← sm_neg]
  congr 1
  exact sm_congr fun i _ => by rw [sg_succ]; simp
def mnr (A : Nat → Nat → R) (k : Nat) : Nat → Nat → R := fun i j => A (i + 1) (if j < k then j else j + 1)
def dn : Nat → (Nat → Nat → R) → R
 | 0, _ => 1
 | n + 1, A => sm (n + 1) (fun k => sg k (A 0 k * dn n (mnr A k)))
theorem dn_congr : ∀ (n : Nat) {A B : Nat → Nat → R}, (∀ i j, i < n → j < n → A i j = B i j) → dn n A = dn n B
 | 0, _, _, _ => rfl
 | n + 1, A, B, h => by
  simp only [dn]
  refine sm_congr fun k hk => ?_
  rw [h 0 k (by omega) hk, dn_congr n (A := mnr A k) (B := mnr B k) (fun i j hi hj => h _ _ (by omega) (by split <;> omega))]
theorem ops_dn : ∀ (n : Nat) (A : Nat → Nat → R) (cs : List Nat), cs.length = n → ops (rows n A) (fun _ => 1) cs = dn n (fun i j => A i (cs.getD j 0))
 | 0, _, _, _ => rfl
 | n + 1, A, cs, h => by
  simp only [rows, ops, dn]
  rw [io_sum, h]
  refine sm_congr fun k hk => ?_
  rw [ops_dn n _ _ (by rw [List.length_eraseIdx, if_pos (by omega)]; omega)]
  congr 2
  refine dn_congr n fun i j _ hj => ?_
  unfold mnr
  congr 1
  simp only [List.getD, List.getElem?_eraseIdx]
  split <;> rfl
theorem dn_ops (n : Nat) (A : Nat → Nat → R) : dn n A = ops (rows n A) (fun _ => 1) (List.range n) := by
 rw [ops_dn n A _ (by simp)]
 exact dn_congr n fun i j _ hj => by simp [List.getD, hj]
theorem dn_lin (n : Nat) (A : Nat → Nat → R) (i : Nat) (hi : i < n) (x y : R) (r s : Nat → R) :
  dn n (upd A i (fun c => x * r c + y * s c)) = x * dn n (upd A i r) + y * dn n (upd A i s) := by
 rw [dn_ops, dn_ops, dn_ops, rows_upd n A i hi, rows_upd n A i hi, rows_upd n A i hi]
 exact ops_lin x y r s _ i (by rw [rows_len]; exact hi) _ _
theorem dn_rep {n : Nat} {A : Nat → Nat → R} {i j : Nat} (hij : i < j) (hj : j < n) (h : A i = A j) : dn n A = 0 := by
 rw [dn_ops]
 exact ops_same _ i j (A i) hij (rows_get n A i (by omega)) (by rw [rows_get n A j hj, h]) _ _
theorem dn_rep' {n : Nat} {A : Nat → Nat → R} {i j : Nat} (hij : i ≠ j) (hi : i < n) (hj : j < n) (h : A i = A j) : dn n A = 0 := by
 rcases Nat.lt_or_gt_of_ne hij with hl | hl
 ·exact dn_rep hl hj h
 ·exact dn_rep hl hi h.symm
theorem dn_scale (n : Nat) (A : Nat → Nat → R) (i : Nat) (hi : i < n) (x : R) (r : Nat → R) : dn n (upd A i (fun c => x * r c)) = x * dn n (upd A i r) := by
 refine (dn_congr n fun a j _ _ => ?_).trans ((dn_lin n A i hi x 0 r r).trans (by rw [zero_mul, add_zero]))
 unfold upd; split
 ·show x * r j = x * r j + 0 * r j
  rw [zero_mul, add_zero]
 ·rfl
theorem dn_mix (n : Nat) (A : Nat → Nat → R) {i j : Nat} (h : i ≠ j) (hi : i < n) (hj : j < n) (a b c d : R) :
  dn n (upd (upd A i (fun k => a * A i k + b * A j k)) j (fun k => c * A i k + d * A j k)) = (a * d - b * c) * dn n A := by
 have lin2 : ∀ r s t x y, dn n (upd (upd A i r) j (fun k => x * s k + y * t k)) = x * dn n (upd (upd A i r) j s) + y * dn n (upd (upd A i r) j t) :=
  fun r s t x y => dn_lin n _ j hj x y s t
 have lin1 : ∀ r s t x y, dn n (upd (upd A i (fun k => x * s k + y * t k)) j r) = x * dn n (upd (upd A i s) j r) + y * dn n (upd (upd A i t) j r) := by
  intro r s t x y
  rw [upd_comm A h, upd_comm A h, upd_comm A h]; exact dn_lin n _ i hi x y s t
 have rep : ∀ r, dn n (upd (upd A i r) j r) = 0 := fun r => dn_rep' h hi hj (by rw [upd_same, upd_ne _ _ h, upd_same])
 have e : upd (upd A i (A i)) j (A j) = A := by rw [upd_self, upd_self]
 have sw : dn n A + dn n (upd (upd A i (A j)) j (A i)) = 0 := by
  have h1 := rep (fun k => 1 * A i k + 1 * A j k)
  rw [lin1, lin2, lin2, rep, rep, e] at h1
  rw [← h1]
  exact by_ring [dn n A, dn n (upd (upd A i (A j)) j (A i))] (X0 + X1) (1 * (1 * 0 + 1 * X0) + 1 * (1 * X1 + 1 * 0)) rfl
 rw [lin1, lin2, lin2, rep, rep, e, neg_unique sw]
 exact by_ring [a, b, c, d, dn n A] (X0 * (X2 * 0 + X3 * X4) + X1 * (X2 * -X4 + X3 * 0)) ((X0 * X3 - X1 * X2) * X4) rfl
def ls : List Nat → (Nat → R) → R
 | [], _ => 0
 | j :: js, f => f j + ls js f
theorem ls_range_aux (f : Nat → R) : ∀ n k, ls (List.range' k n) f = sm n (fun i => f (k + i))
 | 0, _ => rfl
 | n + 1, k => by
  rw [List.range'_succ, sm_head]; simp only [ls]
  rw [ls_range_aux f n (k + 1)]
  congr 1
  exact sm_congr fun i _ => by rw [show k + 1 + i = k + (i + 1) by omega]
theorem ls_range (f : Nat → R) (n : Nat) : ls (List.range n) f = sm n f := by
 rw [List.range_eq_range', ls_range_aux]; exact sm_congr fun i _ => by rw [Nat.zero_add]
theorem ls_erase (f : Nat → R) : ∀ (js : List Nat) (k : Nat), k < js.length → ls js f = f (js.getD k 0) + ls (js.eraseIdx k) f
 | [], _, h => by simp at h
 | j :: js, 0, _ => rfl
 | j :: js, k + 1, h => by
  simp only [ls, List.eraseIdx_cons_succ]
  rw [ls_erase f js k (by simpa using h), add_left_comm]; simp
theorem ops_blind (b : Nat → R) (x : (Nat → R) → R) (g : (Nat → R) → Nat → R) : ∀ (as : List (Nat → R)) (F : List Nat → R) (cs : List Nat),
  io b cs (ops (as.map fun a => fun c => g a c + x a * b c) F) = io b cs (ops (as.map g) F)
 | [], _, _ => rfl
 | a :: as, F, cs => by
  simp only [List.map_cons]
  show io b cs (fun l => io (fun c => g a c + x a * b c) l (ops (as.map fun a => fun c => g a c + x a * b c) F)) = io b cs (fun l => io (g a) l (ops (as.map g) F))
  have h : ∀ G : List Nat → R, io b cs (fun l => io (fun c => g a c + x a * b c) l G) = io b cs (fun l => io (g a) l G) := by
   intro G
   rw [io_congr cs (G := fun l => io (g a) l G + x a * io b l G) (fun _ _ => rfl) (fun l _ => by rw [io_add, io_mul]), io_addF, io_mulF, io_self, mul_zero, add_zero]
  rw [h, io_anti, io_anti b]
  exact congrArg (fun z => -z) (io_congr cs (fun _ _ => rfl) (fun l _ => ops_blind b x g as F l))
theorem ops_front (B : Nat → Nat → R) : ∀ (js : List Nat) (k : Nat), k < js.length → ∀ (F : List Nat → R) (cs : List Nat),
  io (B (js.getD k 0)) cs (ops ((js.eraseIdx k).map B) F) = sg k (ops (js.map B) F cs)
 | [], _, h, _, _ => by simp at h
 | j :: js, 0, _, F, cs => rfl
 | j :: js, k + 1, h, F, cs => by
  simp only [List.eraseIdx_cons_succ, List.map_cons, List.getD_cons_succ]
  show io (B (js.getD k 0)) cs (fun l => io (B j) l (ops ((js.eraseIdx k).map B) F)) = sg (k + 1) (io (B j) cs (ops (js.map B) F))
  rw [io_anti, io_congr cs (G := fun l => sg k (ops (js.map B) F l)) (fun _ _ => rfl) (fun l _ => ops_front B js k (by simpa using h) F l), sg_succ]
  congr 1
  unfold sg
  split
  ·exact io_negF _ _ _
  ·rfl
theorem io_sums (f : Nat → R) (B : Nat → Nat → R) (cs : List Nat) (F : List Nat → R) : ∀ n, io (fun c => sm n (fun k => f k * B k c)) cs F = sm n (fun k => f k * io (B k) cs F)
 | 0 => io_zero cs F
 | n + 1 => by simp only [sm]; rw [io_add, io_mul, io_sums f B cs F n]
theorem ls_sm (f : Nat → R) : ∀ js : List Nat, ls js f = sm js.length (fun k => f (js.getD k 0))
 | [] => rfl
 | j :: js => by
  simp only [ls, List.length_cons]; rw [sm_head, ls_sm f js]
  rfl
theorem ops_comb (B : Nat → Nat → R) : ∀ (as : List (Nat → R)) (js : List Nat), as.length = js.length → ∀ (F : List Nat → R) (cs : List Nat),
  ops (as.map fun a => fun c => ls js fun j => a j * B j c) F cs = ops as (fun _ => 1) js * ops (js.map B) F cs
 | [], [], _, F, cs => by simp only [List.map_nil, ops]; rw [one_mul]
 | [], _ :: _, h, _, _ => by simp at h
 | _ :: _, [], h, _, _ => by simp at h
 | a :: as, j0 :: js0, h, F, cs => by
  generalize hjs : j0 :: js0 = js at h ⊢
  simp only [List.map_cons, ops]
  rw [io_congr cs (s := fun c => sm js.length (fun k => a (js.getD k 0) * B (js.getD k 0) c)) (F := ops (as.map fun a => fun c => ls js fun j => a j * B j c) F) (fun c _ => ls_sm _ js) (fun _ _ => rfl),
   io_sums (fun k => a (js.getD k 0)) (fun k => B (js.getD k 0)), io_sum, mul_comm, ← sm_mul]
  refine sm_congr fun k hk => ?_
  have e1 : (fun (a : Nat → R) => fun c => ls js fun j => a j * B j c) = (fun a => fun c => (fun c => ls (js.eraseIdx k) fun j => a j * B j c) c + (fun a : Nat → R => a (js.getD k 0)) a * B (js.getD k 0) c) := by
   funext a c; rw [ls_erase _ js k hk, add_comm]
  rw [e1, ops_blind (B (js.getD k 0)) (fun a => a (js.getD k 0)) (fun a => fun c => ls (js.eraseIdx k) fun j => a j * B j c) as F cs]
  have e2 := fun l => ops_comb B as (js.eraseIdx k) (by rw [List.length_eraseIdx, if_pos hk]; simp at h; omega) F l
  rw [io_congr cs (G := fun l => ops as (fun _ => 1) (js.eraseIdx k) * ops ((js.eraseIdx k).map B) F l) (fun _ _ => rfl) (fun l _ => e2 l), io_mulF, ops_front B js k hk]
  unfold sg
  split
  ·exact by_ring [a (js.getD k 0), ops as (fun _ => 1) (js.eraseIdx k), ops (js.map B) F cs] (X0 * (X1 * -X2)) (X2 * -(X0 * X1)) rfl
  ·exact by_ring [a (js.getD k 0), ops as (fun _ => 1) (js.eraseIdx k), ops (js.map B) F cs] (X0 * (X1 * X2)) (X2 * (X0 * X1)) rfl
def mm (n : Nat) (A B : Nat → Nat → R) : Nat → Nat → R := fun i k => sm n (fun j => A i j * B j k)
def one1 : Nat → Nat → R := fun i k => if i = k then 1 else 0
theorem dn_mul (n : Nat) (A B : Nat → Nat → R) : dn n (mm n A B) = dn n A * dn n B := by
 rw [dn_ops n (mm n A B), dn_ops n A, dn_ops n B, ← range_map_rows n B, ← ops_comb B (rows n A) (List.range n) (by rw [rows_len]; simp), rows_map]
 congr 2
 funext i c
 rw [ls_range]; rfl
theorem mm_assoc (n m : Nat) (A B C : Nat → Nat → R) : mm m (mm n A B) C = mm n A (mm m B C) := by
 funext i k
 show sm m (fun j => sm n (fun t => A i t * B t j) * C j k) = sm n (fun t => A i t * sm m (fun j => B t j * C j k))
 rw [sm_congr (g := fun j => sm n (fun t => A i t * (B t j * C j k))) (fun j _ => by
  rw [mul_comm, ← sm_mul]; exact sm_congr fun t _ => by rw [mul_comm, mul_assoc]), sm_swap]
 exact sm_congr fun t _ => by rw [← sm_mul]
theorem one_mm {n : Nat} (A : Nat → Nat → R) {i k : Nat} (hi : i < n) : mm n one1 A i k = A i k := by
 show sm n (fun j => one1 i j * A j k) = _
 rw [sm_one hi (fun j _ hj => by unfold one1; rw [if_neg (fun e => hj e.symm), zero_mul])]
 unfold one1; rw [if_pos rfl, one_mul]
theorem dn_one : ∀ n : Nat, dn n (one1 : Nat → Nat → R) = 1
 | 0 => rfl
 | n + 1 => by
  simp only [dn]
  rw [sm_one (k := 0) (by omega) (fun i _ hi => by
   unfold one1; rw [if_neg (fun e => hi e.symm), zero_mul]; unfold sg; split
   ·exact neg_zero
   ·rfl), sg_zero]
  show (if (0 : Nat) = 0 then (1 : R) else 0) * _ = 1
  rw [if_pos rfl, one_mul, ← dn_one n]
  refine dn_congr n fun i j _ _ => ?_
  unfold mnr one1
  rw [if_neg (Nat.not_lt_zero _)]
  by_cases h : i = j
  ·rw [if_pos h, if_pos (by omega)]
  ·rw [if_neg h, if_neg (by omega)]
end
end Go.Proofs.Ytkmfhabgempjiaa
/- Plain algebra: matrices with sides, over a commutative ring: sums, products, powers, inverses. -/
namespace Go.Proofs.Ytkmfhabgempjiaa
open CR
structure MT (R : Type) [CR R] (n m : Nat) where
 e : Nat → Nat → R
 out : ∀ i k, n ≤ i ∨ m ≤ k → e i k = 0
section
variable {R : Type} [CR R] {n m l q : Nat}
theorem MT.ext {A B : MT R n m} (h : ∀ i k, i < n → k < m → A.e i k = B.e i k) : A = B := by
 obtain ⟨a, ha⟩ := A; obtain ⟨b, hb⟩ := B
 have : a = b := by
  funext i k
  by_cases hi : i < n
  ·by_cases hk : k < m
   ·exact h i k hi hk
   ·rw [ha i k (.inr (by omega)), hb i k (.inr (by omega))]
  ·rw [ha i k (.inl (by omega)), hb i k (.inl (by omega))]
 subst this; rfl
def MT.of (n m : Nat) (f : Nat → Nat → R) : MT R n m := ⟨fun i k => if i < n ∧ k < m then f i k else 0, fun _ _ h => if_neg (by omega)⟩
theorem MT.of_e (f : Nat → Nat → R) {i k : Nat} (hi : i < n) (hk : k < m) : (MT.of n m f).e i k = f i k := if_pos ⟨hi, hk⟩
theorem MT.of_congr {f g : Nat → Nat → R} (h : ∀ i k, i < n → k < m → f i k = g i k) : MT.of n m f = MT.of n m g :=
 MT.ext fun i k hi hk => by rw [MT.of_e f hi hk, MT.of_e g hi hk, h i k hi hk]
instance : Zero (MT R n m) := ⟨⟨fun _ _ => 0, fun _ _ _ => rfl⟩⟩
instance : Add (MT R n m) := ⟨fun A B => ⟨fun i k => A.e i k + B.e i k, fun i k h => by rw [A.out i k h, B.out i k h, zero_add]⟩⟩
instance : Neg (MT R n m) := ⟨fun A => ⟨fun i k => -A.e i k, fun i k h => by rw [A.out i k h, neg_zero]⟩⟩
instance : Sub (MT R n m) := ⟨fun A B => ⟨fun i k => A.e i k - B.e i k, fun i k h => by rw [A.out i k h, B.out i k h, sub_self]⟩⟩
instance : HMul (MT R n m) (MT R m l) (MT R n l) := ⟨fun A B => ⟨mm m A.e B.e, fun i k h => sm_zero' fun j _ => by
 rcases h with h | h
 ·rw [A.out i j (.inl h), zero_mul]
 ·rw [B.out j k (.inr h), mul_zero]⟩⟩
def MT.one (n : Nat) : MT R n n := MT.of n n one1
def MT.sc (c : R) (A : MT R n m) : MT R n m := ⟨fun i k => c * A.e i k, fun i k h => by rw [A.out i k h, mul_zero]⟩
theorem MT.e_zero (i k : Nat) : (0 : MT R n m).e i k = 0 := rfl
theorem MT.e_add (A B : MT R n m) (i k : Nat) : (A + B).e i k = A.e i k + B.e i k := rfl
theorem MT.e_neg (A : MT R n m) (i k : Nat) : (-A).e i k = -A.e i k := rfl
theorem MT.e_sub (A B : MT R n m) (i k : Nat) : (A - B).e i k = A.e i k - B.e i k := rfl
theorem MT.e_mul (A : MT R n m) (B : MT R m l) (i k : Nat) : (A * B).e i k = sm m (fun j => A.e i j * B.e j k) := rfl
theorem MT.e_sc (c : R) (A : MT R n m) (i k : Nat) : (A.sc c).e i k = c * A.e i k := rfl
theorem MT.e_one {i k : Nat} (hi : i < n) (hk : k < n) : (MT.one n : MT R n n).e i k = if i = k then 1 else 0 := MT.of_e one1 hi hk
theorem MT.mul_assoc (A : MT R n m) (B : MT R m l) (C : MT R l q) : A * B * C = A * (B * C) := MT.ext fun i k _ _ => congrFun (congrFun (mm_assoc m l A.e B.e C.e) i) k
theorem MT.mul_one (A : MT R n m) : A * (MT.one m : MT R m m) = A := MT.ext fun i k _ hk => by
 rw [MT.e_mul, sm_one hk (fun j hj hn => by rw [MT.e_one hj hk, if_neg hn, mul_zero]), MT.e_one hk hk, if_pos rfl, CR.mul_one]
theorem MT.one_mul (A : MT R n m) : (MT.one n : MT R n n) * A = A := MT.ext fun i k hi _ => by
 rw [MT.e_mul, sm_one hi (fun j hj hn => by rw [MT.e_one hi hj, if_neg (fun e => hn e.symm), zero_mul]), MT.e_one hi hi, if_pos rfl, CR.one_mul]
theorem MT.mul_add (A : MT R n m) (B C : MT R m l) : A * (B + C) = A * B + A * C := MT.ext fun i k _ _ => by
 rw [MT.e_add, MT.e_mul, MT.e_mul, MT.e_mul, ← sm_add]; exact sm_congr fun j _ => by rw [MT.e_add, CR.mul_add]
theorem MT.add_mul (A B : MT R n m) (C : MT R m l) : (A + B) * C = A * C + B * C := MT.ext fun i k _ _ => by
 rw [MT.e_add, MT.e_mul, MT.e_mul, MT.e_mul, ← sm_add]; exact sm_congr fun j _ => by rw [MT.e_add, CR.add_mul]
theorem MT.mul_zero (A : MT R n m) : A * (0 : MT R m l) = 0 := MT.ext fun i k _ _ => by
 rw [MT.e_mul, MT.e_zero]; exact sm_zero' fun j _ => by rw [MT.e_zero, CR.mul_zero]
theorem MT.zero_mul (A : MT R m l) : (0 : MT R n m) * A = 0 := MT.ext fun i k _ _ => by
 rw [MT.e_mul, MT.e_zero]; exact sm_zero' fun j _ => by rw [MT.e_zero, CR.zero_mul]
theorem MT.add_assoc (A B C : MT R n m) : A + B + C = A + (B + C) := MT.ext fun i k _ _ => by simp only [MT.e_add]; rw [CR.add_assoc]
theorem MT.add_comm (A B : MT R n m) : A + B = B + A := MT.ext fun i k _ _ => by simp only [MT.e_add]; rw [CR.add_comm]
theorem MT.zero_add (A : MT R n m) : 0 + A = A := MT.ext fun i k _ _ => by rw [MT.e_add, MT.e_zero, CR.zero_add]
theorem MT.add_zero (A : MT R n m) : A + 0 = A := by rw [MT.add_comm, MT.zero_add]
theorem MT.sub_eq (A B : MT R n m) : A - B = A + -B := MT.ext fun i k _ _ => by rw [MT.e_sub, MT.e_add, MT.e_neg, CR.sub_eq]
theorem MT.add_neg (A : MT R n m) : A + -A = 0 := MT.ext fun i k _ _ => by rw [MT.e_add, MT.e_neg, CR.add_neg]; rfl
theorem MT.sub_self (A : MT R n m) : A - A = 0 := by rw [MT.sub_eq, MT.add_neg]
theorem MT.sub_add_cancel (A B : MT R n m) : A - B + B = A := MT.ext fun i k _ _ => by rw [MT.e_add, MT.e_sub, CR.sub_add_cancel]
theorem MT.sub_zero' {A B : MT R n m} (h : A - B = 0) : A = B := by rw [← MT.sub_add_cancel A B, h, MT.zero_add]
theorem MT.mul_neg (A : MT R n m) (B : MT R m l) : A * -B = -(A * B) := MT.ext fun i k _ _ => by
 rw [MT.e_neg, MT.e_mul, MT.e_mul, ← sm_neg]; exact sm_congr fun j _ => by rw [MT.e_neg, CR.mul_neg]
theorem MT.neg_mul (A : MT R n m) (B : MT R m l) : -A * B = -(A * B) := MT.ext fun i k _ _ => by
 rw [MT.e_neg, MT.e_mul, MT.e_mul, ← sm_neg]; exact sm_congr fun j _ => by rw [MT.e_neg, CR.neg_mul]
theorem MT.mul_sub (A : MT R n m) (B C : MT R m l) : A * (B - C) = A * B - A * C := by rw [MT.sub_eq, MT.mul_add, MT.mul_neg, ← MT.sub_eq]
theorem MT.sub_mul (A B : MT R n m) (C : MT R m l) : (A - B) * C = A * C - B * C := by rw [MT.sub_eq, MT.add_mul, MT.neg_mul, ← MT.sub_eq]
theorem MT.sc_mul (c : R) (A : MT R n m) (B : MT R m l) : A.sc c * B = (A * B).sc c := MT.ext fun i k _ _ => by
 rw [MT.e_sc, MT.e_mul, MT.e_mul, ← sm_mul]; exact sm_congr fun j _ => by rw [MT.e_sc, CR.mul_assoc]
theorem MT.mul_sc (c : R) (A : MT R n m) (B : MT R m l) : A * B.sc c = (A * B).sc c := MT.ext fun i k _ _ => by
 rw [MT.e_sc, MT.e_mul, MT.e_mul, ← sm_mul]; exact sm_congr fun j _ => by rw [MT.e_sc, CR.mul_left_comm]
theorem MT.sc_sc (c d : R) (A : MT R n m) : (A.sc d).sc c = A.sc (c * d) := MT.ext fun i k _ _ => by simp only [MT.e_sc]; rw [CR.mul_assoc]
theorem MT.sc_add (c : R) (A B : MT R n m) : (A + B).sc c = A.sc c + B.sc c := MT.ext fun i k _ _ => by simp only [MT.e_sc, MT.e_add]; rw [CR.mul_add]
theorem MT.add_sc (c d : R) (A : MT R n m) : A.sc (c + d) = A.sc c + A.sc d := MT.ext fun i k _ _ => by simp only [MT.e_sc, MT.e_add]; rw [CR.add_mul]
theorem MT.sc_zero (c : R) : (0 : MT R n m).sc c = 0 := MT.ext fun i k _ _ => by rw [MT.e_sc, MT.e_zero, CR.mul_zero]
theorem MT.zero_sc (A : MT R n m) : A.sc 0 = 0 := MT.ext fun i k _ _ => by rw [MT.e_sc, MT.e_zero, CR.zero_mul]
theorem MT.one_sc (A : MT R n m) : A.sc 1 = A := MT.ext fun i k _ _ => by rw [MT.e_sc, CR.one_mul]
theorem MT.sc_one_mul (c : R) (A : MT R n m) : (MT.one n : MT R n n).sc c * A = A.sc c := by rw [MT.sc_mul, MT.one_mul]
theorem MT.zero_of {A : MT R n m} (h : ∀ i k, i < n → k < m → A.e i k = 0) : A = 0 := MT.ext h
def MT.det (A : MT R n n) : R := dn n A.e
theorem MT.det_mul (A B : MT R n n) : (A * B).det = A.det * B.det := dn_mul n A.e B.e
theorem MT.det_one : (MT.one n : MT R n n).det = 1 := by
 refine (dn_congr n fun i k hi hk => ?_).trans (dn_one n)
 rw [MT.e_one hi hk]; rfl
def MT.tr (A : MT R n m) : MT R m n := ⟨fun i k => A.e k i, fun i k h => A.out k i h.symm⟩
theorem MT.e_tr (A : MT R n m) (i k : Nat) : A.tr.e i k = A.e k i := rfl
theorem MT.tr_mul (A : MT R n m) (B : MT R m l) : (A * B).tr = B.tr * A.tr := MT.ext fun i k _ _ => by
 rw [MT.e_tr, MT.e_mul, MT.e_mul]; exact sm_congr fun j _ => by rw [MT.e_tr, MT.e_tr, CR.mul_comm]
theorem MT.tr_one : (MT.one n : MT R n n).tr = MT.one n := MT.ext fun i k hi hk => by
 rw [MT.e_tr, MT.e_one hk hi, MT.e_one hi hk]
 by_cases h : i = k
 ·rw [if_pos h, if_pos h.symm]
 ·rw [if_neg h, if_neg (fun e => h e.symm)]
def Inv (A : MT R n m) (B : MT R m n) : Prop := A * B = MT.one n ∧ B * A = MT.one m
theorem Inv.one : Inv (MT.one n : MT R n n) (MT.one n) := ⟨MT.mul_one _, MT.mul_one _⟩
theorem Inv.mul {A : MT R n m} {B : MT R m n} {C : MT R m l} {D : MT R l m} (h : Inv A B) (k : Inv C D) : Inv (A * C) (D * B) := by
 constructor
 ·rw [MT.mul_assoc, ← MT.mul_assoc C, k.1, MT.one_mul, h.1]
 ·rw [MT.mul_assoc, ← MT.mul_assoc B, h.2, MT.one_mul, k.2]
theorem Inv.det {A B : MT R n n} (h : Inv A B) : A.det * B.det = 1 := by rw [← MT.det_mul, h.1, MT.det_one]
theorem Inv.cancel {A : MT R n m} {B : MT R m n} (h : Inv A B) {C D : MT R m l} (e : A * C = A * D) : C = D := by
 rw [← MT.one_mul C, ← h.2, MT.mul_assoc, e, ← MT.mul_assoc, h.2, MT.one_mul]
theorem dn_row0 {A : Nat → Nat → R} {i : Nat} (hi : i < n) (h : ∀ k, k < n → A i k = 0) : dn n A = 0 := by
 refine (dn_congr n fun a k _ hk => ?_).trans ((dn_scale n A i hi 0 (A i)).trans (CR.zero_mul _))
 unfold upd; split
 ·rename_i h1; subst h1; rw [h k hk]; exact (CR.zero_mul _).symm
 ·rfl
theorem Inv.sides (h01 : (1 : R) ≠ 0) {A : MT R n m} {B : MT R m n} (h : A * B = MT.one n) : n ≤ m := by
 rcases Nat.lt_or_ge m n with hl | hl
 ·exfalso
  apply h01
  have e1 : dn n (mm n A.e B.e) = 1 := by
   rw [← dn_one n]
   refine dn_congr n fun i k hi hk => ?_
   have : (A * B).e i k = (MT.one n).e i k := by rw [h]
   rw [MT.e_mul, MT.e_one hi hk] at this
   show sm n (fun j => A.e i j * B.e j k) = _
   have e : ∀ N, N = m + (n - m) → sm N (fun j => A.e i j * B.e j k) = one1 i k := by
    intro N hN
    rw [hN, sm_split, this, sm_zero' (n := n - m) (fun j _ => by rw [A.out i (m + j) (.inr (by omega)), CR.zero_mul]), CR.add_zero]
    rfl
   exact e n (by omega)
  rw [← e1, dn_mul, dn_row0 (A := B.e) (i := m) hl (fun k _ => B.out m k (.inl (Nat.le_refl _))), CR.mul_zero]
 ·exact hl
theorem Inv.same (h01 : (1 : R) ≠ 0) {A : MT R n m} {B : MT R m n} (h : Inv A B) : n = m := Nat.le_antisymm (Inv.sides h01 h.1) (Inv.sides h01 h.2)
def MT.pow (A : MT R n n) : Nat → MT R n n
 | 0 => MT.one n
 | k + 1 => A.pow k * A
theorem MT.pow_succ (A : MT R n n) (k : Nat) : A.pow (k + 1) = A.pow k * A := rfl
theorem MT.pow_add (A : MT R n n) (a : Nat) : ∀ b, A.pow (a + b) = A.pow a * A.pow b
 | 0 => (MT.mul_one _).symm
 | b + 1 => by rw [← Nat.add_assoc, MT.pow_succ, MT.pow_add A a b, MT.pow_succ, MT.mul_assoc]
theorem MT.pow_conj {A B P : MT R n n} (h : P * A = B * P) : ∀ k, P * A.pow k = B.pow k * P
 | 0 => by show P * MT.one n = MT.one n * P; rw [MT.mul_one, MT.one_mul]
 | k + 1 => by rw [MT.pow_succ, MT.pow_succ, ← MT.mul_assoc, MT.pow_conj h k, MT.mul_assoc, h, MT.mul_assoc]
def ms : Nat → (Nat → MT R n m) → MT R n m
 | 0, _ => 0
 | k + 1, f => ms k f + f k
theorem ms_e (f : Nat → MT R n m) (i k : Nat) : ∀ N, (ms N f).e i k = sm N (fun j => (f j).e i k)
 | 0 => rfl
 | N + 1 => by simp only [ms, sm]; rw [MT.e_add, ms_e f i k N]
theorem ms_congr {N : Nat} {f g : Nat → MT R n m} (h : ∀ j, j < N → f j = g j) : ms N f = ms N g :=
 MT.ext fun i k _ _ => by rw [ms_e, ms_e]; exact sm_congr fun j hj => by rw [h j hj]
theorem ms_add (N : Nat) (f g : Nat → MT R n m) : ms N (fun j => f j + g j) = ms N f + ms N g :=
 MT.ext fun i k _ _ => by rw [MT.e_add, ms_e, ms_e, ms_e, ← sm_add]; rfl
theorem ms_mul (A : MT R l n) (f : Nat → MT R n m) : ∀ N, A * ms N f = ms N (fun j => A * f j)
 | 0 => MT.mul_zero A
 | N + 1 => by simp only [ms]; rw [MT.mul_add, ms_mul A f N]
theorem mul_ms (f : Nat → MT R n m) (A : MT R m l) : ∀ N, ms N f * A = ms N (fun j => f j * A)
 | 0 => MT.zero_mul A
 | N + 1 => by simp only [ms]; rw [MT.add_mul, mul_ms f A N]
theorem ms_sc (c : R) (f : Nat → MT R n m) : ∀ N, (ms N f).sc c = ms N (fun j => (f j).sc c)
 | 0 => MT.sc_zero c
 | N + 1 => by simp only [ms]; rw [MT.sc_add, ms_sc c f N]
theorem ms_zero {N : Nat} {f : Nat → MT R n m} (h : ∀ j, j < N → f j = 0) : ms N f = 0 :=
 MT.ext fun i k _ _ => by rw [ms_e, MT.e_zero]; exact sm_zero' fun j hj => by rw [h j hj]; rfl
theorem ms_one {N a : Nat} {f : Nat → MT R n m} (ha : a < N) (h : ∀ j, j < N → j ≠ a → f j = 0) : ms N f = f a :=
 MT.ext fun i k _ _ => by rw [ms_e]; exact sm_one ha fun j hj hn => by rw [h j hj hn]; rfl
theorem ms_swap (N M : Nat) (f : Nat → Nat → MT R n m) : ms N (fun i => ms M (f i)) = ms M (fun j => ms N (fun i => f i j)) :=
 MT.ext fun i k _ _ => by
  rw [ms_e, ms_e, sm_congr (fun j _ => ms_e (f j) i k M), sm_swap]
  exact sm_congr fun j _ => by rw [ms_e]
end
end Go.Proofs.Ytkmfhabgempjiaa
/- Plain algebra: rows that are reduced, over the whole numbers by a prime. -/
namespace Go.Proofs.Ytkmfhabgempjiaa
open CR
section
variable {R : Type} [CR R] {n m l : Nat}
def swp (W : Nat → Nat → R) (i j : Nat) : Nat → Nat → R := fun a => if a = i then W j else if a = j then W i else W a
def tks (W : Nat → Nat → R) (t : Nat) (c : Nat → R) : Nat → Nat → R := fun r k => if r = t then W r k else W r k - c r * W t k
def scl (W : Nat → Nat → R) (t : Nat) (c : R) : Nat → Nat → R := fun r k => if r = t then W r k * c else W r k
theorem dn_swp {W : Nat → Nat → R} {i j : Nat} (h : i ≠ j) (hi : i < n) (hj : j < n) : dn n (swp W i j) = -dn n W := by
 have e := dn_mix n W h hi hj 0 1 1 0
 rw [show ((0 : R) * 0 - 1 * 1) * dn n W = -dn n W from by_ring [dn n W] ((0 * 0 - 1 * 1) * X0) (-X0) rfl] at e
 rw [← e]
 refine dn_congr n fun a k _ _ => ?_
 unfold upd swp
 by_cases h1 : a = i
 ·rw [if_pos h1, if_neg (fun e => h (h1.symm.trans e)), if_pos h1]
  exact by_ring [W j k, W i k] X0 (0 * X1 + 1 * X0) rfl
 ·rw [if_neg h1]
  by_cases h2 : a = j
  ·rw [if_pos h2, if_pos h2]
   exact by_ring [W j k, W i k] X1 (1 * X1 + 0 * X0) rfl
  ·rw [if_neg h2, if_neg h2, if_neg h1]
theorem dn_scl {W : Nat → Nat → R} {t : Nat} (ht : t < n) (c : R) : dn n (scl W t c) = dn n W * c := by
 have e := dn_scale n W t ht c (W t)
 rw [upd_self, mul_comm] at e
 rw [← e]
 refine dn_congr n fun a k _ _ => ?_
 unfold scl upd
 split
 ·rename_i h; subst h; exact mul_comm _ _
 ·rfl
theorem dn_tks {W : Nat → Nat → R} {t : Nat} (ht : t < n) (c : Nat → R) : dn n (tks W t c) = dn n W := by
 have H : ∀ j, j ≤ n → dn n (tks W t (fun r => if r < j then c r else 0)) = dn n W := by
  intro j
  induction j with
  | zero =>
   intro _
   refine dn_congr n fun a k _ _ => ?_
   unfold tks; dsimp only; split
   ·rfl
   ·rw [if_neg (Nat.not_lt_zero _), zero_mul, sub_zero]
  | succ j ih =>
   intro hj
   rw [← ih (by omega)]
   by_cases hjt : j = t
   ·refine dn_congr n fun a k _ _ => ?_
    unfold tks; dsimp only; split
    ·rfl
    ·rename_i h
     by_cases h2 : a < j
     ·rw [if_pos h2, if_pos (by omega)]
     ·rw [if_neg h2, if_neg (by omega)]
   ·have e := dn_lin n (tks W t (fun r => if r < j then c r else 0)) j (by omega) 1 (-c j) (W j) (W t)
    have e0 : dn n (upd (tks W t (fun r => if r < j then c r else 0)) j (W t)) = 0 := by
     refine dn_rep' hjt (by omega) ht ?_
     rw [upd_same, upd_ne _ _ (fun h => hjt h.symm)]
     funext k; unfold tks; rw [if_pos rfl]
    rw [e0, mul_zero, add_zero, one_mul] at e
    have e1 : upd (tks W t (fun r => if r < j then c r else 0)) j (W j) = tks W t (fun r => if r < j then c r else 0) := by
     have := upd_self (tks W t (fun r => if r < j then c r else 0)) j
     rwa [show tks W t (fun r => if r < j then c r else 0) j = W j from by
      funext k; unfold tks; dsimp only; rw [if_neg hjt, if_neg (Nat.lt_irrefl _), zero_mul, sub_zero]] at this
    rw [e1] at e
    rw [← e]
    refine dn_congr n fun a k _ _ => ?_
    unfold upd
    by_cases h : a = j
    ·subst h
     rw [if_pos rfl]; unfold tks; dsimp only; rw [if_neg hjt, if_pos (Nat.lt_succ_self _)]
     exact by_ring [W a k, c a, W t k] (X0 - X1 * X2) (1 * X0 + -X1 * X2) rfl
    ·rw [if_neg h]; unfold tks; dsimp only; split
     ·rfl
     ·by_cases h2 : a < j
      ·rw [if_pos h2, if_pos (by omega)]
      ·rw [if_neg h2, if_neg (by omega)]
 rw [← H n (Nat.le_refl _)]
 refine dn_congr n fun a k ha _ => ?_
 unfold tks; dsimp only; rw [if_pos ha]
def Rq (n m : Nat) (W V : Nat → Nat → R) : Prop := ∃ T T' : MT R n n, Inv T T' ∧ MT.of n m V = T * MT.of n m W
theorem Rq.refl (W : Nat → Nat → R) : Rq n m W W := ⟨_, _, Inv.one, (MT.one_mul _).symm⟩
theorem Rq.trans {W V U : Nat → Nat → R} (h : Rq n m W V) (k : Rq n m V U) : Rq n m W U := by
 obtain ⟨T, T', h1, h2⟩ := h
 obtain ⟨S, S', k1, k2⟩ := k
 exact ⟨S * T, T' * S', k1.mul h1, by rw [k2, h2, MT.mul_assoc]⟩
theorem Rq.of {W V : Nat → Nat → R} {f g : Nat → Nat → R} (h1 : Inv (MT.of n n f) (MT.of n n g)) (h : ∀ i k, i < n → k < m → V i k = sm n (fun j => f i j * W j k)) : Rq n m W V :=
 ⟨_, _, h1, MT.ext fun i k hi hk => by
  rw [MT.of_e _ hi hk, MT.e_mul, h i k hi hk]
  exact sm_congr fun j hj => by rw [MT.of_e _ hi hj, MT.of_e _ hj hk]⟩
theorem inv_of {f g : Nat → Nat → R} (h : ∀ i k, i < n → k < n → sm n (fun j => f i j * g j k) = if i = k then 1 else 0) (h' : ∀ i k, i < n → k < n → sm n (fun j => g i j * f j k) = if i = k then 1 else 0) :
  Inv (MT.of n n f) (MT.of n n g) := by
 constructor
 ·refine MT.ext fun i k hi hk => ?_
  rw [MT.e_mul, MT.e_one hi hk, ← h i k hi hk]
  exact sm_congr fun j hj => by rw [MT.of_e _ hi hj, MT.of_e _ hj hk]
 ·refine MT.ext fun i k hi hk => ?_
  rw [MT.e_mul, MT.e_one hi hk, ← h' i k hi hk]
  exact sm_congr fun j hj => by rw [MT.of_e _ hi hj, MT.of_e _ hj hk]
theorem sm_two {N a b : Nat} {f : Nat → R} (ha : a < N) (hb : b < N) (hab : a ≠ b) (h : ∀ i, i < N → i ≠ a → i ≠ b → f i = 0) : sm N f = f a + f b := by
 have e : sm N f = sm N (fun i => (if i = a then f a else 0) + (if i = b then f b else 0)) := by
  refine sm_congr fun i hi => ?_
  by_cases h1 : i = a
  ·subst h1; rw [if_pos rfl, if_neg hab, add_zero]
  ·by_cases h2 : i = b
   ·subst h2; rw [if_neg h1, if_pos rfl, zero_add]
   ·rw [if_neg h1, if_neg h2, zero_add, h i hi h1 h2]
 rw [e, sm_add, sm_one ha (fun i _ hi => if_neg hi), if_pos rfl, sm_one hb (fun i _ hi => if_neg hi), if_pos rfl]
theorem Rq.swp {W : Nat → Nat → R} {i j : Nat} (hi : i < n) (hj : j < n) : Rq n m W (swp W i j) := by
 have S : ∀ (V : Nat → Nat → R) r k, r < n → sm n (fun t => Go.Proofs.Ytkmfhabgempjiaa.swp one1 i j r t * V t k) = Go.Proofs.Ytkmfhabgempjiaa.swp V i j r k := by
  intro V r k hr
  have one : ∀ a, a < n → sm n (fun t => one1 a t * V t k) = V a k := fun a ha => one_mm V ha
  unfold Go.Proofs.Ytkmfhabgempjiaa.swp
  by_cases h1 : r = i
  ·simp only [if_pos h1]; exact one j hj
  ·by_cases h2 : r = j
   ·simp only [if_neg h1, if_pos h2]; exact one i hi
   ·simp only [if_neg h1, if_neg h2]; exact one r hr
 have I : ∀ r k, r < n → k < n → sm n (fun t => Go.Proofs.Ytkmfhabgempjiaa.swp (one1 : Nat → Nat → R) i j r t * Go.Proofs.Ytkmfhabgempjiaa.swp one1 i j t k) = if r = k then 1 else 0 := by
  intro r k hr _
  rw [S _ r k hr]
  have e3 : Go.Proofs.Ytkmfhabgempjiaa.swp (Go.Proofs.Ytkmfhabgempjiaa.swp (one1 : Nat → Nat → R) i j) i j r = one1 r := by
   unfold Go.Proofs.Ytkmfhabgempjiaa.swp
   by_cases h1 : r = i
   ·subst h1; by_cases h2 : j = r
    ·subst h2; simp
    ·simp [h2]
   ·by_cases h2 : r = j
    ·subst h2; simp; intro h3; exact fun h4 => (h4 h3).elim
    ·simp [h1, h2]
  rw [e3]; rfl
 exact Rq.of (inv_of I I) (fun r k hr _ => (S W r k hr).symm)
theorem Rq.scl {W : Nat → Nat → R} {t : Nat} {c d : R} (h : c * d = 1) : Rq n m W (scl W t c) := by
 have h' : d * c = 1 := by rw [mul_comm]; exact h
 have dg : ∀ (a b : R), a * b = 1 → ∀ r k, r < n → k < n → sm n (fun j => (if r = j then (if r = t then a else 1) else 0) * (if j = k then (if j = t then b else 1) else 0)) = if r = k then 1 else 0 := by
  intro a b hab r k hr hk
  rw [sm_one hr (fun j _ hj => by rw [if_neg (fun e => hj e.symm), zero_mul]), if_pos rfl]
  by_cases e : r = k
  ·subst e; rw [if_pos rfl, if_pos rfl]
   split
   ·exact hab
   ·exact mul_one _
  ·rw [if_neg e, if_neg e, mul_zero]
 refine Rq.of (inv_of (dg c d h) (dg d c h')) (fun r k hr hk => ?_)
 rw [sm_one hr (fun j _ hj => by rw [if_neg (fun e => hj e.symm), zero_mul]), if_pos rfl]
 unfold Go.Proofs.Ytkmfhabgempjiaa.scl
 split
 ·exact mul_comm _ _
 ·rw [one_mul]
theorem Rq.tks {W : Nat → Nat → R} {t : Nat} (ht : t < n) (c : Nat → R) : Rq n m W (tks W t c) := by
 have mk : ∀ (d : Nat → R) (V : Nat → Nat → R) r k, r < n → sm n (fun j => Go.Proofs.Ytkmfhabgempjiaa.tks one1 t d r j * V j k) = Go.Proofs.Ytkmfhabgempjiaa.tks V t d r k := by
  intro d V r k hr
  unfold Go.Proofs.Ytkmfhabgempjiaa.tks
  by_cases h : r = t
  ·simp only [if_pos h]; exact one_mm V hr
  ·simp only [if_neg h]
   have e0 : sm n (fun j => (one1 r j - d r * one1 t j) * V j k) = sm n (fun j => one1 r j * V j k + -d r * (one1 t j * V j k)) := sm_congr fun j _ => by_ring [one1 r j, d r, one1 t j, V j k] ((X0 - X1 * X2) * X3) (X0 * X3 + -X1 * (X2 * X3)) rfl
   rw [e0, sm_add, sm_mul]
   have e1 : sm n (fun j => one1 r j * V j k) = V r k := one_mm V hr
   have e2 : sm n (fun j => one1 t j * V j k) = V t k := one_mm V ht
   rw [e1, e2]
   exact by_ring [V r k, d r, V t k] (X0 + -X1 * X2) (X0 - X1 * X2) rfl
 have I : ∀ (d d' : Nat → R), (∀ r, d r + d' r = 0) → ∀ r k, r < n → k < n → sm n (fun j => Go.Proofs.Ytkmfhabgempjiaa.tks (one1 : Nat → Nat → R) t d r j * Go.Proofs.Ytkmfhabgempjiaa.tks one1 t d' j k) = if r = k then 1 else 0 := by
  intro d d' hd r k hr _
  rw [mk d _ r k hr]
  have e : Go.Proofs.Ytkmfhabgempjiaa.tks (Go.Proofs.Ytkmfhabgempjiaa.tks (one1 : Nat → Nat → R) t d') t d r k = one1 r k := by
   unfold Go.Proofs.Ytkmfhabgempjiaa.tks
   by_cases h : r = t
   ·simp [h]
   ·rw [if_neg h, if_neg h, if_pos rfl]
    have := hd r
    have e2 : one1 r k - d' r * one1 t k - d r * one1 t k = one1 r k - (d r + d' r) * one1 t k := by_ring [one1 r k, d' r, one1 t k, d r] (X0 - X1 * X2 - X3 * X2) (X0 - (X3 + X1) * X2) rfl
    rw [e2, this, zero_mul, sub_zero]
  rw [e]; rfl
 exact Rq.of (inv_of (I c (fun r => -c r) (fun r => add_neg _)) (I (fun r => -c r) c (fun r => neg_add _))) (fun r k hr _ => (mk c W r k hr).symm)
end
end Go.Proofs.Ytkmfhabgempjiaa
/- Plain algebra: the reduced form, column by column; what it tells of rank, determinant, inverse, solutions, kernel. -/
namespace Go.Proofs.Ytkmfhabgempjiaa
open CR
section
variable {p : Nat} {n m : Nat}
structure RedI (n m col : Nat) (W0 W : Nat → Nat → Zp p) (P : List Nat) (d : Zp p) : Prop where
 rq : Rq n m W0 W
 det : dn n W0 = d * dn n W
 len : P.length ≤ n
 lt : ∀ t, t < P.length → P.getD t 0 < col
 inc : ∀ s t, s < t → t < P.length → P.getD s 0 < P.getD t 0
 unit : ∀ t i, t < P.length → i < n → W i (P.getD t 0) = if i = t then 1 else 0
 low : ∀ i k, P.length ≤ i → i < n → k < col → W i k = 0
 left : ∀ t k, t < P.length → k < P.getD t 0 → W t k = 0
theorem RedI.start (W : Nat → Nat → Zp p) : RedI n m 0 W W [] 1 :=
 ⟨Rq.refl W, (one_mul _).symm, Nat.zero_le _, fun t h => by simp at h, fun s t _ h => by simp at h, fun t i h => by simp at h, fun i k _ _ h => by omega, fun t k h => by simp at h⟩
theorem RedI.none {col : Nat} {W0 W : Nat → Nat → Zp p} {P : List Nat} {d : Zp p} (h : RedI n m col W0 W P d) (h0 : ∀ i, P.length ≤ i → i < n → W i col = 0) : RedI n m (col + 1) W0 W P d :=
 ⟨h.rq, h.det, h.len, fun t ht => Nat.lt_succ_of_lt (h.lt t ht), h.inc, h.unit, fun i k h1 h2 h3 => by
  by_cases e : k = col
  ·rw [e]; exact h0 i h1 h2
  ·exact h.low i k h1 h2 (by omega), h.left⟩
def elm (W : Nat → Nat → Zp p) (t i col : Nat) (c : Zp p) : Nat → Nat → Zp p := tks (scl (swp W t i) t c) t (fun r => swp W t i r col)
theorem elm_top (W : Nat → Nat → Zp p) (t i col : Nat) (c : Zp p) (k : Nat) : elm W t i col c t k = W i k * c := by
 unfold elm tks scl swp; rw [if_pos rfl, if_pos rfl, if_pos rfl]
theorem elm_ne (W : Nat → Nat → Zp p) {t i col : Nat} (c : Zp p) {r : Nat} (h : r ≠ t) (k : Nat) : elm W t i col c r k = swp W t i r k - swp W t i r col * (W i k * c) := by
 unfold elm tks scl; rw [if_neg h, if_neg h, if_pos rfl]
 congr 2
 show swp W t i t k * c = _
 congr 1; unfold swp; rw [if_pos rfl]
theorem getD_app {P : List Nat} {x t : Nat} (h : t < (P ++ [x]).length) : (t < P.length ∧ (P ++ [x]).getD t 0 = P.getD t 0) ∨ (t = P.length ∧ (P ++ [x]).getD t 0 = x) := by
 by_cases e : t < P.length
 ·exact .inl ⟨e, by simp [List.getD, List.getElem?_append_left e]⟩
 ·have : t = P.length := by simp at h; omega
  subst this; exact .inr ⟨rfl, by simp [List.getD]⟩
theorem swp_self (W : Nat → Nat → Zp p) (i : Nat) : swp W i i = W := by
 funext a; unfold swp; split
 ·rename_i h; rw [h]
 ·rfl
theorem RedI.step {col i : Nat} {W0 W : Nat → Nat → Zp p} {P : List Nat} {d c : Zp p} (h : RedI n m col W0 W P d) (hi : P.length ≤ i) (hin : i < n) (hc : W i col * c = 1) :
  RedI n m (col + 1) W0 (elm W P.length i col c) (P ++ [col]) ((if i = P.length then d else -d) * W i col) := by
 have ht : P.length < n := by omega
 have hc' : c * W i col = 1 := by rw [mul_comm]; exact hc
 have hS : ∀ s, s < P.length → ∀ a, a < n → swp W P.length i a (P.getD s 0) = if a = s then 1 else 0 := by
  intro s hs a ha
  unfold swp
  by_cases h1 : a = P.length
  ·rw [if_pos h1, h.unit s i hs hin, if_neg (by omega), if_neg (by omega)]
  ·rw [if_neg h1]
   by_cases h2 : a = i
   ·rw [if_pos h2, h.unit s _ hs ht, if_neg (by omega), if_neg (by omega)]
   ·rw [if_neg h2, h.unit s a hs ha]
 have hL : ∀ a k, P.length ≤ a → a < n → k < col → swp W P.length i a k = 0 := by
  intro a k h1 h2 h3
  unfold swp
  split
  ·exact h.low i k hi hin h3
  ·split
   ·exact h.low _ k (Nat.le_refl _) ht h3
   ·exact h.low a k h1 h2 h3
 refine ⟨?_, ?_, by simp; omega, ?_, ?_, ?_, ?_, ?_⟩
 ·exact ((h.rq.trans (Rq.swp ht hin)).trans (Rq.scl hc')).trans (Rq.tks ht _)
 ·rw [h.det]
  have e : dn n (elm W P.length i col c) = dn n (swp W P.length i) * c := by unfold elm; rw [dn_tks ht, dn_scl ht]
  rw [e]
  by_cases e1 : i = P.length
  ·rw [if_pos e1, e1, swp_self, ← e1]
   have : d * W i col * (dn n W * c) = d * dn n W * (W i col * c) := by_ring [d, W i col, dn n W, c] (X0 * X1 * (X2 * X3)) (X0 * X2 * (X1 * X3)) rfl
   rw [this, hc, mul_one]
  ·rw [if_neg e1, dn_swp (fun e => e1 e.symm) ht hin]
   have : -d * W i col * (-dn n W * c) = d * dn n W * (W i col * c) := by_ring [d, W i col, dn n W, c] (-X0 * X1 * (-X2 * X3)) (X0 * X2 * (X1 * X3)) rfl
   rw [this, hc, mul_one]
 ·intro t htl
  rcases getD_app htl with ⟨h1, h2⟩ | ⟨h1, h2⟩
  ·rw [h2]; exact Nat.lt_succ_of_lt (h.lt t h1)
  ·rw [h2]; exact Nat.lt_succ_self _
 ·intro s t hst htl
  rcases getD_app htl with ⟨h1, h2⟩ | ⟨h1, h2⟩
  ·rcases getD_app (show s < (P ++ [col]).length by simp at htl ⊢; omega) with ⟨k1, k2⟩ | ⟨k1, k2⟩
   ·rw [h2, k2]; exact h.inc s t hst h1
   ·omega
  ·rcases getD_app (show s < (P ++ [col]).length by simp at htl ⊢; omega) with ⟨k1, k2⟩ | ⟨k1, k2⟩
   ·rw [h2, k2]; exact h.lt s k1
   ·omega
 ·intro t a htl ha
  rcases getD_app htl with ⟨h1, h2⟩ | ⟨h1, h2⟩
  ·rw [h2]
   have e0 : W i (P.getD t 0) = 0 := by rw [h.unit t i h1 hin, if_neg (by omega)]
   by_cases e : a = P.length
   ·rw [e, elm_top, e0, zero_mul, if_neg (by omega)]
   ·rw [elm_ne _ _ e, e0, hS t h1 a ha, zero_mul, mul_zero, sub_zero]
  ·rw [h2, h1]
   by_cases e : a = P.length
   ·rw [e, elm_top, hc, if_pos rfl]
   ·rw [elm_ne _ _ e, hc, mul_one, sub_self, if_neg e]
 ·intro a k h1 h2 h3
  rw [List.length_append, List.length_singleton] at h1
  have ea : a ≠ P.length := by omega
  rw [elm_ne _ _ ea]
  by_cases e : k = col
  ·rw [e, hc, mul_one, sub_self]
  ·rw [hL a k (by omega) h2 (by omega), h.low i k hi hin (by omega), zero_mul, mul_zero, sub_zero]
 ·intro t k htl hk
  rcases getD_app htl with ⟨h1, h2⟩ | ⟨h1, h2⟩
  ·rw [h2] at hk
   have := h.lt t h1
   rw [elm_ne _ _ (by omega), h.low i k hi hin (by omega), zero_mul, mul_zero, sub_zero]
   unfold swp; rw [if_neg (by omega), if_neg (by omega)]
   exact h.left t k h1 hk
  ·rw [h2] at hk
   rw [h1, elm_top, h.low i k hi hin hk, zero_mul]
structure RedF (n m C : Nat) (W0 W : Nat → Nat → Zp p) (P : List Nat) (d : Zp p) : Prop where
 cols : ∃ col, col ≤ C ∧ RedI n m col W0 W P d ∧ (P.length = n ∨ col = C)
section
variable {C : Nat} {W0 W : Nat → Nat → Zp p} {P : List Nat} {d : Zp p}
theorem RedF.rq (h : RedF n m C W0 W P d) : Rq n m W0 W := by obtain ⟨_, _, h, _⟩ := h.cols; exact h.rq
theorem RedF.len (h : RedF n m C W0 W P d) : P.length ≤ n := by obtain ⟨_, _, h, _⟩ := h.cols; exact h.len
theorem RedF.lt (h : RedF n m C W0 W P d) (t : Nat) (ht : t < P.length) : P.getD t 0 < C := by
 obtain ⟨_, hc, h, _⟩ := h.cols; have := h.lt t ht; omega
theorem RedF.inc (h : RedF n m C W0 W P d) : ∀ s t, s < t → t < P.length → P.getD s 0 < P.getD t 0 := by obtain ⟨_, _, h, _⟩ := h.cols; exact h.inc
theorem RedF.unit (h : RedF n m C W0 W P d) : ∀ t i, t < P.length → i < n → W i (P.getD t 0) = if i = t then 1 else 0 := by obtain ⟨_, _, h, _⟩ := h.cols; exact h.unit
theorem RedF.low (h : RedF n m C W0 W P d) (i k : Nat) (hi : P.length ≤ i) (hn : i < n) (hk : k < C) : W i k = 0 := by
 obtain ⟨_, _, h, e | e⟩ := h.cols
 ·omega
 ·exact h.low i k hi hn (by omega)
def Incr (P : List Nat) (C : Nat) : Prop := (∀ t, t < P.length → P.getD t 0 < C) ∧ ∀ s t, s < t → t < P.length → P.getD s 0 < P.getD t 0
theorem RedF.incr (h : RedF n m C W0 W P d) : Incr P C := ⟨h.lt, h.inc⟩
theorem Incr.inj {P : List Nat} {C s t : Nat} (h : Incr P C) (hs : s < P.length) (ht : t < P.length) (e : P.getD s 0 = P.getD t 0) : s = t := by
 rcases Nat.lt_trichotomy s t with hl | hl | hl
 ·have := h.2 s t hl ht; omega
 ·exact hl
 ·have := h.2 t s hl hs; omega
theorem Incr.ge {P : List Nat} {C : Nat} (h : Incr P C) : ∀ t, t < P.length → t ≤ P.getD t 0
 | 0, _ => Nat.zero_le _
 | t + 1, ht => by
  have := h.ge t (by omega)
  have := h.2 t (t + 1) (by omega) ht
  omega
theorem Incr.len {P : List Nat} {C : Nat} (h : Incr P C) : P.length ≤ C := by
 rcases Nat.eq_zero_or_pos P.length with e | e
 ·omega
 ·have h1 := h.ge (P.length - 1) (by omega)
  have h2 := h.1 (P.length - 1) (by omega)
  omega
theorem Incr.init {P : List Nat} {C x : Nat} (h : Incr (P ++ [x]) (C + 1)) : Incr P x := by
 have hx : (P ++ [x]).getD P.length 0 = x := by simp [List.getD]
 have hg : ∀ t, t < P.length → (P ++ [x]).getD t 0 = P.getD t 0 := fun t ht => by simp [List.getD, List.getElem?_append_left ht]
 refine ⟨fun t ht => ?_, fun s t hst ht => ?_⟩
 ·have := h.2 t P.length ht (by simp); rw [hx, hg t ht] at this; exact this
 ·have := h.2 s t hst (by simp; omega); rw [hg s (by omega), hg t ht] at this; exact this
theorem Incr.sum {R : Type} [CR R] : ∀ (C : Nat) {P : List Nat} {f : Nat → R}, Incr P C → (∀ i, i < C → (∀ t, t < P.length → P.getD t 0 ≠ i) → f i = 0) → sm C f = sm P.length (fun t => f (P.getD t 0))
 | 0, P, f, h, _ => by
  have := h.len
  obtain rfl : P = [] := List.length_eq_zero_iff.1 (by omega)
  rfl
 | C + 1, P, f, h, h0 => by
  rcases List.eq_nil_or_concat P with rfl | ⟨Q, x, rfl⟩
  ·exact sm_zero' fun i hi => h0 i hi (fun t ht => by simp at ht)
  ·rw [List.concat_eq_append] at h h0 ⊢
   have hx : (Q ++ [x]).getD Q.length 0 = x := by simp [List.getD]
   have hg : ∀ t, t < Q.length → (Q ++ [x]).getD t 0 = Q.getD t 0 := fun t ht => by simp [List.getD, List.getElem?_append_left ht]
   have hxC := h.1 Q.length (by simp)
   rw [hx] at hxC
   have hQ := h.init
   rw [List.length_append, List.length_singleton]
   simp only [sm]
   rw [hx]
   by_cases e : x = C
   ·subst e
    congr 1
    rw [Incr.sum x hQ (fun i hi hn => h0 i (by omega) (fun t ht => by
     rcases getD_app ht with ⟨h1, h2⟩ | ⟨h1, h2⟩
     ·rw [h2]; exact hn t h1
     ·rw [h2]; omega))]
    exact sm_congr fun t ht => by rw [hg t ht]
   ·have hQx : Incr (Q ++ [x]) C := ⟨fun t ht => by
     rcases getD_app ht with ⟨h1, h2⟩ | ⟨h1, h2⟩
     ·rw [h2]; have := hQ.1 t h1; omega
     ·rw [h2]; omega, h.2⟩
    rw [h0 C (by omega) (fun t ht => Nat.ne_of_lt (hQx.1 t ht)), add_zero, Incr.sum C hQx (fun i hi hn => h0 i (by omega) hn), List.length_append, List.length_singleton]
    simp only [sm]
    rw [hx]
theorem rq_row (h : Rq n m W0 W) : ∃ T T' : MT (Zp p) n n, Inv T T' ∧ ∀ i k, i < n → k < m → W i k = sm n (fun j => T.e i j * W0 j k) := by
 obtain ⟨T, T', h1, h2⟩ := h
 refine ⟨T, T', h1, fun i k hi hk => ?_⟩
 have := congrArg (fun M : MT (Zp p) n m => M.e i k) h2
 simp only [MT.e_mul] at this
 rw [MT.of_e _ hi hk] at this
 rw [this]; exact sm_congr fun j hj => by rw [MT.of_e _ hj hk]
end
end
end Go.Proofs.Ytkmfhabgempjiaa
/- Plain algebra: inverses, solutions and kernels by the reduced form. -/
namespace Go.Proofs.Ytkmfhabgempjiaa
open CR
section
variable {p : Nat} {n m C : Nat} {W0 W : Nat → Nat → Zp p} {P : List Nat} {d : Zp p}
def beside (a : Nat) (A B : Nat → Nat → Zp p) : Nat → Nat → Zp p := fun i k => if k < a then A i k else B i (k - a)
theorem beside_l {a : Nat} {A B : Nat → Nat → Zp p} {i k : Nat} (h : k < a) : beside a A B i k = A i k := if_pos h
theorem beside_r {a : Nat} {A B : Nat → Nat → Zp p} {i k : Nat} : beside a A B i (a + k) = B i k := by
 unfold beside; rw [if_neg (by omega), Nat.add_sub_cancel_left]
theorem Incr.idx {P : List Nat} {C t : Nat} (h : Incr P C) (ht : t < P.length) : P.idxOf (P.getD t 0) = t := by
 have e : P.getD t 0 = P[t] := by simp [List.getD, List.getElem?_eq_getElem ht]
 have hm : P.getD t 0 ∈ P := by rw [e]; exact List.getElem_mem ht
 have hlt := List.idxOf_lt_length_of_mem hm
 refine h.inj hlt ht ?_
 have : P[P.idxOf (P.getD t 0)] = P.getD t 0 := List.getElem_idxOf hlt
 rw [getD_lt P _ hlt]; exact this
theorem mem_getD {P : List Nat} {i : Nat} (h : i ∈ P) : ∃ t, t < P.length ∧ P.getD t 0 = i := by
 obtain ⟨t, ht, e⟩ := List.getElem_of_mem h
 exact ⟨t, ht, by simp [List.getD, List.getElem?_eq_getElem ht, e]⟩
theorem getD_mem {P : List Nat} {t : Nat} (ht : t < P.length) : P.getD t 0 ∈ P := by
 have e : P.getD t 0 = P[t] := by simp [List.getD, List.getElem?_eq_getElem ht]
 rw [e]; exact List.getElem_mem ht
def free (C : Nat) (P : List Nat) : List Nat := (List.range C).filter fun k => !P.contains k
theorem free_mem {C k : Nat} {P : List Nat} : k ∈ free C P ↔ k < C ∧ k ∉ P := by
 unfold free; rw [List.mem_filter]; simp
theorem free_succ (C : Nat) (P : List Nat) : free (C + 1) P = free C P ++ (if C ∈ P then [] else [C]) := by
 unfold free; rw [List.range_succ, List.filter_append]
 congr 1
 by_cases h : C ∈ P <;> simp [h]
theorem free_incr (C : Nat) (P : List Nat) : Incr (free C P) C := by
 induction C with
 | zero => exact ⟨fun t h => by simp [free] at h, fun s t _ h => by simp [free] at h⟩
 | succ C ih =>
  rw [free_succ]
  by_cases h : C ∈ P
  ·rw [if_pos h, List.append_nil]; exact ⟨fun t ht => by have := ih.1 t ht; omega, ih.2⟩
  ·rw [if_neg h]
   refine ⟨fun t ht => ?_, fun s t hst ht => ?_⟩
   ·rcases getD_app ht with ⟨h1, h2⟩ | ⟨h1, h2⟩
    ·rw [h2]; have := ih.1 t h1; omega
    ·rw [h2]; omega
   ·rcases getD_app ht with ⟨h1, h2⟩ | ⟨h1, h2⟩
    ·rcases getD_app (show s < (free C P ++ [C]).length by simp; omega) with ⟨k1, k2⟩ | ⟨k1, k2⟩
     ·rw [h2, k2]; exact ih.2 s t hst h1
     ·omega
    ·rcases getD_app (show s < (free C P ++ [C]).length by simp; omega) with ⟨k1, k2⟩ | ⟨k1, k2⟩
     ·rw [h2, k2]; exact ih.1 s k1
     ·omega
theorem part_sum {R : Type} [CR R] {P : List Nat} (h : Incr P C) (f : Nat → R) : sm C f = sm P.length (fun t => f (P.getD t 0)) + sm (free C P).length (fun t => f ((free C P).getD t 0)) := by
 have e : sm C f = sm C (fun i => (if i ∈ P then f i else 0) + (if i ∈ P then 0 else f i)) := sm_congr fun i _ => by
  split
  ·rw [add_zero]
  ·rw [zero_add]
 rw [e, sm_add, h.sum C (fun i _ hn => if_neg (fun hm => by obtain ⟨t, ht, e⟩ := mem_getD hm; exact hn t ht e)),
  (free_incr C P).sum C (fun i hiC hn => by
   split
   ·rfl
   ·rename_i hm
    obtain ⟨t, ht, e⟩ := mem_getD (free_mem.2 ⟨hiC, hm⟩)
    exact (hn t ht e).elim)]
 congr 1
 ·exact sm_congr fun t ht => if_pos (getD_mem ht)
 ·exact sm_congr fun t ht => if_neg (free_mem.1 (getD_mem ht)).2
def kerM (W : Nat → Nat → Zp p) (C : Nat) (P : List Nat) : Nat → Nat → Zp p := fun i k => if i ∈ P then -W (P.idxOf i) ((free C P).getD k 0) else if i = (free C P).getD k 0 then 1 else 0
def kerL (C : Nat) (P : List Nat) : MT (Zp p) (free C P).length C := MT.of _ _ fun k i => if i = (free C P).getD k 0 then 1 else 0
theorem kerL_mul {q : Nat} (V : MT (Zp p) C q) {t k : Nat} (ht : t < (free C P).length) : ((kerL C P : MT (Zp p) _ C) * V).e t k = V.e ((free C P).getD t 0) k := by
 have hC := (free_incr C P).1 t ht
 rw [MT.e_mul, sm_one hC (fun j hj hn => by unfold kerL; rw [MT.of_e _ ht hj, if_neg hn, zero_mul])]
 unfold kerL; rw [MT.of_e _ ht hC, if_pos rfl, one_mul]
theorem ker_left (P : List Nat) (W : Nat → Nat → Zp p) : (kerL C P : MT (Zp p) _ C) * MT.of C (free C P).length (kerM W C P) = MT.one _ := MT.ext fun t k ht hk => by
 have hC := (free_incr C P).1 t ht
 rw [kerL_mul _ ht, MT.of_e _ hC hk, MT.e_one ht hk]
 unfold kerM
 rw [if_neg (free_mem.1 (getD_mem ht)).2]
 by_cases e : t = k
 ·rw [e, if_pos rfl, if_pos rfl]
 ·rw [if_neg e, if_neg (fun h => e ((free_incr C P).inj ht hk h))]
theorem ker_all {A : MT (Zp p) n C} (h : RedF n C C A.e W P d) {q : Nat} {V : MT (Zp p) C q} (h0 : A * V = 0) : V = MT.of C (free C P).length (kerM W C P) * ((kerL C P : MT (Zp p) _ C) * V) := by
 obtain ⟨T, T', hi, hr⟩ := rq_row h.rq
 have hW : ∀ r k, r < n → k < q → sm C (fun i => W r i * V.e i k) = 0 := by
  intro r k hrn _
  have : (T * (A * V)).e r k = 0 := by rw [h0, MT.mul_zero]; rfl
  rw [← this, ← MT.mul_assoc, MT.e_mul]
  exact sm_congr fun i hiC => by rw [hr r i hrn hiC]; rfl
 refine MT.ext fun i k hiC hk => ?_
 rw [MT.e_mul, sm_congr (g := fun t => kerM W C P i t * V.e ((free C P).getD t 0) k) (fun t ht => by rw [MT.of_e _ hiC ht, kerL_mul V ht])]
 by_cases hm : i ∈ P
 ·obtain ⟨r, hrP, e⟩ := mem_getD hm
  have hrn : r < n := by have := h.len; omega
  have hs := hW r k hrn hk
  rw [part_sum h.incr, sm_one (k := r) hrP (fun t ht hn => by rw [h.unit t r ht hrn, if_neg (fun e => hn e.symm), zero_mul]), h.unit r r hrP hrn, if_pos rfl, one_mul, e] at hs
  have e2 : sm (free C P).length (fun t => kerM W C P i t * V.e ((free C P).getD t 0) k) = -sm (free C P).length (fun t => W r ((free C P).getD t 0) * V.e ((free C P).getD t 0) k) := by
   rw [← sm_neg]
   refine sm_congr fun t _ => ?_
   unfold kerM; rw [if_pos hm, ← e, h.incr.idx hrP, neg_mul]
  rw [e2]
  exact neg_unique (by rw [add_comm]; exact hs)
 ·obtain ⟨s, hs, e⟩ := mem_getD (free_mem.2 ⟨hiC, hm⟩)
  rw [sm_one hs (fun t ht hn => by
   unfold kerM; rw [if_neg hm, if_neg (fun h => hn ((free_incr C P).inj ht hs (by rw [e]; exact h.symm))), zero_mul])]
  unfold kerM; rw [if_neg hm, if_pos e.symm, one_mul, e]
theorem ker_zero {A : MT (Zp p) n C} (h : RedF n C C A.e W P d) : A * MT.of C (free C P).length (kerM W C P) = 0 := by
 obtain ⟨T, T', hi, hr⟩ := rq_row h.rq
 refine hi.cancel ?_
 rw [MT.mul_zero, ← MT.mul_assoc]
 refine MT.zero_of fun r k hrn hk => ?_
 have eA : ∀ i, i < C → (T * A).e r i = W r i := fun i hiC => by rw [hr r i hrn hiC]; rfl
 rw [MT.e_mul, sm_congr (g := fun i => W r i * kerM W C P i k) (fun i hiC => by rw [eA i hiC, MT.of_e _ hiC hk]), part_sum h.incr]
 by_cases hl : r < P.length
 ·rw [sm_one (k := r) hl (fun t ht hn => by rw [h.unit t r ht hrn, if_neg (fun e => hn e.symm), zero_mul]), h.unit r r hl hrn, if_pos rfl, one_mul,
   sm_one hk (fun t ht hn => by
    unfold kerM; rw [if_neg (free_mem.1 (getD_mem ht)).2, if_neg (fun h => hn ((free_incr C P).inj ht hk h)), mul_zero])]
  unfold kerM
  rw [if_pos (getD_mem hl), h.incr.idx hl, if_neg (free_mem.1 (getD_mem hk)).2, if_pos rfl, mul_one, neg_add]
 ·rw [sm_zero' (fun t ht => by rw [h.unit t r ht hrn, if_neg (by omega), zero_mul]), sm_zero' (fun t ht => by rw [h.low r _ (by omega) hrn ((free_incr C P).1 t ht), zero_mul]), add_zero]
end
end Go.Proofs.Ytkmfhabgempjiaa
/- Plain algebra: polynomials at matrices; every matrix makes noughts of its characteristic polynomial. -/
namespace Go.Proofs.Ytkmfhabgempjiaa
open CR
section
variable {R : Type} [CR R] {n m l : Nat}
def pvN (f : Pol R) (A : MT R n n) (N : Nat) : MT R n n := ms N fun i => (A.pow i).sc (f.c i)
noncomputable def pev (f : Pol R) (A : MT R n n) : MT R n n := pvN f A (Classical.choose f.fin)
theorem pvN_more (f : Pol R) (A : MT R n n) {N : Nat} (h : f.dlt N) : ∀ k, pvN f A (N + k) = pvN f A N
 | 0 => rfl
 | k + 1 => by
  show ms (N + k) _ + (A.pow (N + k)).sc (f.c (N + k)) = _
  rw [h (N + k) (by omega), MT.zero_sc, MT.add_zero]
  exact pvN_more f A h k
theorem pev_eq {f : Pol R} {N : Nat} (h : f.dlt N) (A : MT R n n) : pev f A = pvN f A N := by
 have h0 : f.dlt (Classical.choose f.fin) := Classical.choose_spec f.fin
 unfold pev
 rcases Nat.le_total N (Classical.choose f.fin) with hl | hl
 ·obtain ⟨k, hk⟩ := Nat.exists_eq_add_of_le hl
  rw [hk]; exact pvN_more f A h k
 ·obtain ⟨k, hk⟩ := Nat.exists_eq_add_of_le hl
  rw [hk]; exact (pvN_more f A h0 k).symm
theorem pev_zero (A : MT R n n) : pev (0 : Pol R) A = 0 := by rw [pev_eq (N := 0) (fun _ _ => rfl)]; rfl
theorem pev_add (f g : Pol R) (A : MT R n n) : pev (f + g) A = pev f A + pev g A := by
 obtain ⟨a, ha⟩ := f.fin
 obtain ⟨b, hb⟩ := g.fin
 have ha' : f.dlt (a + b) := fun i hi => ha i (by omega)
 have hb' : g.dlt (a + b) := fun i hi => hb i (by omega)
 have hc : (f + g).dlt (a + b) := fun i hi => by rw [Pol.c_add, ha' i hi, hb' i hi, zero_add]
 rw [pev_eq ha', pev_eq hb', pev_eq hc]
 unfold pvN
 rw [← ms_add]
 exact ms_congr fun i _ => by rw [Pol.c_add, MT.add_sc]
theorem pev_mon (a : R) (k : Nat) (A : MT R n n) : pev (mon a k) A = (A.pow k).sc a := by
 rw [pev_eq (N := k + 1) (fun i hi => by rw [c_mon, if_neg (by omega)])]
 unfold pvN
 rw [ms_one (a := k) (by omega) (fun j _ hj => by rw [c_mon, if_neg hj, MT.zero_sc]), c_mon, if_pos rfl]
theorem pev_one (A : MT R n n) : pev (1 : Pol R) A = MT.one n := by rw [Pol.one_def, pev_mon, MT.one_sc]; rfl
theorem pev_neg (f : Pol R) (A : MT R n n) : pev (-f) A = -pev f A := by
 have h : pev (-f) A + pev f A = 0 := by rw [← pev_add, neg_add, pev_zero]
 have := MT.add_neg (pev f A)
 rw [← MT.zero_add (-pev f A), ← h, MT.add_assoc, this, MT.add_zero]
theorem pev_sub (f g : Pol R) (A : MT R n n) : pev (f - g) A = pev f A - pev g A := by rw [sub_eq, pev_add, pev_neg, MT.sub_eq]
theorem pev_mul (f g : Pol R) (A : MT R n n) : pev (f * g) A = pev f A * pev g A := by
 refine Pol.ind (fun f => pev (f * g) A = pev f A * pev g A) ?_ ?_ ?_ f
 ·rw [zero_mul, pev_zero, MT.zero_mul]
 ·intro a k
  refine Pol.ind (fun g => pev (mon a k * g) A = pev (mon a k) A * pev g A) ?_ ?_ ?_ g
  ·rw [mul_zero, pev_zero, MT.mul_zero]
  ·intro b j
   rw [mon_mul, pev_mon, pev_mon, pev_mon, MT.sc_mul, MT.mul_sc, MT.sc_sc, MT.pow_add]
  ·intro f g h1 h2; rw [mul_add, pev_add, pev_add, MT.mul_add, h1, h2]
 ·intro f h h1 h2; rw [add_mul, pev_add, pev_add, MT.add_mul, h1, h2]
theorem pev_comm (f g : Pol R) (A : MT R n n) : pev f A * pev g A = pev g A * pev f A := by rw [← pev_mul, mul_comm, pev_mul]
theorem pev_dvc {f g : Pol R} {A : MT R n n} {v : MT R n m} (h : Dv f g) (k : pev f A * v = 0) : pev g A * v = 0 := by
 obtain ⟨c, rfl⟩ := h
 rw [mul_comm, pev_mul, MT.mul_assoc, k, MT.mul_zero]
theorem pev_conj {A B P : MT R n n} (h : P * A = B * P) (f : Pol R) : P * pev f A = pev f B * P := by
 refine Pol.ind (fun f => P * pev f A = pev f B * P) ?_ ?_ ?_ f
 ·rw [pev_zero, pev_zero, MT.mul_zero, MT.zero_mul]
 ·intro a k; rw [pev_mon, pev_mon, MT.mul_sc, MT.sc_mul, MT.pow_conj h]
 ·intro f g h1 h2; rw [pev_add, pev_add, MT.mul_add, MT.add_mul, h1, h2]
theorem pev_col {f : Pol R} {N : Nat} (h : f.dlt N) (A : MT R n n) (v : MT R n m) : pev f A * v = ms N fun i => (A.pow i * v).sc (f.c i) := by
 rw [pev_eq h]; unfold pvN; rw [mul_ms]; exact ms_congr fun i _ => by rw [MT.sc_mul]
theorem sm_c (f : Nat → Pol R) (t : Nat) : ∀ N, (sm N f).c t = sm N (fun j => (f j).c t)
 | 0 => rfl
 | N + 1 => by simp only [sm]; rw [Pol.c_add, sm_c f t N]
def XA (A : MT R n n) : MT (Pol R) n n := MT.of n n fun i k => (if i = k then mon 1 1 else 0) - mon (A.e i k) 0
def chi (A : MT R n n) : Pol R := (XA A).det
def cf (B : MT (Pol R) n m) (t : Nat) : MT R n m := ⟨fun i k => (B.e i k).c t, fun i k h => by rw [B.out i k h]; rfl⟩
theorem cf_e (B : MT (Pol R) n m) (t i k : Nat) : (cf B t).e i k = (B.e i k).c t := rfl
theorem c_mon1 (f : Pol R) (t : Nat) : (mon (1 : R) 1 * f).c t = if t = 0 then 0 else f.c (t - 1) := by
 rw [Pol.c_mul]
 cases t with
 | zero => rw [if_pos rfl]; simp only [sm]; rw [c_mon, if_neg (by omega), zero_mul, zero_add]
 | succ t =>
  rw [if_neg (by omega), sm_one (k := 1) (by omega) (fun i _ hi => by rw [c_mon, if_neg hi, zero_mul]), c_mon, if_pos rfl, one_mul]
theorem c_mon0 (a : R) (f : Pol R) (t : Nat) : (mon a 0 * f).c t = a * f.c t := by
 rw [Pol.c_mul, sm_one (k := 0) (by omega) (fun i _ hi => by rw [c_mon, if_neg hi, zero_mul]), c_mon, if_pos rfl, Nat.sub_zero]
theorem cf_XA (A : MT R n n) (B : MT (Pol R) n m) (t : Nat) : cf (XA A * B) t = (if t = 0 then 0 else cf B (t - 1)) - A * cf B t := MT.ext fun i k hi hk => by
 rw [cf_e, MT.e_sub, MT.e_mul, MT.e_mul, sm_c]
 have e : sm n (fun j => ((XA A).e i j * B.e j k).c t) = sm n (fun j => (if i = j then (if t = 0 then 0 else (B.e j k).c (t - 1)) else 0) + -(A.e i j * (cf B t).e j k)) := by
  refine sm_congr fun j hj => ?_
  unfold XA
  rw [MT.of_e _ hi hj]
  have e2 : ((if i = j then mon 1 1 else 0) - mon (A.e i j) 0) * B.e j k = (if i = j then mon 1 1 else 0) * B.e j k - mon (A.e i j) 0 * B.e j k :=
   by_ring [if i = j then mon 1 1 else 0, mon (A.e i j) 0, B.e j k] ((X0 - X1) * X2) (X0 * X2 - X1 * X2) rfl
  rw [e2, Pol.c_sub, c_mon0, sub_eq]
  congr 1
  split
  ·exact c_mon1 _ _
  ·rw [zero_mul]; rfl
 rw [e, sm_add, sm_neg, sm_one (k := i) hi (fun j _ hj => by rw [if_neg (fun e => hj e.symm)]), if_pos rfl, sub_eq]
 congr 1
 split
 ·rfl
 ·rfl
theorem MT.bound (B : MT (Pol R) n m) : ∃ N, ∀ t, N ≤ t → cf B t = 0 := by
 have H : ∀ a b, ∃ N, ∀ t, N ≤ t → ∀ i k, i < a → k < b → (B.e i k).c t = 0 := by
  intro a b
  induction a with
  | zero => exact ⟨0, fun t _ i k h => by omega⟩
  | succ a ih =>
   obtain ⟨N1, h1⟩ := ih
   have : ∃ N, ∀ t, N ≤ t → ∀ k, k < b → (B.e a k).c t = 0 := by
    induction b with
    | zero => exact ⟨0, fun t _ k h => by omega⟩
    | succ b ihb =>
     obtain ⟨N2, h2⟩ := ihb (fun t ht i k hi hk => h1 t ht i k hi (by omega))
     obtain ⟨N3, h3⟩ := (B.e a b).fin
     refine ⟨N2 + N3, fun t ht k hk => ?_⟩
     by_cases e : k = b
     ·rw [e]; exact h3 t (by omega)
     ·exact h2 t (by omega) k (by omega)
   obtain ⟨N2, h2⟩ := this
   refine ⟨N1 + N2, fun t ht i k hi hk => ?_⟩
   by_cases e : i = a
   ·rw [e]; exact h2 t (by omega) k hk
   ·exact h1 t (by omega) i k (by omega) hk
 obtain ⟨N, hN⟩ := H n m
 exact ⟨N, fun t ht => MT.zero_of fun i k hi hk => hN t ht i k hi hk⟩
end
end Go.Proofs.Ytkmfhabgempjiaa
/- Plain algebra: division with a rest, greatest common divisors exist. -/
namespace Go.Proofs.Ytkmfhabgempjiaa
open CR
section
theorem pc_mon_mul {R : Type} [CR R] (a : R) (k : Nat) (g : Pol R) (n : Nat) : (mon a k * g).c n = if k ≤ n then a * g.c (n - k) else 0 := by
 rw [Pol.c_mul]
 by_cases h : k ≤ n
 ·rw [if_pos h, sm_one (k := k) (by omega) (fun i _ hi => by rw [c_mon, if_neg hi, CR.zero_mul]), c_mon, if_pos rfl]
 ·rw [if_neg h]
  exact sm_zero' fun i hi => by rw [c_mon, if_neg (by omega), CR.zero_mul]
theorem pdiv_dlt {R : Type} [CR R] {f g : Pol R} {q u : R} {i l : Nat} (hf : f.dlt (i + l + 1)) (hg : g.dlt (l + 1)) (hu : u * g.c l = 1) (hq : q = f.c (i + l) * u) : (f - mon q i * g).dlt (i + l) := by
 intro n hn
 rw [Pol.c_sub, pc_mon_mul, if_pos (by omega)]
 by_cases h : n = i + l
 ·subst h
  rw [show i + l - i = l by omega, hq, CR.mul_assoc, hu, CR.mul_one, CR.sub_self]
 ·rw [hf n (by omega), hg (n - i) (by omega), CR.mul_zero, CR.sub_zero]
variable {p : Nat}
theorem pdiv_ex (ht : Trial p) {b : Pol (Zp p)} {n : Nat} (hb : Ln b (n + 1)) : ∀ (m : Nat) (a : Pol (Zp p)), a.dlt m → ∃ q r, a = q * b + r ∧ r.dlt n := by
 intro m
 induction m with
 | zero => intro a ha; exact ⟨0, a, by_ring [a, b] X0 (0 * X1 + X0) rfl, dlt_mono ha (Nat.zero_le _)⟩
 | succ m ih =>
  intro a ha
  by_cases h : m + 1 ≤ n
  ·exact ⟨0, a, by_ring [a, b] X0 (0 * X1 + X0) rfl, dlt_mono ha h⟩
  ·obtain ⟨i, rfl⟩ : ∃ i, m = i + n := ⟨m - n, by omega⟩
   obtain ⟨q, r, e, hr⟩ := ih (a - mon (a.c (i + n) * pw (b.c n) (p - 2)) i * b) (pdiv_dlt ha hb.1 (Zp.inv ht (hb.2 n rfl)) rfl)
   refine ⟨q + mon (a.c (i + n) * pw (b.c n) (p - 2)) i, r, ?_, hr⟩
   have h1 : a = (a - mon (a.c (i + n) * pw (b.c n) (p - 2)) i * b) + mon (a.c (i + n) * pw (b.c n) (p - 2)) i * b := (sub_add_cancel _ _).symm
   rw [e] at h1
   refine h1.trans ?_
   exact by_ring [q, b, r, mon (a.c (i + n) * pw (b.c n) (p - 2)) i] (X0 * X1 + X2 + X3 * X1) ((X0 + X3) * X1 + X2) rfl
end
end Go.Proofs.Ytkmfhabgempjiaa
/- Plain algebra: the order of a column, the minimal polynomial, least common multiples. -/
namespace Go.Proofs.Ytkmfhabgempjiaa
open CR
section
variable {p : Nat} {n m : Nat}
def pof {R : Type} [CR R] (j : Nat) (x : Nat → R) : Pol R := ⟨fun t => if t < j then x t else 0, j, fun i h => if_neg (by omega)⟩
end
end Go.Proofs.Ytkmfhabgempjiaa
/- A block that is known whole: its cells, and how it goes through later worlds. -/
namespace Go.Proofs.Ytkmfhabgempjiaa
open Go.RowKit
def Blk (e : TypeId) (w : World) (g : Nat) (vs : List Value) : Prop := w.heap[g]? = some (.cells vs.toArray e (0, 0))
theorem Blk.lit (w : World) (e : TypeId) (vs : List Value) : Blk e (w.alloc (.cells vs.toArray e)) w.heap.size vs := heap_alloc_new w _
theorem Blk.lt {e : TypeId} {w : World} {g : Nat} {vs : List Value} (h : Blk e w g vs) : g < w.heap.size := (Array.getElem?_eq_some_iff.1 h).1
theorem Blk.below {e : TypeId} {w w' : World} {g : Nat} {vs : List Value} (h : Blk e w g vs) {B : Nat} (hb : Below B w w') (hg : g < B) : Blk e w' g vs := by
 unfold Blk; rw [hb.block g hg]; exact h
theorem Blk.next {e : TypeId} {w w' : World} {g : Nat} {vs : List Value} (h : Blk e w g vs) (hb : Below w.heap.size w w') : Blk e w' g vs := h.below hb h.lt
theorem Blk.alloc {e : TypeId} {w : World} {g : Nat} {vs : List Value} (h : Blk e w g vs) (o : Obj) : Blk e (w.alloc o) g vs := h.next ((Below.refl _ _).alloc (Nat.le_refl _) o)
theorem Blk.drew {e : TypeId} {w : World} {g : Nat} {vs : List Value} (h : Blk e w g vs) : Blk e w.drew g vs := h
theorem Blk.cell {e : TypeId} {w : World} {g : Nat} {vs : List Value} (h : Blk e w g vs) (j : Nat) : w.cell? ⟨g, j, none⟩ = vs[j]? := by
 rw [cell_of_row w g j vs.toArray e (0, 0) h]; simp
theorem Blk.free {e : TypeId} {w : World} {g : Nat} {vs : List Value} (h : Blk e w g vs) (j : Nat) : w.frozen? ⟨g, j, none⟩ = false := frozen_of_row w g j _ e h
theorem Blk.set {e : TypeId} {w : World} {g : Nat} {vs : List Value} (h : Blk e w g vs) (j : Nat) (v : Value) : Blk e (w.setCell ⟨g, j, none⟩ v) g (vs.set j v) := by
 have := heap_setCell_same w g j vs.toArray e v h
 unfold Blk; rw [this]; simp
theorem Blk.far {e : TypeId} {w : World} {g : Nat} {vs : List Value} (h : Blk e w g vs) {a : Addr} (ha : g ≠ a.block) (v : Value) : Blk e (w.setCell a v) g vs := by
 unfold Blk; rw [Below.heap_setCell w a v g ha]; exact h
theorem Blk.at {e : TypeId} {w w' : World} {g : Nat} {vs : List Value} (h : Blk e w g vs) (hb : Below w.heap.size w w') (j : Nat) : w'.cell? ⟨g, j, none⟩ = vs[j]? := (h.next hb).cell j
end Go.Proofs.Ytkmfhabgempjiaa
/- Blocks that are laid one behind the other. -/
namespace Go.Proofs.Ytkmfhabgempjiaa
open Go.RowKit
theorem boxes1 (w : World) (e1 : TypeId) (A : List Value) : ∃ wb, wb = (w.alloc (.cells A.toArray e1)) ∧
  Blk e1 wb w.heap.size A ∧ Below w.heap.size w wb ∧ wb.heap.size = w.heap.size + 1 :=
 ⟨_, rfl, Blk.lit w e1 A, (Below.refl _ _).alloc (Nat.le_refl _) _, by simp⟩
theorem boxes2 (w : World) (e1 e2 : TypeId) (A B : List Value) : ∃ wb, wb = (w.alloc (.cells A.toArray e1)).alloc (.cells B.toArray e2) ∧
  Blk e1 wb w.heap.size A ∧ Blk e2 wb (w.heap.size + 1) B ∧ Below w.heap.size w wb ∧ wb.heap.size = w.heap.size + 1 + 1 := by
 have b1 := Blk.lit w e1 A
 have b2 := Blk.lit (w.alloc (.cells A.toArray e1)) e2 B
 have s1 : (w.alloc (.cells A.toArray e1)).heap.size = w.heap.size + 1 := by simp
 rw [s1] at b2
 exact ⟨_, rfl, b1.alloc _, b2, ((Below.refl _ _).alloc (Nat.le_refl _) _).alloc (by simp) _, by simp⟩
theorem boxes3 (w : World) (e1 e2 e3 : TypeId) (A B C : List Value) : ∃ wb, wb = ((w.alloc (.cells A.toArray e1)).alloc (.cells B.toArray e2)).alloc (.cells C.toArray e3) ∧
  Blk e1 wb w.heap.size A ∧ Blk e2 wb (w.heap.size + 1) B ∧ Blk e3 wb (w.heap.size + 1 + 1) C ∧ Below w.heap.size w wb ∧ wb.heap.size = w.heap.size + 1 + 1 + 1 := by
 obtain ⟨w2, rfl, b1, b2, hb, hs⟩ := boxes2 w e1 e2 A B
 obtain ⟨w3, e, b3, hb3, hs3⟩ := boxes1 ((w.alloc (.cells A.toArray e1)).alloc (.cells B.toArray e2)) e3 C
 rw [hs] at b3 hs3
 exact ⟨w3, e, b1.next hb3, b2.next hb3, b3, hb.trans (hb3.mono hb.size), hs3⟩
theorem boxes4 (w : World) (e1 e2 e3 e4 : TypeId) (A B C D : List Value) : ∃ wb, wb = (((w.alloc (.cells A.toArray e1)).alloc (.cells B.toArray e2)).alloc (.cells C.toArray e3)).alloc (.cells D.toArray e4) ∧
  Blk e1 wb w.heap.size A ∧ Blk e2 wb (w.heap.size + 1) B ∧ Blk e3 wb (w.heap.size + 1 + 1) C ∧ Blk e4 wb (w.heap.size + 1 + 1 + 1) D ∧ Below w.heap.size w wb ∧ wb.heap.size = w.heap.size + 1 + 1 + 1 + 1 := by
 obtain ⟨w2, rfl, b1, b2, b3, hb, hs⟩ := boxes3 w e1 e2 e3 A B C
 obtain ⟨w3, e, b4, hb3, hs3⟩ := boxes1 (((w.alloc (.cells A.toArray e1)).alloc (.cells B.toArray e2)).alloc (.cells C.toArray e3)) e4 D
 rw [hs] at b4 hs3
 exact ⟨w3, e, b1.next hb3, b2.next hb3, b3.next hb3, b4, hb.trans (hb3.mono hb.size), hs3⟩
theorem Own.low {k : IntKind} {e : TypeId} {w : World} {base : Nat} {v : Value} {xs : List Nat} (h : Own k e w base v xs) {a : Addr} (ha : a.block < base) (u : Value) : Own k e (w.setCell a u) base v xs :=
 ownsRow_setCell_below h ha u
end Go.Proofs.Ytkmfhabgempjiaa
/- Rows of rows: a slice of slices whose cells may be stored to. -/
namespace Go.Proofs.Ytkmfhabgempjiaa
open Go.RowKit
theorem rowOwn_next {w w' : World} {base : Nat} {e : TypeId} {size n : Nat} {v : Value} {xs : List Value} (h : w.ownsRow base e size v n xs) {B : Nat} (hb : Below B w w') (hB : w.heap.size ≤ B) : w'.ownsRow base e size v n xs := by
 refine ⟨h.1, ?_⟩
 rcases h.2 with h | ⟨g, cap, cur, a, b, c, d⟩
 ·exact .inl h
 ·refine .inr ⟨g, cap, cur, a, b, ?_, d⟩
  rw [hb.block g (by have := (Array.getElem?_eq_some_iff.1 c).1; omega)]; exact c
theorem rowOwn_mono {w : World} {base base' : Nat} {e : TypeId} {size n : Nat} {v : Value} {xs : List Value} (h : w.ownsRow base e size v n xs) (hb : base' ≤ base) : w.ownsRow base' e size v n xs := by
 refine ⟨h.1, ?_⟩
 rcases h.2 with h | ⟨g, cap, cur, a, b, c⟩
 ·exact .inl h
 ·exact .inr ⟨g, cap, cur, a, Nat.le_trans hb b, c⟩
theorem rowOwn_ne {w : World} {base : Nat} {e e' : TypeId} {size n b : Nat} {v : Value} {xs : List Value} {cur : Array Value} (h : w.ownsRow base e size v n xs) (hb : w.heap[b]? = some (.cells cur e' (0, 0))) (he : e ≠ e') : v.ownBlock ≠ some b := by
 intro hv
 rcases h.2 with ⟨rfl, _⟩ | ⟨g, cap, cur', rfl, _, hg, _⟩
 ·simp [Value.ownBlock] at hv
 ·simp [Value.ownBlock] at hv
  subst hv
  rw [hb] at hg
  simp at hg
  exact he hg.2.symm
theorem rowOwn_shape {w : World} {base : Nat} {e : TypeId} {n : Nat} {v : Value} {xs : List Value} (h : w.ownsRow base e 1 v n xs) :
  (v = .slice none 0 0 ∧ n = 0) ∨ ∃ g cap, v = .slice (some ⟨g, 0, none⟩) n cap ∧ base ≤ g ∧ g < w.heap.size ∧ n ≤ cap := by
 rcases h.2 with ⟨a, b⟩ | ⟨g, cap, cur, rfl, hb, hg, hn, _⟩
 ·exact .inl ⟨a, b⟩
 ·exact .inr ⟨g, cap, rfl, hb, (Array.getElem?_eq_some_iff.1 hg).1, hn⟩
theorem apV {P : Program} {o : Oper} {a : Act} {K : Act → World → Prop} {Q : Exit → Act → World → Prop} (T e bytes : Nat) (z0 : Value)
  (hu : P.underlying T = some (.slice e)) (hi : (P.info? e).map (fun i => (i.zero, i.size, i.bytes)) = some (some z0, 1, bytes)) (hby : bytes ≤ 32) (hz0 : z0.cells.size = 1)
  (s x : Operand) (ho : o.op = .call { callee := .builtin .append, args := #[s, x], argTypes := #[T, T] })
  (w : World) (base : Nat) (v : Value) (n : Nat) (vs : List Value) (y : Value) (hy : y.oneCell' = true) (hown : w.ownsRow base e 1 v n vs)
  (hlen : n ≤ 1000000000) (hbase : base ≤ w.heap.size)
  (hs : a.eval s = v) (hx : a.eval x = .slice (some ⟨w.heap.size, 0, none⟩) 1 1)
  (h : ∀ (g cap : Nat) (w' : World), w'.ownsRow base e 1 (.slice (some ⟨g, 0, none⟩) (n + 1) cap) (n + 1) (vs ++ [y]) → Below base w w' → w.grownBy w' v.ownBlock → (v.ownBlock = some g ∨ w.heap.size ≤ g) → K (a.put o.dst (.slice (some ⟨g, 0, none⟩) (n + 1) cap)) w') :
  Oper.wp P o a (w.alloc (.cells #[y] e)) K Q := by
 obtain ⟨i0, h1, h2, h3, h4⟩ := info_parts hi
 have hB := Blk.lit w e [y]
 refine wp_append_lies _ s x T ho base e i0 z0 1 bytes hu h1 h2 h3 h4 hz0 (by decide) v n vs hs (World.ownsRow.alloc hown _) ⟨w.heap.size, 0, none⟩ 1 1 [y] hx rfl ?_ ?_ (by decide) ?_ ?_ ?_ (w.heap.size + 1) ?_ ?_
 ·intro j u hj
  have e : (⟨w.heap.size, 0, none⟩ : Addr).add j = ⟨w.heap.size, j, none⟩ := by
   unfold Addr.add; split
   ·rename_i h; subst h; rfl
   ·simp
  rw [e]
  exact (hB.cell j).trans hj
 ·intro u hu
  rw [List.mem_singleton.1 hu]; exact hy
 ·unfold maxLen; omega
 ·have : (n + 1) * bytes ≤ (n + 1) * 32 := Nat.mul_le_mul_left _ hby
  omega
 ·simp; omega
 ·simp
 ·intro g cap w' k1 k2 k3 k4
  have hg : w.grownBy w' v.ownBlock := by
   have e0 := World.grownBy_alloc w (.cells #[y] e) v.ownBlock
   exact ⟨k2.os.trans e0.os, k2.tape.trans e0.tape, k2.output.trans e0.output, Nat.le_trans e0.size k2.size, fun i hi hne => (k2.block i (Nat.lt_of_lt_of_le hi e0.size) hne).trans (e0.block i hi hne)⟩
  have hge : ∀ k, v.ownBlock = some k → base ≤ k := fun j hj => (World.ownsRow.lt hown j hj).1
  exact h g cap w' k1 (below_grown hg hbase hge) hg (k3.imp id (fun e => by omega))
theorem apVl {P : Program} {ops : Array Oper} {rest : List Oper} {o : Oper} {a : Act} {Q : Exit → Act → World → Prop} (T e bytes : Nat) (z0 : Value)
  (hu : P.underlying T = some (.slice e)) (hi : (P.info? e).map (fun i => (i.zero, i.size, i.bytes)) = some (some z0, 1, bytes)) (hby : bytes ≤ 32) (hz0 : z0.cells.size = 1)
  (hgd : o.guard = none) (s x : Operand) (ho : o.op = .call { callee := .builtin .append, args := #[s, x], argTypes := #[T, T] })
  (w : World) (base : Nat) (v : Value) (n : Nat) (vs : List Value) (y : Value) (hy : y.oneCell' = true) (hown : w.ownsRow base e 1 v n vs)
  (hlen : n ≤ 1000000000) (hbase : base ≤ w.heap.size)
  (hs : a.eval s = v) (hx : a.eval x = .slice (some ⟨w.heap.size, 0, none⟩) 1 1)
  (h : ∀ (g cap : Nat) (w' : World), w'.ownsRow base e 1 (.slice (some ⟨g, 0, none⟩) (n + 1) cap) (n + 1) (vs ++ [y]) → Below base w w' → w.grownBy w' v.ownBlock → (v.ownBlock = some g ∨ w.heap.size ≤ g) → wpList P ops Q rest (a.put o.dst (.slice (some ⟨g, 0, none⟩) (n + 1) cap)) w') :
  wpList P ops Q (o :: rest) a (w.alloc (.cells #[y] e)) :=
 wpList_plain hgd fun _ hK => apV T e bytes z0 hu hi hby hz0 s x ho w base v n vs y hy hown hlen hbase hs hx fun g cap w' h1 h2 h3 h4 => hK _ _ (h g cap w' h1 h2 h3 h4)
section
variable {α : Type}
def RowAt (V : World → Value → α → Prop) (e : TypeId) (w : World) (base N : Nat) (v : Value) (r : Nat → α) : Prop :=
 ∃ ao cap b o cur, v = .slice ao N cap ∧ N ≤ cap ∧ (0 < N → ao = some ⟨b, o, none⟩ ∧ base ≤ b ∧ w.heap[b]? = some (.cells cur e (0, 0)) ∧ ∀ k, k < N → ∃ u, cur[o + k]? = some u ∧ V w u (r k))
def Apart (N : Nat) (u v : Value) : Prop := ∀ b o c b' o' c', u = .slice (some ⟨b, o, none⟩) N c → v = .slice (some ⟨b', o', none⟩) N c' → ∀ k l, k < N → l < N → ¬ (b = b' ∧ o + k = o' + l)
structure Rws (V : World → Value → α → Prop) (e er : TypeId) (w : World) (base : Nat) (rv : Value) (vs : List Value) (n N : Nat) (W : Nat → Nat → α) : Prop where
 len : vs.length = n
 own : w.ownsRow base er 1 rv n vs
 row : ∀ (i : Nat) (v : Value), vs[i]? = some v → RowAt V e w base N v (W i)
 sep : ∀ (i j : Nat) (u v : Value), i ≠ j → vs[i]? = some u → vs[j]? = some v → Apart N u v
def updE (W : Nat → Nat → α) (i k : Nat) (x : α) : Nat → Nat → α := fun a c => if a = i ∧ c = k then x else W a c
def swpA (W : Nat → Nat → α) (i j : Nat) : Nat → Nat → α := fun a => if a = i then W j else if a = j then W i else W a
variable {V : World → Value → α → Prop} {e er : TypeId} {w w' : World} {base n N : Nat} {rv : Value} {vs : List Value} {W : Nat → Nat → α}
theorem RowAt.next {v : Value} {r : Nat → α} (h : RowAt V e w base N v r) (hb : Below w.heap.size w w') (hV : ∀ u x, V w u x → V w' u x) : RowAt V e w' base N v r := by
 obtain ⟨ao, cap, b, o, cur, e1, h1, h2⟩ := h
 refine ⟨ao, cap, b, o, cur, e1, h1, fun hN => ?_⟩
 obtain ⟨h3, h4, h5, h6⟩ := h2 hN
 refine ⟨h3, h4, (hb.block b (Array.getElem?_eq_some_iff.1 h5).1).trans h5, fun k hk => ?_⟩
 obtain ⟨u, h7, h8⟩ := h6 k hk
 exact ⟨u, h7, hV u _ h8⟩
theorem RowAt.slice {v : Value} {r : Nat → α} (h : RowAt V e w base N v r) : ∃ ao cap, v = .slice ao N cap ∧ N ≤ cap := by
 obtain ⟨ao, cap, b, o, cur, e1, h1, -⟩ := h; exact ⟨ao, cap, e1, h1⟩
theorem RowAt.pos {v : Value} {r : Nat → α} (h : RowAt V e w base N v r) (hN : 0 < N) : ∃ b o cap cur, v = .slice (some ⟨b, o, none⟩) N cap ∧ base ≤ b ∧ w.heap[b]? = some (.cells cur e (0, 0)) ∧ ∀ k, k < N → ∃ u, w.cell? ⟨b, o + k, none⟩ = some u ∧ V w u (r k) := by
 obtain ⟨ao, cap, b, o, cur, e1, h1, h2⟩ := h
 obtain ⟨rfl, h4, h5, h6⟩ := h2 hN
 refine ⟨b, o, cap, cur, e1, h4, h5, fun k hk => ?_⟩
 obtain ⟨u, h7, h8⟩ := h6 k hk
 exact ⟨u, (cell_of_row w b (o + k) cur e (0, 0) h5).trans h7, h8⟩
theorem Rws.next (h : Rws V e er w base rv vs n N W) (hb : Below w.heap.size w w') (hV : ∀ u x, V w u x → V w' u x) : Rws V e er w' base rv vs n N W :=
 ⟨h.len, rowOwn_next h.own hb (Nat.le_refl _), fun i v hv => (h.row i v hv).next hb hV, h.sep⟩
theorem Rws.hdr (h : Rws V e er w base rv vs n N W) {i : Nat} (hi : i < n) : ∃ v, vs[i]? = some v := ⟨_, List.getElem?_eq_getElem (by rw [h.len]; exact hi)⟩
theorem Rws.shape (h : Rws V e er w base rv vs n N W) : (rv = .slice none 0 0 ∧ n = 0) ∨ ∃ g cap, rv = .slice (some ⟨g, 0, none⟩) n cap ∧ base ≤ g ∧ g < w.heap.size ∧ n ≤ cap := rowOwn_shape h.own
theorem Rws.head (h : Rws V e er w base rv vs n N W) {g cap : Nat} (hr : rv = .slice (some ⟨g, 0, none⟩) n cap) {i : Nat} (hi : i < n) : w.cell? ⟨g, i, none⟩ = vs[i]? := by
 have := h.own; rw [hr] at this
 exact World.ownsRow.cellAt this i (by omega)
theorem Rws.headfree (h : Rws V e er w base rv vs n N W) {g cap : Nat} (hr : rv = .slice (some ⟨g, 0, none⟩) n cap) (i : Nat) : w.frozen? ⟨g, i, none⟩ = false := by
 have := h.own; rw [hr] at this
 exact World.ownsRow.frozenAt this i
theorem Rws.store (h : Rws V e er w base rv vs n N W) (hne : er ≠ e) {i k b o cap : Nat} (hv : vs[i]? = some (.slice (some ⟨b, o, none⟩) N cap)) (hk : k < N) {y : Value} {x : α}
  (hV : ∀ u x, V w u x → V (w.setCell ⟨b, o + k, none⟩ y) u x) (hy : V (w.setCell ⟨b, o + k, none⟩ y) y x) : Rws V e er (w.setCell ⟨b, o + k, none⟩ y) base rv vs n N (updE W i k x) := by
 have hN : 0 < N := by omega
 obtain ⟨ao, cp, b0, o0, cur, e1, h1, h2⟩ := h.row i _ hv
 obtain ⟨rfl, h4, h5, h6⟩ := h2 hN
 simp only [Value.slice.injEq, Option.some.injEq, Addr.mk.injEq, and_true, true_and] at e1
 obtain ⟨⟨rfl, rfl⟩, rfl⟩ := e1
 refine ⟨h.len, ownsRow_setCell_other h.own (rowOwn_ne h.own h5 hne) y, fun j v hj => ?_, h.sep⟩
 obtain ⟨aj, cj, bj, oj, curj, e2, k1, k2⟩ := h.row j v hj
 have hb := heap_setCell_same w b (o + k) cur e y h5
 by_cases hbb : bj = b
 ·subst hbb
  refine ⟨aj, cj, bj, oj, cur.setIfInBounds (o + k) y, e2, k1, fun hN => ?_⟩
  obtain ⟨k3, k4, k5, k6⟩ := k2 hN
  obtain rfl : cur = curj := by rw [h5] at k5; simpa using k5
  refine ⟨k3, k4, hb, fun l hl => ?_⟩
  by_cases hij : j = i
  ·subst hij
   have hoj : oj = o := by
    rw [hv] at hj
    simp only [Option.some.injEq] at hj
    rw [← hj, k3] at e2
    simp at e2
    exact e2.1.symm
   subst hoj
   by_cases hlk : l = k
   ·subst hlk
    refine ⟨y, ?_, ?_⟩
    ·obtain ⟨u, hu, _⟩ := h6 l hl
     have := (Array.getElem?_eq_some_iff.1 hu).1
     simp [this]
    ·unfold updE; rw [if_pos ⟨rfl, rfl⟩]; exact hy
   ·obtain ⟨u, hu, hvu⟩ := k6 l hl
    refine ⟨u, ?_, ?_⟩
    ·rw [Array.getElem?_setIfInBounds, if_neg (by omega)]; exact hu
    ·unfold updE; rw [if_neg (fun h => hlk h.2)]; exact hV u _ hvu
  ·obtain ⟨u, hu, hvu⟩ := k6 l hl
   have hs := h.sep i j _ _ (fun e => hij e.symm) hv hj bj o cap bj oj cj rfl (by rw [e2, k3]) k l hk hl
   refine ⟨u, ?_, ?_⟩
   ·rw [Array.getElem?_setIfInBounds, if_neg (fun e => hs ⟨rfl, e⟩)]; exact hu
   ·unfold updE; rw [if_neg (fun h => hij h.1)]; exact hV u _ hvu
 ·refine ⟨aj, cj, bj, oj, curj, e2, k1, fun hN => ?_⟩
  obtain ⟨k3, k4, k5, k6⟩ := k2 hN
  refine ⟨k3, k4, (heap_setCell_other w ⟨b, o + k, none⟩ bj y hbb).trans k5, fun l hl => ?_⟩
  obtain ⟨u, hu, hvu⟩ := k6 l hl
  refine ⟨u, hu, ?_⟩
  have hij : j ≠ i := by
   intro hij; subst hij
   rw [hv] at hj
   simp only [Option.some.injEq] at hj
   rw [← hj, k3] at e2
   simp only [Value.slice.injEq, Option.some.injEq, Addr.mk.injEq] at e2
   exact hbb e2.1.1.symm
  unfold updE; rw [if_neg (fun h => hij h.1)]; exact hV u _ hvu
theorem RowAt.off {v : Value} {r : Nat → α} (h : RowAt V e w base N v r) {a : Addr} {y : Value} {e' : TypeId} {cur' : Array Value} (ha : w.heap[a.block]? = some (.cells cur' e' (0, 0))) (he : e' ≠ e) (hV : ∀ u x, V w u x → V (w.setCell a y) u x) :
  RowAt V e (w.setCell a y) base N v r := by
 obtain ⟨aj, cj, bj, oj, curj, e2, k1, k2⟩ := h
 refine ⟨aj, cj, bj, oj, curj, e2, k1, fun hN => ?_⟩
 obtain ⟨k3, k4, k5, k6⟩ := k2 hN
 refine ⟨k3, k4, (heap_setCell_other w a bj y (fun e => ?_)).trans k5, fun l hl => ?_⟩
 ·rw [e, ha] at k5; simp at k5; exact he k5.2
 ·obtain ⟨u, hu, hvu⟩ := k6 l hl
  exact ⟨u, hu, hV u _ hvu⟩
theorem Rws.far (h : Rws V e er w base rv vs n N W) {a : Addr} {y : Value} {e' : TypeId} {cur' : Array Value} (ha : w.heap[a.block]? = some (.cells cur' e' (0, 0))) (he : e' ≠ e) (her : e' ≠ er) (hV : ∀ u x, V w u x → V (w.setCell a y) u x) :
  Rws V e er (w.setCell a y) base rv vs n N W :=
 ⟨h.len, ownsRow_setCell_other h.own (rowOwn_ne h.own ha (fun e => her e.symm)) y, fun i v hv => (h.row i v hv).off ha he hV, h.sep⟩
theorem Rws.cellH (h : Rws V e er w base rv vs n N W) {g cap : Nat} (hr : rv = .slice (some ⟨g, 0, none⟩) n cap) : ∃ cur, w.heap[g]? = some (.cells cur er (0, 0)) := by
 rcases h.own.2 with ⟨h', _⟩ | ⟨g', cap', cur, h', _, hg, _⟩
 ·rw [hr] at h'; simp at h'
 ·rw [hr] at h'
  simp only [Value.slice.injEq, Option.some.injEq, Addr.mk.injEq, and_true, true_and] at h'
  obtain ⟨rfl, rfl⟩ := h'
  exact ⟨cur, hg⟩
theorem Apart.symm {u v : Value} (h : Apart N u v) : Apart N v u := fun b o c b' o' c' e1 e2 k l hk hl hh => h b' o' c' b o c e2 e1 l k hl hk ⟨hh.1.symm, hh.2.symm⟩
theorem Rws.swap (h : Rws V e er w base rv vs n N W) (hne : er ≠ e) {g cap i j : Nat} (hr : rv = .slice (some ⟨g, 0, none⟩) n cap) {u v : Value} (hu : vs[i]? = some u) (hv : vs[j]? = some v)
  (hV2 : ∀ (a b : Addr) (y y' : Value) x z, a.block = g → b.block = g → V w x z → V ((w.setCell a y).setCell b y') x z) :
  Rws V e er ((w.setCell ⟨g, i, none⟩ v).setCell ⟨g, j, none⟩ u) base rv ((vs.set i v).set j u) n N (swpA W i j) := by
 obtain ⟨cur, hg⟩ := h.cellH hr
 have hg1 := heap_setCell_same w g i cur er v hg
 have ho := h.own
 rw [hr] at ho
 have o1 := (World.ownsRow.stored ho i v).1
 have o2 := (World.ownsRow.stored o1 j u).1
 have hil : i < vs.length := (List.getElem?_eq_some_iff.1 hu).1
 have hjl : j < vs.length := (List.getElem?_eq_some_iff.1 hv).1
 have hget : ∀ k x, ((vs.set i v).set j u)[k]? = some x → (k = j ∧ x = u) ∨ (k ≠ j ∧ k = i ∧ x = v) ∨ (k ≠ j ∧ k ≠ i ∧ vs[k]? = some x) := by
  intro k x hx
  rw [List.getElem?_set] at hx
  by_cases h1 : j = k
  ·rw [if_pos h1, if_pos (by rw [List.length_set]; exact hjl)] at hx
   exact .inl ⟨h1.symm, by simpa using hx.symm⟩
  ·rw [if_neg h1, List.getElem?_set] at hx
   by_cases h2 : i = k
   ·rw [if_pos h2, if_pos hil] at hx
    exact .inr (.inl ⟨fun e => h1 e.symm, h2.symm, by simpa using hx.symm⟩)
   ·rw [if_neg h2] at hx
    exact .inr (.inr ⟨fun e => h1 e.symm, fun e => h2 e.symm, hx⟩)
 have hrow : ∀ {x : Value} {r : Nat → α}, RowAt V e w base N x r → RowAt V e ((w.setCell ⟨g, i, none⟩ v).setCell ⟨g, j, none⟩ u) base N x r := by
  intro x r hx
  obtain ⟨aj, cj, bj, oj, curj, e2, k1, k2⟩ := hx
  refine ⟨aj, cj, bj, oj, curj, e2, k1, fun hN => ?_⟩
  obtain ⟨k3, k4, k5, k6⟩ := k2 hN
  have hb : bj ≠ g := by
   intro e; rw [e, hg] at k5; simp at k5; exact hne k5.2
  refine ⟨k3, k4, ((heap_setCell_other _ ⟨g, j, none⟩ bj u hb).trans (heap_setCell_other w ⟨g, i, none⟩ bj v hb)).trans k5, fun l hl => ?_⟩
  obtain ⟨y, hy, hvy⟩ := k6 l hl
  exact ⟨y, hy, hV2 _ _ _ _ _ _ rfl rfl hvy⟩
 refine ⟨by rw [List.length_set, List.length_set, h.len], by rw [hr]; exact o2, fun k x hx => ?_, fun a b x y hab hx hy => ?_⟩
 ·rcases hget k x hx with ⟨rfl, rfl⟩ | ⟨h1, rfl, rfl⟩ | ⟨h1, h2, h3⟩
  ·have : swpA W i k k = W i := by
    unfold swpA; split
    ·rename_i e; rw [e]
    ·rw [if_pos rfl]
   rw [this]; exact hrow (h.row i _ hu)
  ·have : swpA W k j k = W j := by unfold swpA; rw [if_pos rfl]
   rw [this]; exact hrow (h.row j _ hv)
  ·have : swpA W i j k = W k := by unfold swpA; rw [if_neg h2, if_neg h1]
   rw [this]; exact hrow (h.row k _ h3)
 ·rcases hget a x hx with ⟨rfl, rfl⟩ | ⟨h1, rfl, rfl⟩ | ⟨h1, h2, h3⟩
  ·rcases hget b y hy with ⟨rfl, rfl⟩ | ⟨k1, rfl, rfl⟩ | ⟨k1, k2, k3⟩
   ·exact absurd rfl hab
   ·exact h.sep b a _ _ (fun e => hab e.symm) hu hv
   ·exact h.sep i b _ _ (fun e => k2 e.symm) hu k3
  ·rcases hget b y hy with ⟨rfl, rfl⟩ | ⟨k1, rfl, rfl⟩ | ⟨k1, k2, k3⟩
   ·exact h.sep b a _ _ (fun e => hab e.symm) hv hu
   ·exact absurd rfl hab
   ·exact h.sep j b _ _ (fun e => k1 e.symm) hv k3
  ·rcases hget b y hy with ⟨rfl, rfl⟩ | ⟨k1, rfl, rfl⟩ | ⟨k1, k2, k3⟩
   ·exact h.sep a i _ _ h2 h3 hu
   ·exact h.sep a j _ _ h1 h3 hv
   ·exact h.sep a b _ _ hab h3 k3
end
end Go.Proofs.Ytkmfhabgempjiaa
/- Plain: lists of words as matrices over the whole numbers by a prime. -/
namespace Go.Proofs.Ytkmfhabgempjiaa
def ftab (c : Nat) (T : Nat → Nat → Nat) (n : Nat) : List Nat := (List.range n).map fun j => T (j / c) (j % c)
theorem ftab_length (c : Nat) (T : Nat → Nat → Nat) (n : Nat) : (ftab c T n).length = n := by simp [ftab]
theorem ftab_at {c i k : Nat} (T : Nat → Nat → Nat) (hk : k < c) : ftab c T (i * c + (k + 1)) = ftab c T (i * c + k) ++ [T i k] := by
 unfold ftab
 rw [← Nat.add_assoc, List.range_succ, List.map_append]
 congr 1
 simp only [List.map_cons, List.map_nil]
 have h1 : (i * c + k) / c = i := by rw [Nat.mul_comm, Nat.mul_add_div (by omega), Nat.div_eq_of_lt hk, Nat.add_zero]
 have h2 : (i * c + k) % c = k := by rw [Nat.mul_comm, Nat.mul_add_mod, Nat.mod_eq_of_lt hk]
 rw [h1, h2]
theorem at_lt {i k r c n : Nat} (hn : n = r * c) (hi : i < r) (hk : k < c) : i * c + k < n := by
 have : (i + 1) * c ≤ r * c := Nat.mul_le_mul_right _ hi
 rw [Nat.succ_mul] at this; omega
theorem ftab_get {r c i k : Nat} (T : Nat → Nat → Nat) (hi : i < r) (hk : k < c) : (ftab c T (r * c)).getD (i * c + k) 0 = T i k := by
 have hlt := at_lt (n := r * c) rfl hi hk
 have h1 : (i * c + k) / c = i := by rw [Nat.mul_comm, Nat.mul_add_div (by omega), Nat.div_eq_of_lt hk, Nat.add_zero]
 have h2 : (i * c + k) % c = k := by rw [Nat.mul_comm, Nat.mul_add_mod, Nat.mod_eq_of_lt hk]
 unfold ftab
 simp only [List.getD, List.getElem?_map, List.getElem?_range hlt, Option.map_some, Option.getD_some]
 rw [h1, h2]
theorem ftab_congr {r c : Nat} {T S : Nat → Nat → Nat} (h : ∀ i k, i < r → k < c → T i k = S i k) : ftab c T (r * c) = ftab c S (r * c) := by
 unfold ftab
 refine List.map_congr_left fun j hj => ?_
 have hj := List.mem_range.1 hj
 have hc : 0 < c := Nat.pos_of_ne_zero fun e => by rw [e, Nat.mul_zero] at hj; omega
 exact h _ _ ((Nat.div_lt_iff_lt_mul hc).2 hj) (Nat.mod_lt _ hc)
def mx (p r c : Nat) (xs : List Nat) : MT (Zp p) r c := MT.of r c fun i k => Zp.of p (xs.getD (i * c + k) 0)
def tbv {p r c : Nat} (M : MT (Zp p) r c) : List Nat := ftab c (fun i k => (M.e i k).val) (r * c)
theorem tbv_length {p r c : Nat} (M : MT (Zp p) r c) : (tbv M).length = r * c := ftab_length _ _ _
theorem tbv_get {p r c i k : Nat} (M : MT (Zp p) r c) (hi : i < r) (hk : k < c) : (tbv M).getD (i * c + k) 0 = (M.e i k).val := ftab_get _ hi hk
theorem mx_tbv {p r c : Nat} (M : MT (Zp p) r c) : mx p r c (tbv M) = M := MT.ext fun i k hi hk => by
 unfold mx; rw [MT.of_e _ hi hk, tbv_get M hi hk, Zp.of_val]
theorem mx_e {p r c i k : Nat} (xs : List Nat) (hi : i < r) (hk : k < c) : (mx p r c xs).e i k = Zp.of p (xs.getD (i * c + k) 0) := MT.of_e _ hi hk
theorem tbv_of {p r c : Nat} (T : Nat → Nat → Nat) (f : Nat → Nat → Zp p) (h : ∀ i k, i < r → k < c → T i k = (f i k).val) : ftab c T (r * c) = tbv (MT.of r c f) := by
 unfold tbv
 exact ftab_congr fun i k hi hk => by rw [h i k hi hk, MT.of_e _ hi hk]
end Go.Proofs.Ytkmfhabgempjiaa
