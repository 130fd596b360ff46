/- Plain: lists of words as matrices over the whole numbers by a prime. -/
import Derived.Test.YthghdjpjbngllaaZeZp
import Derived.Test.YthghdjpjbngllaaZeMz
namespace Go.Proofs.Ythghdjpjbngllaa

/-- A list, place by place. -/
def ftab (c : Nat) (T : Nat → Nat → Nat) (n : Nat) : List Nat := (List.range n).map fun j => T (j / c) (j % c)
theorem ftab_length (c : Nat) (T : Nat → Nat → Nat) (n : Nat) : (ftab c T n).length = n := by simp [ftab]
theorem ftab_at {c i k : Nat} (T : Nat → Nat → Nat) (hk : k < c) : ftab c T (i * c + (k + 1)) = ftab c T (i * c + k) ++ [T i k] := by
  unfold ftab
  rw [← Nat.add_assoc, List.range_succ, List.map_append]
  congr 1
  simp only [List.map_cons, List.map_nil]
  have h1 : (i * c + k) / c = i := by rw [Nat.mul_comm, Nat.mul_add_div (by omega), Nat.div_eq_of_lt hk, Nat.add_zero]
  have h2 : (i * c + k) % c = k := by rw [Nat.mul_comm, Nat.mul_add_mod, Nat.mod_eq_of_lt hk]
  rw [h1, h2]
theorem at_lt {i k r c n : Nat} (hn : n = r * c) (hi : i < r) (hk : k < c) : i * c + k < n := by
  have : (i + 1) * c ≤ r * c := Nat.mul_le_mul_right _ hi
  rw [Nat.succ_mul] at this; omega
theorem ftab_get {r c i k : Nat} (T : Nat → Nat → Nat) (hi : i < r) (hk : k < c) : (ftab c T (r * c)).getD (i * c + k) 0 = T i k := by
  have hlt := at_lt (n := r * c) rfl hi hk
  have h1 : (i * c + k) / c = i := by rw [Nat.mul_comm, Nat.mul_add_div (by omega), Nat.div_eq_of_lt hk, Nat.add_zero]
  have h2 : (i * c + k) % c = k := by rw [Nat.mul_comm, Nat.mul_add_mod, Nat.mod_eq_of_lt hk]
  unfold ftab
  simp only [List.getD, List.getElem?_map, List.getElem?_range hlt, Option.map_some, Option.getD_some]
  rw [h1, h2]
theorem ftab_congr {r c : Nat} {T S : Nat → Nat → Nat} (h : ∀ i k, i < r → k < c → T i k = S i k) : ftab c T (r * c) = ftab c S (r * c) := by
  unfold ftab
  refine List.map_congr_left fun j hj => ?_
  have hj := List.mem_range.1 hj
  have hc : 0 < c := Nat.pos_of_ne_zero fun e => by rw [e, Nat.mul_zero] at hj; omega
  exact h _ _ ((Nat.div_lt_iff_lt_mul hc).2 hj) (Nat.mod_lt _ hc)
/-- The matrix of a list of words. -/
def mx (p r c : Nat) (xs : List Nat) : MT (Zp p) r c := MT.of r c fun i k => Zp.of p (xs.getD (i * c + k) 0)
/-- The list of a matrix. -/
def tbv {p r c : Nat} (M : MT (Zp p) r c) : List Nat := ftab c (fun i k => (M.e i k).val) (r * c)
theorem tbv_length {p r c : Nat} (M : MT (Zp p) r c) : (tbv M).length = r * c := ftab_length _ _ _
theorem tbv_get {p r c i k : Nat} (M : MT (Zp p) r c) (hi : i < r) (hk : k < c) : (tbv M).getD (i * c + k) 0 = (M.e i k).val := ftab_get _ hi hk
theorem mx_tbv {p r c : Nat} (M : MT (Zp p) r c) : mx p r c (tbv M) = M := MT.ext fun i k hi hk => by
  unfold mx; rw [MT.of_e _ hi hk, tbv_get M hi hk, Zp.of_val]
theorem mx_e {p r c i k : Nat} (xs : List Nat) (hi : i < r) (hk : k < c) : (mx p r c xs).e i k = Zp.of p (xs.getD (i * c + k) 0) := MT.of_e _ hi hk
theorem tbv_of {p r c : Nat} (T : Nat → Nat → Nat) (f : Nat → Nat → Zp p) (h : ∀ i k, i < r → k < c → T i k = (f i k).val) : ftab c T (r * c) = tbv (MT.of r c f) := by
  unfold tbv
  exact ftab_congr fun i k hi hk => by rw [h i k hi hk, MT.of_e _ hi hk]
theorem tbv_wf {p r c : Nat} (hp : 0 < p) (M : MT (Zp p) r c) : wf p (tbv M) := by
  intro x hx
  unfold tbv ftab at hx
  simp only [List.mem_map] at hx
  obtain ⟨j, _, rfl⟩ := hx
  have := (M.e (j / c) (j % c)).lt
  omega
end Go.Proofs.Ythghdjpjbngllaa
