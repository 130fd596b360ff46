/- Plain facts on lists of digits, in any base: their value, noughts at the end, and that a list without them is known by its value. No program is in sight. -/
namespace Go.Proofs.Ythghdjpjbngllaa

/-- 2^64, kept behind a name. -/
def W64 : Nat := 18446744073709551616

/-- The value of a list of digits, the least first. -/
def nv (B : Nat) : List Nat → Nat
  | [] => 0
  | x :: xs => x + B * nv B xs

/-- All digits are below the base. -/
def wf (B : Nat) (xs : List Nat) : Prop := ∀ x, x ∈ xs → x < B

/-- A list without its noughts at the end. -/
def tr : List Nat → List Nat
  | [] => []
  | x :: xs => match tr xs with
    | [] => if x = 0 then [] else [x]
    | y :: ys => x :: y :: ys

/-- A normal list of digits. -/
def Nrm (B : Nat) (xs : List Nat) : Prop := wf B xs ∧ tr xs = xs

theorem tr_cons (x : Nat) (xs : List Nat) : tr (x :: xs) = if tr xs = [] ∧ x = 0 then [] else x :: tr xs := by
  simp only [tr]
  cases h : tr xs with
  | nil => by_cases hx : x = 0 <;> simp [hx]
  | cons y ys => simp

theorem tr_snoc0 (xs : List Nat) : tr (xs ++ [0]) = tr xs := by
  induction xs with
  | nil => rfl
  | cons x xs ih => simp [tr_cons, ih]

theorem tr_snoc (xs : List Nat) (x : Nat) (h : x ≠ 0) : tr (xs ++ [x]) = xs ++ [x] := by
  induction xs with
  | nil => simp [tr, h]
  | cons y xs ih => simp [tr_cons, ih]

theorem getD_lt (xs : List Nat) (k : Nat) (hk : k < xs.length) : xs.getD k 0 = xs[k] := by
  unfold List.getD; rw [List.getElem?_eq_getElem hk]; rfl

theorem take_snoc (xs : List Nat) (k : Nat) (hk : k < xs.length) : xs.take (k + 1) = xs.take k ++ [xs.getD k 0] := by
  rw [List.take_succ_eq_append_getElem hk, getD_lt xs k hk]

theorem last_split (xs : List Nat) (hx : xs ≠ []) : xs = xs.take (xs.length - 1) ++ [xs.getD (xs.length - 1) 0] := by
  have hl : 0 < xs.length := List.length_pos_iff.2 hx
  rw [← take_snoc xs _ (by omega), Nat.sub_add_cancel hl, List.take_length]

theorem tr_idem (xs : List Nat) : tr (tr xs) = tr xs := by
  induction xs with
  | nil => rfl
  | cons x xs ih =>
    rw [tr_cons]
    split
    · rfl
    · rename_i h
      rw [tr_cons, ih, if_neg h]

theorem tr_len (xs : List Nat) : (tr xs).length ≤ xs.length := by
  induction xs with
  | nil => simp [tr]
  | cons x xs ih => rw [tr_cons]; split <;> simp <;> omega

theorem tr_take (xs : List Nat) : tr xs = xs.take (tr xs).length := by
  induction xs with
  | nil => rfl
  | cons x xs ih =>
    rw [tr_cons]
    split
    · simp
    · simp only [List.length_cons, List.take_succ_cons]; rw [← ih]

theorem tr_mem (xs : List Nat) {x : Nat} (h : x ∈ tr xs) : x ∈ xs := by
  rw [tr_take] at h; exact List.mem_of_mem_take h

theorem wf_tr {B : Nat} {xs : List Nat} (h : wf B xs) : wf B (tr xs) := fun _ hx => h _ (tr_mem xs hx)
theorem wf_nil (B : Nat) : wf B [] := by intro x hx; simp at hx
theorem wf_cons {B x : Nat} {xs : List Nat} (h : x < B) (hs : wf B xs) : wf B (x :: xs) := by
  intro y hy; rcases List.mem_cons.1 hy with rfl | hy
  · exact h
  · exact hs _ hy
theorem wf_getD {B : Nat} {xs : List Nat} (h : wf B xs) (hB : 0 < B) (j : Nat) : xs.getD j 0 < B := by
  by_cases hj : j < xs.length
  · simp [List.getD, List.getElem?_eq_getElem hj]; exact h _ (List.getElem_mem hj)
  · simp [List.getD, List.getElem?_eq_none (Nat.le_of_not_lt hj)]; exact hB

theorem nrm_tr {B : Nat} {xs : List Nat} (h : wf B xs) : Nrm B (tr xs) := ⟨wf_tr h, tr_idem xs⟩
theorem nrm_nil (B : Nat) : Nrm B [] := ⟨wf_nil B, rfl⟩

theorem nrm_last {B : Nat} {xs : List Nat} (h : Nrm B xs) (hx : xs ≠ []) : xs.getD (xs.length - 1) 0 ≠ 0 := by
  intro h0
  have e := last_split xs hx
  rw [h0] at e
  have h2 := h.2
  rw [e, tr_snoc0] at h2
  have := tr_len (xs.take (xs.length - 1))
  rw [h2] at this
  simp at this
  have hl : 0 < xs.length := List.length_pos_iff.2 hx
  omega

theorem take_set_succ (zs : List Nat) (k x : Nat) (hk : k < zs.length) : (zs.set k x).take (k + 1) = zs.take k ++ [x] := by
  rw [List.take_set, take_snoc zs k hk, List.set_append_right _ _ (by simp; omega)]
  simp [Nat.min_eq_left (Nat.le_of_lt hk)]

end Go.Proofs.Ythghdjpjbngllaa
