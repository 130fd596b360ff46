/- Plain facts on lists of digits, in any base: their value, noughts at the end, and that a list without them is known by its value. No program is in sight. -/
namespace Go.Proofs.Ytnnidjhhcnmnnaa

/-- 2^64, kept behind a name. -/
def W64 : Nat := 18446744073709551616

/-- The value of a list of digits, the least first. -/
def nv (B : Nat) : List Nat → Nat
  | [] => 0
  | x :: xs => x + B * nv B xs

/-- All digits are below the base. -/
def wf (B : Nat) (xs : List Nat) : Prop := ∀ x, x ∈ xs → x < B

/-- A list without its noughts at the end. -/
def tr : List Nat → List Nat
  | [] => []
  | x :: xs => match tr xs with
    | [] => if x = 0 then [] else [x]
    | y :: ys => x :: y :: ys

/-- A normal list of digits. -/
def Nrm (B : Nat) (xs : List Nat) : Prop := wf B xs ∧ tr xs = xs

theorem tr_cons (x : Nat) (xs : List Nat) : tr (x :: xs) = if tr xs = [] ∧ x = 0 then [] else x :: tr xs := by
  simp only [tr]
  cases h : tr xs with
  | nil => by_cases hx : x = 0 <;> simp [hx]
  | cons y ys => simp

theorem tr_snoc0 (xs : List Nat) : tr (xs ++ [0]) = tr xs := by
  induction xs with
  | nil => rfl
  | cons x xs ih => simp [tr_cons, ih]

theorem tr_snoc (xs : List Nat) (x : Nat) (h : x ≠ 0) : tr (xs ++ [x]) = xs ++ [x] := by
  induction xs with
  | nil => simp [tr, h]
  | cons y xs ih => simp [tr_cons, ih]

theorem getD_lt (xs : List Nat) (k : Nat) (hk : k < xs.length) : xs.getD k 0 = xs[k] := by
  unfold List.getD; rw [List.getElem?_eq_getElem hk]; rfl

theorem take_snoc (xs : List Nat) (k : Nat) (hk : k < xs.length) : xs.take (k + 1) = xs.take k ++ [xs.getD k 0] := by
  rw [List.take_succ_eq_append_getElem hk, getD_lt xs k hk]

theorem last_split (xs : List Nat) (hx : xs ≠ []) : xs = xs.take (xs.length - 1) ++ [xs.getD (xs.length - 1) 0] := by
  have hl : 0 < xs.length := List.length_pos_iff.2 hx
  rw [← take_snoc xs _ (by omega), Nat.sub_add_cancel hl, List.take_length]

theorem tr_idem (xs : List Nat) : tr (tr xs) = tr xs := by
  induction xs with
  | nil => rfl
  | cons x xs ih =>
    rw [tr_cons]
    split
    · rfl
    · rename_i h
      rw [tr_cons, ih, if_neg h]

theorem tr_len (xs : List Nat) : (tr xs).length ≤ xs.length := by
  induction xs with
  | nil => simp [tr]
  | cons x xs ih => rw [tr_cons]; split <;> simp <;> omega

theorem tr_take (xs : List Nat) : tr xs = xs.take (tr xs).length := by
  induction xs with
  | nil => rfl
  | cons x xs ih =>
    rw [tr_cons]
    split
    · simp
    · simp only [List.length_cons, List.take_succ_cons]; rw [← ih]

theorem tr_mem (xs : List Nat) {x : Nat} (h : x ∈ tr xs) : x ∈ xs := by
  rw [tr_take] at h; exact List.mem_of_mem_take h

theorem wf_tr {B : Nat} {xs : List Nat} (h : wf B xs) : wf B (tr xs) := fun _ hx => h _ (tr_mem xs hx)
theorem wf_nil (B : Nat) : wf B [] := by intro x hx; simp at hx
theorem wf_cons {B x : Nat} {xs : List Nat} (h : x < B) (hs : wf B xs) : wf B (x :: xs) := by
  intro y hy; rcases List.mem_cons.1 hy with rfl | hy
  · exact h
  · exact hs _ hy
theorem wf_append {B : Nat} {xs ys : List Nat} (h : wf B xs) (hs : wf B ys) : wf B (xs ++ ys) := by
  intro y hy; rcases List.mem_append.1 hy with hy | hy
  · exact h _ hy
  · exact hs _ hy
theorem wf_take {B : Nat} {xs : List Nat} (h : wf B xs) (k : Nat) : wf B (xs.take k) := fun _ hx => h _ (List.mem_of_mem_take hx)
theorem wf_drop {B : Nat} {xs : List Nat} (h : wf B xs) (k : Nat) : wf B (xs.drop k) := fun _ hx => h _ (List.mem_of_mem_drop hx)
theorem wf_replicate0 {B : Nat} (h : 0 < B) (k : Nat) : wf B (List.replicate k 0) := by
  intro x hx; rw [List.eq_of_mem_replicate hx]; exact h
theorem wf_getD {B : Nat} {xs : List Nat} (h : wf B xs) (hB : 0 < B) (j : Nat) : xs.getD j 0 < B := by
  by_cases hj : j < xs.length
  · simp [List.getD, List.getElem?_eq_getElem hj]; exact h _ (List.getElem_mem hj)
  · simp [List.getD, List.getElem?_eq_none (Nat.le_of_not_lt hj)]; exact hB

theorem nrm_tr {B : Nat} {xs : List Nat} (h : wf B xs) : Nrm B (tr xs) := ⟨wf_tr h, tr_idem xs⟩
theorem nrm_nil (B : Nat) : Nrm B [] := ⟨wf_nil B, rfl⟩

theorem nv_nil (B : Nat) : nv B [] = 0 := rfl
theorem nv_cons (B x : Nat) (xs : List Nat) : nv B (x :: xs) = x + B * nv B xs := rfl

theorem nv_append (B : Nat) (xs ys : List Nat) : nv B (xs ++ ys) = nv B xs + B ^ xs.length * nv B ys := by
  induction xs with
  | nil => simp [nv]
  | cons x xs ih => simp [nv, ih, Nat.pow_succ, Nat.mul_add, Nat.mul_assoc, Nat.mul_left_comm, Nat.add_assoc]

theorem nv_snoc (B : Nat) (xs : List Nat) (x : Nat) : nv B (xs ++ [x]) = nv B xs + B ^ xs.length * x := by
  rw [nv_append]; simp [nv]

theorem nv_replicate0 (B k : Nat) : nv B (List.replicate k 0) = 0 := by
  induction k with
  | zero => rfl
  | succ k ih => simp [List.replicate_succ, nv, ih]

theorem nv_tr (B : Nat) (xs : List Nat) : nv B (tr xs) = nv B xs := by
  induction xs with
  | nil => rfl
  | cons x xs ih =>
    rw [tr_cons]
    split
    · rename_i h; obtain ⟨h1, h2⟩ := h; rw [h1] at ih; simp [nv, ← ih, h2]
    · simp [nv, ih]

theorem nv_lt {B : Nat} (xs : List Nat) (h : wf B xs) : nv B xs < B ^ xs.length := by
  induction xs with
  | nil => simp [nv]
  | cons x xs ih =>
    have h1 : x < B := h x (by simp)
    have h2 := ih (fun y hy => h y (by simp [hy]))
    simp only [nv, List.length_cons, Nat.pow_succ]
    have h3 : B * nv B xs + B ≤ B * B ^ xs.length := by
      rw [← Nat.mul_succ]; exact Nat.mul_le_mul_left _ h2
    have := Nat.mul_comm B (B ^ xs.length)
    omega

theorem tr_nil_of_nv {B : Nat} (hB : 0 < B) (xs : List Nat) (h : nv B xs = 0) : tr xs = [] := by
  induction xs with
  | nil => rfl
  | cons x xs ih =>
    simp only [nv] at h
    have h1 : x = 0 := by omega
    have h2 : nv B xs = 0 := by
      have : B * nv B xs = 0 := by omega
      rcases Nat.mul_eq_zero.1 this with h | h
      · omega
      · exact h
    rw [tr_cons, if_pos ⟨ih h2, h1⟩]

/-- Two normal lists of one value are one list. -/
theorem nrm_inj {B : Nat} (hB : 0 < B) : ∀ {xs ys : List Nat}, Nrm B xs → Nrm B ys → nv B xs = nv B ys → xs = ys
  | [], ys, _, hy, h => by
    have := tr_nil_of_nv hB ys h.symm
    rw [hy.2] at this; exact this.symm
  | x :: xs, [], hx, _, h => by
    have := tr_nil_of_nv hB (x :: xs) h
    rw [hx.2] at this; exact this
  | x :: xs, y :: ys, hx, hy, h => by
    simp only [nv] at h
    have h1 : x < B := hx.1 x (by simp)
    have h2 : y < B := hy.1 y (by simp)
    have e1 : x = y := by
      have := congrArg (· % B) h
      simpa [Nat.add_mul_mod_self_left, Nat.mod_eq_of_lt h1, Nat.mod_eq_of_lt h2] using this
    have e2 : nv B xs = nv B ys := by
      subst e1
      exact Nat.eq_of_mul_eq_mul_left hB (by omega)
    have tl : ∀ {z : Nat} {zs : List Nat}, Nrm B (z :: zs) → Nrm B zs := by
      intro z zs hz
      refine ⟨fun w hw => hz.1 w (by simp [hw]), ?_⟩
      have := hz.2
      rw [tr_cons] at this
      split at this
      · simp at this
      · simpa using this
    rw [e1, nrm_inj hB (tl hx) (tl hy) e2]

theorem nrm_last {B : Nat} {xs : List Nat} (h : Nrm B xs) (hx : xs ≠ []) : xs.getD (xs.length - 1) 0 ≠ 0 := by
  intro h0
  have e := last_split xs hx
  rw [h0] at e
  have h2 := h.2
  rw [e, tr_snoc0] at h2
  have := tr_len (xs.take (xs.length - 1))
  rw [h2] at this
  simp at this
  have hl : 0 < xs.length := List.length_pos_iff.2 hx
  omega

/-- A normal list that isn't empty has at least the value of its last place. -/
theorem nrm_ge {B : Nat} {xs : List Nat} (h : Nrm B xs) (hx : xs ≠ []) : B ^ (xs.length - 1) ≤ nv B xs := by
  have h1 := nrm_last h hx
  have hl : 0 < xs.length := List.length_pos_iff.2 hx
  have e := congrArg (nv B) (last_split xs hx)
  rw [nv_snoc] at e
  have el : (xs.take (xs.length - 1)).length = xs.length - 1 := by simp
  rw [el] at e
  have := Nat.le_mul_of_pos_right (B ^ (xs.length - 1)) (Nat.pos_of_ne_zero h1)
  omega

theorem nrm_len_le {B : Nat} (hB : 1 < B) {xs : List Nat} (h : Nrm B xs) {k : Nat} (hk : nv B xs < B ^ k) : xs.length ≤ k := by
  by_cases hx : xs = []
  · simp [hx]
  · have := nrm_ge h hx
    have hl : 0 < xs.length := List.length_pos_iff.2 hx
    have h3 : B ^ (xs.length - 1) < B ^ k := by omega
    have := (Nat.pow_lt_pow_iff_right hB).1 h3
    omega

theorem nrm_nv_zero {B : Nat} (hB : 0 < B) {xs : List Nat} (h : Nrm B xs) (h0 : nv B xs = 0) : xs = [] := by
  have := tr_nil_of_nv hB xs h0; rw [h.2] at this; exact this

theorem nv_take_drop (B : Nat) (xs : List Nat) (k : Nat) (hk : k ≤ xs.length) : nv B xs = nv B (xs.take k) + B ^ k * nv B (xs.drop k) := by
  conv => lhs; rw [← List.take_append_drop k xs]
  rw [nv_append]; simp [Nat.min_eq_left hk]

theorem nv_take_succ (B : Nat) (xs : List Nat) (k : Nat) (hk : k < xs.length) : nv B (xs.take (k + 1)) = nv B (xs.take k) + B ^ k * xs.getD k 0 := by
  rw [take_snoc xs k hk, nv_snoc]; simp [Nat.min_eq_left (Nat.le_of_lt hk)]

theorem take_set_succ (zs : List Nat) (k x : Nat) (hk : k < zs.length) : (zs.set k x).take (k + 1) = zs.take k ++ [x] := by
  rw [List.take_set, take_snoc zs k hk, List.set_append_right _ _ (by simp; omega)]
  simp [Nat.min_eq_left (Nat.le_of_lt hk)]

theorem nv_set_succ (B : Nat) (zs : List Nat) (k x : Nat) (hk : k < zs.length) : nv B ((zs.set k x).take (k + 1)) = nv B (zs.take k) + B ^ k * x := by
  rw [take_set_succ zs k x hk, nv_snoc]; simp [Nat.min_eq_left (Nat.le_of_lt hk)]

theorem wf_set {B : Nat} {xs : List Nat} (h : wf B xs) (k x : Nat) (hx : x < B) : wf B (xs.set k x) := by
  intro y hy
  rcases List.mem_or_eq_of_mem_set hy with h1 | rfl
  · exact h _ h1
  · exact hx

/-- A digit's value, also behind the last one. -/
theorem nv_take_succ' (B : Nat) (xs : List Nat) (k : Nat) : nv B (xs.take (k + 1)) = nv B (xs.take k) + B ^ k * xs.getD k 0 := by
  by_cases hk : k < xs.length
  · exact nv_take_succ B xs k hk
  · have h1 : xs.getD k 0 = 0 := by unfold List.getD; rw [List.getElem?_eq_none (by omega)]; rfl
    rw [List.take_of_length_le (by omega), List.take_of_length_le (by omega), h1]; simp

theorem drop_get {xs ys : List Nat} {j : Nat} (h : xs.drop j = ys.drop j) : xs.getD j 0 = ys.getD j 0 := by
  have := congrArg (fun l : List Nat => l.getD 0 0) h
  simpa [List.getD, List.getElem?_drop] using this

theorem drop_succ_eq {xs ys : List Nat} {j : Nat} (h : xs.drop j = ys.drop j) : xs.drop (j + 1) = ys.drop (j + 1) := by
  have := congrArg (fun l : List Nat => l.drop 1) h
  simpa [List.drop_drop] using this

theorem drop_set_lt (xs : List Nat) (j m x : Nat) (h : j < m) : (xs.set j x).drop m = xs.drop m := by
  rw [List.drop_set, if_pos h]

/-- The greatest digits decide. -/
theorem nv_cmp_of {B : Nat} (xs ys : List Nat) (k : Nat) (hx : wf B xs) (h : xs.length = ys.length) (hk : k < xs.length)
    (hs : xs.drop (k + 1) = ys.drop (k + 1)) (hlt : xs.getD k 0 < ys.getD k 0) : nv B xs < nv B ys := by
  rw [nv_take_drop B xs (k + 1) (by omega), nv_take_drop B ys (k + 1) (by omega), hs]
  rw [nv_take_succ B xs k hk, nv_take_succ B ys k (by omega)]
  have h1 := nv_lt (xs.take k) (wf_take hx k)
  have e1 : (xs.take k).length = k := by simp; omega
  rw [e1] at h1
  have h2 : B ^ k * xs.getD k 0 + B ^ k ≤ B ^ k * ys.getD k 0 := by
    rw [← Nat.mul_succ]; exact Nat.mul_le_mul_left _ hlt
  omega

theorem nrm_lt_len {B : Nat} (hB : 1 < B) {xs ys : List Nat} (hx : Nrm B xs) (hy : Nrm B ys) (h : xs.length < ys.length) : nv B xs < nv B ys := by
  have h1 := nv_lt xs hx.1
  have h2 := nrm_ge hy (by intro e; simp [e] at h)
  have h3 : B ^ xs.length ≤ B ^ (ys.length - 1) := Nat.pow_le_pow_right (by omega) (by omega)
  omega

end Go.Proofs.Ytnnidjhhcnmnnaa
