/- What hess.order needs: an append of a struct, columns, the polynomial. -/
import Derived.Test.YthghdjpjbngllaaHimg
namespace Go.Proofs.Ythghdjpjbngllaa
open Go.RowKit


/-- 'out = append(out, y)' of structs of three cells: y has just been laid in a block of its own. -/
theorem apS3 {P : Program} {ops : Array Oper} {rest : List Oper} {o : Oper} {a : Act} {Q : Exit → Act → World → Prop} (T e bytes : Nat) (z0 : Value)
    (hu : P.underlying T = some (.slice e)) (hi : (P.info? e).map (fun i => (i.zero, i.size, i.bytes)) = some (some z0, 3, bytes)) (hby : bytes ≤ 64) (hz0 : z0.cells.size = 3)
    (hgd : o.guard = none) (s x : Operand) (ho : o.op = .call { callee := .builtin .append, args := #[s, x], argTypes := #[T, T] })
    (w : World) (base : Nat) (v : Value) (n : Nat) (xs : List Value) (y1 y2 y3 : Value) (k1 : y1.oneCell' = true) (k2 : y2.oneCell' = true) (k3 : y3.oneCell' = true) (hown : w.ownsRow base e 3 v n xs)
    (hlen : n ≤ 1000000000) (hbase : base ≤ w.heap.size)
    (hs : a.eval s = v) (hx : a.eval x = .slice (some ⟨w.heap.size, 0, none⟩) 1 1)
    (h : ∀ (g cap : Nat) (w' : World), w'.ownsRow base e 3 (.slice (some ⟨g, 0, none⟩) (n + 1) cap) (n + 1) (xs ++ [y1, y2, y3]) → Below base w w' → w.grownBy w' v.ownBlock → wpList P ops Q rest (a.put o.dst (.slice (some ⟨g, 0, none⟩) (n + 1) cap)) w') :
    wpList P ops Q (o :: rest) a (w.alloc (.cells #[y1, y2, y3] e)) := by
  obtain ⟨i0, h1, h2, h3, h4⟩ := info_parts hi
  have hB := Blk.lit w e [y1, y2, y3]
  refine wpList_append_lies _ hgd s x T ho base e i0 z0 3 bytes hu h1 h2 h3 h4 hz0 (by decide) v n xs hs (World.ownsRow.alloc hown _) ⟨w.heap.size, 0, none⟩ 1 1 [y1, y2, y3] hx rfl ?_ ?_ (by decide) ?_ ?_ ?_ (w.heap.size + 1) ?_ ?_
  · intro j u hj
    have e : (⟨w.heap.size, 0, none⟩ : Addr).add j = ⟨w.heap.size, j, none⟩ := by
      unfold Addr.add; split
      · rename_i h; subst h; rfl
      · simp
    rw [e]
    exact (hB.cell j).trans hj
  · intro u hu
    simp only [List.mem_cons, List.not_mem_nil, or_false] at hu
    rcases hu with rfl | rfl | rfl
    · exact k1
    · exact k2
    · exact k3
  · unfold maxLen; omega
  · have : (n + 1) * bytes ≤ (n + 1) * 64 := Nat.mul_le_mul_left _ hby
    omega
  · simp; omega
  · simp
  · intro g cap w' k1 k2 k3 k4
    have hg : w.grownBy w' v.ownBlock := by
      have e0 := World.grownBy_alloc w (.cells #[y1, y2, y3] e) v.ownBlock
      exact ⟨k2.os.trans e0.os, k2.tape.trans e0.tape, k2.output.trans e0.output, Nat.le_trans e0.size k2.size, fun i hi hne => (k2.block i (Nat.lt_of_lt_of_le hi e0.size) hne).trans (e0.block i hi hne)⟩
    have hge : ∀ k, v.ownBlock = some k → base ≤ k := fun j hj => (World.ownsRow.lt hown j hj).1
    exact h g cap w' k1 (below_grown hg hbase hge) hg

/-- What is owned stays, where a slice of another type has grown (whatever the elements' sizes). -/
theorem rowOwn_kept3 {w w' : World} {base b1 n n0 s s0 : Nat} {e e0 : TypeId} {v v0 : Value} {xs xs0 : List Value} (h : w.ownsRow base e s v n xs) (ho : w.ownsRow b1 e0 s0 v0 n0 xs0) (hg : w.grownBy w' v0.ownBlock) (he : e0 ≠ e) : w'.ownsRow base e s v n xs := by
  refine World.ownsRow.kept h hg ?_
  rcases h.2 with ⟨h1, _⟩ | ⟨g, cap, cur, h1, _, h2, _⟩
  · left; rw [h1]; rfl
  · right
    intro e1
    rw [h1] at e1
    exact rowOwn_ne ho h2 he e1.symm

/-- The cells of columns, side by side. -/
def colC (n : Nat) (H : Nat → Option Addr × Nat) : Nat → List Value
  | 0 => []
  | j + 1 => colC n H j ++ [.int .i64 n, .int .i64 1, .slice (H j).1 n (H j).2]
theorem colC_length (n : Nat) (H : Nat → Option Addr × Nat) : ∀ j, (colC n H j).length = j * 3
  | 0 => rfl
  | j + 1 => by simp [colC, colC_length n H j, Nat.succ_mul]
theorem colC_get (n : Nat) (H : Nat → Option Addr × Nat) {t r : Nat} (hr : r < 3) : ∀ {j : Nat}, t < j → (colC n H j)[t * 3 + r]? = [Value.int .i64 n, .int .i64 1, .slice (H t).1 n (H t).2][r]?
  | 0, h => by omega
  | j + 1, h => by
    unfold colC
    by_cases e : t < j
    · rw [List.getElem?_append_left (by rw [colC_length]; omega)]
      exact colC_get n H hr e
    · obtain rfl : t = j := by omega
      rw [List.getElem?_append_right (by rw [colC_length]; omega), colC_length, show t * 3 + r - t * 3 = r by omega]
theorem colC_congr (n : Nat) {H K : Nat → Option Addr × Nat} : ∀ {j : Nat}, (∀ t, t < j → H t = K t) → colC n H j = colC n K j
  | 0, _ => rfl
  | j + 1, h => by
    unfold colC
    rw [colC_congr n (fun t ht => h t (Nat.lt_succ_of_lt ht)), h j (Nat.lt_succ_self _)]

theorem fm_own {w : World} {base : Nat} {u : Value} {R C : Int} {xs : List Nat} (h : Own .u64 27 w base u xs) : Fm w (.agg #[.int .i64 R, .int .i64 C, u]) R C xs := ⟨u, rfl, h.sl⟩

section
variable {p n : Nat}
theorem tb1_get (M : MT (Zp p) n 1) {i : Nat} (hi : i < n) : (tbv M).getD i 0 = (M.e i 0).val := by
  have h := tbv_get M (k := 0) hi (by omega)
  rwa [Nat.mul_one, Nat.add_zero] at h
theorem tb1_len (M : MT (Zp p) n 1) : (tbv M).length = n := by rw [tbv_length, Nat.mul_one]
/-- Where the images stand. -/
def OrL (w0 wr : World) (j : Nat) (A : MT (Zp p) n n) (v : MT (Zp p) n 1) (lv : Value) : Prop :=
  ∃ H : Nat → Option Addr × Nat, wr.ownsRow w0.heap.size 42 3 lv j (colC n H j) ∧ (∀ t, t < j → Own .u64 27 wr 0 (.slice (H t).1 n (H t).2) (tbv (A.pow t * v)))
theorem OrL.next {w0 w1 w2 : World} {j : Nat} {A : MT (Zp p) n n} {v : MT (Zp p) n 1} {lv : Value} (h : OrL w0 w1 j A v lv) (hb : Below w1.heap.size w1 w2) : OrL w0 w2 j A v lv := by
  obtain ⟨H, h1, h2⟩ := h
  exact ⟨H, rowOwn_next h1 hb (Nat.le_refl _), fun t ht => (h2 t ht).next hb⟩
theorem OrL.cls {w0 wr : World} {j : Nat} {A : MT (Zp p) n n} {v : MT (Zp p) n 1} {lv : Value} (h : OrL w0 wr j A v lv) : Cls wr lv n j (fun t => tbv (A.pow t * v)) := by
  obtain ⟨H, h1, h2⟩ := h
  rcases h1.2 with ⟨rfl, h0⟩ | ⟨g, cap, cur, rfl, hb, hg, hn, _⟩
  · subst h0
    exact ⟨none, 0, 0, 0, rfl, Nat.le_refl _, fun h => absurd h (by omega), fun t ht => absurd ht (by omega)⟩
  · refine ⟨_, g, 0, cap, rfl, hn, fun _ => ⟨rfl, (Array.getElem?_eq_some_iff.1 hg).1⟩, fun t ht => ?_⟩
    have c : ∀ r, r < 3 → wr.cell? ⟨g, 0 + t * 3 + r, none⟩ = [Value.int .i64 n, .int .i64 1, .slice (H t).1 n (H t).2][r]? := fun r hr => by
      rw [Nat.zero_add, World.ownsRow.cellAt h1 (t * 3 + r) (by omega), colC_get n H hr ht]
    exact ⟨(H t).1, (H t).2, c 0 (by omega), c 1 (by omega), c 2 (by omega), tb1_len _, (h2 t ht).sl⟩
theorem OrL.push {w0 w1 w3 : World} {j cv : Nat} {A : MT (Zp p) n n} {v : MT (Zp p) n 1} {lv lv' : Value} {av : Option Addr} {H : Nat → Option Addr × Nat} (h1 : w1.ownsRow w0.heap.size 42 3 lv j (colC n H j)) (h2 : ∀ t, t < j → Own .u64 27 w1 0 (.slice (H t).1 n (H t).2) (tbv (A.pow t * v)))
    (hu : Own .u64 27 w1 0 (.slice av n cv) (tbv (A.pow j * v))) (hg : w1.grownBy w3 lv.ownBlock) (ho : w3.ownsRow w0.heap.size 42 3 lv' (j + 1) (colC n H j ++ [.int .i64 n, .int .i64 1, .slice av n cv])) : OrL w0 w3 (j + 1) A v lv' := by
  refine ⟨fun t => if t < j then H t else (av, cv), ?_, fun t ht => ?_⟩
  · unfold colC
    rw [colC_congr n (K := H) (fun t ht => by simp [ht]), if_neg (by omega)]
    exact ho
  · by_cases hc : t < j
    · show Own .u64 27 w3 0 (.slice (if t < j then H t else (av, cv)).1 n (if t < j then H t else (av, cv)).2) _
      rw [if_pos hc]
      exact rowOwn_kept3 (h2 t hc) h1 hg (by decide)
    · obtain rfl : t = j := by omega
      show Own .u64 27 w3 0 (.slice (if t < t then H t else (av, cv)).1 n (if t < t then H t else (av, cv)).2) _
      rw [if_neg (by omega)]
      exact rowOwn_kept3 hu h1 hg (by decide)
theorem krM_img (A : MT (Zp p) n n) (v : MT (Zp p) n 1) (j : Nat) : (MT.of n j fun i t => Zp.of p ((tbv (A.pow t * v)).getD i 0)) = krM A v j := MT.ext fun i k hi hk => by
  unfold krM
  rw [MT.of_e _ hi hk, MT.of_e _ hi hk, tb1_get _ hi, Zp.of_val]

/-- The words of the order's polynomial. -/
def ordL (j : Nat) (x : Nat → Zp p) : List Nat := (List.range j).map fun t => (-x t).val
theorem ordL_length (j : Nat) (x : Nat → Zp p) : (ordL j x).length = j := by simp [ordL]
theorem ordL_succ (j : Nat) (x : Nat → Zp p) : ordL (j + 1) x = ordL j x ++ [(-x j).val] := by simp [ordL, List.range_succ]
theorem ordL_pl (j : Nat) (x : Nat → Zp p) : pl p (ordL j x ++ [1]) = mon 1 j - pof j x := Pol.ext fun i => by
  rw [pl_c, Pol.c_sub, c_mon]
  rcases Nat.lt_trichotomy i j with h | h | h
  · rw [pof_c _ h, if_neg (by omega)]
    have e : (ordL j x ++ [1]).getD i 0 = (-x i).val := by
      simp only [List.getD, List.getElem?_append_left (show i < (ordL j x).length by rw [ordL_length]; exact h)]
      simp [ordL, h]
    rw [e, Zp.of_val, CR.zero_sub]
  · subst h
    rw [if_pos rfl, pof_dlt i x i (Nat.le_refl _), CR.sub_zero]
    have e : (ordL i x ++ [1]).getD i 0 = 1 := by simp [List.getD, ordL_length]
    rw [e, Zp.of_one]
  · rw [if_neg (by omega), pof_dlt j x i (by omega), CR.sub_zero]
    have e : (ordL j x ++ [1]).getD i 0 = 0 := by
      simp only [List.getD, List.getElem?_eq_none (show (ordL j x ++ [1]).length ≤ i by simp [ordL_length]; omega)]
      rfl
    rw [e, Zp.of_zero]
theorem ordL_nrm (hp : FP p) (j : Nat) (x : Nat → Zp p) : Nrm p (ordL j x ++ [1]) := by
  refine ⟨fun y hy => ?_, tr_snoc _ _ (by omega)⟩
  rw [List.mem_append] at hy
  have := hp.1
  rcases hy with h | h
  · obtain ⟨t, _, rfl⟩ := List.mem_map.1 h
    have := (-x t).lt; omega
  · rw [List.mem_singleton] at h; omega

/-- A column's order is returned. -/
def RetOrd (p : Nat) {n : Nat} (w : World) (A : MT (Zp p) n n) (v : MT (Zp p) n 1) (e : Ending) (w' : World) : Prop :=
  ∃ r zs, e = .returned r ∧ Own .u64 27 w' w.heap.size r zs ∧ Nrm p zs ∧ IsOrd (pl p zs) A v ∧ (∃ d, zs.length = d + 1 ∧ d ≤ n ∧ zs.getD d 0 = 1) ∧ Below w.heap.size w w'
/-- What Solve tells, as one thing. -/
def SolP (p : Nat) (w' : World) {n C D : Nat} (A : MT (Zp p) n C) (B : MT (Zp p) n D) (R K : Int) (a : Option Addr) (L k : Nat) (ec : Int) : Prop :=
  (∃ X : MT (Zp p) C D, A * X = B ∧ R = C ∧ K = D ∧ L = (tbv X).length ∧ Own .u64 27 w' 0 (.slice a L k) (tbv X) ∧ ec = 0) ∨ ((∀ X : MT (Zp p) C D, A * X ≠ B) ∧ R = 0 ∧ K = 0 ∧ a = none ∧ L = 0 ∧ k = 0 ∧ ec = 10)
theorem SolP.next {w w' : World} {C D : Nat} {A : MT (Zp p) n C} {B : MT (Zp p) n D} {R K : Int} {a : Option Addr} {L k : Nat} {ec : Int} (h : SolP p w A B R K a L k ec) (hb : Below w.heap.size w w') : SolP p w' A B R K a L k ec := by
  rcases h with ⟨X, h1, h2, h3, h4, h5, h6⟩ | h
  · exact .inl ⟨X, h1, h2, h3, h4, h5.next hb, h6⟩
  · exact .inr h
theorem SolP.off {w : World} {C D : Nat} {A : MT (Zp p) n C} {B : MT (Zp p) n D} {R K : Int} {a : Option Addr} {L k : Nat} {ec : Int} (h : SolP p w A B R K a L k ec) {g : Nat} {vals : List Value} (hb : Blk 42 w g vals) (i : Nat) (u : Value) : SolP p (w.setCell ⟨g, i, none⟩ u) A B R K a L k ec := by
  rcases h with ⟨X, h1, h2, h3, h4, h5, h6⟩ | h
  · exact .inl ⟨X, h1, h2, h3, h4, h5.off hb i u, h6⟩
  · exact .inr h
theorem OrL.off {w0 wr : World} {j : Nat} {A : MT (Zp p) n n} {v : MT (Zp p) n 1} {lv : Value} (h : OrL w0 wr j A v lv) {g : Nat} {vals : List Value} (hb : Blk 42 wr g vals) (hg : g < w0.heap.size) (i : Nat) (u : Value) : OrL w0 (wr.setCell ⟨g, i, none⟩ u) j A v lv := by
  obtain ⟨H, h1, h2⟩ := h
  exact ⟨H, ownsRow_setCell_below h1 (a := ⟨g, i, none⟩) hg u, fun t ht => (h2 t ht).off hb i u⟩
theorem RetSol.one {w w' : World} {C D : Nat} {A : MT (Zp p) n C} {B : MT (Zp p) n D} {e : Ending} (h : RetSol p w n C D A B e w') : ∃ R K a L k ec, e = .returned (.tuple #[.agg #[.int .i64 R, .int .i64 K, .slice a L k], .int .i64 ec]) ∧ SolP p w' A B R K a L k ec ∧ Below w.heap.size w w' := by
  rcases h with ⟨X, h1, ao, k, e1, h2, h3⟩ | ⟨h1, e1, h3⟩
  · exact ⟨_, _, _, _, _, _, e1, .inl ⟨X, h1, rfl, rfl, rfl, h2.mono (Nat.zero_le _), rfl⟩, h3⟩
  · exact ⟨_, _, _, _, _, _, e1, .inr ⟨h1, rfl, rfl, rfl, rfl, rfl, rfl⟩, h3⟩
end

end Go.Proofs.Ythghdjpjbngllaa
