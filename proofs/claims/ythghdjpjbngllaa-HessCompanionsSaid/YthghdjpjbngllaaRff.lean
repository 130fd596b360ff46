/- The reference of chapter 22: values. -/
import Derived.Test.YthghdjpjbngllaaRfe
namespace Go.Proofs.Ythghdjpjbngllaa
open Go.RowKit


/-- 'make([]T, n)' in a region that draws. -/
theorem mk1 {P : Program} {o : Oper} {a : Act} {K : Act → World → Prop} {Q : Exit → Act → World → Prop} (k : IntKind) (T e bytes : Nat)
    (hu : P.underlying T = some (.slice e)) (hi : (P.info? e).map (fun i => (i.zero, i.size, i.bytes)) = some (some (.int k 0), 1, bytes)) (hby : bytes ≤ 8)
    (l c : Operand) (ho : o.op = .makeSlice T l c) (kl kc : IntKind) (n : Nat) (hn : n ≤ 1000000000)
    (w : World) (L C : Int) (hl : a.eval l = .int kl L) (hc : a.eval c = .int kc C) (hL : L = n) (hC : C = n)
    (h : ∀ (w' : World), Own k e w' w.heap.size (.slice (some ⟨w.heap.size, 0, none⟩) n n) (List.replicate n 0) → Below w.heap.size w w' → K (a.put o.dst (.slice (some ⟨w.heap.size, 0, none⟩) n n)) w') : Oper.wp P o a w K Q := by
  obtain ⟨i0, h1, h2, h3, h4⟩ := info_parts hi
  subst h4 hL hC
  have hb : i0.bytes * n ≤ 8 * n := Nat.mul_le_mul_right _ hby
  have hb2 : (i0.bytes : Int) * (n : Int) ≤ 281474976710656 := by
    have h9 : ((i0.bytes * n : Nat) : Int) ≤ 281474976710656 := by omega
    rwa [Int.natCast_mul] at h9
  have hr := run_make (P := P) w T e i0 (.int k 0) hu h1 h2 kl kc (n : Int) (n : Int) (by omega) (by omega) hb2 (by omega)
  have hcells : (madeCells (Value.int k 0).cells (((n : Int)).toNat * i0.size)).toList = vs k (List.replicate n 0) := by
    rw [h3, vs_replicate]; simp [Value.cells, toList_madeCells_one]
  have hsz : (madeCells (Value.int k 0).cells (((n : Int)).toNat * i0.size)).size = n * 1 := by rw [size_madeCells, h3]; simp
  have hown := World.ownsRow_lit (base := w.heap.size) (e := e) (size := 1) w (madeCells (Value.int k 0).cells (((n : Int)).toNat * i0.size)) n (Nat.le_refl _) (by unfold maxLen; omega) hsz
  rw [hcells] at hown
  have ho2 : Own k e (w.alloc (.cells (madeCells (Value.int k 0).cells (((n : Int)).toNat * i0.size)) e)) w.heap.size (.slice (some ⟨w.heap.size, 0, none⟩) n n) (List.replicate n 0) := by
    unfold Own; rw [List.length_replicate]; exact hown
  unfold Oper.wp
  simp [execOp, ho, hl, hc, hr, Result.andThen]
  have h2 := h _ ho2 ((Below.refl _ _).alloc (Nat.le_refl _) _)
  simpa [Oper.upon] using h2

section
variable {p n : Nat}
theorem tbv_at (M : MT (Zp p) n n) {t : Nat} (ht : t < n * n) : (tbv M).getD t 0 = (M.e (t / n) (t % n)).val := by
  have hn : 0 < n := Nat.pos_of_ne_zero fun e => by rw [e] at ht; simp at ht
  have h1 : t / n < n := (Nat.div_lt_iff_lt_mul hn).2 ht
  have h2 : t % n < n := Nat.mod_lt _ hn
  have h := tbv_get M h1 h2
  rwa [show t / n * n + t % n = t by rw [Nat.mul_comm]; exact Nat.div_add_mod _ _] at h
theorem val_step (hp : FP p) {gs : List Nat} {A : MT (Zp p) n n} {i t : Nat} (ht : t < n * n) {c : Nat} (hc : c = (Zp.of p (gs.getD i 0) * Zp.of p ((tbv (A.pow i)).getD t 0)).val) :
    ((tbv (pev (pl p (gs.take i)) A)).getD t 0 + c) % p = (tbv (pev (pl p (gs.take (i + 1))) A)).getD t 0 := by
  have e : p - 1 + 1 = p := by have := hp.1; omega
  rw [pl_take_succ, pev_add, pev_mon, tbv_at _ ht, tbv_at _ ht, MT.e_add, MT.e_sc, Zp.add_val, e, hc, tbv_at _ ht, Zp.of_val]
/-- The places of the sum, up to the place k those of the next one. -/
def VaL (gs : List Nat) (A : MT (Zp p) n n) (i k : Nat) (es : List Nat) : Prop := es.length = n * n ∧ ∀ t, t < n * n → es.getD t 0 = if t < k then (tbv (pev (pl p (gs.take (i + 1))) A)).getD t 0 else (tbv (pev (pl p (gs.take i)) A)).getD t 0
theorem VaL.start (gs : List Nat) (A : MT (Zp p) n n) (i : Nat) : VaL gs A i 0 (tbv (pev (pl p (gs.take i)) A)) := ⟨tbv_length _, fun t _ => by rw [if_neg (by omega)]⟩
theorem VaL.step (hp : FP p) {gs : List Nat} {A : MT (Zp p) n n} {i k : Nat} {es : List Nat} (h : VaL gs A i k es) (hk : k < n * n) {x c z : Nat} (hx : x = es.getD k 0) (hc : c = (Zp.of p (gs.getD i 0) * Zp.of p ((tbv (A.pow i)).getD k 0)).val) (hz : z = (x + c) % p) : VaL gs A i (k + 1) (es.set k z) := by
  refine ⟨by rw [List.length_set]; exact h.1, fun t ht => ?_⟩
  rw [getD_set1 _ _ _ _ (by rw [h.1]; exact hk)]
  by_cases e : t = k
  · subst e
    rw [if_pos rfl, if_pos (by omega), hz, hx, h.2 t ht, if_neg (by omega)]
    exact val_step hp ht hc
  · rw [if_neg e, h.2 t ht]
    by_cases h2 : t < k
    · rw [if_pos h2, if_pos (by omega)]
    · rw [if_neg h2, if_neg (by omega)]
theorem VaL.keep (hp : FP p) {gs : List Nat} {A : MT (Zp p) n n} {i k : Nat} {es : List Nat} (h : VaL gs A i k es) (hk : k < n * n) (hc : (Zp.of p (gs.getD i 0) * Zp.of p ((tbv (A.pow i)).getD k 0)) = 0) : VaL gs A i (k + 1) es := by
  refine ⟨h.1, fun t ht => ?_⟩
  rw [h.2 t ht]
  by_cases e : t = k
  · subst e
    rw [if_neg (by omega), if_pos (by omega), ← val_step hp ht (c := 0) (by rw [hc, Zp.zero_val]), Nat.add_zero]
    have h9 : (tbv (pev (pl p (gs.take i)) A)).getD t 0 < p := by
      rw [tbv_at _ ht]
      have := ((pev (pl p (gs.take i)) A).e (t / n) (t % n)).lt
      have := hp.1; omega
    rw [Nat.mod_eq_of_lt h9]
  · by_cases h2 : t < k
    · rw [if_pos h2, if_pos (by omega)]
    · rw [if_neg h2, if_neg (by omega)]
theorem val_nil {x y : Nat} (h : pl p [] = pl p [x] * pl p [y]) : Zp.of p x * Zp.of p y = 0 := by
  have h0 := congrArg (fun f => f.c 0) h
  have h2 : (pl p [x] * pl p [y]).c 0 = Zp.of p x * Zp.of p y := by
    rw [Pol.c_mul, sm_one (k := 0) (by omega) (fun i h1 h2 => by omega)]; rfl
  rw [← h2, ← h0, pl_nil]; rfl
theorem val_round (hp : FP p) {gs : List Nat} {A : MT (Zp p) n n} {i k : Nat} {es : List Nat} (h : VaL gs A i k es) (hk : k < n * n) {x y z u : Nat} {zs : List Nat} (hx : x = gs.getD i 0) (hy : y = (tbv (A.pow i)).getD k 0)
    (nz : Nrm p zs) (vz : pl p zs = pl p [x] * pl p [y]) (hz : 0 < zs.length) (hu : u = es.getD k 0) (ez : z = zs.getD 0 0) :
    ∃ c o : Nat, IntKind.u64.wrap ((u : Int) + (z : Int)) = (c : Int) ∧ (c : Int).tmod (p : Int) = (o : Int) ∧ (c : Int) % (p : Int) = (o : Int) ∧ VaL gs A i (k + 1) (es.set k o) := by
  have e1 : p - 1 + 1 = p := by have := hp.1; omega
  have hp2 := hp.2
  have hzp : z < p := by
    rw [ez]; simp only [List.getD, List.getElem?_eq_getElem hz, Option.getD_some]
    exact nz.1 _ (List.getElem_mem _)
  have hup : u < p := by
    rw [hu, h.2 k hk, if_neg (by omega), tbv_at _ hk]
    have := ((pev (pl p (gs.take i)) A).e (k / n) (k % n)).lt
    omega
  have h0 := congrArg (fun f => f.c 0) vz
  have hzv : z = (Zp.of p x * Zp.of p y).val := by
    have h1 : Zp.of p z = Zp.of p x * Zp.of p y := by
      have h2 : (pl p [x] * pl p [y]).c 0 = Zp.of p x * Zp.of p y := by
        rw [Pol.c_mul, sm_one (k := 0) (by omega) (fun i h1 h2 => by omega)]; rfl
      rw [← h2, ← h0, ez]; rfl
    rw [← h1, Zp.val_of, e1, Nat.mod_eq_of_lt hzp]
  refine ⟨u + z, (u + z) % p, ?_, rfl, rfl, h.step hp hk hu (by rw [← hx, ← hy]; exact hzv) rfl⟩
  rw [← Int.natCast_add]
  exact wrap_u64 _ (by omega)
theorem VaL.fin {gs : List Nat} {A : MT (Zp p) n n} {i : Nat} {es : List Nat} (h : VaL gs A i (n * n) es) : es = tbv (pev (pl p (gs.take (i + 1))) A) := by
  refine List.ext_getElem (by rw [h.1, tbv_length]) fun t h1 h2 => ?_
  have h3 := h.2 t (by rw [← h.1]; exact h1)
  rw [if_pos (by rw [← h.1]; exact h1)] at h3
  simpa only [List.getD, List.getElem?_eq_getElem h1, List.getElem?_eq_getElem h2, Option.getD_some] using h3
end

end Go.Proofs.Ythghdjpjbngllaa
