/- A slice of slices of words: what it reads as; opened where it comes in. -/
import Derived.ChangeSame
import Derived.Deep.Slices
import Derived.Lib.SmallJoins
import Derived.Test.YthghdjpjbngllaaZfOpen
import Derived.Test.YthghdjpjbngllaaZfMz
import Derived.Test.YthghdjpjbngllaaZfTake
import Derived.Test.YthghdjpjbngllaaZfIxf
import Derived.Test.YthghdjpjbngllaaZfPeel2
import Derived.Test.YthghdjpjbngllaaZfHswap
import Derived.Test.YthghdjpjbngllaaZfRfh
import Derived.Test.YthghdjpjbngllaaZfPw
namespace Go.Proofs.Ythghdjpjbngllaa
open Go.ChangeShapes Go.WideShapes Go.ChangeAt Go.RowKit Go.Deep Go.Joins

/-- A slice of slices of words. -/
def Ns (w : World) (v : Value) (qs : List (List Nat)) : Prop := ∃ (ao : Option Addr) (b off cap : Nat) (U : Nat → Value), v = .slice ao qs.length cap ∧ qs.length ≤ cap ∧ (0 < qs.length → ao = some ⟨b, off, none⟩ ∧ b < w.heap.size) ∧
  ∀ j, j < qs.length → w.cell? ⟨b, off + j, none⟩ = some (U j) ∧ Sl .u64 w (U j) (qs.getD j []) ∧ wf W64 (qs.getD j [])
theorem Ns.below {w w' : World} {v : Value} {qs : List (List Nat)} (h : Ns w v qs) {B : Nat} (hb : Below B w w') (hB : w.heap.size ≤ B) : Ns w' v qs := by
  obtain ⟨ao, b, off, cap, U, e, h1, h2, h3⟩ := h
  refine ⟨ao, b, off, cap, U, e, h1, fun h => ⟨(h2 h).1, by have := (h2 h).2; have := hb.size; omega⟩, fun j hj => ?_⟩
  obtain ⟨k1, k2, k3⟩ := h3 j hj
  have := (h2 (by omega)).2
  exact ⟨(hb.cell (p := ⟨b, off + j, none⟩) (by simp; omega)).trans k1, k2.below hb hB, k3⟩
theorem Ns.next {w w' : World} {v : Value} {qs : List (List Nat)} (h : Ns w v qs) (hb : Below w.heap.size w w') : Ns w' v qs := h.below hb (Nat.le_refl _)
theorem Ns.slc {w : World} {v : Value} {qs : List (List Nat)} (h : Ns w v qs) : ∃ ao cap, v = .slice ao qs.length cap := by
  obtain ⟨ao, _, _, cap, _, e, _⟩ := h; exact ⟨ao, cap, e⟩

section
variable {H : Type} {enc : TypeId × Value → H} {P : Program} {w : World} {base : Nat} {spare : Nat → Bool} {held : Bool}
theorem trod_words2 {t e : TypeId} {fuel : Nat} {v : Value} {x : DataW H × List MemPlace} (ht : P.underlying t = some (.slice e)) (he : P.underlying e = some (.int .u64)) (hc : P.cellsOf e = 1)
    (hf : DataW.trod enc P w base spare held fuel t [v] = some x) : ∃ xs, Sl .u64 w v xs ∧ wf W64 xs := by
  rcases open_ints ht he hc hf with ⟨hcs, _⟩ | ⟨x, l, c, zs, hcs, _, hl, hm, hz, _, hcell, hwz⟩
  · simp at hcs
    subst hcs
    exact ⟨[], Sl.nil _ _, wf_nil _⟩
  · simp at hcs
    subst hcs
    have hlz : l ≤ zs.length := by rw [hz]; split <;> omega
    have hlen : ((zs.take l).map Int.toNat).length = l := by simp; omega
    have hget : ∀ j, j < l → ((zs.take l).map Int.toNat).getD j 0 = (zs.getD j 0).toNat := by
      intro j hj
      simp [List.getD, hj]
      cases zs[j]? <;> rfl
    refine ⟨(zs.take l).map Int.toNat, ⟨some x, x.block, x.off, c, by rw [hlen], by rw [hlen]; exact hl, ?_, ?_⟩, ?_⟩
    · intro hne
      have h0 : 0 < zs.length := by
        by_cases h : zs = []
        · subst h; simp at hne
        · exact List.length_pos_iff.2 h
      have := World.cell?_spot (hcell 0 h0)
      simp [Addr.add] at this
      obtain ⟨b, o, s⟩ := x
      simp at this; rw [this]
    · intro j hj
      rw [hlen] at hj
      have hjz : j < zs.length := by omega
      have h1 := hcell j hjz
      have hwj := wf_u64_bounds (hwz (zs.getD j 0) (by simp [List.getD, List.getElem?_eq_getElem hjz]))
      rw [hget j hj]
      have e1 : (((zs.getD j 0).toNat : Nat) : Int) = zs.getD j 0 := by omega
      rw [e1, ← h1]
      congr 1
      have h0 : 0 < zs.length := by omega
      have := World.cell?_spot (hcell 0 h0)
      simp [Addr.add] at this
      obtain ⟨b, o, s⟩ := x
      simp at this; subst this
      unfold Addr.add; split
      · rename_i h; subst h; rfl
      · rfl
    · intro y hy
      simp only [List.mem_map] at hy
      obtain ⟨z, hz1, rfl⟩ := hy
      have := wf_u64_bounds (hwz z (List.mem_of_mem_take hz1))
      unfold W64; omega
theorem trod_ns {t e q : TypeId} {fuel : Nat} {v : Value} {x : DataW H × List MemPlace} (ht : P.underlying t = some (.slice e)) (he : P.underlying e = some (.slice q)) (hq : P.underlying q = some (.int .u64)) (ce : P.cellsOf e = 1) (cq : P.cellsOf q = 1)
    (h : DataW.trod enc P w base spare held fuel t [v] = some x) : ∃ qs, Ns w v qs := by
  rcases open_slice1 ht ce h with ⟨h0, _⟩ | ⟨a, len, cap, m, n, V, D, Pl, hcs, hb, hl, hm, hmm, rfl, hx⟩
  · simp at h0
    subst h0
    exact ⟨[], none, 0, 0, 0, fun _ => .slice none 0 0, rfl, Nat.le_refl _, fun h => absurd h (by simp), fun j hj => absurd hj (by simp)⟩
  · simp at hcs
    subst hcs
    have hlm : len ≤ m := by rw [hmm]; split <;> omega
    have each : ∀ r, r < m → ∃ y : List Nat, Sl .u64 w (V r) y ∧ wf W64 y := fun r hr => trod_words2 he hq cq (hx r hr).2
    obtain ⟨y, hy⟩ := choose_lt each
    have hlen : ((List.range len).map y).length = len := by simp
    have hget : ∀ j, j < len → ((List.range len).map y).getD j [] = y j := fun j hj => by simp [List.getD, hj]
    have hspot : 0 < len → a = ⟨a.block, a.off, none⟩ := fun h0 => by
      have := World.cell?_spot ((hx 0 (by omega)).1)
      simp [Addr.add] at this
      obtain ⟨b, o, s⟩ := a
      simp at this; rw [this]
    refine ⟨(List.range len).map y, some a, a.block, a.off, cap, V, by rw [hlen], by rw [hlen]; exact hl, fun h0 => ?_, fun j hj => ?_⟩
    · rw [hlen] at h0
      refine ⟨by rw [← hspot h0], ?_⟩
      have h1 := World.block_lt_of_cell? w _ (hx 0 (by omega)).1
      have h2 : (a.add 0).block = a.block := by unfold Addr.add; split <;> rfl
      rwa [h2] at h1
    · rw [hlen] at hj
      rw [hget j hj]
      refine ⟨?_, hy j (by omega)⟩
      have h1 := (hx j (by omega)).1
      have h2 : a.add j = ⟨a.block, a.off + j, none⟩ := by
        rw [hspot (by omega)]
        unfold Addr.add; split
        · rename_i h; subst h; rfl
        · rfl
      rw [← h2]; exact h1
end
end Go.Proofs.Ythghdjpjbngllaa
/- Plain: determinants by the first column; of matrices with a block of noughts; Sylvester's identity, on which elimination without fractions rests. -/
namespace Go.Proofs.Ythghdjpjbngllaa
open CR

section
variable {R : Type} [CR R]
/-- A row and the first column struck. -/
def mnc (A : Nat → Nat → R) (i : Nat) : Nat → Nat → R := fun a b => A (if a < i then a else a + 1) (b + 1)
theorem sg_sgB (a b : Nat) (x : R) : sg (a + 1) (sg b x) = sg (b + 1) (sg a x) := by
  rw [sg_succ, sg_succ]
  congr 1
  unfold sg
  split <;> split <;> rfl
theorem sg_sm (k n : Nat) (f : Nat → R) : sg k (sm n f) = sm n fun i => sg k (f i) := by
  unfold sg
  split
  · rw [sm_neg]
  · rfl
theorem sg_z (k : Nat) : sg k (0 : R) = 0 := by unfold sg; split <;> simp [neg_zero]
/-- By the first column. -/
theorem dn_col0 : ∀ (n : Nat) (A : Nat → Nat → R), dn (n + 1) A = sm (n + 1) fun i => sg i (A i 0 * dn n (mnc A i))
  | 0, A => rfl
  | m + 1, A => by
    have e0 : dn (m + 1) (mnr A 0) = dn (m + 1) (mnc A 0) := dn_congr _ fun i j _ _ => by unfold mnr mnc; rw [if_neg (by omega), if_neg (by omega)]
    show sm (m + 1 + 1) (fun k => sg k (A 0 k * dn (m + 1) (mnr A k))) = _
    rw [sm_head, sm_head (m + 1) (fun i => sg i (A i 0 * dn (m + 1) (mnc A i))), e0]
    congr 1
    have h1 : ∀ k, sg (k + 1) (A 0 (k + 1) * dn (m + 1) (mnr A (k + 1))) = sm (m + 1) fun i => sg (k + 1) (sg i (A 0 (k + 1) * (A (i + 1) 0 * dn m (mnc (mnr A (k + 1)) i)))) := fun k => by
      rw [dn_col0 m, ← sg_sm]
      congr 1
      rw [← sm_mul]
      refine sm_congr fun i _ => ?_
      have e1 : mnr A (k + 1) i 0 = A (i + 1) 0 := by unfold mnr; rw [if_pos (by omega)]
      rw [e1]
      exact (sg_mul i (A 0 (k + 1)) _).symm
    have h2 : ∀ i, sg (i + 1) (A (i + 1) 0 * dn (m + 1) (mnc A (i + 1))) = sm (m + 1) fun k => sg (i + 1) (sg k (A (i + 1) 0 * (A 0 (k + 1) * dn m (mnr (mnc A (i + 1)) k)))) := fun i => by
      show sg (i + 1) (A (i + 1) 0 * sm (m + 1) (fun k => sg k (mnc A (i + 1) 0 k * dn m (mnr (mnc A (i + 1)) k)))) = _
      rw [← sg_sm]
      congr 1
      rw [← sm_mul]
      refine sm_congr fun k _ => ?_
      have e1 : mnc A (i + 1) 0 k = A 0 (k + 1) := by unfold mnc; rw [if_pos (by omega)]
      rw [e1]
      exact (sg_mul k (A (i + 1) 0) _).symm
    rw [sm_congr fun k _ => h1 k, sm_congr fun i _ => h2 i, sm_swap]
    refine sm_congr fun i _ => sm_congr fun k _ => ?_
    rw [sg_sgB, mul_left_comm]
    congr 4
    refine dn_congr m fun a b _ _ => ?_
    unfold mnr mnc
    dsimp only
    by_cases ha : a < i <;> by_cases hb : b < k <;> simp [ha, hb]
theorem dn_col_zero {n : Nat} {A : Nat → Nat → R} (h : ∀ i, i < n + 1 → A i 0 = 0) : dn (n + 1) A = 0 := by
  rw [dn_col0]
  exact sm_zero' fun i hi => by rw [h i hi, zero_mul, sg_z]
/-- A block of noughts below. -/
theorem dn_block : ∀ (k m : Nat) (M : Nat → Nat → R), (∀ a b, a < m → b < k → M (k + a) b = 0) → dn (k + m) M = dn k M * dn m fun a b => M (k + a) (k + b)
  | 0, m, M, _ => by
    rw [show (dn 0 M : R) = 1 from rfl, one_mul, Nat.zero_add]
    exact dn_congr m fun a b _ _ => by rw [Nat.zero_add, Nat.zero_add]
  | k + 1, m, M, h => by
    rw [show k + 1 + m = k + m + 1 by omega, dn_col0, show k + m + 1 = (k + 1) + m by omega, sm_split, dn_col0 k M]
    have hz : sm m (fun i => sg (k + 1 + i) (M (k + 1 + i) 0 * dn (k + m) (mnc M (k + 1 + i)))) = 0 := sm_zero' fun i hi => by rw [h i 0 hi (by omega), zero_mul, sg_z]
    rw [hz, add_zero, mul_comm (sm _ _), ← sm_mul]
    refine sm_congr fun i hi => ?_
    rw [dn_block k m (mnc M i) fun a b ha hb => by unfold mnc; rw [if_neg (by omega), show k + a + 1 = k + 1 + a by omega]; exact h a (b + 1) ha (by omega)]
    have e : (dn m fun a b => mnc M i (k + a) (k + b)) = dn m fun a b => M (k + 1 + a) (k + 1 + b) := dn_congr m fun a b _ _ => by
      unfold mnc; rw [if_neg (by omega), show k + a + 1 = k + 1 + a by omega, show k + b + 1 = k + 1 + b by omega]
    rw [e, ← mul_assoc, sg_mul', mul_comm]

/-- A row times d, less multiples of others. -/
theorem dn_less (n : Nat) (A : Nat → Nat → R) {i : Nat} (hi : i < n) (d : R) (x : Nat → R) : ∀ k, k ≤ i → dn n (upd A i fun c => d * A i c - sm k fun s => x s * A s c) = d * dn n A
  | 0, _ => by
    have e : (upd A i fun c => d * A i c - sm 0 fun s => x s * A s c) = upd A i fun c => d * A i c := by
      congr 1; funext c; exact sub_zero _
    rw [e, dn_scale n A i hi, upd_self]
  | k + 1, hk => by
    have e : (upd A i fun c => d * A i c - sm (k + 1) fun s => x s * A s c) = upd A i fun c => 1 * (d * A i c - sm k fun s => x s * A s c) + -x k * A k c := by
      congr 1; funext c
      show d * A i c - (sm k (fun s => x s * A s c) + x k * A k c) = _
      exact by_ring [d * A i c, sm k (fun s => x s * A s c), x k, A k c] (X0 - (X1 + X2 * X3)) (1 * (X0 - X1) + -X2 * X3) rfl
    have hr : dn n (upd A i (A k)) = 0 := dn_rep' (i := k) (j := i) (by omega) (by omega) hi (by rw [upd_ne _ _ (by omega), upd_same])
    rw [e, dn_lin n A i hi 1 (-x k), hr, mul_zero, add_zero, one_mul, dn_less n A hi d x k (by omega)]
end

section
variable {R : Type} [CR R]
/-- No divisors of nought. -/
def Dom (R : Type) [CR R] : Prop := ∀ a b : R, a * b = 0 → a = 0 ∨ b = 0
theorem Dom.cancel (h : Dom R) {d a b : R} (hd : d ≠ 0) (e : d * a = d * b) : a = b := by
  refine sub_eq_zero ((h d (a - b) ?_).resolve_left hd)
  have e2 : d * (a - b) = d * a - d * b := by_ring [d, a, b] (X0 * (X1 - X2)) (X0 * X1 - X0 * X2) rfl
  rw [e2, e, sub_self]
def pwr (d : R) : Nat → R
  | 0 => 1
  | k + 1 => pwr d k * d
theorem Dom.pwr (h : Dom R) (h1 : (1 : R) ≠ 0) {d : R} (hd : d ≠ 0) : ∀ k, pwr d k ≠ 0
  | 0 => h1
  | k + 1 => fun e => (h _ _ e).elim (Dom.pwr h h1 hd k) hd
theorem dn_sc (d : R) : ∀ n, dn n (fun i j : Nat => if i = j then d else 0) = pwr d n
  | 0 => rfl
  | n + 1 => by
    show sm (n + 1) (fun k => sg k ((if 0 = k then d else 0) * dn n (mnr (fun i j : Nat => if i = j then d else 0) k))) = _
    rw [sm_one (k := 0) (by omega) fun i _ hi => by rw [if_neg (fun e => hi e.symm), zero_mul, sg_z]]
    rw [sg_zero, if_pos rfl]
    have e : dn n (mnr (fun i j : Nat => if i = j then d else 0) 0) = pwr d n := by
      rw [← dn_sc d n]
      exact dn_congr n fun i j _ _ => by unfold mnr; rw [if_neg (by omega)]; simp
    rw [e, mul_comm]; rfl
/-- The adjugate from the left. -/
theorem adj_mul (h : Dom R) (h1 : (1 : R) ≠ 0) {n : Nat} {A : MT R n n} (hd : A.det ≠ 0) : adj A * A = (MT.one n).sc A.det := by
  have e1 := mul_adj A
  have e2 := mul_adj (adj A)
  have hdB : (adj A).det ≠ 0 := fun h0 => by
    have e3 := congrArg MT.det e1
    rw [MT.det_mul, h0, mul_zero] at e3
    have e4 : ((MT.one n : MT R n n).sc A.det).det = pwr A.det n := by
      rw [← dn_sc]
      exact dn_congr n fun i j hi hj => by
        rw [MT.e_sc, MT.e_one hi hj]
        split
        · rw [mul_one]
        · rw [mul_zero]
    rw [e4] at e3
    exact Dom.pwr h h1 hd n e3.symm
  -- A (B B') = d B' = b A
  have e3 : (adj (adj A)).sc A.det = A.sc (adj A).det := by
    have h2 : A * (adj A * adj (adj A)) = A.sc (adj A).det := by rw [e2, MT.mul_sc, MT.mul_one]
    rw [← MT.mul_assoc, e1, MT.sc_mul, MT.one_mul] at h2
    exact h2
  have e4 : (adj A * A).sc (adj A).det = ((MT.one n).sc A.det).sc (adj A).det := by
    rw [← MT.mul_sc, ← e3, MT.mul_sc, e2, MT.sc_sc, MT.sc_sc, mul_comm]
  refine MT.ext fun i k _ _ => ?_
  have h5 := congrArg (fun M : MT R n n => M.e i k) e4
  exact Dom.cancel h hdB h5

/-- What is left behind the first k rows, times their determinant. -/
def tB (k : Nat) (A : Nat → Nat → R) (i j : Nat) : R := dn k A * A i j - sm k fun s => sm k (fun t => A i t * (adj (MT.of k k A)).e t s) * A s j
theorem det_of (k : Nat) (A : Nat → Nat → R) : (MT.of k k A).det = dn k A := dn_congr k fun _ _ hi hj => MT.of_e A hi hj
theorem tB_zero (h : Dom R) (h1 : (1 : R) ≠ 0) {k : Nat} {A : Nat → Nat → R} (hd : dn k A ≠ 0) (i : Nat) {j : Nat} (hj : j < k) : tB k A i j = 0 := by
  unfold tB
  have e1 := adj_mul h h1 (A := MT.of k k A) (by rw [det_of]; exact hd)
  have e2 : sm k (fun s => sm k (fun t => A i t * (adj (MT.of k k A)).e t s) * A s j) = sm k fun t => A i t * sm k fun s => (adj (MT.of k k A)).e t s * A s j := by
    have h3 : ∀ s, sm k (fun t => A i t * (adj (MT.of k k A)).e t s) * A s j = sm k fun t => A i t * ((adj (MT.of k k A)).e t s * A s j) := fun s => by
      rw [mul_comm, ← sm_mul]
      exact sm_congr fun t _ => by rw [mul_comm, mul_assoc]
    rw [sm_congr fun s _ => h3 s, sm_swap]
    exact sm_congr fun t _ => by rw [sm_mul]
  have e3 : ∀ t, t < k → sm k (fun s => (adj (MT.of k k A)).e t s * A s j) = if t = j then dn k A else 0 := fun t ht => by
    have h4 : (adj (MT.of k k A) * MT.of k k A).e t j = ((MT.one k).sc (MT.of k k A).det).e t j := by rw [e1]
    rw [MT.e_mul, MT.e_sc, MT.e_one ht hj, det_of] at h4
    rw [sm_congr (g := fun s => (adj (MT.of k k A)).e t s * (MT.of k k A).e s j) fun s hs => by rw [MT.of_e A hs hj], h4]
    split
    · rw [mul_one]
    · rw [mul_zero]
  rw [e2, sm_one hj fun t ht hne => by rw [e3 t ht, if_neg hne, mul_zero], e3 j hj, if_pos rfl, mul_comm, sub_self]
/-- Rows from k on, r of them, made so. -/
def redB (k : Nat) (A : Nat → Nat → R) : Nat → Nat → Nat → R
  | 0 => A
  | r + 1 => upd (redB k A r) (k + r) (tB k A (k + r))
theorem redB_lo (k : Nat) (A : Nat → Nat → R) {a : Nat} : ∀ r, a < k ∨ k + r ≤ a → redB k A r a = A a
  | 0, _ => rfl
  | r + 1, h => by unfold redB; rw [upd_ne _ _ (by omega)]; exact redB_lo k A r (by omega)
theorem redB_hi (k : Nat) (A : Nat → Nat → R) {a : Nat} : ∀ r, k ≤ a → a < k + r → redB k A r a = tB k A a
  | 0, h1, h2 => by omega
  | r + 1, h1, h2 => by
    unfold redB
    by_cases e : a = k + r
    · rw [e, upd_same]
    · rw [upd_ne _ _ e]; exact redB_hi k A r h1 (by omega)
theorem redB_dn (k : Nat) (A : Nat → Nat → R) (n : Nat) : ∀ r, k + r ≤ n → dn n (redB k A r) = pwr (dn k A) r * dn n A
  | 0, _ => (one_mul _).symm
  | r + 1, h => by
    have e : redB k A (r + 1) = upd (redB k A r) (k + r) fun c => dn k A * redB k A r (k + r) c - sm k fun s => sm k (fun t => A (k + r) t * (adj (MT.of k k A)).e t s) * redB k A r s c := by
      show upd (redB k A r) (k + r) (tB k A (k + r)) = _
      congr 1
      funext c
      rw [redB_lo k A r (.inr (Nat.le_refl _))]
      unfold tB
      congr 1
      exact sm_congr fun s hs => by rw [redB_lo k A r (.inl hs)]
    rw [e, dn_less n _ (by omega) _ _ k (by omega), redB_dn k A n r (by omega)]
    show dn k A * (pwr (dn k A) r * dn n A) = pwr (dn k A) r * dn k A * dn n A
    exact by_ring [dn k A, pwr (dn k A) r, dn n A] (X0 * (X1 * X2)) (X1 * X0 * X2) rfl
theorem dn_tB (h : Dom R) (h1 : (1 : R) ≠ 0) {k : Nat} {A : Nat → Nat → R} (hd : dn k A ≠ 0) (m : Nat) : pwr (dn k A) m * dn (k + m) A = dn k A * dn m fun a b => tB k A (k + a) (k + b) := by
  rw [← redB_dn k A (k + m) m (Nat.le_refl _), dn_block k m _ fun a b ha hb => by rw [redB_hi k A m (by omega) (by omega)]; exact tB_zero h h1 hd _ hb]
  rw [dn_congr k fun i j hi _ => by rw [redB_lo k A m (.inl hi)], dn_congr m fun a b ha _ => by rw [redB_hi k A m (by omega) (by omega)]]

/-- Bordered minors. -/
def bix (k i a : Nat) : Nat := if a < k then a else i
def bm (k : Nat) (A : Nat → Nat → R) (i j : Nat) : R := dn (k + 1) fun a b => A (bix k i a) (bix k j b)
theorem tB_congr {k : Nat} {A B : Nat → Nat → R} {i j i' j' : Nat} (h0 : ∀ a b, a < k → b < k → A a b = B a b) (hi : ∀ t, t < k → A i t = B i' t) (hj : ∀ s, s < k → A s j = B s j') (hij : A i j = B i' j') : tB k A i j = tB k B i' j' := by
  unfold tB
  rw [dn_congr k h0, hij, MT.of_congr h0]
  congr 1
  refine sm_congr fun s hs => ?_
  rw [hj s hs, sm_congr fun t ht => by rw [hi t ht]]
theorem bm_tB (h : Dom R) (h1 : (1 : R) ≠ 0) {k : Nat} {A : Nat → Nat → R} (hd : dn k A ≠ 0) (i j : Nat) : bm k A i j = tB k A i j := by
  have e0 : dn k (fun a b => A (bix k i a) (bix k j b)) = dn k A := dn_congr k fun a b ha hb => by unfold bix; rw [if_pos ha, if_pos hb]
  have e := dn_tB h h1 (k := k) (A := fun a b => A (bix k i a) (bix k j b)) (by rw [e0]; exact hd) 1
  rw [e0] at e
  have e2 : tB k (fun a b => A (bix k i a) (bix k j b)) k k = tB k A i j := tB_congr (fun a b ha hb => by unfold bix; rw [if_pos ha, if_pos hb]) (fun t ht => by unfold bix; rw [if_neg (by omega), if_pos ht]) (fun s hs => by unfold bix; rw [if_pos hs, if_neg (by omega)]) (by unfold bix; rw [if_neg (by omega), if_neg (by omega)])
  have e3 : (dn 1 fun a b => tB k (fun a b => A (bix k i a) (bix k j b)) (k + a) (k + b)) = tB k A i j := by
    show sm 1 _ = _
    show 0 + sg 0 (tB k _ (k + 0) (k + 0) * dn 0 _) = _
    rw [zero_add, sg_zero, Nat.add_zero, e2]; exact mul_one _
  rw [e3] at e
  have e4 : pwr (dn k A) 1 = dn k A := one_mul _
  rw [e4] at e
  exact Dom.cancel h hd e
/-- Sylvester's identity, for one pivot more. -/
theorem sylvester (h : Dom R) (h1 : (1 : R) ≠ 0) {k : Nat} {A : Nat → Nat → R} (hd : dn k A ≠ 0) (i j : Nat) : dn k A * bm (k + 1) A i j = bm k A i j * bm k A k k - bm k A i k * bm k A k j := by
  have hx : ∀ a : Nat, a < k → ∀ q, bix (k + 1) q a = a := fun a ha q => if_pos (by omega)
  have hk : ∀ q, bix (k + 1) q k = k := fun q => if_pos (by omega)
  have hk1 : ∀ q, bix (k + 1) q (k + 1) = q := fun q => if_neg (by omega)
  have e0 : dn k (fun a b => A (bix (k + 1) i a) (bix (k + 1) j b)) = dn k A := dn_congr k fun a b ha hb => by rw [hx a ha, hx b hb]
  have e := dn_tB h h1 (k := k) (A := fun a b => A (bix (k + 1) i a) (bix (k + 1) j b)) (by rw [e0]; exact hd) 2
  rw [e0] at e
  have t : ∀ x y x' y', bix (k + 1) i x = x' → bix (k + 1) j y = y' → tB k (fun a b => A (bix (k + 1) i a) (bix (k + 1) j b)) x y = bm k A x' y' := fun x y x' y' hx' hy' => by
    rw [bm_tB h h1 hd]
    exact tB_congr (fun a b ha hb => by rw [hx a ha, hx b hb]) (fun q hq => by rw [hx q hq, hx']) (fun q hq => by rw [hx q hq, hy']) (by rw [hx', hy'])
  have e3 : (dn 2 fun a b => tB k (fun a b => A (bix (k + 1) i a) (bix (k + 1) j b)) (k + a) (k + b)) = bm k A i j * bm k A k k - bm k A i k * bm k A k j := by
    have q00 := t k k k k (hk i) (hk j)
    have q01 := t k (k + 1) k j (hk i) (hk1 j)
    have q10 := t (k + 1) k i k (hk1 i) (hk j)
    have q11 := t (k + 1) (k + 1) i j (hk1 i) (hk1 j)
    have u : ∀ M : Nat → Nat → R, dn 2 M = M 1 1 * M 0 0 - M 1 0 * M 0 1 := fun M => by
      show 0 + sg 0 (M 0 0 * (0 + sg 0 (mnr M 0 0 0 * 1))) + sg 1 (M 0 1 * (0 + sg 0 (mnr M 1 0 0 * 1))) = _
      have a1 : mnr M 0 0 0 = M 1 1 := rfl
      have a2 : mnr M 1 0 0 = M 1 0 := rfl
      rw [a1, a2, sg_zero, sg_zero, sg_zero, sg_succ, sg_zero]
      exact by_ring [M 0 0, M 1 1, M 0 1, M 1 0] (0 + X0 * (0 + X1 * 1) + -(X2 * (0 + X3 * 1))) (X1 * X0 - X3 * X2) rfl
    rw [u]
    show tB k _ (k + 1) (k + 1) * tB k _ k k - tB k _ (k + 1) k * tB k _ k (k + 1) = _
    rw [q00, q01, q10, q11]
  rw [e3] at e
  have e4 : pwr (dn k A) 2 = dn k A * dn k A := by show 1 * dn k A * dn k A = _; rw [one_mul]
  rw [e4, mul_assoc] at e
  exact Dom.cancel h hd e
/-- No pivot: no determinant. -/
theorem dn_nopivot (h : Dom R) (h1 : (1 : R) ≠ 0) {k m : Nat} {A : Nat → Nat → R} (hd : dn k A ≠ 0) (hz : ∀ i, k ≤ i → i < k + (m + 1) → bm k A i k = 0) : dn (k + (m + 1)) A = 0 := by
  have e := dn_tB h h1 hd (m + 1)
  rw [dn_col_zero (n := m) fun a ha => by rw [Nat.add_zero, ← bm_tB h h1 hd]; exact hz _ (by omega) (by omega), mul_zero] at e
  exact (h _ _ e).resolve_left (Dom.pwr h h1 hd _)
theorem bm_next (k : Nat) (A : Nat → Nat → R) : bm k A k k = dn (k + 1) A := dn_congr _ fun a b ha hb => by
  unfold bix
  have e : ∀ a, a < k + 1 → (if a < k then a else k) = a := fun a ha => by split <;> omega
  rw [e a ha, e b hb]
theorem bm_zero (A : Nat → Nat → R) (i j : Nat) : bm 0 A i j = A i j := by
  show 0 + sg 0 (A (bix 0 i 0) (bix 0 j 0) * 1) = _
  rw [zero_add, sg_zero, mul_one]; rfl
/-- Rows change places: minors whose own rows lie ahead. -/
theorem bm_swap (k : Nat) (A B : Nat → Nat → R) (σ : Nat → Nat) (h0 : ∀ a, a < k → B a = A a) (hs : ∀ a, k ≤ a → B a = A (σ a)) {i j : Nat} (hi : k ≤ i) : bm k B i j = bm k A (σ i) j := by
  unfold bm
  refine dn_congr _ fun a b _ _ => ?_
  unfold bix
  by_cases ha : a < k
  · rw [if_pos ha, if_pos ha, h0 a ha]
  · rw [if_neg ha, if_neg ha, hs i hi]
/-- Two rows change places. -/
def swB (A : Nat → Nat → R) (i j : Nat) : Nat → Nat → R := fun a => if a = i then A j else if a = j then A i else A a
theorem dn_swap {n : Nat} (A : Nat → Nat → R) {i j : Nat} (h : i ≠ j) (hi : i < n) (hj : j < n) : dn n (swB A i j) = -dn n A := by
  have e : swB A i j = upd (upd A i fun c => 0 * A i c + 1 * A j c) j fun c => 1 * A i c + 0 * A j c := by
    funext a
    unfold swB upd
    by_cases h1 : a = j
    · rw [if_pos h1, if_neg (by omega), if_pos h1]
      funext c; rw [one_mul, zero_mul, add_zero]
    · rw [if_neg h1, if_neg h1]
      by_cases h2 : a = i
      · rw [if_pos h2, if_pos h2]
        funext c; rw [one_mul, zero_mul, zero_add]
      · rw [if_neg h2, if_neg h2]
  rw [e, dn_mix n A h hi hj]
  exact by_ring [dn n A] ((0 * 0 - 1 * 1) * X0) (-X0) rfl
end
end Go.Proofs.Ythghdjpjbngllaa
/- Package xmat: what a matrix of polynomials reads as; which are formed; quotients. -/
namespace Go.Proofs.Ythghdjpjbngllaa
open Go.RowKit

/-- A value reads as a matrix of polynomials (formed or not). -/
def Xm (w : World) (v : Value) (R C : Int) (qs : List (List Nat)) : Prop := ∃ u, v = .agg #[.int .i64 R, .int .i64 C, u] ∧ Ns w u qs
theorem Xm.next {w w' : World} {v : Value} {R C : Int} {qs : List (List Nat)} (h : Xm w v R C qs) (hb : Below w.heap.size w w') : Xm w' v R C qs := by
  obtain ⟨u, e, hz⟩ := h; exact ⟨u, e, hz.next hb⟩
theorem Xm.agg {w : World} {v : Value} {R C : Int} {qs : List (List Nat)} (h : Xm w v R C qs) : ∃ ao c, v = .agg #[.int .i64 R, .int .i64 C, .slice ao qs.length c] := by
  obtain ⟨u, e, hz⟩ := h
  obtain ⟨ao, c, rfl⟩ := hz.slc
  exact ⟨ao, c, e⟩

theorem xm_side_yes (n : Int) (w : World) (h : Sd n) : Calls Try.prog 98 #[.int .i64 n] w fun e w' => e = .returned (.bool true) ∧ w = w' := by
  have h1 := h.1; have h2 := h.2
  have d1 : decide (n ≥ 0) = true := decide_eq_true h1
  go_enter Try.func98, Try.ntmps98
  go_wp2
  go_ret
  simp
theorem xm_side_no (n : Int) (w : World) (h : ¬ Sd n) : Calls Try.prog 98 #[.int .i64 n] w fun e w' => e = .returned (.bool false) ∧ w = w' := by
  by_cases h1 : 0 ≤ n
  · have h2 : ¬ n ≤ 64 := fun h2 => h ⟨h1, h2⟩
    go_enter Try.func98, Try.ntmps98
    go_wp2
    go_ret
    simp
  · go_enter Try.func98, Try.ntmps98
    go_wp2
    go_ret
    simp

theorem xm_Formed (v : Value) (R C : Int) (qs : List (List Nat)) (w : World) (hm : Xm w v R C qs) :
    Calls Try.prog 73 #[v] w (RetW w (.bool (decide (Fd R C qs.length)))) := by
  obtain ⟨ao, cp, rfl⟩ := hm.agg
  obtain ⟨wb, ew, KA, B0, hsz⟩ := boxes1 w 24 [.int .i64 R, .int .i64 C, .slice ao qs.length cp]
  clear hsz hm
  by_cases hR : Sd R
  · by_cases hC : Sd C
    · have hw : IntKind.i64.wrap (R * C) = R * C := Sd.mul hR hC
      by_cases hn : (qs.length : Int) = R * C
      · rw [decide_eq_true (show Fd R C qs.length from ⟨hR, hC, hn⟩)]
        have hn2 : ((qs.length : Int) == R * C) = true := by simp [hn]
        clear hn
        go_enter Try.func73, Try.ntmps73
        go_wp2_with fail
        refine (xm_side_yes R _ hR).mono ?_; rintro e w2 ⟨rfl, rfl⟩
        go_wp2_with fail
        refine (xm_side_yes C _ hC).mono ?_; rintro e w2 ⟨rfl, rfl⟩
        go_wp2
        rw [← ew]
        go_ret
        exact ⟨by simp, B0⟩
      · rw [decide_eq_false (show ¬ Fd R C qs.length from fun h => hn h.2.2)]
        have hn2 : ((qs.length : Int) == R * C) = false := by simp [hn]
        clear hn
        go_enter Try.func73, Try.ntmps73
        go_wp2_with fail
        refine (xm_side_yes R _ hR).mono ?_; rintro e w2 ⟨rfl, rfl⟩
        go_wp2_with fail
        refine (xm_side_yes C _ hC).mono ?_; rintro e w2 ⟨rfl, rfl⟩
        go_wp2
        rw [← ew]
        go_ret
        exact ⟨by simp, B0⟩
    · rw [decide_eq_false (show ¬ Fd R C qs.length from fun h => hC h.2.1)]
      go_enter Try.func73, Try.ntmps73
      go_wp2_with fail
      refine (xm_side_yes R _ hR).mono ?_; rintro e w2 ⟨rfl, rfl⟩
      go_wp2_with fail
      refine (xm_side_no C _ hC).mono ?_; rintro e w2 ⟨rfl, rfl⟩
      go_wp2
      rw [← ew]
      go_ret
      exact ⟨rfl, B0⟩
  · rw [decide_eq_false (show ¬ Fd R C qs.length from fun h => hR h.1)]
    go_enter Try.func73, Try.ntmps73
    go_wp2_with fail
    refine (xm_side_no R _ hR).mono ?_; rintro e w2 ⟨rfl, rfl⟩
    go_wp2
    rw [← ew]
    go_ret
    exact ⟨rfl, B0⟩
theorem xm_Formed_yes (v : Value) (R C : Int) (qs : List (List Nat)) (w : World) (hm : Xm w v R C qs) (h : Fd R C qs.length) : Calls Try.prog 73 #[v] w (RetW w (.bool true)) := by
  have := xm_Formed v R C qs w hm
  rwa [decide_eq_true h] at this
theorem xm_Formed_no (v : Value) (R C : Int) (qs : List (List Nat)) (w : World) (hm : Xm w v R C qs) (h : ¬ Fd R C qs.length) : Calls Try.prog 73 #[v] w (RetW w (.bool false)) := by
  have := xm_Formed v R C qs w hm
  rwa [decide_eq_false h] at this

/-- What is read as words stays so where a cell that holds no word is stored to. -/
theorem Sl.store {k : IntKind} {w : World} {v : Value} {xs : List Nat} (h : Sl k w v xs) {a : Addr} {u : Value} (ha : w.cell? a = some u) (hu : ∀ z, u ≠ .int k z) (y : Value) : Sl k (w.setCell a y) v xs := by
  obtain ⟨ao, b, off, cap, e, hc, hcs⟩ := h
  refine ⟨ao, b, off, cap, e, hc, hcs.ao, fun j hj => ?_⟩
  have h1 := hcs.cell j hj
  rw [World.cell?_setCell_other w a ⟨b, off + j, none⟩ y (fun e => by
    rw [e, h1] at ha
    exact hu _ (Option.some.inj ha).symm)]
  exact h1
theorem Pe.store {p B : Nat} {w : World} {v : Value} {f : Pol (Zp p)} (h : Pe p B w v f) {a : Addr} {u : Value} (ha : w.cell? a = some u) (hu : ∀ z, u ≠ .int .u64 z) (y : Value) : Pe p B (w.setCell a y) v f := by
  obtain ⟨zs, h1, h2⟩ := h
  exact ⟨zs, h1.store ha hu y, h2⟩
theorem Pe.mono {p B B' : Nat} {w : World} {v : Value} {f : Pol (Zp p)} (h : Pe p B w v f) (hb : B ≤ B') : Pe p B' w v f := by
  obtain ⟨zs, h1, h2, h3⟩ := h
  exact ⟨zs, h1, Nat.le_trans h2 hb, h3⟩

set_option maxHeartbeats 400000 in
/-- A quotient that is there. -/
theorem xm_exact (p : Nat) (v u : Value) (xs ys : List Nat) (q : Pol (Zp p)) (w : World) (hp : FP p) (ht : Trial p) (s0 : Sl .u64 w v xs) (s1 : Sl .u64 w u ys) (hm : xs.length ≤ 1000000) (hn : ys.length ≤ 1000000) (h0 : pl p ys ≠ 0) (hq : pl p xs = q * pl p ys) :
    Calls Try.prog 78 #[.agg #[.int .u64 p], v, u] w (RetP p w xs.length q) := by
  have HQ := Lib.hid hq; have H0 := Lib.hid h0
  have HN := Lib.hid (show nl p ys ≠ [] from fun h => h0 ((nl_nil hp.pos).1 h))
  obtain ⟨wb, ew, KF, B0, hsz⟩ := boxes1 w 29 [.int .u64 p]
  clear hsz hq h0
  have HP := Lib.hid hp; have HT := Lib.hid ht
  clear hp ht
  replace s0 := s0.next B0; replace s1 := s1.next B0
  go_enter Try.func78, Try.ntmps78
  go_upto_region 1 with (fail)
  rw [← ew]
  clear ew
  have f0 := KF.cell 0
  go_wp2_with fail
  refine (fp_DivMod p v u xs ys wb HP.out HT.out s0 s1 hm hn HN.out).mono ?_; rintro e w1 ⟨rq, rr, zq, zr, rfl, oq, or, mq, mr, vd, ldv, lq, lr, b1⟩
  have hy : Ln (pl p ys) (nl p ys).length := by rw [← nl_pl p ys]; exact nrm_ln HP.out.pos (nl_nrm HP.out.pos ys)
  have hv : pl p zq = q := by
    obtain ⟨n, hn⟩ : ∃ n, (nl p ys).length = n + 1 := ⟨(nl p ys).length - 1, by have := List.length_pos_iff.2 HN.out; omega⟩
    rw [hn] at hy ldv
    have h2 : pl p zq * pl p ys + pl p zr = q * pl p ys + 0 := by rw [← vd, HQ.out, CR.add_zero]
    exact (div_unique HT.out hy (fun i hi => pl_dlt p zr i (by omega)) (dlt_zero n) h2).1
  have FIN := Lib.hid (show RetP p w xs.length q (.returned rq) w1 from ⟨rq, zq, rfl, oq.mono B0.size, mq, hv, lq, B0.trans (b1.mono B0.size)⟩)
  clear f0 oq or mq mr vd ldv lq lr hv hy s0 s1 KF b1 B0
  go_wp2
  go_ret
  exact FIN.out

end Go.Proofs.Ythghdjpjbngllaa
/- slices.Clone and slices.IndexFunc over polynomials; the closure of xmat.Det. -/
namespace Go.Proofs.Ythghdjpjbngllaa
open Go.RowKit

/-- A copy is returned. -/
def RetCl (w : World) (m : Nat) (U : Nat → Value) (e : Ending) (w' : World) : Prop := ∃ r, e = .returned r ∧ w'.ownsRow w.heap.size 33 1 r m (rowL m U) ∧ Below w.heap.size w w'
set_option maxHeartbeats 400000 in
theorem clone_polys (v : Value) (m : Nat) (U : Nat → Value) (w : World) (hv : VsF w v m U) (hm : m ≤ 1000000) (h1 : ∀ k, k < m → (U k).oneCell' = true) :
    Calls Try.prog 74 #[v] w (RetCl w m U) := by
  obtain ⟨ao, b, o, cap, rfl, hcap, hao, hat⟩ := hv
  have heq := fun w => Lib.run_eql_slice_nil (P := Try.prog) w 22 33 ao m cap 0 0 Try.underlying22
  cases ao with
  | none =>
    obtain rfl : m = 0 := by
      refine Nat.eq_zero_of_not_pos fun h => ?_
      have := (hao h).1; cases this
    go_enter Try.func74, Try.ntmps74
    go_wp2
    go_ret
    exact ⟨_, rfl, World.ownsRow_nil _ _ _ _, Below.refl _ _⟩
  | some ad =>
    obtain ⟨wb, ew, KE, B0, hsz⟩ := boxes1 w 33 []
    clear hsz
    have ho0 : wb.ownsRow w.heap.size 33 1 (.slice (some ⟨w.heap.size, 0, none⟩) 0 0) 0 [] := ⟨rfl, .inr ⟨w.heap.size, 0, #[], rfl, Nat.le_refl _, KE, Nat.le_refl _, by decide, rfl, rfl⟩⟩
    have hnews : ∀ j u, (rowL m U)[j]? = some u → wb.cell? (ad.add j) = some u := by
      intro j u hj
      obtain ⟨h2, rfl⟩ := rowL_get' hj
      obtain ⟨h3, h4⟩ := hao (by omega)
      injection h3 with h3
      subst h3
      have e : (⟨b, o, none⟩ : Addr).add j = ⟨b, o + j, none⟩ := by
        unfold Addr.add; split
        · rename_i h; subst h; rfl
        · rfl
      rw [e]
      exact (B0.cell (p := ⟨b, o + j, none⟩) h4).trans (hat j h2)
    have hone : ∀ u ∈ rowL m U, u.oneCell' = true := by
      intro u hu
      obtain ⟨j, hj⟩ := List.getElem?_of_mem hu
      obtain ⟨h2, rfl⟩ := rowL_get' hj
      exact h1 j h2
    clear hao hat h1
    go_enter Try.func74, Try.ntmps74
    go_wp2_with (at_builtin; rw [← ew]; refine apWl 22 33 24 (.slice none 0 0) Try.underlying22 (by kernel_rfl) (by decide) rfl rfl _ _ rfl wb w.heap.size _ 0 [] ho0 B0.size ad m cap (rowL m U) rfl rfl (rowL_length m U) hnews hone (by omega) ?_; intro v' w1 hown hbel hgr; clear hgr)
    go_ret
    exact ⟨_, rfl, by rw [Nat.zero_add, List.nil_append] at hown; exact hown, B0.trans hbel⟩

set_option maxRecDepth 20000 in
set_option maxHeartbeats 400000 in
theorem ixf_polys (fn : Nat) (hE : Enters Try.prog fn) (caps : List Value) (g off m cap : Nat) (us : List Value) (w : World) (hlen : us.length = m) (hm : m ≤ 1000000000) (hcell : ∀ (j : Nat) (u : Value), us[j]? = some u → w.cell? ⟨g, off + j, none⟩ = some u)
    (β : Nat → Bool) (hf : ∀ (j : Nat) (u : Value) (w' : World), us[j]? = some u → Below w.heap.size w w' → Calls Try.prog fn (u :: caps).toArray w' (RetW w' (.bool (β j)))) (R : Int) (hR : IxR β m R) :
    Calls Try.prog 75 #[.slice (some ⟨g, off, none⟩) m cap, .func (.func fn) #[] caps.toArray] w (RetW w (.int .i64 R)) := by
  have HR := Lib.hid hR; have HF := Lib.hid hf; have HC := Lib.hid hcell; have HL := Lib.hid hlen
  clear hR hf hcell hlen
  go_enter Try.func75, Try.ntmps75
  go_wp2
  go_loopw [8] (fun kv wr => ∃ k : Nat, k ≤ m ∧ kv = .int .i64 k ∧ Hid (∀ l, l < k → β l = false) ∧ Below w.heap.size w wr) (fun kv _ => m - (intOf kv).toNat)
  case atStart => exact ⟨0, by omega, rfl, Lib.hid (fun l h => by omega), Below.refl _ _⟩
  case round =>
    obtain ⟨k, hk, rfl, HB, hB⟩ := hrel
    by_cases hkm : k < m
    · obtain ⟨u, hu⟩ : ∃ u, us[k]? = some u := ⟨_, List.getElem?_eq_getElem (by rw [HL.out]; exact hkm)⟩
      have q0 := HC.out k u hu
      have q1 := (hB.cell (p := ⟨g, off + k, none⟩) (World.block_lt_of_cell? w _ q0)).trans q0
      have hc := HF.out k u wr hu hB
      have HU := Lib.hid hu; clear hu q0
      by_cases hβ : β k = true
      · have e : R = (k : Int) := by
          rcases HR.out with ⟨j, rfl, hj, h1, h2⟩ | ⟨_, h2⟩
          · congr 1
            rcases Nat.lt_trichotomy j k with h | h | h
            · rw [HB.out j h] at h1; cases h1
            · exact h
            · rw [h2 k h] at hβ; cases hβ
          · rw [h2 k hkm] at hβ; cases hβ
        subst e
        rw [hβ] at hc
        have hc := Lib.hid hc
        clear hβ
        go_wp2_with fail
        rw [hE]
        refine hc.out.mono ?_; rintro e w' ⟨rfl, b1⟩
        have B1 := hB.trans (b1.mono hB.size)
        clear b1 q1
        go_wp2
        go_ret
        exact ⟨rfl, B1⟩
      · have hβ : β k = false := by simpa using hβ
        rw [hβ] at hc
        have hc := Lib.hid hc
        have HN := Lib.hid (show ∀ l, l < k + 1 → β l = false from fun l hl => by
          by_cases e : l = k
          · rw [e]; exact hβ
          · exact HB.out l (by omega))
        clear hβ
        go_wp2_with fail
        rw [hE]
        refine hc.out.mono ?_; rintro e w' ⟨rfl, b1⟩
        have B1 := hB.trans (b1.mono hB.size)
        clear b1 q1 hB
        go_wp2
        go_roundw
        case rel => exact ⟨k + 1, by omega, by go_num, HN, B1⟩
        case measure => simp [intOf] <;> omega
    · have e : R = -1 := by
        rcases HR.out with ⟨j, rfl, hj, h1, h2⟩ | ⟨h, _⟩
        · rw [HB.out j (by omega)] at h1; cases h1
        · exact h
      subst e
      go_wp2
      go_ret
      exact ⟨rfl, hB⟩

theorem det_one (p : Nat) (gF gT b off N cap top : Nat) (u : Value) (zs : List Nat) (β : Bool) (w : World) (hp : FP p) (KF : Blk 29 w gF [.int .u64 p]) (KT : Blk 3 w gT [.int .i64 top]) (hN : top < N) (hc : w.cell? ⟨b, off + top, none⟩ = some u) (hs : Sl .u64 w u zs) (hl : zs.length ≤ 1000000) (hβ : β = decide (nl p zs ≠ [])) :
    Calls Try.prog 76 #[.slice (some ⟨b, off, none⟩) N cap, .pointer (some ⟨gF, 0, none⟩), .pointer (some ⟨gT, 0, none⟩)] w (RetW w (.bool β)) := by
  obtain ⟨n, en⟩ : ∃ n, n = (nl p zs).length := ⟨_, rfl⟩
  have hd : decide (1 ≤ (n : Int)) = β := by
    rw [hβ, en]
    by_cases h0 : nl p zs = []
    · rw [h0]; rfl
    · have h3 := List.length_pos_iff.2 h0
      rw [decide_eq_true h0, decide_eq_true_eq]; omega
  have HD := Lib.hid hd; have HP := Lib.hid hp; have HEN := Lib.hid en
  have bl := World.block_lt_of_cell? w _ hc
  clear hd hβ hp en
  go_enter Try.func76, Try.ntmps76
  go_upto_region 1 with (fail)
  have bd := Drawn.below (w' := w.drew) ⟨1, rfl⟩ w.heap.size
  have hcd := (bd.cell (p := ⟨b, off + top, none⟩) bl).trans hc
  replace KF := KF.next bd; replace KT := KT.next bd; replace hs := hs.next bd
  have bl2 : b < w.drew.heap.size := bl
  have HB := Lib.hid bd
  clear bd hc bl
  refine startL (S := (fun w' => Below (w.drew).heap.size (w.drew) w')) (by kernel_rfl) (Below.refl _ _) (fun hHeld => ?_)
  refine takeL 0 (v := ?_) rfl (by kernel_rfl) (by kernel_rfl) (by kernel_rfl) (fun _ _ _ h => h) ⟨by rfl, ?_⟩ (by assumption) ?_
  rotate_left
  · intro w hS; have f1 := KF.at hS 0; have f2 := KT.at hS 0; have f3 := (hS.cell (p := ⟨b, off + top, none⟩) bl2).trans hcd; go_simp <;> with_reducible rfl
  simp only [Act.put, List.setIfInBounds_toArray, List.set_cons_zero, List.set_cons_succ]
  refine takeL 1 (v := ?_) rfl (by kernel_rfl) (by kernel_rfl) (by kernel_rfl) (fun _ _ _ h => h) ⟨by rfl, ?_⟩ (by assumption) ?_
  rotate_left
  · intro w hS; go_simp <;> with_reducible rfl
  simp only [Act.put, List.setIfInBounds_toArray, List.set_cons_zero, List.set_cons_succ]
  refine takeL 2 (v := ?_) rfl (by kernel_rfl) (by kernel_rfl) (by kernel_rfl) (fun _ _ _ h => h) ⟨by rfl, ?_⟩ (by assumption) ?_
  rotate_left
  · intro w hS; have f1 := KF.at hS 0; have f2 := KT.at hS 0; have f3 := (hS.cell (p := ⟨b, off + top, none⟩) bl2).trans hcd; go_simp <;> with_reducible rfl
  simp only [Act.put, List.setIfInBounds_toArray, List.set_cons_zero, List.set_cons_succ]
  refine takeL 3 (v := ?_) rfl (by kernel_rfl) (by kernel_rfl) (by kernel_rfl) (fun _ _ _ h => h) ⟨by rfl, ?_⟩ (by assumption) ?_
  rotate_left
  · intro w hS; go_simp <;> with_reducible rfl
  simp only [Act.put, List.setIfInBounds_toArray, List.set_cons_zero, List.set_cons_succ]
  refine takeL 4 (v := ?_) rfl (by kernel_rfl) (by kernel_rfl) (by kernel_rfl) (fun _ _ _ h => h) ⟨by rfl, ?_⟩ (by assumption) ?_
  rotate_left
  · intro w hS; have f1 := KF.at hS 0; have f2 := KT.at hS 0; have f3 := (hS.cell (p := ⟨b, off + top, none⟩) bl2).trans hcd; go_simp <;> with_reducible rfl
  simp only [Act.put, List.setIfInBounds_toArray, List.set_cons_zero, List.set_cons_succ]
  refine oneL 5 rfl (by kernel_rfl) (by rfl) (fun K hK => ?_)
  go_simp
  go_at_call 77
  (with_reducible refine (fp_Degree p u zs (nl p zs) _ HP.out (hs.next hHeld) (by omega) rfl).mono ?_); rintro e wz ⟨rfl, c1⟩; rw [← HEN.out]
  refine hK.out _ _ (hHeld.trans (c1.mono hHeld.size)) (fun hHeld => ?_)
  clear hK K
  try simp only [Act.put, List.setIfInBounds_toArray, List.set_cons_zero, List.set_cons_succ]
  refine takeL 6 (v := ?_) rfl (by kernel_rfl) (by kernel_rfl) (by kernel_rfl) (fun _ _ _ h => h) ⟨by rfl, ?_⟩ (by assumption) ?_
  rotate_left
  · intro w hS; go_simp <;> with_reducible rfl
  simp only [Act.put, List.setIfInBounds_toArray, List.set_cons_zero, List.set_cons_succ]
  refine takeL 7 (v := ?_) rfl (by kernel_rfl) (by kernel_rfl) (by kernel_rfl) (fun _ _ _ h => h) ⟨by rfl, ?_⟩ (by assumption) ?_
  rotate_left
  · intro w hS; go_simp <;> with_reducible rfl
  simp only [Act.put, List.setIfInBounds_toArray, List.set_cons_zero, List.set_cons_succ]
  refine doneL (by kernel_rfl) ?_ _
  have FIN := Lib.hid (show RetW w (.bool β) (.returned (.bool β)) wz from ⟨rfl, HB.out.trans (hHeld.mono HB.out.size)⟩)
  clear KF KT hs hcd hHeld
  have hd := HD.out
  rw [hd]
  go_wp2
  go_ret
  exact FIN.out

end Go.Proofs.Ythghdjpjbngllaa
/- Rows of polynomials that are stored into; where elimination without fractions stands. -/
namespace Go.Proofs.Ythghdjpjbngllaa
open Go.RowKit

theorem Rws.swapS {α : Type} {V : World → Value → α → Prop} {e er : TypeId} {w : World} {base n N : Nat} {rv : Value} {vs : List Value} {W : Nat → Nat → α} (h : Rws V e er w base rv vs n N W) (hne : er ≠ e) {g cap i j : Nat} (hr : rv = .slice (some ⟨g, 0, none⟩) n cap) {u v : Value} (hu : vs[i]? = some u) (hv : vs[j]? = some v)
    (hV2 : ∀ x z, V w x z → V ((w.setCell ⟨g, i, none⟩ v).setCell ⟨g, j, none⟩ u) x z) :
    Rws V e er ((w.setCell ⟨g, i, none⟩ v).setCell ⟨g, j, none⟩ u) base rv ((vs.set i v).set j u) n N (swpA W i j) := by
  obtain ⟨cur, hg⟩ := h.cellH hr
  have hg1 := heap_setCell_same w g i cur er v hg
  have ho := h.own
  rw [hr] at ho
  have o1 := (World.ownsRow.stored ho i v).1
  have o2 := (World.ownsRow.stored o1 j u).1
  have hil : i < vs.length := (List.getElem?_eq_some_iff.1 hu).1
  have hjl : j < vs.length := (List.getElem?_eq_some_iff.1 hv).1
  have hget : ∀ k x, ((vs.set i v).set j u)[k]? = some x → (k = j ∧ x = u) ∨ (k ≠ j ∧ k = i ∧ x = v) ∨ (k ≠ j ∧ k ≠ i ∧ vs[k]? = some x) := by
    intro k x hx
    rw [List.getElem?_set] at hx
    by_cases h1 : j = k
    · rw [if_pos h1, if_pos (by rw [List.length_set]; exact hjl)] at hx
      exact .inl ⟨h1.symm, by simpa using hx.symm⟩
    · rw [if_neg h1, List.getElem?_set] at hx
      by_cases h2 : i = k
      · rw [if_pos h2, if_pos hil] at hx
        exact .inr (.inl ⟨fun e => h1 e.symm, h2.symm, by simpa using hx.symm⟩)
      · rw [if_neg h2] at hx
        exact .inr (.inr ⟨fun e => h1 e.symm, fun e => h2 e.symm, hx⟩)
  have hrow : ∀ {x : Value} {r : Nat → α}, RowAt V e w base N x r → RowAt V e ((w.setCell ⟨g, i, none⟩ v).setCell ⟨g, j, none⟩ u) base N x r := by
    intro x r hx
    obtain ⟨aj, cj, bj, oj, curj, e2, k1, k2⟩ := hx
    refine ⟨aj, cj, bj, oj, curj, e2, k1, fun hN => ?_⟩
    obtain ⟨k3, k4, k5, k6⟩ := k2 hN
    have hb : bj ≠ g := by
      intro e; rw [e, hg] at k5; simp at k5; exact hne k5.2
    refine ⟨k3, k4, ((heap_setCell_other _ ⟨g, j, none⟩ bj u hb).trans (heap_setCell_other w ⟨g, i, none⟩ bj v hb)).trans k5, fun l hl => ?_⟩
    obtain ⟨y, hy, hvy⟩ := k6 l hl
    exact ⟨y, hy, hV2 _ _ hvy⟩
  refine ⟨by rw [List.length_set, List.length_set, h.len], by rw [hr]; exact o2, fun k x hx => ?_, fun a b x y hab hx hy => ?_⟩
  · rcases hget k x hx with ⟨rfl, rfl⟩ | ⟨h1, rfl, rfl⟩ | ⟨h1, h2, h3⟩
    · have : swpA W i k k = W i := by
        unfold swpA; split
        · rename_i e; rw [e]
        · rw [if_pos rfl]
      rw [this]; exact hrow (h.row i _ hu)
    · have : swpA W k j k = W j := by unfold swpA; rw [if_pos rfl]
      rw [this]; exact hrow (h.row j _ hv)
    · have : swpA W i j k = W k := by unfold swpA; rw [if_neg h2, if_neg h1]
      rw [this]; exact hrow (h.row k _ h3)
  · rcases hget a x hx with ⟨rfl, rfl⟩ | ⟨h1, rfl, rfl⟩ | ⟨h1, h2, h3⟩
    · rcases hget b y hy with ⟨rfl, rfl⟩ | ⟨k1, rfl, rfl⟩ | ⟨k1, k2, k3⟩
      · exact absurd rfl hab
      · exact h.sep b a _ _ (fun e => hab e.symm) hu hv
      · exact h.sep i b _ _ (fun e => k2 e.symm) hu k3
    · rcases hget b y hy with ⟨rfl, rfl⟩ | ⟨k1, rfl, rfl⟩ | ⟨k1, k2, k3⟩
      · exact h.sep b a _ _ (fun e => hab e.symm) hv hu
      · exact absurd rfl hab
      · exact h.sep j b _ _ (fun e => k1 e.symm) hv k3
    · rcases hget b y hy with ⟨rfl, rfl⟩ | ⟨k1, rfl, rfl⟩ | ⟨k1, k2, k3⟩
      · exact h.sep a i _ _ h2 h3 hu
      · exact h.sep a j _ _ h1 h3 hv
      · exact h.sep a b _ _ hab h3 k3

section
variable {p : Nat}
/-- A polynomial, and how long it is at most. -/
def Vx (p : Nat) (w : World) (u : Value) (x : Pol (Zp p) × Nat) : Prop := Pe p x.2 w u x.1
theorem Vx.next {w w' : World} (hb : Below w.heap.size w w') : ∀ (u : Value) (x : Pol (Zp p) × Nat), Vx p w u x → Vx p w' u x := fun _ _ h => Pe.next h hb
theorem Pe.slc {B : Nat} {w : World} {u : Value} {f : Pol (Zp p)} (h : Pe p B w u f) : ∃ a n c, u = .slice a n c := by
  obtain ⟨zs, ⟨ao, _, _, c, e, _⟩, _⟩ := h; exact ⟨ao, _, c, e⟩
theorem slc_int {u : Value} (h : ∃ a n c, u = .slice a n c) : ∀ z, u ≠ .int .u64 z := by
  obtain ⟨a, n, c, rfl⟩ := h
  intro z e; cases e
variable {w : World} {base n N : Nat} {rv : Value} {vs : List Value} {W : Nat → Nat → Pol (Zp p) × Nat}
/-- What stands at a place, and that words stay words where it is stored to. -/
theorem Rws.keepV (h : Rws (Vx p) 33 22 w base rv vs n N W) {i k b o cap : Nat} (hv : vs[i]? = some (.slice (some ⟨b, o, none⟩) N cap)) (hk : k < N) (y : Value) {B : Nat} {v : Value} {f : Pol (Zp p)} (hp : Pe p B w v f) : Pe p B (w.setCell ⟨b, o + k, none⟩ y) v f := by
  obtain ⟨⟨u, q1, q2⟩, -⟩ := h.at hv hk
  exact hp.store q1 (slc_int (Pe.slc q2)) y
theorem Rws.storeV (h : Rws (Vx p) 33 22 w base rv vs n N W) {i k b o cap : Nat} (hv : vs[i]? = some (.slice (some ⟨b, o, none⟩) N cap)) (hk : k < N) {y : Value} {f : Pol (Zp p)} {B : Nat} (hy : Pe p B w y f) :
    Rws (Vx p) 33 22 (w.setCell ⟨b, o + k, none⟩ y) base rv vs n N (updE W i k (f, B)) :=
  h.store (by decide) hv hk (fun _ _ hx => h.keepV hv hk y hx) (h.keepV hv hk y hy)
theorem swap_keep {g i j : Nat} {u v : Value} (hu : w.cell? ⟨g, i, none⟩ = some u) (hv : w.cell? ⟨g, j, none⟩ = some v) (su : ∃ a n c, u = .slice a n c) (sv : ∃ a n c, v = .slice a n c) {B : Nat} {x : Value} {f : Pol (Zp p)} (hp : Pe p B w x f) :
    Pe p B ((w.setCell ⟨g, i, none⟩ v).setCell ⟨g, j, none⟩ u) x f := by
  have h1 := hp.store hu (slc_int su) v
  have h2 : (w.setCell ⟨g, i, none⟩ v).cell? ⟨g, j, none⟩ = some v := by
    by_cases e : i = j
    · subst e; exact World.cell?_setCell_same _ _ _ hu
    · rw [World.cell?_setCell_other w ⟨g, i, none⟩ ⟨g, j, none⟩ v (fun h => e (by injection h))]; exact hv
  exact h1.store h2 (slc_int sv) u
theorem Rws.swapV (h : Rws (Vx p) 33 22 w base rv vs n N W) {g cap i j : Nat} (hr : rv = .slice (some ⟨g, 0, none⟩) n cap) {u v : Value} (hu : vs[i]? = some u) (hv : vs[j]? = some v) :
    Rws (Vx p) 33 22 ((w.setCell ⟨g, i, none⟩ v).setCell ⟨g, j, none⟩ u) base rv ((vs.set i v).set j u) n N (swpA W i j) := by
  have hi : i < n := by rw [← h.len]; exact (List.getElem?_eq_some_iff.1 hu).1
  have hj : j < n := by rw [← h.len]; exact (List.getElem?_eq_some_iff.1 hv).1
  have su : ∃ a n c, u = .slice a n c := by obtain ⟨a, c, e, _⟩ := (h.row i u hu).slice; exact ⟨a, N, c, e⟩
  have sv : ∃ a n c, v = .slice a n c := by obtain ⟨a, c, e, _⟩ := (h.row j v hv).slice; exact ⟨a, N, c, e⟩
  exact h.swapS (by decide) hr hu hv fun _ _ hx => swap_keep ((h.head hr hi).trans hu) ((h.head hr hj).trans hv) su sv hx

/-- Which places have gone on. -/
def onG (top r k i j : Nat) : Prop := top < i ∧ (i < top + 1 + r ∨ (i = top + 1 + r ∧ j < k))
/-- Where elimination stands: below the pivot's row r rows have gone on, and k places of the next one. -/
def StG (n D : Nat) (A : Nat → Nat → Pol (Zp p)) (top r k : Nat) (W : Nat → Nat → Pol (Zp p) × Nat) : Prop := ∀ i j, top ≤ i → i < n → j < n →
  (onG top r k i j → (W i j).1 = bm (top + 1) A i j ∧ (W i j).2 ≤ D * 2 ^ (top + 1)) ∧ (¬ onG top r k i j → (W i j).1 = bm top A i j ∧ (W i j).2 ≤ D * 2 ^ top)
theorem StG.at {n D top r k i j : Nat} {A : Nat → Nat → Pol (Zp p)} (h : StG n D A top r k W) (hi : top ≤ i) (hn : i < n) (hj : j < n) (ho : ¬ onG top r k i j) : (W i j).1 = bm top A i j ∧ (W i j).2 ≤ D * 2 ^ top := (h i j hi hn hj).2 ho
theorem StG.step {n D top r k : Nat} {A : Nat → Nat → Pol (Zp p)} (h : StG n D A top r k W) : StG n D A top r (k + 1) (updE W (top + 1 + r) k (bm (top + 1) A (top + 1 + r) k, D * 2 ^ (top + 1))) := by
  intro i j hi hn hj
  by_cases e : i = top + 1 + r ∧ j = k
  · obtain ⟨rfl, rfl⟩ := e
    have e2 : updE W (top + 1 + r) j (bm (top + 1) A (top + 1 + r) j, D * 2 ^ (top + 1)) (top + 1 + r) j = (bm (top + 1) A (top + 1 + r) j, D * 2 ^ (top + 1)) := by unfold updE; rw [if_pos ⟨rfl, rfl⟩]
    rw [e2]
    exact ⟨fun _ => ⟨rfl, Nat.le_refl _⟩, fun hno => absurd ⟨by omega, .inr ⟨rfl, by omega⟩⟩ hno⟩
  · have e2 : updE W (top + 1 + r) k (bm (top + 1) A (top + 1 + r) k, D * 2 ^ (top + 1)) i j = W i j := by unfold updE; rw [if_neg e]
    rw [e2]
    have h1 : onG top r (k + 1) i j ↔ onG top r k i j := by unfold onG; omega
    exact ⟨fun ho => (h i j hi hn hj).1 (h1.1 ho), fun ho => (h i j hi hn hj).2 fun h2 => ho (h1.2 h2)⟩
theorem StG.next {n D top r : Nat} {A : Nat → Nat → Pol (Zp p)} (h : StG n D A top r n W) : StG n D A top (r + 1) 0 W := by
  intro i j hi hn hj
  have h1 : onG top (r + 1) 0 i j ↔ onG top r n i j := by unfold onG; omega
  exact ⟨fun ho => (h i j hi hn hj).1 (h1.1 ho), fun ho => (h i j hi hn hj).2 fun h2 => ho (h1.2 h2)⟩
theorem StG.done {n D top r : Nat} {A : Nat → Nat → Pol (Zp p)} (h : StG n D A top r 0 W) (hr : n ≤ top + 1 + r) : StG n D A (top + 1) 0 0 W := by
  intro i j hi hn hj
  have h0 : ¬ onG (top + 1) 0 0 i j := by unfold onG; omega
  exact ⟨fun ho => absurd ho h0, fun _ => (h i j (by omega) hn hj).1 (by unfold onG; omega)⟩
theorem StG.swap {n D top i : Nat} {A : Nat → Nat → Pol (Zp p)} (h : StG n D A top 0 0 W) (ht : top ≤ i) (hin : i < n) : StG n D (swB A top i) top 0 0 (swpA W top i) := by
  intro a b ha hn hb
  have h0 : ∀ a, ¬ onG top 0 0 a b := fun a => by unfold onG; omega
  refine ⟨fun ho => absurd ho (h0 a), fun _ => ?_⟩
  have hσ : bm top (swB A top i) a b = bm top A (if a = top then i else if a = i then top else a) b := bm_swap top A _ (fun a => if a = top then i else if a = i then top else a) (fun c hc => by unfold swB; rw [if_neg (by omega), if_neg (by omega)]) (fun c hc => by
    unfold swB
    by_cases h1 : c = top
    · rw [if_pos h1, if_pos h1]
    · rw [if_neg h1, if_neg h1]
      by_cases h2 : c = i
      · rw [if_pos h2, if_pos h2]
      · rw [if_neg h2, if_neg h2]) ha
  rw [hσ]
  have e : swpA W top i a = W (if a = top then i else if a = i then top else a) := by
    unfold swpA
    by_cases h1 : a = top
    · rw [if_pos h1, if_pos h1]
    · rw [if_neg h1, if_neg h1]
      by_cases h2 : a = i
      · rw [if_pos h2, if_pos h2]
      · rw [if_neg h2, if_neg h2]
  rw [e]
  have hb1 : top ≤ (if a = top then i else if a = i then top else a) ∧ (if a = top then i else if a = i then top else a) < n := by
    by_cases h1 : a = top
    · rw [if_pos h1]; exact ⟨ht, hin⟩
    · rw [if_neg h1]
      by_cases h2 : a = i
      · rw [if_pos h2]; omega
      · rw [if_neg h2]; omega
  exact (h _ b hb1.1 hb1.2 hb).2 (h0 _)
theorem dn_swX {n top i : Nat} (A : Nat → Nat → Pol (Zp p)) (ht : top < n) (hi : i < n) : dn n (swB A top i) = if i = top then dn n A else -dn n A := by
  by_cases e : i = top
  · subst e
    rw [if_pos rfl]
    have : swB A i i = A := by
      funext a; unfold swB; split
      · rename_i h; rw [h]
      · rfl
    rw [this]
  · rw [if_neg e]; exact dn_swap A (fun h => e h.symm) ht hi
theorem dom_pol (ht : Trial p) : Dom (Pol (Zp p)) := fun _ _ h => no_zero ht h
theorem pol_one (ht : Trial p) : (1 : Pol (Zp p)) ≠ 0 := (pln_one ht).ne
/-- Nought or not. -/
noncomputable def nzB (f : Pol (Zp p)) : Bool := @ite Bool (f = 0) (Classical.propDecidable _) false true
theorem nzB_true {f : Pol (Zp p)} (h : nzB f = true) : f ≠ 0 := by
  intro e
  unfold nzB at h
  rw [if_pos e] at h; cases h
theorem nzB_false {f : Pol (Zp p)} (h : nzB f = false) : f = 0 := by
  refine Classical.byContradiction fun e => ?_
  unfold nzB at h
  rw [if_neg e] at h; cases h
theorem nzB_nl (hp : 0 < p) (zs : List Nat) : nzB (pl p zs) = decide (nl p zs ≠ []) := by
  by_cases h : nl p zs = []
  · rw [decide_eq_false (fun hn => hn h)]
    unfold nzB; rw [if_pos ((nl_nil hp).1 h)]
  · rw [decide_eq_true h]
    unfold nzB; rw [if_neg (fun hn => h ((nl_nil hp).2 hn))]
end

end Go.Proofs.Ythghdjpjbngllaa
/- As Peel2, with a condition beside it that holds in every world of the region. -/
namespace Go.Proofs.Ythghdjpjbngllaa
open Go

section
variable {P : Program} {ops : Array Oper} {Q : Exit → Act → World → Prop} {S T : World → Prop} {m : Nat}

/-- The condition at hand: S ahead of operation m. -/
def SSd (S T : World → Prop) (m : Nat) (l : Array Bool) (w : World) : Prop := (l.getD m false = false → S w) ∧ T w

/-- Whatever order is picked; S holds ahead of operation m. -/
def wpAnyE (P : Program) (ops : Array Oper) (Q : Exit → Act → World → Prop) (S T : World → Prop) (m : Nat) : Nat → Array Bool → Act → World → Prop
  | 0, listed, a, w => Region.ready .any ops listed = [] ∧ Q .normal a w
  | fuel + 1, listed, a, w =>
    (Region.ready .any ops listed = [] → Q .normal a w) ∧
    ∀ i ∈ Region.ready .any ops listed, wpOp P ops Q i (fun a' w' => SSd S T m (listed.setIfInBounds i true) w' ∧ wpAnyE P ops Q S T m fuel (listed.setIfInBounds i true) a' w') a w

theorem wpAny_of_E : ∀ (fuel : Nat) (listed : Array Bool) (a : Act) (w : World), wpAnyE P ops Q S T m fuel listed a w → wpAny P .any ops Q fuel listed a w
  | 0, _, _, _, h => h
  | fuel + 1, _, _, _, h => ⟨h.1, fun i hi => wpOp_mono (fun a' w' h' => wpAny_of_E fuel _ a' w' h'.2) (h.2 i hi)⟩

/-- Behind m there is no condition. -/
theorem E_of_H : ∀ (fuel : Nat) (listed : Array Bool) (a : Act) (w : World), listed.getD m false = true → wpAnyH P .any ops Q T fuel listed a w → wpAnyE P ops Q S T m fuel listed a w
  | 0, _, _, _, _, h => h
  | fuel + 1, listed, _, _, hm, h => ⟨h.1, fun i hi => wpOp_mono (fun a' w' h' => ⟨⟨fun e => (by have := getD_set_true (i := i) hm; rw [this] at e; cases e), h'.1⟩, E_of_H fuel _ a' w' (getD_set_true hm) h'.2⟩) (h.2 i hi)⟩

theorem SSd.set {i : Nat} (him : i ≠ m) {l : Array Bool} {w : World} : SSd S T m (l.setIfInBounds i true) w ↔ SSd S T m l w := by
  unfold SSd; rw [getD_set_ne false him]

theorem firstE {i : Nat} {oi : Oper} {v : Value} {U : World → Prop} (hi : ops[i]? = some oi) (hsel : ∀ (j : Nat) (o : Oper) cs b, ops[j]? = some o → o.op ≠ .select cs b)
    (hQ : ∀ c a w, Q (.panic c) (a.put oi.dst v) w → Q (.panic c) a w) (him : i ≠ m)
    (hU : (∀ w, T w → U w) ∨ ((∀ w, S w → U w) ∧ ∃ om, ops[m]? = some om ∧ ∃ e ∈ om.after, Region.binds .any e = true ∧ e.on = i)) :
    ∀ (fuel : Nat) (listed : Array Bool) (a : Act) (w : World),
      (∀ j oj, ops[j]? = some oj → j ≠ i → listed.getD j true = false → (∀ e ∈ oj.after, Region.binds .any e = true → e.on ≠ i) → oi.apart ops oj = true) →
      i ∈ Region.ready .any ops listed → ((∀ w, T w → U w) ∨ listed.getD m false = false) → YieldsIf P ops U oi v a → SSd S T m listed w →
      wpAnyE P ops Q S T m fuel (listed.setIfInBounds i true) (a.put oi.dst v) w → wpAnyE P ops Q S T m (fuel + 1) listed a w := by
  intro fuel
  induction fuel with
  | zero =>
    intro listed a w _ hr hl hy hS H
    have hUw : U w := hl.elim (fun h => h w hS.2) (fun h => hU.elim (fun k => k w hS.2) (fun k => k.1 w (hS.1 h)))
    refine ⟨fun h => (by rw [h] at hr; cases hr), fun j hj => ?_⟩
    by_cases hji : j = i
    · subst hji; exact hy.wpOp hi hUw ⟨(SSd.set him).2 hS, H⟩
    · have := ready_mono hj hji
      rw [H.1] at this
      cases this
  | succ fuel ih =>
    intro listed a w hfree hr hl hy hS H
    have hUw : U w := hl.elim (fun h => h w hS.2) (fun h => hU.elim (fun k => k w hS.2) (fun k => k.1 w (hS.1 h)))
    refine ⟨fun h => (by rw [h] at hr; cases hr), fun j hj => ?_⟩
    by_cases hji : j = i
    · subst hji; exact hy.wpOp hi hUw ⟨(SSd.set him).2 hS, H⟩
    · have h1 := H.2 j (ready_mono hj hji)
      obtain ⟨hjun, oj, hoj, hall⟩ := mem_ready.1 hj
      have hnot := not_ready hr hj hoj
      have h2 := wpOp_putIf hoj (hfree j oj hoj hji hjun hnot) (fun cs b => hsel i oi cs b hi) (fun cs b => hsel j oj cs b hoj) hQ hy h1
      have hfree' : ∀ k ok, ops[k]? = some ok → k ≠ i → (listed.setIfInBounds j true).getD k true = false →
          (∀ e ∈ ok.after, Region.binds .any e = true → e.on ≠ i) → oi.apart ops ok = true := fun k ok hk hki hun hno => by
        refine hfree k ok hk hki ?_ hno
        by_cases hjk : j = k
        · subst hjk; exact hjun
        · rw [getD_set_ne true hjk] at hun; exact hun
      have hl' : (∀ w, T w → U w) ∨ (listed.setIfInBounds j true).getD m false = false := by
        rcases hl with h | h
        · exact .inl h
        · rcases hU with hU | ⟨_, om, hom, e, he, hb, heq⟩
          · exact .inl hU
          · have hjm : j ≠ m := by
              intro hjm; subst hjm
              obtain rfl : oj = om := Option.some.inj (hoj.symm.trans hom)
              exact hnot e he hb heq
            exact .inr (by rw [getD_set_ne false hjm]; exact h)
      refine wpOp_mono (fun a' w' h3 => ?_) h2
      have h4 := h3.2.1
      have h5 := h3.2.2
      rw [← Array.setIfInBounds_comm _ _ hji] at h4 h5
      have hSw := (SSd.set him).1 h4
      exact ⟨hSw, ih (listed.setIfInBounds j true) a' w' hfree' (ready_mono hr (Ne.symm hji)) hl' h3.1 hSw h5⟩
end

section
variable {P : Program} {l : List Oper} {Q : Exit → Act → World → Prop} {S T : World → Prop} {m : Nat}

theorem startE {id : Nat} {a : Act} {w : World} (m : Nat) (hm : P.follows .mixedOrders = true) (hS : S w.drew) (hT : T w.drew)
    (h : S w.drew → T w.drew → wpAnyE P l.toArray Q S T m l.length (Array.replicate l.length false) a w.drew) : (Code.region id l.toArray true).wp P Q a w := by
  refine wp_region_any hm (wpAny_of_E (S := S) (T := T) (m := m) _ _ _ _ ?_)
  simpa using h hS hT

/-- An operation that yields in whatever world. -/
theorem takeEA {fuel : Nat} {listed : Array Bool} {a : Act} {w : World} (i : Nat) {oi : Oper} {v : Value} (hi : l[i]? = some oi)
    (hs : Region.noSelect l.toArray = true) (hf : Region.free .any l.toArray listed i = true) (hr : (Region.ready .any l.toArray listed).contains i = true)
    (hQ : ∀ c a w, Q (.panic c) (a.put oi.dst v) w → Q (.panic c) a w) (him : i ≠ m) (hy : Region.wanted oi (yielded l.toArray a.tmps) = true ∧ ∀ w, (execOp a.eval oi).run P w = .ok (.value v) w) (hS : S w) (hT : T w)
    (h : wpAnyE P l.toArray Q S T m fuel (listed.setIfInBounds i true) (a.put oi.dst v) w) : wpAnyE P l.toArray Q S T m (fuel + 1) listed a w :=
  firstE (U := fun _ => True) (by simpa using hi) (Region.noSelect_spec hs) hQ him (.inl fun _ _ => trivial) fuel listed a w (Region.free_spec (by simpa using hi) hf) (by simpa using hr) (.inl fun _ _ => trivial) (.inl ⟨hy.1, fun w _ => hy.2 w⟩) ⟨fun _ => hS, hT⟩ h

/-- An operation that yields in every world of T. -/
theorem takeET {fuel : Nat} {listed : Array Bool} {a : Act} {w : World} (i : Nat) {oi : Oper} {v : Value} (hi : l[i]? = some oi)
    (hs : Region.noSelect l.toArray = true) (hf : Region.free .any l.toArray listed i = true) (hr : (Region.ready .any l.toArray listed).contains i = true)
    (hQ : ∀ c a w, Q (.panic c) (a.put oi.dst v) w → Q (.panic c) a w) (him : i ≠ m) (hy : Region.wanted oi (yielded l.toArray a.tmps) = true ∧ ∀ w, T w → (execOp a.eval oi).run P w = .ok (.value v) w) (hS : S w) (hT : T w)
    (h : wpAnyE P l.toArray Q S T m fuel (listed.setIfInBounds i true) (a.put oi.dst v) w) : wpAnyE P l.toArray Q S T m (fuel + 1) listed a w :=
  firstE (U := T) (by simpa using hi) (Region.noSelect_spec hs) hQ him (.inl fun _ h => h) fuel listed a w (Region.free_spec (by simpa using hi) hf) (by simpa using hr) (.inl fun _ h => h) (.inl hy) ⟨fun _ => hS, hT⟩ h

/-- An operation that m waits for. -/
theorem takeE0 {fuel : Nat} {listed : Array Bool} {a : Act} {w : World} (i : Nat) {oi : Oper} {v : Value} (hi : l[i]? = some oi)
    (hs : Region.noSelect l.toArray = true) (hf : Region.free .any l.toArray listed i = true) (hr : (Region.ready .any l.toArray listed).contains i = true)
    (hQ : ∀ c a w, Q (.panic c) (a.put oi.dst v) w → Q (.panic c) a w) (him : i ≠ m) (hw : waitsB l m i = true) (hl : listed.getD m false = false)
    (hy : Region.wanted oi (yielded l.toArray a.tmps) = true ∧ ∀ w, S w → (execOp a.eval oi).run P w = .ok (.value v) w) (hS : S w) (hT : T w)
    (h : wpAnyE P l.toArray Q S T m fuel (listed.setIfInBounds i true) (a.put oi.dst v) w) : wpAnyE P l.toArray Q S T m (fuel + 1) listed a w :=
  firstE (U := S) (by simpa using hi) (Region.noSelect_spec hs) hQ him (.inr ⟨fun _ h => h, waits_spec hw⟩) fuel listed a w (Region.free_spec (by simpa using hi) hf) (by simpa using hr) (.inr hl) (.inl hy) ⟨fun _ => hS, hT⟩ h

/-- Operation m. -/
theorem oneN {fuel : Nat} {listed : Array Bool} {a : Act} {w : World} {o : Oper} (hi : l[m]? = some o) (hr : Region.ready .any l.toArray listed = [m]) (hl : m < listed.size)
    (hw : Region.wanted o (yielded l.toArray a.tmps) = true)
    (h : ∀ K' : Act → World → Prop, Shut (∀ a w, T w → (T w → wpAnyH P .any l.toArray Q T fuel (listed.setIfInBounds m true) a w) → K' a w) → Oper.wp P o a w K' Q) : wpAnyE P l.toArray Q S T m (fuel + 1) listed a w := by
  refine ⟨fun h0 => (by rw [hr] at h0; cases h0), fun j hj => ?_⟩
  rw [hr] at hj
  obtain rfl := List.mem_singleton.1 hj
  have hm : (listed.setIfInBounds j true).getD j false = true := by simp [hl]
  refine wpOp_step (by simpa using hi) (fun K' hK => ?_)
  rw [if_pos hw]
  exact h K' (fun a w hT hW => hK a w ⟨⟨fun e => (by rw [hm] at e; cases e), hT⟩, E_of_H _ _ _ _ hm (hW hT)⟩)
end

end Go.Proofs.Ythghdjpjbngllaa
/- xmat.Det: the determinant, by elimination without fractions. -/
namespace Go.Proofs.Ythghdjpjbngllaa
open Go.RowKit

theorem RowAt.of_row {α : Type} {V : World → Value → α → Prop} {e : TypeId} {w : World} {base N : Nat} {v : Value} {U : Nat → Value} {r : Nat → α} (h : w.ownsRow base e 1 v N (rowL N U)) (hV : ∀ k, k < N → V w (U k) (r k)) : RowAt V e w base N v r := by
  rcases h.2 with ⟨rfl, rfl⟩ | ⟨g, cap, cur, rfl, hb, hg, hn, _, _, ht⟩
  · exact ⟨none, 0, 0, 0, #[], rfl, Nat.le_refl _, fun h => by omega⟩
  · refine ⟨_, cap, g, 0, cur, rfl, hn, fun _ => ⟨rfl, hb, hg, fun k hk => ⟨U k, ?_, hV k hk⟩⟩⟩
    have h1 := rowL_get (U := U) hk
    rw [← ht, List.getElem?_take, if_pos (by omega)] at h1
    rw [Nat.zero_add, ← Array.getElem?_toList, h1]
/-- The elements as they came in. -/
def V1 (p : Nat) (wb : World) (_ : World) (u : Value) (x : Pol (Zp p) × Nat) : Prop := Pe p x.2 wb u x.1
/-- The matrix of what came in. -/
def aT (p n : Nat) (qs : List (List Nat)) (i j : Nat) : Pol (Zp p) := pl p (qs.getD (i * n + j) [])
/-- Where the first loop stands. -/
def DtA (p n D bs : Nat) (qs : List (List Nat)) (wb wr : World) (rv : Value) (i : Nat) : Prop := ∃ vs, Rws (V1 p wb) 33 22 wr bs rv vs i n (fun a b => (aT p n qs a b, D)) ∧ Below bs wb wr
/-- Where the second loop stands. -/
def DtS (p n D bs gr cr : Nat) (A0 : Nat → Nat → Pol (Zp p)) (wb wr : World) (top : Nat) (lv : Value) (odd : Bool) : Prop := ∃ (A : Nat → Nat → Pol (Zp p)) (W : Nat → Nat → Pol (Zp p) × Nat) (vs : List Value),
  Rws (Vx p) 33 22 wr bs (.slice (some ⟨gr, 0, none⟩) n cr) vs n n W ∧ StG n D A top 0 0 W ∧ dn n A0 = (if odd then -dn n A else dn n A) ∧ Pe p (D * 2 ^ top) wr lv (dn top A) ∧ dn top A ≠ 0 ∧ Below bs wb wr

theorem Rws.mapV {α : Type} {V V' : World → Value → α → Prop} {e er : TypeId} {w : World} {base n N : Nat} {rv : Value} {vs : List Value} {W : Nat → Nat → α} (h : Rws V e er w base rv vs n N W) (hV : ∀ u x, V w u x → V' w u x) : Rws V' e er w base rv vs n N W :=
  ⟨h.len, h.own, fun i v hv => by
    obtain ⟨ao, cap, b, o, cur, e1, h1, h2⟩ := h.row i v hv
    refine ⟨ao, cap, b, o, cur, e1, h1, fun hN => ?_⟩
    obtain ⟨h3, h4, h5, h6⟩ := h2 hN
    refine ⟨h3, h4, h5, fun k hk => ?_⟩
    obtain ⟨u, h7, h8⟩ := h6 k hk
    exact ⟨u, h7, hV u _ h8⟩, h.sep⟩
theorem bm_sw {R : Type} [CR R] {top i : Nat} (A : Nat → Nat → R) (ht : top ≤ i) (b : Nat) : bm top (swB A top i) top b = bm top A i b := by
  have h := bm_swap top A (swB A top i) (fun a => if a = top then i else if a = i then top else a) (fun c hc => by unfold swB; rw [if_neg (by omega), if_neg (by omega)]) (fun c hc => by
    unfold swB
    by_cases h1 : c = top
    · rw [if_pos h1, if_pos h1]
    · rw [if_neg h1, if_neg h1]
      by_cases h2 : c = i
      · rw [if_pos h2, if_pos h2]
      · rw [if_neg h2, if_neg h2]) (i := top) (j := b) (Nat.le_refl _)
  rw [h]; simp
theorem odd_stp {R : Type} [CR R] (odd : Bool) (j top : Nat) (d : R) : (if odd then -d else d) = (if (!(odd == decide (0 < j))) then -(if top + j = top then d else -d) else (if top + j = top then d else -d)) := by
  by_cases h : j = 0
  · subst h
    cases odd <;> simp
  · have h1 : 0 < j := by omega
    have h2 : ¬ top + j = top := by omega
    rw [decide_eq_true h1, if_neg h2]
    cases odd <;> simp [CR.neg_neg]
/-- Where the rows below the pivot's are brought on. -/
def DtM (p n D bs gr cr gT top r k i : Nat) (A : Nat → Nat → Pol (Zp p)) (wb wr : World) (vs : List Value) (lv xc : Value) : Prop := ∃ (W : Nat → Nat → Pol (Zp p) × Nat),
  Rws (Vx p) 33 22 wr bs (.slice (some ⟨gr, 0, none⟩) n cr) vs n n W ∧ StG n D A top r k W ∧ Below bs wb wr ∧ Blk 3 wr gT [.int .i64 top] ∧ Pe p (D * 2 ^ top) wr lv (dn top A) ∧ Pe p (D * 2 ^ top) wr xc (bm top A i top)

/-- Between two rows. -/
def DtQ (p n D bs gr cr gT top r : Nat) (A : Nat → Nat → Pol (Zp p)) (wb wr : World) (vs : List Value) (lv : Value) : Prop := ∃ (W : Nat → Nat → Pol (Zp p) × Nat),
  Rws (Vx p) 33 22 wr bs (.slice (some ⟨gr, 0, none⟩) n cr) vs n n W ∧ StG n D A top r 0 W ∧ Below bs wb wr ∧ Blk 3 wr gT [.int .i64 top] ∧ Pe p (D * 2 ^ top) wr lv (dn top A)
/-- The rows below are done. -/
theorem DtS.on {p n D bs gr cr top r b o c : Nat} {A0 A : Nat → Nat → Pol (Zp p)} {W : Nat → Nat → Pol (Zp p) × Nat} {vs : List Value} {odd : Bool} {wb wr : World} (RW : Rws (Vx p) 33 22 wr bs (.slice (some ⟨gr, 0, none⟩) n cr) vs n n W) (SG : StG n D A top r 0 W) (hr : n ≤ top + 1 + r) (htn : top < n)
    (hd : dn n A0 = (if odd then -dn n A else dn n A)) (hv : vs[top]? = some (.slice (some ⟨b, o, none⟩) n c)) (hpv : bm top A top top ≠ 0) (hB : Below bs wb wr) : ∃ u, wr.cell? ⟨b, o + top, none⟩ = some u ∧ DtS p n D bs gr cr A0 wb wr (top + 1) u odd := by
  obtain ⟨⟨u, q, hu⟩, -⟩ := RW.at hv htn
  have h1 := SG.at (Nat.le_refl top) htn htn (by unfold onG; omega)
  rw [bm_next] at h1 hpv
  refine ⟨u, q, A, W, vs, RW, SG.done hr, hd, ?_, hpv, hB⟩
  rw [← h1.1]
  exact Pe.mono hu (Nat.le_trans h1.2 (Nat.mul_le_mul_left D (Nat.pow_le_pow_right (by decide) (Nat.le_succ top))))

set_option maxRecDepth 20000 in
set_option maxHeartbeats 8000000 in
theorem xm_Det (p n D : Nat) (v : Value) (qs : List (List Nat)) (w : World) (hp : FP p) (ht : Trial p) (hA : Xm w v n n qs) (hn : n ≤ 8) (hx : qs.length = n * n) (hD : ∀ j, j < n * n → (qs.getD j []).length ≤ D) (hD1 : 1 ≤ D) (hD2 : D * 2 ^ n ≤ 100000) :
    Calls Try.prog 19 #[.agg #[.int .u64 p], v] w (RetPE p w (D * 2 ^ n) (dn n (aT p n qs))) := by
  have HFd := Lib.hid (Fd.of (show n ≤ 64 by omega) (show n ≤ 64 by omega) hx)
  have hnn : ((n : Int) != (n : Int)) = false := by simp
  obtain ⟨u, rfl, hns⟩ := hA
  obtain ⟨aA, cA, rfl⟩ := hns.slc
  obtain ⟨wb, ew, KF, KA, B0, hsz⟩ := boxes2 w 29 24 [.int .u64 p] [.int .i64 n, .int .i64 n, .slice aA qs.length cA]
  replace hns := hns.next B0
  obtain ⟨aA', b, off, cA', U, e0, hcap, hao, hat⟩ := id hns
  simp only [Value.slice.injEq, true_and] at e0
  obtain ⟨rfl, rfl⟩ := e0
  have mA : Xm wb (.agg #[.int .i64 n, .int .i64 n, .slice aA qs.length cA]) n n qs := ⟨_, rfl, hns⟩
  have HP := Lib.hid hp; have HTR := Lib.hid ht; have HX := Lib.hid hx; have HD := Lib.hid hD; have HD1 := Lib.hid hD1; have HD2 := Lib.hid hD2
  have HAO := Lib.hid hao; have HAT := Lib.hid hat; have HSZ := Lib.hid hsz
  have hcA : n * n ≤ cA := by omega
  have HCA := Lib.hid hcA
  clear hp ht hx hD hD1 hD2 hao hat hsz hns hcA hcap
  have a0 := KA.cell 0; have a1 := KA.cell 1; have a2 := KA.cell 2
  obtain ⟨gF, egF⟩ : ∃ g, g = w.heap.size := ⟨_, rfl⟩
  go_enter Try.func19, Try.ntmps19
  go_upto_region 1 with (fail)
  rw [← ew]
  clear ew
  go_wp2_with fail
  refine (xm_Formed_yes _ n n qs wb mA HFd.out).mono ?_; rintro e w1 ⟨rfl, b1⟩
  clear a0 a1 a2
  have KA1 := KA.next b1
  have a0 := KA1.cell 0; have a1 := KA1.cell 1
  obtain ⟨bs, ebs⟩ : ∃ b, b = wb.heap.size := ⟨_, rfl⟩
  have st : DtA p n D bs qs wb w1 (.slice none 0 0) 0 := ⟨[], Rws.nil _ _ _ _, by rw [ebs]; exact b1⟩
  have HBS := Lib.hid (show bs = wb.heap.size from ebs)
  have HGF := Lib.hid (show gF = w.heap.size from egF)
  have HK := Lib.hid (show w.heap.size + 1 < bs by rw [ebs, HSZ.out]; omega)
  have HKF := Lib.hid KF; have HKA := Lib.hid KA; have HB0 := Lib.hid B0
  have ST := Lib.hid st
  clear b1 st ebs egF KF KA B0 KA1 mA
  go_upto_region 5 with (fail)
  clear a0 a1
  go_loopw [6, 29] (fun rv iv wr => ∃ i : Nat, i ≤ n ∧ iv = .int .i64 i ∧ DtA p n D bs qs wb wr rv i) (fun _ iv _ => n - (intOf iv).toNat)
  case atStart => exact ⟨0, by omega, rfl, ST.out⟩
  case round =>
    clear ST
    obtain ⟨i, hi, rfl, vs, RW, hB⟩ := hrel
    have KA := HKA.out.below hB (by have := HK.out; omega)
    by_cases hin : i < n
    · obtain ⟨lo, elo⟩ : ∃ lo, lo = i * n := ⟨_, rfl⟩
      obtain ⟨hh, ehh⟩ : ∃ hh, hh = (i + 1) * n := ⟨_, rfl⟩
      have hle : hh ≤ n * n := by rw [ehh]; exact Nat.mul_le_mul_right n hin
      have hlh : hh = lo + n := by rw [ehh, elo, Nat.succ_mul]
      have hnn2 : n * n ≤ 64 * 64 := Nat.mul_le_mul (by omega) (by omega)
      obtain ⟨rfl, hbl⟩ := HAO.out (by rw [HX.out]; exact Nat.mul_pos (by omega) (by omega))
      have s1 : IntKind.i64.wrap ((i : Int) * (n : Int)) = (lo : Int) := by rw [elo, ← Int.natCast_mul]; exact IntWalk.i64_in _ ⟨by omega, by omega⟩
      have s2 : IntKind.i64.wrap (((i : Int) + 1) * (n : Int)) = (hh : Int) := by
        rw [ehh, show (i : Int) + 1 = ((i + 1 : Nat) : Int) by omega, ← Int.natCast_mul]; exact IntWalk.i64_in _ ⟨by omega, by omega⟩
      have q0 := KA.cell 0; have q1 := KA.cell 1; have q2 := KA.cell 2
      have HLO := Lib.hid elo; have HLH := Lib.hid hlh; have HLE := Lib.hid hle
      clear elo ehh hlh
      have hlk : lo ≤ hh := by have := HLH.out; omega
      have hhl : hh ≤ qs.length := by rw [HX.out]; exact hle
      have hlk2 : hh ≤ cA := by have := HCA.out; omega
      have hlk3 : lo < cA := by have := HLH.out; omega
      have hbs : bs ≤ wr.heap.size := Nat.le_trans (by rw [HBS.out]; omega) hB.size
      have hvf : VsF wr (.slice (some ⟨b, off + lo, none⟩) (hh - lo) (cA - lo)) (hh - lo) (fun k => U (lo + k)) := ⟨_, b, off + lo, _, rfl, by omega, fun _ => ⟨rfl, by have := HBS.out; omega⟩, fun k hk => by
        have h1 := (HAT.out (lo + k) (by omega)).1
        rw [Nat.add_assoc]
        exact (hB.cell (p := ⟨b, off + (lo + k), none⟩) (by have := HBS.out; simp; omega)).trans h1⟩
      have HVF := Lib.hid hvf; clear hvf
      have HONE := Lib.hid (show ∀ k, k < hh - lo → (U (lo + k)).oneCell' = true from fun k hk => by
        obtain ⟨_, h2, _⟩ := HAT.out (lo + k) (by omega)
        obtain ⟨ao, _, _, c, e, _⟩ := h2
        rw [e]; rfl)
      go_wp2_with fail
      refine (clone_polys _ (hh - lo) _ wr HVF.out (by omega) HONE.out).mono ?_; rintro e w2 ⟨r2, rfl, o2, b2⟩
      have e1 : hh - lo = n := by have := HLH.out; omega
      rw [e1] at o2
      obtain ⟨a3, c3, rfl⟩ := (VsF.of_own o2).slice
      have hrow : RowAt (V1 p wb) 33 w2 wr.heap.size n (.slice a3 n c3) (fun j => (aT p n qs i j, D)) := RowAt.of_row o2 fun k hk => by
        have hlt : i * n + k < n * n := at_lt rfl hin hk
        obtain ⟨_, h2, _⟩ := HAT.out (lo + k) (by rw [HX.out, HLO.out]; exact hlt)
        exact ⟨_, h2, by rw [HLO.out]; exact HD.out _ hlt, by unfold aT; rw [HLO.out]⟩
      have hrn : w2.ownsRow bs 22 1 _ i vs := rowOwn_next RW.own b2 (Nat.le_refl _)
      have HRW := Lib.hid RW; have HROW := Lib.hid hrow; have HB2 := Lib.hid b2
      have hB2 := Lib.hid (hB.trans (b2.mono hbs))
      have hbs2 : bs ≤ w2.heap.size := Nat.le_trans hbs b2.size
      clear RW hrow b2 hB KA q0 q1 q2 o2 e1
      go_wp2_with (at_builtin; refine apVl 92 22 24 (.slice none 0 0) Try.underlying92 (by kernel_rfl) (by decide) rfl rfl _ _ rfl w2 bs _ i vs (.slice a3 n c3) rfl hrn (by omega) hbs2 rfl rfl ?_; intro g4 cap4 w4 ho4 hb4 hg4 _; have HO4 := Lib.hid ho4; clear ho4; have HG4 := Lib.hid hg4; clear hg4; have HB4 := Lib.hid hb4; clear hb4)
      go_roundw
      case rel => exact ⟨i + 1, by omega, by go_num, _, HRW.out.push (by decide) HB2.out HROW.out hbs HG4.out HO4.out (fun _ _ h => h) (fun _ _ h => h), hB2.out.trans HB4.out⟩
      case measure => simp [intOf] <;> omega
    · obtain rfl : i = n := by omega
      have R2 : Rws (Vx p) 33 22 wr bs _ vs i i (fun a b => (aT p i qs a b, D)) := RW.mapV fun u x h => Pe.next h (by have h1 := hB; rw [HBS.out] at h1; exact h1)
      have hbs : bs ≤ wr.heap.size := Nat.le_trans (by rw [HBS.out]; omega) hB.size
      have q0 := KA.cell 0
      by_cases hz : i = 0
      · have KF := HKF.out.below hB (by have := HK.out; have := HGF.out; omega)
        obtain ⟨wl, el, KL, BL, hsl⟩ := boxes1 wr 27 [.int .u64 1]
        clear hsl
        have oL : Own .u64 27 wl wr.heap.size (.slice (some ⟨wr.heap.size, 0, none⟩) 1 1) [1] := by rw [el]; exact own_lit1 wr 1
        have SL := Lib.hid oL.sl
        have q0 := (KA.next BL).cell 0
        have f0 := (KF.next BL).cell 0
        have B9 := Lib.hid (HB0.out.trans ((hB.trans (BL.mono hbs)).mono (by have := HK.out; omega)))
        clear RW R2 KA KF KL oL BL
        subst hz
        go_upto_region 10 with (fail)
        rw [← el]
        clear el
        go_upto_region 11 with (fail)
        go_loopw [8, 9, 52] (fun lv ov iv wq => lv = .slice (some ⟨wr.heap.size, 0, none⟩) 1 1 ∧ ov = .bool false ∧ iv = .int .i64 0 ∧ wq = wl) (fun _ _ _ _ => 0)
        case atStart => exact ⟨rfl, rfl, rfl, rfl⟩
        case round =>
          obtain ⟨rfl, rfl, rfl, rfl⟩ := hrel
          go_wp2_with fail
          refine (fp_Norm p _ [1] _ HP.out SL.out (by decide)).mono ?_; rintro e w3 ⟨r, zs, rfl, o3, m3, v3, l3, b3⟩
          obtain ⟨a3, c3, rfl⟩ := o3.sliced
          have FIN := Lib.hid (show RetPE p w (D * 2 ^ 0) (dn 0 (aT p 0 qs)) (.returned (.tuple #[.slice a3 zs.length c3, .int .i64 0])) w3 from ⟨a3, c3, zs, rfl, o3.mono B9.out.size, m3, v3.trans pl1, by have := HD1.out; simp at l3 ⊢; omega, B9.out.trans (b3.mono B9.out.size)⟩)
          clear o3 m3 v3 l3 b3 q0 f0
          go_wp2
          go_ret2
          exact FIN.out
      · have hpos : 0 < i := Nat.pos_of_ne_zero hz
        obtain ⟨gr, cr, rfl, hgr, hgrl, hncr⟩ : ∃ g cap, u6 = .slice (some ⟨g, 0, none⟩) i cap ∧ bs ≤ g ∧ g < wr.heap.size ∧ i ≤ cap := by
          rcases R2.shape with ⟨_, h0⟩ | h0
          · omega
          · exact h0
        obtain ⟨wl, el, KL, BL, hsl⟩ := boxes1 wr 27 [.int .u64 1]
        clear hsl
        have oL : Own .u64 27 wl wr.heap.size (.slice (some ⟨wr.heap.size, 0, none⟩) 1 1) [1] := by rw [el]; exact own_lit1 wr 1
        have q0 := (KA.next BL).cell 0
        have st := Lib.hid (show ∃ top : Nat, ∃ odd : Bool, top ≤ i ∧ (.int .i64 0 : Value) = .int .i64 top ∧ (.bool false : Value) = .bool odd ∧ DtS p i D bs gr cr (aT p i qs) wb wl top (.slice (some ⟨wr.heap.size, 0, none⟩) 1 1) odd from
          ⟨0, false, by omega, rfl, rfl, aT p i qs, _, vs, R2.next BL (Vx.next BL), fun a b _ _ _ => ⟨fun ho => absurd ho (by unfold onG; omega), fun _ => ⟨by rw [bm_zero], by simp⟩⟩, by simp, ⟨[1], oL.sl, by have := HD1.out; simp; omega, pl1⟩, pol_one HTR.out, hB.trans (BL.mono hbs)⟩)
        clear RW R2 KA KL oL BL hB hbs
        go_upto_region 10 with (fail)
        rw [← el]
        clear el
        go_upto_region 11 with (fail)
        clear q0
        have HI := Lib.hid hpos; have HNC := Lib.hid hncr; have HGR := Lib.hid hgr
        go_loopw [8, 9, 52] (fun lv ov iv wq => ∃ top : Nat, ∃ odd : Bool, top ≤ i ∧ iv = .int .i64 top ∧ ov = .bool odd ∧ DtS p i D bs gr cr (aT p i qs) wb wq top lv odd) (fun _ _ iv _ => i - (intOf iv).toNat)
        case atStart => exact st.out
        case round =>
          clear st hz hgrl
          obtain ⟨top, odd, htop, rfl, rfl, A, W, vs, RW, SG, hdn, hlast, hne, hB⟩ := hrel
          by_cases htn : top < i
          · have HB := Lib.hid hB; have HHD := Lib.hid hdn; have HLA := Lib.hid hlast; have HNE := Lib.hid hne; have HSG := Lib.hid SG; have HRW := Lib.hid RW
            clear hB hdn hlast hne SG RW
            obtain ⟨wt, et, KT, BT, hst⟩ := boxes1 wr 3 [.int .i64 top]
            clear hst
            have hbs : bs ≤ wr.heap.size := Nat.le_trans (by rw [HBS.out]; omega) HB.out.size
            have hle2 : D * 2 ^ top ≤ 100000 := Nat.le_trans (Nat.mul_le_mul_left D (Nat.pow_le_pow_right (by decide) htop)) HD2.out
            have HLE2 := Lib.hid hle2
            go_upto_region 13 with (fail)
            rw [← et]
            obtain ⟨gT, egT⟩ : ∃ g, g = wr.heap.size := ⟨_, rfl⟩
            rw [← egT] at KT ⊢
            have HGT := Lib.hid (show bs ≤ gT by rw [egT]; exact hbs)
            have HBT := Lib.hid (HB.out.trans (BT.mono hbs))
            have RW := HRW.out.next BT (Vx.next BT)
            have LA := Lib.hid (HLA.out.next BT)
            have KF := HKF.out.below HBT.out (by have := HK.out; have := HGF.out; omega)
            clear et BT HB HRW HLA hbs egT hle2
            have hrows : ∀ (j : Nat) (u : Value), (vs.drop top)[j]? = some u → wt.cell? ⟨gr, top + j, none⟩ = some u := by
              intro j u hj
              rw [List.getElem?_drop] at hj
              have hlt : top + j < i := by rw [← RW.len]; exact (List.getElem?_eq_some_iff.1 hj).1
              rw [RW.head rfl hlt]; exact hj
            obtain ⟨β, eβ⟩ : ∃ β : Nat → Bool, β = fun j => nzB (W (top + j) top).1 := ⟨_, rfl⟩
            have hfun : ∀ (j : Nat) (u : Value) (w' : World), (vs.drop top)[j]? = some u → Below wt.heap.size wt w' → Calls Try.prog 76 (u :: [.pointer (some ⟨w.heap.size, 0, none⟩), .pointer (some ⟨gT, 0, none⟩)]).toArray w' (RetW w' (.bool (β j))) := by
              intro j u w' hj hb
              rw [List.getElem?_drop] at hj
              have hlt : top + j < i := by rw [← RW.len]; exact (List.getElem?_eq_some_iff.1 hj).1
              obtain ⟨ao, cp, rfl, -⟩ := (RW.row _ u hj).slice
              obtain ⟨b, o, rfl⟩ := RW.ao hj (by omega)
              obtain ⟨⟨u, q1, ⟨zs, k1, k2, k3⟩⟩, -, -, hl2⟩ := RW.at hj htn
              have k4 := (HSG.out.at (Nat.le_add_right top j) hlt htn (by unfold onG; omega)).2
              have k5 := HLE2.out
              exact det_one p w.heap.size gT b o i cp top u zs _ w' HP.out (KF.next hb) (KT.next hb) htn ((hb.cell (p := ⟨b, o + top, none⟩) hl2).trans q1) (k1.next hb) (by omega) (by rw [eβ]; rw [← nzB_nl HP.out.pos zs, k3])
            obtain ⟨R, hR⟩ := IxR.ex β (i - top)
            have HRO := Lib.hid hrows; have HFN := Lib.hid hfun; have HBE := Lib.hid eβ; have HRR := Lib.hid hR
            have HDL := Lib.hid (show (vs.drop top).length = i - top by rw [List.length_drop, RW.len])
            have htc : top < cr := by have := HNC.out; omega
            clear hrows hfun eβ hR
            have t0 := KT.cell 0
            go_wp2_with fail
            refine (ixf_polys 76 (enters_of Try.func76 rfl rfl) [.pointer (some ⟨w.heap.size, 0, none⟩), .pointer (some ⟨gT, 0, none⟩)] gr top (i - top) (cr - top) (vs.drop top) wt HDL.out (by omega) HRO.out β HFN.out R HRR.out).mono ?_; rintro e w2 ⟨rfl, b2⟩
            have B2 := Lib.hid (HBT.out.trans (b2.mono (Nat.le_trans (by rw [HBS.out]; omega) HBT.out.size)))
            replace RW := RW.next b2 (Vx.next b2)
            replace LA := Lib.hid (LA.out.next b2)
            replace KF := KF.next b2
            replace KT := KT.next b2
            clear b2 HBT t0 HRO HFN HDL
            rcases HRR.out with ⟨j, rfl, hj, h1, -⟩ | ⟨rfl, h2⟩
            rotate_left
            · have hz : ∀ a, top ≤ a → a < i → bm top A a top = 0 := fun a h3 h4 => by
                have h5 := h2 (a - top) (by omega)
                rw [HBE.out] at h5
                have h6 := nzB_false h5
                rw [show top + (a - top) = a by omega] at h6
                rw [← (HSG.out.at h3 h4 htn (by unfold onG; omega)).1]; exact h6
              obtain ⟨m, em⟩ : ∃ m, i = top + (m + 1) := ⟨i - top - 1, by omega⟩
              have h0 : dn i A = 0 := by
                rw [em]
                exact dn_nopivot (dom_pol HTR.out) (pol_one HTR.out) HNE.out fun a h3 h4 => hz a h3 (by omega)
              have h9 : dn i (aT p i qs) = 0 := by rw [HHD.out, h0, CR.neg_zero]; split <;> rfl
              have FIN := Lib.hid (show RetPE p w (D * 2 ^ i) (dn i (aT p i qs)) (.returned (.tuple #[.slice none 0 0, .int .i64 0])) w2 from ⟨none, 0, [], rfl, World.ownsRow_nil _ _ _ _, ⟨wf_nil _, rfl⟩, by rw [h9]; exact pl_nil p, Nat.zero_le _, HB0.out.trans (B2.out.mono (by have := HK.out; omega))⟩)
              clear hz em h0 h9 h2 RW LA KF KT
              go_wp2
              go_ret2
              exact FIN.out
            · have hin : top + j < i := by omega
              have hp0 : (W (top + j) top).1 ≠ 0 := by rw [HBE.out] at h1; exact nzB_true h1
              have HP0 := Lib.hid (show bm top A (top + j) top ≠ 0 by rw [← (HSG.out.at (Nat.le_add_right top j) hin htn (by unfold onG; omega)).1]; exact hp0)
              have hbs2 : bs ≤ w2.heap.size := Nat.le_trans (by rw [HBS.out]; omega) B2.out.size
              clear h1 hp0 HBE HRR β
              go_upto_region 16 with (fail)
              have bd := Drawn.below (w' := w2.drew) ⟨1, rfl⟩ w2.heap.size
              replace RW := RW.next bd (Vx.next bd)
              replace KT := KT.next bd
              replace LA := Lib.hid (LA.out.next bd)
              have B3 := Lib.hid (B2.out.trans (bd.mono hbs2))
              clear bd B2 hbs2
              obtain ⟨u, hu⟩ := RW.hdr htn
              obtain ⟨v, hv⟩ := RW.hdr hin
              have qt := RW.head rfl htn; rw [hu] at qt
              have qi := RW.head rfl hin; rw [hv] at qi
              have hl2 : gr < w2.drew.heap.size := (Array.getElem?_eq_some_iff.1 (RW.cellH rfl).choose_spec).1
              have hggr : gT ≠ gr := by
                obtain ⟨cur, hc⟩ := RW.cellH rfl
                exact ne_typ KT hc (by decide)
              have HU := Lib.hid hu; have HV := Lib.hid hv
              obtain ⟨au, cu, eu, -⟩ := (RW.row _ u hu).slice
              obtain ⟨av, cv, ev, -⟩ := (RW.row _ v hv).slice
              subst eu ev
              clear hu hv
              have k0 : 0 ≤ (top : Int) + (j : Int) := by omega
              have k1 : (top : Int) + (j : Int) < (i : Int) := by omega
              have k2 : ((top : Int) + (j : Int)).toNat = top + j := by omega
              have k3 : IntKind.i64.wrap ((top : Int) + (j : Int)) = (top : Int) + (j : Int) := IntWalk.i64_in _ ⟨by omega, by omega⟩
              refine startE (S := (fun w' => Below (w2.drew).heap.size (w2.drew) w')) (T := (fun w1 => Blk 3 w1 gT [.int .i64 top])) 17 (by kernel_rfl) (Below.refl _ _) (KT) (fun hHeld hHeldT => ?_)
              generalize w2.drew = wd at *
              refine takeEA 0 (v := ?_) rfl (by kernel_rfl) (by kernel_rfl) (by kernel_rfl) (fun _ _ _ h => h) (by decide) ⟨by rfl, ?_⟩ (by assumption) (by assumption) ?_
              rotate_left
              · intro w; go_simp <;> with_reducible rfl
              simp only [Act.put, List.setIfInBounds_toArray, List.set_cons_zero, List.set_cons_succ]
              refine takeET 1 (v := ?_) rfl (by kernel_rfl) (by kernel_rfl) (by kernel_rfl) (fun _ _ _ h => h) (by decide) ⟨by rfl, ?_⟩ (by assumption) (by assumption) ?_
              rotate_left
              · intro w hT; have f9 := hT.cell 0; go_simp <;> with_reducible rfl
              simp only [Act.put, List.setIfInBounds_toArray, List.set_cons_zero, List.set_cons_succ]
              refine takeEA 2 (v := ?_) rfl (by kernel_rfl) (by kernel_rfl) (by kernel_rfl) (fun _ _ _ h => h) (by decide) ⟨by rfl, ?_⟩ (by assumption) (by assumption) ?_
              rotate_left
              · intro w; go_simp <;> with_reducible rfl
              simp only [Act.put, List.setIfInBounds_toArray, List.set_cons_zero, List.set_cons_succ]
              refine takeET 3 (v := ?_) rfl (by kernel_rfl) (by kernel_rfl) (by kernel_rfl) (fun _ _ _ h => h) (by decide) ⟨by rfl, ?_⟩ (by assumption) (by assumption) ?_
              rotate_left
              · intro w hT; have f9 := hT.cell 0; go_simp <;> with_reducible rfl
              simp only [Act.put, List.setIfInBounds_toArray, List.set_cons_zero, List.set_cons_succ]
              refine takeEA 4 (v := ?_) rfl (by kernel_rfl) (by kernel_rfl) (by kernel_rfl) (fun _ _ _ h => h) (by decide) ⟨by rfl, ?_⟩ (by assumption) (by assumption) ?_
              rotate_left
              · intro w; go_simp <;> with_reducible rfl
              simp only [Act.put, List.setIfInBounds_toArray, List.set_cons_zero, List.set_cons_succ]
              refine takeEA 5 (v := ?_) rfl (by kernel_rfl) (by kernel_rfl) (by kernel_rfl) (fun _ _ _ h => h) (by decide) ⟨by rfl, ?_⟩ (by assumption) (by assumption) ?_
              rotate_left
              · intro w; go_simp <;> with_reducible rfl
              simp only [Act.put, List.setIfInBounds_toArray, List.set_cons_zero, List.set_cons_succ]
              refine takeEA 6 (v := ?_) rfl (by kernel_rfl) (by kernel_rfl) (by kernel_rfl) (fun _ _ _ h => h) (by decide) ⟨by rfl, ?_⟩ (by assumption) (by assumption) ?_
              rotate_left
              · intro w; go_simp <;> with_reducible rfl
              simp only [Act.put, List.setIfInBounds_toArray, List.set_cons_zero, List.set_cons_succ]
              refine takeET 7 (v := ?_) rfl (by kernel_rfl) (by kernel_rfl) (by kernel_rfl) (fun _ _ _ h => h) (by decide) ⟨by rfl, ?_⟩ (by assumption) (by assumption) ?_
              rotate_left
              · intro w hT; have f9 := hT.cell 0; go_simp <;> with_reducible rfl
              simp only [Act.put, List.setIfInBounds_toArray, List.set_cons_zero, List.set_cons_succ]
              refine takeEA 8 (v := ?_) rfl (by kernel_rfl) (by kernel_rfl) (by kernel_rfl) (fun _ _ _ h => h) (by decide) ⟨by rfl, ?_⟩ (by assumption) (by assumption) ?_
              rotate_left
              · intro w; go_simp <;> with_reducible rfl
              simp only [Act.put, List.setIfInBounds_toArray, List.set_cons_zero, List.set_cons_succ]
              refine takeEA 9 (v := ?_) rfl (by kernel_rfl) (by kernel_rfl) (by kernel_rfl) (fun _ _ _ h => h) (by decide) ⟨by rfl, ?_⟩ (by assumption) (by assumption) ?_
              rotate_left
              · intro w; go_simp <;> with_reducible rfl
              simp only [Act.put, List.setIfInBounds_toArray, List.set_cons_zero, List.set_cons_succ]
              refine takeEA 10 (v := ?_) rfl (by kernel_rfl) (by kernel_rfl) (by kernel_rfl) (fun _ _ _ h => h) (by decide) ⟨by rfl, ?_⟩ (by assumption) (by assumption) ?_
              rotate_left
              · intro w; go_simp <;> with_reducible rfl
              simp only [Act.put, List.setIfInBounds_toArray, List.set_cons_zero, List.set_cons_succ]
              refine takeE0 11 (v := ?_) rfl (by kernel_rfl) (by kernel_rfl) (by kernel_rfl) (fun _ _ _ h => h) (by decide) (by kernel_rfl) (by kernel_rfl) ⟨by rfl, ?_⟩ (by assumption) (by assumption) ?_
              rotate_left
              · intro w hS; have f2 := (hS.cell (p := ⟨gr, top + j, none⟩) hl2).trans qi; have f3 := (hS.cell (p := ⟨gr, top, none⟩) hl2).trans qt; go_simp <;> with_reducible rfl
              simp only [Act.put, List.setIfInBounds_toArray, List.set_cons_zero, List.set_cons_succ]
              refine takeEA 12 (v := ?_) rfl (by kernel_rfl) (by kernel_rfl) (by kernel_rfl) (fun _ _ _ h => h) (by decide) ⟨by rfl, ?_⟩ (by assumption) (by assumption) ?_
              rotate_left
              · intro w; go_simp <;> with_reducible rfl
              simp only [Act.put, List.setIfInBounds_toArray, List.set_cons_zero, List.set_cons_succ]
              refine takeET 13 (v := ?_) rfl (by kernel_rfl) (by kernel_rfl) (by kernel_rfl) (fun _ _ _ h => h) (by decide) ⟨by rfl, ?_⟩ (by assumption) (by assumption) ?_
              rotate_left
              · intro w hT; have f9 := hT.cell 0; go_simp <;> with_reducible rfl
              simp only [Act.put, List.setIfInBounds_toArray, List.set_cons_zero, List.set_cons_succ]
              refine takeEA 14 (v := ?_) rfl (by kernel_rfl) (by kernel_rfl) (by kernel_rfl) (fun _ _ _ h => h) (by decide) ⟨by rfl, ?_⟩ (by assumption) (by assumption) ?_
              rotate_left
              · intro w; go_simp <;> with_reducible rfl
              simp only [Act.put, List.setIfInBounds_toArray, List.set_cons_zero, List.set_cons_succ]
              refine takeE0 15 (v := ?_) rfl (by kernel_rfl) (by kernel_rfl) (by kernel_rfl) (fun _ _ _ h => h) (by decide) (by kernel_rfl) (by kernel_rfl) ⟨by rfl, ?_⟩ (by assumption) (by assumption) ?_
              rotate_left
              · intro w hS; have f2 := (hS.cell (p := ⟨gr, top + j, none⟩) hl2).trans qi; have f3 := (hS.cell (p := ⟨gr, top, none⟩) hl2).trans qt; go_simp <;> with_reducible rfl
              simp only [Act.put, List.setIfInBounds_toArray, List.set_cons_zero, List.set_cons_succ]
              refine takeEA 16 (v := ?_) rfl (by kernel_rfl) (by kernel_rfl) (by kernel_rfl) (fun _ _ _ h => h) (by decide) ⟨by rfl, ?_⟩ (by assumption) (by assumption) ?_
              rotate_left
              · intro w; go_simp <;> with_reducible rfl
              simp only [Act.put, List.setIfInBounds_toArray, List.set_cons_zero, List.set_cons_succ]
              have fz1 := RW.headfree rfl top
              have fz2 := RW.headfree rfl (top + j)
              obtain ⟨zz, qz⟩ := cell_set_some (p := ⟨gr, top, none⟩) (x := .slice av i cv) qi
              refine oneN rfl (by kernel_rfl) (of_decide_eq_true (by kernel_rfl)) (by rfl) (fun K hK => ?_)
              go_simp
              refine hK.out _ _ (hHeldT.far (a := ⟨gr, top, none⟩) hggr _) (fun hHeldT1 => ?_)
              clear hK K
              try simp only [Act.put, List.setIfInBounds_toArray, List.set_cons_zero, List.set_cons_succ]
              refine takeL 18 (v := ?_) rfl (by kernel_rfl) (by kernel_rfl) (by kernel_rfl) (fun _ _ _ h => h) ⟨by rfl, ?_⟩ (by assumption) ?_
              rotate_left
              · intro w hT; go_simp <;> with_reducible rfl
              simp only [Act.put, List.setIfInBounds_toArray, List.set_cons_zero, List.set_cons_succ]
              refine oneL 19 rfl (by kernel_rfl) (by rfl) (fun K hK => ?_)
              go_simp
              refine hK.out _ _ (hHeldT1.far (a := ⟨gr, top + j, none⟩) hggr _) (fun hHeldT2 => ?_)
              clear hK K
              try simp only [Act.put, List.setIfInBounds_toArray, List.set_cons_zero, List.set_cons_succ]
              refine doneL (by kernel_rfl) ?_ _
              clear k0 k1 k2 k3 fz1 fz2 qz hHeldT hHeldT1 hHeld KT zz
              rename _ => KT
              have BS := Lib.hid ((B3.out.setCell (p := ⟨gr, top, none⟩) hgr (.slice av i cv)).setCell (p := ⟨gr, top + j, none⟩) hgr (.slice au i cu))
              replace LA := Lib.hid (swap_keep qt qi ⟨_, _, _, rfl⟩ ⟨_, _, _, rfl⟩ LA.out)
              replace RW := RW.swapV rfl HU.out HV.out
              have SG2 := HSG.out.swap (Nat.le_add_right top j) hin
              have HPV := Lib.hid (show bm top (swB A top (top + j)) top top ≠ 0 by rw [bm_sw A (Nat.le_add_right top j)]; exact HP0.out)
              have HT2 : dn top (swB A top (top + j)) = dn top A := dn_congr top fun a b ha hb => by unfold swB; rw [if_neg (by omega), if_neg (by omega)]
              rw [← HT2] at LA HNE
              obtain ⟨odd2, eo⟩ : ∃ b, b = (!(odd == decide (0 < j))) := ⟨_, rfl⟩
              have HHD2 := Lib.hid (show dn i (aT p i qs) = (if odd2 then -dn i (swB A top (top + j)) else dn i (swB A top (top + j))) by
                rw [eo, HHD.out, dn_swX A htn hin]
                exact odd_stp odd j top (dn i A))
              generalize (wd.setCell ⟨gr, top, none⟩ (.slice av i cv)).setCell ⟨gr, top + j, none⟩ (.slice au i cu) = ws at *
              generalize (vs.set top (.slice av i cv)).set (top + j) (.slice au i cu) = vs1 at *
              generalize swpA W top (top + j) = W1 at *
              generalize swB A top (top + j) = A1 at *
              clear HT2 HU HV qt qi hl2 B3 HSG HHD HP0
              go_upto_region 18 with (fail)
              rw [← eo]
              clear eo
              obtain ⟨t, ht⟩ := RW.hdr htn
              obtain ⟨at', ct, rfl, -⟩ := (RW.row _ t ht).slice
              obtain ⟨bt, ot, rfl⟩ := RW.ao ht (by omega)
              have qt := RW.head rfl htn; rw [ht] at qt
              have HT := Lib.hid ht; clear ht
              have t0 := KT.cell 0
              go_upto_region 19 with (fail)
              clear qt
              have hti : top + 1 ≤ i := htn
              have hcr : top + 1 ≤ cr := by have := HNC.out; omega
              have HSP := Lib.hid SG2
              by_cases hc : top + 1 < cr
              · have st := Lib.hid (show DtQ p i D bs gr cr gT top 0 A1 wb ws vs1 u8 from ⟨W1, RW, SG2, BS.out, KT, LA.out⟩)
                clear RW SG2 BS LA KF HSP
                go_upto_region 20 with (fail)
                clear KT t0
                go_loopw [93] (fun kv wr => ∃ r : Nat, r ≤ i - (top + 1) ∧ kv = .int .i64 r ∧ DtQ p i D bs gr cr gT top r A1 wb wr vs1 u8) (fun kv _ => i - (intOf kv).toNat)
                case atStart => exact ⟨0, by omega, rfl, st.out⟩
                case round =>
                  clear st
                  obtain ⟨r, hr, rfl, W2, RW, SG, hB, KT, LA⟩ := hrel
                  by_cases hri : r < i - (top + 1)
                  · have hai : top + 1 + r < i := by omega
                    obtain ⟨rv, hrv⟩ := RW.hdr hai
                    obtain ⟨ar, cc, rfl, -⟩ := (RW.row _ rv hrv).slice
                    obtain ⟨br, oo, rfl⟩ := RW.ao hrv (by omega)
                    obtain ⟨⟨xc, qx, hx⟩, -, -, -⟩ := RW.at hrv htn
                    have qr := RW.head rfl hai; rw [hrv] at qr
                    have hsg := SG.at (i := top + 1 + r) (by omega) hai htn (by unfold onG; omega)
                    have XC : Pe p (D * 2 ^ top) wr xc (bm top A1 (top + 1 + r) top) := by rw [← hsg.1]; exact Pe.mono hx hsg.2
                    have t0 := KT.cell 0
                    have st2 := Lib.hid (show DtM p i D bs gr cr gT top r 0 (top + 1 + r) A1 wb wr vs1 u8 xc from ⟨W2, RW, SG, hB, KT, LA, XC⟩)
                    have HRV := Lib.hid hrv
                    clear hrv hx hsg XC RW SG hB KT LA
                    go_upto_region 24 with (fail)
                    clear qx qr t0
                    go_loopw [103] (fun kv wr => ∃ k : Nat, k ≤ i ∧ kv = .int .i64 k ∧ DtM p i D bs gr cr gT top r k (top + 1 + r) A1 wb wr vs1 u8 xc) (fun kv _ => i - (intOf kv).toNat)
                    case atStart => exact ⟨0, by omega, rfl, st2.out⟩
                    case round =>
                      clear st2
                      obtain ⟨k, hk, rfl, W3, RW, SG, hB, KT, LA, XC⟩ := hrel
                      by_cases hki : k < i
                      · have hbs : bs ≤ wr.heap.size := Nat.le_trans (by rw [HBS.out]; omega) hB.size
                        go_upto_region 26 with (fail)
                        have bd := Drawn.below (w' := wr.drew) ⟨1, rfl⟩ wr.heap.size
                        replace RW := RW.next bd (Vx.next bd)
                        replace KT := KT.next bd
                        replace LA := LA.next bd
                        replace XC := XC.next bd
                        replace hB := hB.trans (bd.mono hbs)
                        have KF := HKF.out.below hB (by have := HK.out; have := HGF.out; omega)
                        have hbs : bs ≤ wr.drew.heap.size := hbs
                        clear bd
                        obtain ⟨⟨u1, q1, zs1, s1, l1, v1⟩, -, hbr, hb1⟩ := RW.at HRV.out hki
                        obtain ⟨⟨u2, q2, zs2, s2, l2, v2⟩, -, -, hb2⟩ := RW.at HT.out htn
                        obtain ⟨⟨u4, q4, zs4, s4, l4, v4⟩, -, -, -⟩ := RW.at HT.out hki
                        obtain ⟨zs3, s3, l3, v3⟩ := id XC
                        obtain ⟨zs5, s5, l5, v5⟩ := id LA
                        have g1 := SG.at (i := top + 1 + r) (j := k) (by omega) hai hki (by unfold onG; omega)
                        have g2 := SG.at (i := top) (j := top) (Nat.le_refl _) htn htn (by unfold onG; omega)
                        have g4 := SG.at (i := top) (j := k) (Nat.le_refl _) htn hki (by unfold onG; omega)
                        replace v1 := v1.trans g1.1; replace v2 := v2.trans g2.1; replace v4 := v4.trans g4.1
                        replace l1 := Nat.le_trans l1 g1.2; replace l2 := Nat.le_trans l2 g2.2; replace l4 := Nat.le_trans l4 g4.2
                        obtain ⟨E, eE⟩ : ∃ E, E = D * 2 ^ top := ⟨_, rfl⟩
                        have hE := HLE2.out
                        rw [← eE] at l1 l2 l3 l4 l5 hE
                        have hE2 : D * 2 ^ (top + 1) = E + E := by rw [eE, Nat.pow_succ, ← Nat.mul_assoc, Nat.mul_comm (D * 2 ^ top) 2, Nat.two_mul]
                        have HV1 := Lib.hid v1; have HV2 := Lib.hid v2; have HV3 := Lib.hid v3; have HV4 := Lib.hid v4; have HV5 := Lib.hid v5
                        have HEE := Lib.hid hE2
                        have H05 := Lib.hid (show pl p zs5 ≠ 0 by rw [v5]; exact HNE.out)
                        have XC9 := Lib.hid XC; have LA9 := Lib.hid LA; have SG9 := Lib.hid SG; have RW9 := Lib.hid RW
                        clear v1 v2 v3 v4 v5 hE2 g1 g2 g4 eE XC LA SG RW
                        refine startP (S := (fun w' => Below (wr.drew).heap.size (wr.drew) w')) (by kernel_rfl) _ rfl rfl rfl (by kernel_rfl) (Below.refl _ _) (fun hHeld => ?_)
                        refine takeL 0 (v := ?_) rfl (by kernel_rfl) (by kernel_rfl) (by kernel_rfl) (fun _ _ _ h => h) ⟨by rfl, ?_⟩ (by assumption) ?_
                        rotate_left
                        · intro w hS; go_simp <;> with_reducible rfl
                        simp only [Act.put, List.setIfInBounds_toArray, List.set_cons_zero, List.set_cons_succ]
                        refine takeL 1 (v := ?_) rfl (by kernel_rfl) (by kernel_rfl) (by kernel_rfl) (fun _ _ _ h => h) ⟨by rfl, ?_⟩ (by assumption) ?_
                        rotate_left
                        · intro w hS; go_simp <;> with_reducible rfl
                        simp only [Act.put, List.setIfInBounds_toArray, List.set_cons_zero, List.set_cons_succ]
                        refine takeL 2 (v := ?_) rfl (by kernel_rfl) (by kernel_rfl) (by kernel_rfl) (fun _ _ _ h => h) ⟨by rfl, ?_⟩ (by assumption) ?_
                        rotate_left
                        · intro w hS; have f1 := KF.at hS 0; have f2 := KT.at hS 0; have f3 := (hS.cell (p := ⟨br, oo + k, none⟩) hb1).trans q1; have f4 := (hS.cell (p := ⟨bt, ot + top, none⟩) hb2).trans q2; have f5 := (hS.cell (p := ⟨bt, ot + k, none⟩) hb2).trans q4; go_simp <;> with_reducible rfl
                        simp only [Act.put, List.setIfInBounds_toArray, List.set_cons_zero, List.set_cons_succ]
                        refine takeL 3 (v := ?_) rfl (by kernel_rfl) (by kernel_rfl) (by kernel_rfl) (fun _ _ _ h => h) ⟨by rfl, ?_⟩ (by assumption) ?_
                        rotate_left
                        · intro w hS; have f1 := KF.at hS 0; have f2 := KT.at hS 0; have f3 := (hS.cell (p := ⟨br, oo + k, none⟩) hb1).trans q1; have f4 := (hS.cell (p := ⟨bt, ot + top, none⟩) hb2).trans q2; have f5 := (hS.cell (p := ⟨bt, ot + k, none⟩) hb2).trans q4; go_simp <;> with_reducible rfl
                        simp only [Act.put, List.setIfInBounds_toArray, List.set_cons_zero, List.set_cons_succ]
                        refine takeL 4 (v := ?_) rfl (by kernel_rfl) (by kernel_rfl) (by kernel_rfl) (fun _ _ _ h => h) ⟨by rfl, ?_⟩ (by assumption) ?_
                        rotate_left
                        · intro w hS; have f1 := KF.at hS 0; have f2 := KT.at hS 0; have f3 := (hS.cell (p := ⟨br, oo + k, none⟩) hb1).trans q1; have f4 := (hS.cell (p := ⟨bt, ot + top, none⟩) hb2).trans q2; have f5 := (hS.cell (p := ⟨bt, ot + k, none⟩) hb2).trans q4; go_simp <;> with_reducible rfl
                        simp only [Act.put, List.setIfInBounds_toArray, List.set_cons_zero, List.set_cons_succ]
                        refine takeL 5 (v := ?_) rfl (by kernel_rfl) (by kernel_rfl) (by kernel_rfl) (fun _ _ _ h => h) ⟨by rfl, ?_⟩ (by assumption) ?_
                        rotate_left
                        · intro w hS; go_simp <;> with_reducible rfl
                        simp only [Act.put, List.setIfInBounds_toArray, List.set_cons_zero, List.set_cons_succ]
                        refine takeL 6 (v := ?_) rfl (by kernel_rfl) (by kernel_rfl) (by kernel_rfl) (fun _ _ _ h => h) ⟨by rfl, ?_⟩ (by assumption) ?_
                        rotate_left
                        · intro w hS; go_simp <;> with_reducible rfl
                        simp only [Act.put, List.setIfInBounds_toArray, List.set_cons_zero, List.set_cons_succ]
                        refine takeL 7 (v := ?_) rfl (by kernel_rfl) (by kernel_rfl) (by kernel_rfl) (fun _ _ _ h => h) ⟨by rfl, ?_⟩ (by assumption) ?_
                        rotate_left
                        · intro w hS; go_simp <;> with_reducible rfl
                        simp only [Act.put, List.setIfInBounds_toArray, List.set_cons_zero, List.set_cons_succ]
                        refine takeL 8 (v := ?_) rfl (by kernel_rfl) (by kernel_rfl) (by kernel_rfl) (fun _ _ _ h => h) ⟨by rfl, ?_⟩ (by assumption) ?_
                        rotate_left
                        · intro w hS; have f1 := KF.at hS 0; have f2 := KT.at hS 0; have f3 := (hS.cell (p := ⟨br, oo + k, none⟩) hb1).trans q1; have f4 := (hS.cell (p := ⟨bt, ot + top, none⟩) hb2).trans q2; have f5 := (hS.cell (p := ⟨bt, ot + k, none⟩) hb2).trans q4; go_simp <;> with_reducible rfl
                        simp only [Act.put, List.setIfInBounds_toArray, List.set_cons_zero, List.set_cons_succ]
                        refine takeL 9 (v := ?_) rfl (by kernel_rfl) (by kernel_rfl) (by kernel_rfl) (fun _ _ _ h => h) ⟨by rfl, ?_⟩ (by assumption) ?_
                        rotate_left
                        · intro w hS; go_simp <;> with_reducible rfl
                        simp only [Act.put, List.setIfInBounds_toArray, List.set_cons_zero, List.set_cons_succ]
                        refine takeL 10 (v := ?_) rfl (by kernel_rfl) (by kernel_rfl) (by kernel_rfl) (fun _ _ _ h => h) ⟨by rfl, ?_⟩ (by assumption) ?_
                        rotate_left
                        · intro w hS; have f1 := KF.at hS 0; have f2 := KT.at hS 0; have f3 := (hS.cell (p := ⟨br, oo + k, none⟩) hb1).trans q1; have f4 := (hS.cell (p := ⟨bt, ot + top, none⟩) hb2).trans q2; have f5 := (hS.cell (p := ⟨bt, ot + k, none⟩) hb2).trans q4; go_simp <;> with_reducible rfl
                        simp only [Act.put, List.setIfInBounds_toArray, List.set_cons_zero, List.set_cons_succ]
                        refine takeL 11 (v := ?_) rfl (by kernel_rfl) (by kernel_rfl) (by kernel_rfl) (fun _ _ _ h => h) ⟨by rfl, ?_⟩ (by assumption) ?_
                        rotate_left
                        · intro w hS; go_simp <;> with_reducible rfl
                        simp only [Act.put, List.setIfInBounds_toArray, List.set_cons_zero, List.set_cons_succ]
                        refine takeL 12 (v := ?_) rfl (by kernel_rfl) (by kernel_rfl) (by kernel_rfl) (fun _ _ _ h => h) ⟨by rfl, ?_⟩ (by assumption) ?_
                        rotate_left
                        · intro w hS; have f1 := KF.at hS 0; have f2 := KT.at hS 0; have f3 := (hS.cell (p := ⟨br, oo + k, none⟩) hb1).trans q1; have f4 := (hS.cell (p := ⟨bt, ot + top, none⟩) hb2).trans q2; have f5 := (hS.cell (p := ⟨bt, ot + k, none⟩) hb2).trans q4; go_simp <;> with_reducible rfl
                        simp only [Act.put, List.setIfInBounds_toArray, List.set_cons_zero, List.set_cons_succ]
                        refine takeL 14 (v := ?_) rfl (by kernel_rfl) (by kernel_rfl) (by kernel_rfl) (fun _ _ _ h => h) ⟨by rfl, ?_⟩ (by assumption) ?_
                        rotate_left
                        · intro w hS; have f1 := KF.at hS 0; have f2 := KT.at hS 0; have f3 := (hS.cell (p := ⟨br, oo + k, none⟩) hb1).trans q1; have f4 := (hS.cell (p := ⟨bt, ot + top, none⟩) hb2).trans q2; have f5 := (hS.cell (p := ⟨bt, ot + k, none⟩) hb2).trans q4; go_simp <;> with_reducible rfl
                        simp only [Act.put, List.setIfInBounds_toArray, List.set_cons_zero, List.set_cons_succ]
                        refine takeL 15 (v := ?_) rfl (by kernel_rfl) (by kernel_rfl) (by kernel_rfl) (fun _ _ _ h => h) ⟨by rfl, ?_⟩ (by assumption) ?_
                        rotate_left
                        · intro w hS; go_simp <;> with_reducible rfl
                        simp only [Act.put, List.setIfInBounds_toArray, List.set_cons_zero, List.set_cons_succ]
                        refine takeL 16 (v := ?_) rfl (by kernel_rfl) (by kernel_rfl) (by kernel_rfl) (fun _ _ _ h => h) ⟨by rfl, ?_⟩ (by assumption) ?_
                        rotate_left
                        · intro w hS; go_simp <;> with_reducible rfl
                        simp only [Act.put, List.setIfInBounds_toArray, List.set_cons_zero, List.set_cons_succ]
                        refine takeL 17 (v := ?_) rfl (by kernel_rfl) (by kernel_rfl) (by kernel_rfl) (fun _ _ _ h => h) ⟨by rfl, ?_⟩ (by assumption) ?_
                        rotate_left
                        · intro w hS; go_simp <;> with_reducible rfl
                        simp only [Act.put, List.setIfInBounds_toArray, List.set_cons_zero, List.set_cons_succ]
                        refine takeL 18 (v := ?_) rfl (by kernel_rfl) (by kernel_rfl) (by kernel_rfl) (fun _ _ _ h => h) ⟨by rfl, ?_⟩ (by assumption) ?_
                        rotate_left
                        · intro w hS; go_simp <;> with_reducible rfl
                        simp only [Act.put, List.setIfInBounds_toArray, List.set_cons_zero, List.set_cons_succ]
                        refine takeL 19 (v := ?_) rfl (by kernel_rfl) (by kernel_rfl) (by kernel_rfl) (fun _ _ _ h => h) ⟨by rfl, ?_⟩ (by assumption) ?_
                        rotate_left
                        · intro w hS; have f1 := KF.at hS 0; have f2 := KT.at hS 0; have f3 := (hS.cell (p := ⟨br, oo + k, none⟩) hb1).trans q1; have f4 := (hS.cell (p := ⟨bt, ot + top, none⟩) hb2).trans q2; have f5 := (hS.cell (p := ⟨bt, ot + k, none⟩) hb2).trans q4; go_simp <;> with_reducible rfl
                        simp only [Act.put, List.setIfInBounds_toArray, List.set_cons_zero, List.set_cons_succ]
                        refine takeL 22 (v := ?_) rfl (by kernel_rfl) (by kernel_rfl) (by kernel_rfl) (fun _ _ _ h => h) ⟨by rfl, ?_⟩ (by assumption) ?_
                        rotate_left
                        · intro w hS; go_simp <;> with_reducible rfl
                        simp only [Act.put, List.setIfInBounds_toArray, List.set_cons_zero, List.set_cons_succ]
                        refine oneL 13 rfl (by kernel_rfl) (by rfl) (fun K hK => ?_)
                        go_simp
                        go_at_call 53
                        (with_reducible refine (fp_Mul p u1 u2 zs1 zs2 _ HP.out (s1.next hHeld) (s2.next hHeld) (by omega) (by omega)).mono ?_); rintro e wm ⟨m1, ms1, rfl, o1, -, p1, n1, c1⟩
                        refine hK.out _ _ (hHeld.trans (c1.mono hHeld.size)) (fun hHeld => ?_)
                        clear hK K
                        try simp only [Act.put, List.setIfInBounds_toArray, List.set_cons_zero, List.set_cons_succ]
                        refine oneL 20 rfl (by kernel_rfl) (by rfl) (fun K hK => ?_)
                        go_simp
                        go_at_call 53
                        (with_reducible refine (fp_Mul p xc u4 zs3 zs4 _ HP.out (s3.next hHeld) (s4.next hHeld) (by omega) (by omega)).mono ?_); rintro e wn ⟨m2, ms2, rfl, o2, -, p2, n2, c2⟩
                        refine hK.out _ _ (hHeld.trans (c2.mono hHeld.size)) (fun hHeld => ?_)
                        clear hK K
                        try simp only [Act.put, List.setIfInBounds_toArray, List.set_cons_zero, List.set_cons_succ]
                        refine oneL 21 rfl (by kernel_rfl) (by rfl) (fun K hK => ?_)
                        go_simp
                        go_at_call 79
                        (with_reducible refine (fp_Sub p m1 m2 ms1 ms2 _ HP.out (o1.sl.next c2) o2.sl (by omega) (by omega)).mono ?_); rintro e wo ⟨m3, ms3, rfl, o3, -, p3, n3, c3⟩
                        have HQ := Lib.hid (show pl p ms3 = bm (top + 1) A1 (top + 1 + r) k * pl p zs5 by rw [p3, p1, p2, HV1.out, HV2.out, HV3.out, HV4.out, HV5.out]; exact (sylvester (dom_pol HTR.out) (pol_one HTR.out) HNE.out _ _).symm.trans (CR.mul_comm _ _))
                        refine hK.out _ _ (hHeld.trans (c3.mono hHeld.size)) (fun hHeld => ?_)
                        clear hK K
                        try simp only [Act.put, List.setIfInBounds_toArray, List.set_cons_zero, List.set_cons_succ]
                        refine oneL 23 rfl (by kernel_rfl) (by rfl) (fun K hK => ?_)
                        go_simp
                        go_at_call 78
                        (with_reducible refine (xm_exact p m3 u8 ms3 zs5 (bm (top + 1) A1 (top + 1 + r) k) _ HP.out HTR.out o3.sl (s5.next hHeld) (by omega) (by omega) H05.out HQ.out).mono ?_); rintro e wq ⟨rq, zq, rfl, oq, -, vq, lq, cq⟩
                        refine hK.out _ _ (hHeld.trans (cq.mono hHeld.size)) (fun hHeld => ?_)
                        clear hK K
                        try simp only [Act.put, List.setIfInBounds_toArray, List.set_cons_zero, List.set_cons_succ]
                        refine takeL 24 (v := ?_) rfl (by kernel_rfl) (by kernel_rfl) (by kernel_rfl) (fun _ _ _ h => h) ⟨by rfl, ?_⟩ (by assumption) ?_
                        rotate_left
                        · intro w hS; go_simp <;> with_reducible rfl
                        simp only [Act.put, List.setIfInBounds_toArray, List.set_cons_zero, List.set_cons_succ]
                        refine doneL (by kernel_rfl) ?_ _
                        refine lastL rfl (by rfl) ?_
                        obtain ⟨aq, cpq, eq9⟩ := oq.sliced
                        subst eq9
                        have RW8 := RW9.out.next hHeld (Vx.next hHeld)
                        have KT8 := KT.next hHeld
                        have LA8 := LA9.out.next hHeld
                        have XC8 := XC9.out.next hHeld
                        obtain ⟨⟨uu, qq, -⟩, fz, -, -⟩ := RW8.at HRV.out hki
                        have hy : Pe p (D * 2 ^ (top + 1)) wq (.slice aq zq.length cpq) (bm (top + 1) A1 (top + 1 + r) k) := ⟨zq, oq.sl, by have := HEE.out; omega, vq⟩
                        have hne : gT ≠ br := ne_typ KT8 (RW8.atc HRV.out hki).choose_spec (by decide)
                        have RW10 := RW8.storeV HRV.out hki hy
                        have B10 := hB.trans (hHeld.mono hbs)
                        have st3 := Lib.hid (show DtM p i D bs gr cr gT top r (k + 1) (top + 1 + r) A1 wb (wq.setCell ⟨br, oo + k, none⟩ (.slice aq zq.length cpq)) vs1 u8 xc from ⟨_, RW10, SG9.out.step, B10.setCell hbr _, KT8.far (a := ⟨br, oo + k, none⟩) hne _, RW8.keepV HRV.out hki _ LA8, RW8.keepV HRV.out hki _ XC8⟩)
                        clear RW8 KT8 LA8 XC8 hy hne RW10 B10 RW9 XC9 LA9 SG9 hB KT KF s1 s2 s3 s4 s5 q1 q2 q4 o1 o2 o3 oq c1 c2 c3 cq HV1 HV2 HV3 HV4 HV5 HQ HEE H05 hHeld vq p1 p2 p3 n1 n2 n3 lq
                        go_wp2
                        go_roundw
                        case rel => exact ⟨k + 1, by omega, by go_num, st3.out⟩
                        case measure => simp [intOf] <;> omega
                      · obtain rfl : k = i := by omega
                        have st3 := Lib.hid (show DtQ p k D bs gr cr gT top (r + 1) A1 wb wr vs1 u8 from ⟨_, RW, SG.next, hB, KT, LA⟩)
                        clear RW SG hB KT LA XC
                        go_wp2
                        go_roundw
                        case rel => exact ⟨r + 1, by omega, by go_num, st3.out⟩
                        case measure => simp [intOf] <;> omega
                  · obtain ⟨u, qu, ds⟩ := DtS.on RW SG (by omega) htn HHD2.out HT.out HPV.out hB
                    have t0 := KT.cell 0
                    have DS := Lib.hid ds
                    clear RW SG hB KT LA ds
                    go_wp2
                    go_roundw
                    case rel => exact ⟨top + 1, odd2, by omega, by go_num, rfl, DS.out⟩
                    case measure => simp [intOf] <;> omega
              · obtain ⟨u, qu, ds⟩ := DtS.on RW SG2 (by omega) htn HHD2.out HT.out HPV.out BS.out
                have DS := Lib.hid ds
                have hc2 : cr = top + 1 := by omega
                have hi2 : i = top + 1 := by have := HNC.out; omega
                clear RW SG2 BS LA KF HSP ds
                subst hc2
                go_upto_region 20 with (fail)
                go_loopw [93] (fun kv wr => kv = .int .i64 0 ∧ wr = ws) (fun _ _ => 0)
                case atStart => exact ⟨rfl, rfl⟩
                case round =>
                  obtain ⟨rfl, rfl⟩ := hrel
                  go_wp2
                  go_roundw
                  case rel => exact ⟨top + 1, odd2, by omega, by go_num, rfl, DS.out⟩
                  case measure => simp [intOf] <;> omega
          · obtain e : top = i := by omega
            subst e
            have KF := HKF.out.below hB (by have := HK.out; have := HGF.out; omega)
            have f0 := KF.cell 0
            obtain ⟨zs5, s5, l5, v5⟩ := hlast
            have B9 := Lib.hid (HB0.out.trans (hB.mono (by have := HK.out; omega)))
            have hl5 : zs5.length ≤ 1000000 := Nat.le_trans l5 (Nat.le_trans HD2.out (by decide))
            have S5 := Lib.hid s5; have V5 := Lib.hid v5; have HHD := Lib.hid hdn
            clear s5 v5 hdn RW SG hne hB KF
            cases odd with
            | true =>
              go_wp2_with fail
              refine (fp_Sub p (.slice none 0 0) u8 [] zs5 _ HP.out (show Own .u64 27 wr wr.heap.size (.slice none 0 0) [] from World.ownsRow_nil _ _ _ _).sl S5.out (by decide) hl5).mono ?_; rintro e w3 ⟨r, zs, rfl, o3, m3, v3, l3, b3⟩
              obtain ⟨a3, c3, rfl⟩ := o3.sliced
              have FIN := Lib.hid (show RetPE p w (D * 2 ^ top) (dn top (aT p top qs)) (.returned (.tuple #[.slice a3 zs.length c3, .int .i64 0])) w3 from ⟨a3, c3, zs, rfl, o3.mono B9.out.size, m3, by rw [v3, HHD.out, if_pos trivial, V5.out, pl_nil, CR.zero_sub], Nat.le_trans l3 (by simpa using l5), B9.out.trans (b3.mono B9.out.size)⟩)
              clear o3 m3 v3 l3 b3 f0
              go_wp2
              go_ret2
              exact FIN.out
            | false =>
              go_wp2_with fail
              refine (fp_Norm p u8 zs5 _ HP.out S5.out (by omega)).mono ?_; rintro e w3 ⟨r, zs, rfl, o3, m3, v3, l3, b3⟩
              obtain ⟨a3, c3, rfl⟩ := o3.sliced
              have FIN := Lib.hid (show RetPE p w (D * 2 ^ top) (dn top (aT p top qs)) (.returned (.tuple #[.slice a3 zs.length c3, .int .i64 0])) w3 from ⟨a3, c3, zs, rfl, o3.mono B9.out.size, m3, by rw [v3, HHD.out, if_neg (by decide), V5.out], Nat.le_trans l3 l5, B9.out.trans (b3.mono B9.out.size)⟩)
              clear o3 m3 v3 l3 b3 f0
              go_wp2
              go_ret2
              exact FIN.out

end Go.Proofs.Ythghdjpjbngllaa
