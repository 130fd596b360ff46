/- Layer 25: Frobenius' form row by row; copy into an owned row. -/
import Derived.Laws.CopyRow
import Derived.Test.YtkmfhabgempjiaaQlM16
import Derived.Test.YtkmfhabgempjiaaQlM5
import Derived.Test.YtkmfhabgempjiaaQlM6
import Derived.Test.YtkmfhabgempjiaaQlM15
namespace Go.Proofs.Ytkmfhabgempjiaa
set_option maxHeartbeats 4000000
open Go.RowKit
section
open CR
variable {p n : Nat}
theorem fmE_at : ∀ (l : List (Prt p n)) (j : Nat) (h : j < l.length) (i k : Nat), i < (l[j]).1 → fmE l (bdm (l.take j) + i) k = if bdm (l.take j) ≤ k ∧ k < bdm (l.take j) + (l[j]).1 then cmpE (l[j]).1 (l[j]).2.1 i (k - bdm (l.take j)) else 0
 | x :: l, 0, _, i, k, hi => by
  have hi' : i < x.1 := hi
  show fmE (x :: l) (0 + i) k = if 0 ≤ k ∧ k < 0 + x.1 then cmpE x.1 x.2.1 i (k - 0) else 0
  rw [Nat.zero_add, Nat.zero_add, Nat.sub_zero]
  show (if i < x.1 ∨ k < x.1 then (if i < x.1 ∧ k < x.1 then cmpE x.1 x.2.1 i k else 0) else _) = _
  rw [if_pos (.inl hi')]
  by_cases hk : k < x.1
  ·rw [if_pos ⟨hi', hk⟩, if_pos ⟨Nat.zero_le _, hk⟩]
  ·rw [if_neg (fun h => hk h.2), if_neg (fun h => hk h.2)]
 | x :: l, j + 1, h, i, k, hi => by
  have hj : j < l.length := by simpa using h
  have hi' : i < (l[j]).1 := hi
  have ih := fmE_at l j hj i (k - x.1) hi'
  show (if x.1 + bdm (l.take j) + i < x.1 ∨ k < x.1 then (if x.1 + bdm (l.take j) + i < x.1 ∧ k < x.1 then _ else 0) else fmE l (x.1 + bdm (l.take j) + i - x.1) (k - x.1)) = if x.1 + bdm (l.take j) ≤ k ∧ k < x.1 + bdm (l.take j) + (l[j]).1 then cmpE (l[j]).1 (l[j]).2.1 i (k - (x.1 + bdm (l.take j))) else 0
  by_cases hk : k < x.1
  ·rw [if_pos (.inr hk), if_neg (by omega), if_neg (by omega)]
  ·rw [if_neg (by omega), show x.1 + bdm (l.take j) + i - x.1 = bdm (l.take j) + i by omega, ih]
   by_cases hc : bdm (l.take j) ≤ k - x.1 ∧ k - x.1 < bdm (l.take j) + (l[j]).1
   ·rw [if_pos hc, if_pos (by omega), show k - x.1 - bdm (l.take j) = k - (x.1 + bdm (l.take j)) by omega]
   ·rw [if_neg hc, if_neg (by omega)]
def bls (p : Nat) (qs : List (List Nat)) : List (Prt p 0) := qs.map fun q => ((nl p q).length - 1, fun i => (pl p q).c i, 0)
theorem bls_length (qs : List (List Nat)) : (bls p qs).length = qs.length := List.length_map ..
theorem bls_get (qs : List (List Nat)) (j : Nat) (h : j < (bls p qs).length) : ((bls p qs)[j]).1 = (nl p (qs.getD j [])).length - 1 ∧ ((bls p qs)[j]).2.1 = fun i => (pl p (qs.getD j [])).c i := by
 have h2 : j < qs.length := by rwa [bls_length] at h
 have e : (bls p qs)[j] = ((nl p qs[j]).length - 1, fun i => (pl p qs[j]).c i, 0) := List.getElem_map ..
 have e2 : qs.getD j [] = qs[j] := by simp only [List.getD, List.getElem?_eq_getElem h2, Option.getD_some]
 rw [e, e2]
 exact ⟨rfl, rfl⟩
theorem bdm_ge (l : List (Prt p n)) (h : ∀ j (h : j < l.length), 0 < (l[j]).1) : l.length ≤ bdm l := by
 induction l with
 | nil => exact Nat.zero_le _
 | cons x l ih =>
  have h0 : 0 < x.1 := h 0 (by simp)
  have := ih fun j hj => h (j + 1) (by simpa using hj)
  show l.length + 1 ≤ x.1 + bdm l
  omega
theorem cmp_cmpE (d : Nat) (q : List Nat) {i k : Nat} (hi : i < d) (hk : k < d) : (cmp p d (nl p q)).e i k = cmpE d (fun i => (pl p q).c i) i k := by
 unfold cmp cmpE
 rw [MT.of_e _ hi hk]
 have e : (pl p q).c i = Zp.of p ((nl p q).getD i 0) := by rw [← nl_pl, pl_c]
 show _ = _ + if k + 1 = d then -(pl p q).c i else 0
 rw [e]
 by_cases h1 : k + 1 = d
 ·rw [if_pos h1, if_pos h1, if_neg (by omega), zero_add]
 ·rw [if_neg h1, if_neg h1, add_zero]
  by_cases h2 : k + 1 = i
  ·rw [if_pos h2, if_pos h2.symm]
  ·rw [if_neg h2, if_neg (fun h => h2 h.symm)]
def blr (N : Nat) (F : Nat → Nat → Zp p) (s : Nat) : List Nat := ftab N (fun i k => if i < s then (F i k).val else 0) (N * N)
theorem blr_length (N : Nat) (F : Nat → Nat → Zp p) (s : Nat) : (blr N F s).length = N * N := ftab_length _ _ _
theorem blr_zero (N : Nat) (F : Nat → Nat → Zp p) : List.replicate (N * N) 0 = blr N F 0 := by
 unfold blr ftab
 refine List.ext_getElem (by simp) fun i h1 h2 => ?_
 simp
theorem blr_all (N : Nat) (F : Nat → Nat → Zp p) : blr N F N = tbv (MT.of N N F) := by
 unfold blr tbv
 exact ftab_congr fun i k hi hk => by rw [if_pos hi, MT.of_e _ hi hk]
theorem ftab_getD (N : Nat) (T : Nat → Nat → Nat) {t : Nat} (h : t < N * N) : (ftab N T (N * N)).getD t 0 = T (t / N) (t % N) := by
 unfold ftab
 simp only [List.getD, List.getElem?_map, List.getElem?_range h, Option.map_some, Option.getD_some]
theorem getD_tad {xs ys : List Nat} {o t : Nat} (h : o + ys.length ≤ xs.length) : (xs.take o ++ ys ++ xs.drop (o + ys.length)).getD t 0 = if o ≤ t ∧ t < o + ys.length then ys.getD (t - o) 0 else xs.getD t 0 := by
 simp only [List.getD, List.getElem?_append, List.length_append, List.length_take, List.getElem?_take, List.getElem?_drop]
 rw [Nat.min_eq_left (by omega)]
 by_cases h1 : t < o
 ·rw [if_pos (by omega), if_pos h1, if_pos h1, if_neg (by omega)]
 ·by_cases h2 : t < o + ys.length
  ·rw [if_pos h2, if_neg h1, if_pos (by omega)]
  ·rw [if_neg h2, if_neg (by omega), show o + ys.length + (t - (o + ys.length)) = t by omega]
theorem length_tad {xs ys : List Nat} {o : Nat} (h : o + ys.length ≤ xs.length) : (xs.take o ++ ys ++ xs.drop (o + ys.length)).length = xs.length := by
 simp only [List.length_append, List.length_take, List.length_drop]; omega
theorem blr_step {N : Nat} {F : Nat → Nat → Zp p} {s r d : Nat} {ys : List Nat} (hr : r < N) (hs : s + d ≤ N) (hy : ys.length = d) (hF : ∀ k, k < N → (F r k).val = if s ≤ k ∧ k < s + d then ys.getD (k - s) 0 else 0) :
  (blr N F r).take (r * N + s) ++ ys ++ (blr N F r).drop (r * N + s + d) = blr N F (r + 1) := by
 have hfit : r * N + s + ys.length ≤ (blr N F r).length := by
  rw [blr_length, hy]
  have := Nat.mul_le_mul_right N (show r + 1 ≤ N by omega)
  rw [Nat.succ_mul] at this; omega
 subst hy
 refine List.ext_getElem (by rw [length_tad hfit, blr_length, blr_length]) fun t h1 h2 => ?_
 have hN : t < N * N := by rwa [blr_length] at h2
 have hd : ∀ l : List Nat, ∀ h : t < l.length, l[t] = l.getD t 0 := fun l h => by simp [List.getD, List.getElem?_eq_getElem h]
 rw [hd _ h1, hd _ h2, getD_tad hfit]
 unfold blr
 rw [ftab_getD _ _ hN, ftab_getD _ _ hN]
 have hN0 : 0 < N := by omega
 have hdm := Nat.div_add_mod t N
 have hlt := Nat.mod_lt t hN0
 obtain ⟨i, ei⟩ : ∃ i, i = t / N := ⟨_, rfl⟩
 obtain ⟨k, ek⟩ : ∃ k, k = t % N := ⟨_, rfl⟩
 rw [← ei, ← ek] at hdm ⊢
 rw [← ek] at hlt
 rw [Nat.mul_comm] at hdm
 by_cases hir : i = r
 ·subst hir
  rw [if_neg (Nat.lt_irrefl _), if_pos (Nat.lt_succ_self _), hF k hlt]
  by_cases hc : s ≤ k ∧ k < s + ys.length
  ·rw [if_pos (by omega), if_pos hc, show t - (i * N + s) = k - s by omega]
  ·rw [if_neg (by omega), if_neg hc]
 ·rw [if_neg ?_]
  ·by_cases h3 : i < r
   ·rw [if_pos h3, if_pos (by omega)]
   ·rw [if_neg h3, if_neg (by omega)]
  ·intro hc
   rcases Nat.lt_or_gt_of_ne hir with h3 | h3
   ·have := Nat.mul_le_mul_right N (show i + 1 ≤ r by omega)
    rw [Nat.succ_mul] at this; omega
   ·have := Nat.mul_le_mul_right N (show r + 1 ≤ i by omega)
    rw [Nat.succ_mul] at this; omega
end
theorem vs_drop (k : IntKind) (xs : List Nat) (n : Nat) : (vs k xs).drop n = vs k (xs.drop n) := by simp [vs, List.map_drop]
theorem take_tad {α : Type} (cur cs : List α) (o n : Nat) (h : o + cs.length ≤ n) (hn : n ≤ cur.length) : (cur.take o ++ cs ++ cur.drop (o + cs.length)).take n = (cur.take n).take o ++ cs ++ (cur.take n).drop (o + cs.length) := by
 refine List.ext_getElem? fun j => ?_
 simp only [List.getElem?_take, List.getElem?_append, List.length_append, List.length_take, List.getElem?_drop]
 rw [Nat.min_eq_left (show o ≤ cur.length by omega), Nat.min_eq_left hn, Nat.min_eq_left (show o ≤ n by omega)]
 by_cases h1 : j < o
 ·rw [if_pos (by omega), if_pos (by omega), if_pos h1, if_pos (by omega), if_pos h1, if_pos h1, if_pos (by omega)]
  exact (if_pos (by omega)).symm
 ·by_cases h2 : j < o + cs.length
  ·rw [if_pos (by omega), if_pos h2, if_neg h1, if_pos h2, if_neg h1]
  ·by_cases h3 : j < n
   ·rw [if_pos h3, if_neg h2, if_neg h2, if_pos (by omega)]
   ·rw [if_neg h3, if_neg h2, if_neg (by omega)]
theorem cpO {P : Program} {o : Oper} {a : Act} {K : Act → World → Prop} {Q : Exit → Act → World → Prop} (T e : Nat) (hu : P.underlying T = some (.slice e)) (hsz : (P.info? e).map (·.size) = some 1)
  (d s : Operand) (ho : o.op = .call { callee := .builtin .copy, args := #[d, s], argTypes := #[T, T] })
  (w : World) (base g nn cap off dLen dCap : Nat) (xs : List Nat) (hown : Own .u64 e w base (.slice (some ⟨g, 0, none⟩) nn cap) xs)
  (ad : Addr) (m sCap : Nat) (ys : List Nat) (hd : a.eval d = .slice (some ⟨g, off, none⟩) dLen dCap) (hs : a.eval s = .slice (some ad) m sCap) (hl : ys.length = m) (hdl : m ≤ dLen) (hfit : off + m ≤ xs.length)
  (hsrc : ∀ j u, (vs .u64 ys)[j]? = some u → w.cell? (ad.add j) = some u)
  (h : ∀ w', Own .u64 e w' base (.slice (some ⟨g, 0, none⟩) nn cap) (xs.take off ++ ys ++ xs.drop (off + m)) → w.grownBy w' (some g) → K (a.put o.dst (.int .i64 m)) w') : Oper.wp P o a w K Q := by
 have hn : nn = xs.length := by
  rcases hown.shape with ⟨h, _⟩ | ⟨g', cap', h, _⟩ <;> simp at h
  exact h.2.1
 subst hl
 obtain ⟨hlen, hrow⟩ := id hown
 rcases hrow with ⟨h1, -⟩ | ⟨g', cap', cur, h1, hb, hg, hnc, hcm, hcs, htk⟩
 ·simp at h1
 simp only [Value.slice.injEq, Option.some.injEq, Addr.mk.injEq, and_true] at h1
 obtain ⟨rfl, -, rfl⟩ := h1
 rw [Nat.mul_one] at htk hcs hlen
 have hvl : (vs .u64 ys).length = ys.length := vs_length _ _
 have hcl : xs.length ≤ cur.toList.length := by simp; omega
 have hrun := run_copy_row (P := P) w T T o.type e g off dLen dCap ad ys.length sCap cur e (vs .u64 ys) hu hsz hg (by rw [hvl]; exact (Nat.min_eq_left hdl).symm) hsrc (by rw [hvl, hcs]; omega) vs_one
 unfold Oper.wp
 simp [execOp, ho, resolve, invoke, builtin, hd, hs, hrun, Result.andThen]
 rw [hvl]
 have hlt := length_tad (xs := xs) (ys := ys) (o := off) hfit
 refine h _ ⟨?_, .inr ⟨g, cap, _, by rw [hlt, hn], hb, setRow_heap w g cur _ e _ hg, by rw [hlt]; exact hnc, hcm, ?_, ?_⟩⟩ ⟨rfl, rfl, rfl, by simp [World.setRow], fun i hi hne => setRow_other w g i _ (fun h => hne (by rw [h]))⟩
 ·rw [vs_length, Nat.mul_one]
 ·have := length_tad (xs := (List.replicate cur.size 0)) (ys := ys) (o := off) (by simp; omega)
  simp [hvl] at this ⊢; omega
 ·rw [Nat.mul_one, length_tad hfit]
  have h2 := take_tad cur.toList (vs .u64 ys) off xs.length (by rw [hvl]; exact hfit) hcl
  rw [hvl, htk] at h2
  rw [vs_append, vs_append, ← vs_take, ← vs_drop, ← h2, List.append_assoc]
end Go.Proofs.Ytkmfhabgempjiaa
/- Layer 25: Blocks: Frobenius' form of monic polynomials. -/
namespace Go.Proofs.Ytkmfhabgempjiaa
set_option maxHeartbeats 4000000
open Go.RowKit
section
open CR
theorem iv_one {p : Nat} (tr : Trial p) : (1 : Zp p).iv = 1 := by
 have h := Zp.iv_mul tr (Zp.one_ne tr)
 rwa [mul_one] at h
end
theorem Own.cells_from {w : World} {base g n cap : Nat} {xs : List Nat} (h : Own .u64 27 w base (.slice (some ⟨g, 0, none⟩) n cap) xs) (o m : Nat) (hm : o + m ≤ xs.length) (j : Nat) (u : Value) (hj : (vs .u64 ((xs.drop o).take m))[j]? = some u) : w.cell? ((⟨g, o, none⟩ : Addr).add j) = some u := by
 have hl : j < m := by
  have := (List.getElem?_eq_some_iff.1 hj).1; rw [vs_length, List.length_take, List.length_drop] at this; omega
 have e : (⟨g, o, none⟩ : Addr).add j = ⟨g, o + j, none⟩ := by
  unfold Addr.add; split
  ·rename_i h; subst h; rfl
  ·rfl
 rw [e, h.cellAt (o + j) (by omega)]
 unfold vs at hj
 simp only [List.getElem?_map, List.getElem?_take, hl, if_true, List.getElem?_drop, List.getElem?_eq_getElem (show o + j < xs.length by omega), Option.map_some, Option.some.injEq] at hj
 rw [← hj]; simp [List.getD, show o + j < xs.length by omega]
theorem getD_seg {xs : List Nat} {o m t : Nat} (h : t < m) : ((xs.drop o).take m).getD t 0 = xs.getD (o + t) 0 := by
 simp only [List.getD, List.getElem?_take, h, if_true, List.getElem?_drop]
def BlR (p N NN : Nat) (F : Nat → Nat → Zp p) (we wr : World) (gE gM s : Nat) : Prop :=
 Blk 63 wr gM [.int .i64 N, .int .i64 N, .slice (some ⟨gE, 0, none⟩) NN NN] ∧ Own .u64 27 wr gE (.slice (some ⟨gE, 0, none⟩) NN NN) (blr N F s) ∧ Below gE we wr
set_option maxRecDepth 20000 in
theorem fb_Blocks (p N : Nat) (lv : Value) (qs : List (List Nat)) (w : World) (hp : FP p) (tr : Trial p) (hl : Ns w lv qs) (hq : ∀ j, j < qs.length → 1 < (nl p (qs.getD j [])).length ∧ (nl p (qs.getD j [])).getD ((nl p (qs.getD j [])).length - 1) 0 = 1 ∧ (qs.getD j []).length ≤ 60) (hN : bdm (bls p qs) = N) (h64 : N ≤ 64) :
  Calls Try.prog 44 #[.agg #[.int .u64 p], lv] w (RetFE p w N N (MT.of N N (fmE (bls p qs)))) := by
 obtain ⟨M, eM⟩ : ∃ M, M = qs.length := ⟨_, rfl⟩
 obtain ⟨az, cz, rfl⟩ : ∃ az cz, lv = .slice az M cz := by
  obtain ⟨ao, b, off, cap, U, e, -⟩ := hl; rw [eM]; exact ⟨ao, cap, e⟩
 obtain ⟨wb, ew, KF, KR, B0, hsz⟩ := boxes2 w 29 63 [.int .u64 p] [.int .i64 0, .int .i64 0, .slice none 0 0]
 clear hsz
 replace hl := hl.next B0
 obtain ⟨L, eL⟩ : ∃ L, L = bls p qs := ⟨_, rfl⟩
 rw [← eL] at hN ⊢
 have hLM : L.length = M := by rw [eL, eM, bls_length]
 obtain ⟨D, eD⟩ : ∃ D : Nat → Nat, D = fun j => (nl p (qs.getD j [])).length - 1 := ⟨_, rfl⟩
 have hD : ∀ j, j < M → (nl p (qs.getD j [])).length = D j + 1 ∧ (nl p (qs.getD j [])).getD (D j) 0 = 1 ∧ (qs.getD j []).length ≤ 60 ∧ 1 ≤ D j ∧ bdm (L.take (j + 1)) = bdm (L.take j) + D j ∧ bdm (L.take j) + D j ≤ N := fun j hj => by
  obtain ⟨h1, h2, h3⟩ := hq j (by omega)
  have h4 : D j = (nl p (qs.getD j [])).length - 1 := by rw [eD]
  have hjL : j < L.length := by omega
  have h5 : (L[j]).1 = D j := by subst eL; rw [h4]; exact (bls_get qs j hjL).1
  have h6 := bdm_take L j hjL
  have h7 := bdm_le L (j + 1)
  refine ⟨by omega, by rw [h4]; exact h2, h3, by omega, by omega, by omega⟩
 have hF : ∀ j, j < M → ∀ i, i < D j → ∀ k, k < N → fmE L (bdm (L.take j) + i) k = if bdm (L.take j) ≤ k ∧ k < bdm (L.take j) + D j then (cmp p (D j) (nl p (qs.getD j []))).e i (k - bdm (L.take j)) else 0 := fun j hj i hi k hk => by
  have hjL : j < L.length := by omega
  have h5 : (L[j]).1 = D j := by subst eL; rw [eD]; exact (bls_get qs j hjL).1
  have h6 : (L[j]).2.1 = fun i => (pl p (qs.getD j [])).c i := by subst eL; exact (bls_get qs j hjL).2
  rw [fmE_at L j hjL i k (by rw [h5]; exact hi), h5, h6]
  by_cases hc : bdm (L.take j) ≤ k ∧ k < bdm (L.take j) + D j
  ·rw [if_pos hc, if_pos hc, cmp_cmpE (D j) (qs.getD j []) hi (by omega)]
  ·rw [if_neg hc, if_neg hc]
 have hMN : M ≤ N := by
  have := bdm_ge L fun j hj => by
   have h1 := hD j (by omega)
   have h5 : (L[j]).1 = D j := by subst eL; rw [eD]; exact (bls_get qs j hj).1
   omega
  omega
 have hQL : M ≤ qs.length := by omega
 have HNS := Lib.hid hl; have HP := Lib.hid hp; have HT := Lib.hid tr; have HLM := Lib.hid hLM; have HN := Lib.hid hN; have HD := Lib.hid hD; have HF := Lib.hid hF; have HQL := Lib.hid eM
 clear hp tr hl hLM hN hD hF hq eM eL eD hQL
 go_enter Try.func44, Try.ntmps44
 go_upto_region 1 with (fail)
 rw [← ew]
 obtain ⟨g, eg⟩ : ∃ g, g = w.heap.size + 1 := ⟨_, rfl⟩
 rw [← eg] at KR ⊢
 have hgw : w.heap.size ≤ g := by omega
 clear ew eg
 have HKF := Lib.hid KF; have HKR := Lib.hid KR; have HB0 := Lib.hid B0
 have hgb : g < wb.heap.size := KR.lt
 clear KF KR B0
 go_wp2
 go_loopw [6, 22] (fun nv jv wr => ∃ i s : Nat, i ≤ M ∧ jv = .int .i64 i ∧ nv = .int .i64 s ∧ RowKit.Hid (s = bdm (L.take i)) ∧ Below wb.heap.size wb wr) (fun _ jv _ => M - (intOf jv).toNat)
 case atStart => exact ⟨0, 0, by omega, rfl, rfl, Lib.hid rfl, Below.refl _ _⟩
 case round =>
  obtain ⟨i, s, hi, rfl, rfl, HS, B1⟩ := hrel
  by_cases him : i < M
  ·obtain ⟨hd1, hd2, hd3, hd4, hd5, hd6⟩ := HD.out i him
   have nz := HNS.out.next B1
   obtain ⟨az', bz, oz, cz', UZ, ez, -, hz1, hz2⟩ := nz
   simp only [Value.slice.injEq] at ez
   obtain ⟨rfl, -, rfl⟩ := ez
   obtain ⟨rfl, lz⟩ := hz1 (by rw [← HQL.out]; omega)
   obtain ⟨qz, sz, -⟩ := hz2 i (by rw [← HQL.out]; exact him)
   obtain ⟨q, eq⟩ : ∃ q, q = qs.getD i [] := ⟨_, rfl⟩
   rw [← eq] at sz hd1 hd2 hd3
   obtain ⟨ak, ck, euk⟩ : ∃ ao c, UZ i = .slice ao q.length c := by
    obtain ⟨a', b', o', c', e', -⟩ := sz; exact ⟨a', c', e'⟩
   rw [euk] at qz sz
   obtain ⟨z, ez⟩ : ∃ z, z = nl p q := ⟨_, rfl⟩
   rw [← ez] at hd1 hd2
   obtain ⟨d, ed⟩ : ∃ d, d = D i := ⟨_, rfl⟩
   rw [← ed] at hd1 hd2 hd4 hd5 hd6
   have HZ := Lib.hid ez; have HZL := Lib.hid hd1; have HZ1 := Lib.hid hd2; have HS2 := Lib.hid hd5
   have hs64 : s + d ≤ 64 := by have := HS.out; omega
   have hzd : (z.length : Int) - 1 = (d : Int) := by omega
   have KF := HKF.out.next B1
   have f0 := KF.cell 0
   clear hz1 hz2 euk eq ez hd1 hd2 hd5 hd6 ed
   go_wp2_with fail
   refine (fp_Degree p _ q z _ HP.out sz (by omega) HZ.out).mono ?_; rintro e w2 ⟨rfl, b2⟩
   rw [hzd]
   have t1 : decide ((d : Int) < 1) = false := by simp; omega
   have hws : IntKind.i64.wrap ((s : Int) + (d : Int)) = ((s + d : Nat) : Int) := by rw [IntWalk.i64_in _ ⟨by omega, by omega⟩]; omega
   replace KF := KF.next b2; replace sz := sz.next b2
   have B2 := B1.trans (b2.mono B1.size)
   clear f0 qz lz hzd b2 B1
   go_upto_region 7 with (fail)
   have bd := dw w2
   replace KF := KF.next bd; replace sz := sz.next bd
   replace B2 := B2.trans (bd.mono B2.size)
   clear bd
   have zF0 := Lib.hid fun (w : World) (hS : Below (w2.drew).heap.size (w2.drew) w) => (KF.at hS) 0
   refine startL (S := (fun w' => Below (w2.drew).heap.size (w2.drew) w')) (by kernel_rfl) (Below.refl _ _) (fun hHeld => ?_)
   refine tk 0 ?_
   refine tk 1 ?_
   refine tk 2 ?_
   refine tf 3 zF0.out ?_
   refine tk 4 ?_
   refine tf 6 zF0.out ?_
   refine tk 7 ?_
   refine on 5 fun K hK => ?_
   go_simp
   go_at_call 80
   (with_reducible refine (fp_Norm p _ q _ HP.out (sz.next hHeld) (by omega)).mono ?_); rintro e y1 ⟨r1, z1, rfl, o1, n1, v1, l1, c1⟩
   obtain ⟨a1, k1, rfl⟩ := o1.sliced
   obtain rfl : z1 = z := by rw [HZ.out]; exact nl_is HP.out.pos n1 v1
   clear n1 v1 l1
   refine hK.out _ _ (hHeld.trans (c1.mono hHeld.size)) (fun hHeld => ?_)
   clear hK K
   try simp only [Act.put, zq1, zq2, zq3]
   refine on 8 fun K hK => ?_
   go_simp
   go_at_call 98
   (with_reducible refine (fp_Monic p (1 : Zp p).val _ q z1 _ HP.out (sz.next hHeld) (by omega) HZ.out (by rw [HZL.out, Nat.add_sub_cancel, HZ1.out, Zp.of_one, iv_one HT.out])).mono ?_); rintro e y2 ⟨r2, z2, rfl, o2, n2, v2, l2, c2⟩
   obtain ⟨a2, k2, rfl⟩ := o2.sliced
   obtain rfl : z2 = z1 := by
    rw [HZ.out]; refine nl_is HP.out.pos n2 (v2.trans ?_)
    rw [Zp.of_val, show (mon (1 : Zp p) 0 : Pol (Zp p)) = 1 from rfl, CR.mul_one]
   replace o1 := o1.next c2
   clear n2 v2 l2
   refine hK.out _ _ (hHeld.trans (c2.mono hHeld.size)) (fun hHeld => ?_)
   clear hK K
   try simp only [Act.put, zq1, zq2, zq3]
   refine on 9 fun K hK => ?_
   go_simp
   go_at_call 97
   (with_reducible refine (slices_Equal _ _ z2 z2 true _ o1.sl o2.sl (by have := HZL.out; omega) (by have := HZL.out; omega) (by simp)).mono ?_); rintro e y3 ⟨rfl, q4⟩
   refine hK.out _ _ (hHeld.trans ((q4.below _).mono hHeld.size)) (fun hHeld => ?_)
   clear hK K
   try simp only [Act.put, zq1, zq2, zq3]
   refine tk 10 ?_
   refine tk 11 ?_
   clear zF0; refine doneL (by kernel_rfl) ?_ _
   replace B2 := B2.trans (hHeld.mono B2.size)
   clear hHeld KF sz t1
   go_wp2
   go_roundw
   case rel => exact ⟨i + 1, s + d, by omega, by go_num, by go_num, Lib.hid (by rw [HS2.out, ← HS.out]), B2⟩
   case measure => simp [intOf] <;> omega
  ·obtain rfl : M = i := by omega
   obtain rfl : N = s := by
    have h1 := HS.out
    rw [← HLM.out, List.take_length] at h1
    have := HN.out; omega
   have t2 : decide ((64 : Int) < (N : Int)) = false := by simp; omega
   obtain ⟨LF, eLF⟩ : ∃ LF : Nat → List Nat, LF = fun j => tbv (cmp p (D j) (nl p (qs.getD j []))) := ⟨_, rfl⟩
   have HLF := Lib.hid (show ∀ j, LF j = tbv (cmp p (D j) (nl p (qs.getD j []))) from fun j => by rw [eLF])
   clear eLF HS
   go_wp2
   clear t2
   go_loopw [7, 51] (fun av jv wr => ∃ (i : Nat) (S : Nat → Value), i ≤ M ∧ jv = .int .i64 i ∧ Mls wr wb.heap.size av i D D S LF ∧ Below wb.heap.size wb wr) (fun _ jv _ => M - (intOf jv).toNat)
   case atStart => exact ⟨0, _, by omega, rfl, Mls.nil _ _ _ _ (fun _ => .slice none 0 0) _, B1⟩
   case round =>
    clear B1
    obtain ⟨i, S, hi, rfl, ML, B1⟩ := hrel
    by_cases him : i < M
    ·obtain ⟨hd1, hd2, hd3, hd4, hd5, hd6⟩ := HD.out i him
     have hlf := HLF.out i
     have nz := HNS.out.next B1
     obtain ⟨az', bz, oz, cz', UZ, ez, -, hz1, hz2⟩ := nz
     simp only [Value.slice.injEq] at ez
     obtain ⟨rfl, -, rfl⟩ := ez
     obtain ⟨rfl, lz⟩ := hz1 (by rw [← HQL.out]; omega)
     obtain ⟨qz, sz, -⟩ := hz2 i (by rw [← HQL.out]; exact him)
     obtain ⟨q, eq⟩ : ∃ q, q = qs.getD i [] := ⟨_, rfl⟩
     rw [← eq] at sz hd1 hd2 hd3
     obtain ⟨ak, ck, euk⟩ : ∃ ao c, UZ i = .slice ao q.length c := by
      obtain ⟨a', b', o', c', e', -⟩ := sz; exact ⟨a', c', e'⟩
     rw [euk] at qz sz
     obtain ⟨z, ez⟩ : ∃ z, z = nl p q := ⟨_, rfl⟩
     rw [← eq, ← ez] at hlf
     rw [← ez] at hd1 hd2
     obtain ⟨d, ed⟩ : ∃ d, d = D i := ⟨_, rfl⟩
     rw [← ed] at hd1 hd2 hd4 hd5 hd6 hlf
     have KF := HKF.out.next B1
     have f0 := KF.cell 0
     have HED := Lib.hid ed
     have HZ := Lib.hid ez; have HZL := Lib.hid hd1; have HZ1 := Lib.hid hd2
     clear hz1 hz2 euk eq hd5 ed ez hd1 hd2
     go_wp2_with fail
     refine (hs_Companion p _ q z d _ HP.out sz (by omega) HZ.out HZL.out HZ1.out).mono ?_; rintro e w2 ⟨aC, kC, rfl, oC, b2⟩
     rw [← hlf] at oC
     rw [← hlf]
     obtain ⟨xc, exc⟩ : ∃ xc, xc = LF i := ⟨_, rfl⟩
     rw [← exc] at oC ⊢
     have HXC := Lib.hid exc
     obtain ⟨w3, e3, K13, b3, hs3⟩ := boxes1 w2 63 [.int .i64 d, .int .i64 d, .slice aC xc.length kC]
     have hbw := B1.size
     replace ML := (ML.next b2).next b3; replace oC := oC.next b3
     have B2 := B1.trans (b2.mono B1.size)
     replace B2 := B2.trans (b3.mono B2.size)
     clear f0 qz lz KF sz exc hs3 b2 b3 B1 hlf
     go_upto_region 17 with (fail)
     rw [← e3]
     clear e3
     have k0 := K13.cell 0; have k1 := K13.cell 1; have k2 := K13.cell 2
     have hbz := B2.size
     go_upto_region 20 with (at_builtin; refine apSl 125 63 3 40 (.agg #[.int .i64 0, .int .i64 0, .slice none 0 0]) Try.underlying125 (by kernel_rfl) (by decide) rfl (by decide) rfl _ _ rfl w3 wb.heap.size u7 i (rowL (i * 3) (mcs D D S)) [.int .i64 d, .int .i64 d, .slice aC xc.length kC] rfl (by intro u hu; simp at hu; rcases hu with rfl | rfl | rfl <;> rfl) ML.own (by omega) hbz rfl rfl ?_; intro g5 c5 w5 ho5 hb5 hg5 _)
     have ML5 := ML.push hg5 ho5 oC hbw
     have B5 := B2.trans hb5
     have FIN := Lib.hid (ML5.congr (R' := D) (C' := D) (L' := LF) fun j hj => ⟨by
      by_cases e : j = i
      ·rw [if_pos e, e, HED.out]
      ·rw [if_neg e], by
      by_cases e : j = i
      ·rw [if_pos e, e, HED.out]
      ·rw [if_neg e], rfl, by
      by_cases e : j = i
      ·rw [if_pos e, e, HXC.out]
      ·rw [if_neg e]⟩)
     clear ML5 ho5 hb5 hg5 ML oC K13 k0 k1 k2 B2
     go_wp2
     go_roundw
     case rel => exact ⟨i + 1, _, by omega, by go_num, FIN.out, B5⟩
     case measure => simp [intOf] <;> omega
    ·obtain rfl : M = i := by omega
     obtain ⟨NN, eNN⟩ : ∃ NN, NN = N * N := ⟨_, rfl⟩
     have hNN : NN ≤ 4096 := by rw [eNN]; exact Nat.mul_le_mul h64 h64
     have hwN : IntKind.i64.wrap ((N : Int) * (N : Int)) = (NN : Int) := by rw [eNN, ← Int.natCast_mul]; exact IntWalk.i64_in _ ⟨by omega, by omega⟩
     have HNN := Lib.hid eNN
     clear eNN
     obtain ⟨aL, cL, rfl⟩ := ML.shape
     obtain ⟨we, rfl⟩ : ∃ wo : World, wo = wr := ⟨_, rfl⟩
     go_upto_region 22 with (at_make; refine wp_make .u64 41 27 8 Try.underlying41 (by kernel_rfl) (by decide) rfl _ _ rfl .i64 .i64 NN (by omega) _ _ _ rfl rfl (by omega) (by omega) ?_; intro w3 hq hbel hsz)
     obtain ⟨w4, e4, KM, b4, hs4⟩ := boxes1 w3 63 [.int .i64 N, .int .i64 N, .slice (some ⟨we.heap.size, 0, none⟩) NN NN]
     rw [← e4]
     obtain ⟨gE, egE⟩ : ∃ g, g = we.heap.size := ⟨_, rfl⟩
     obtain ⟨gM, egM⟩ : ∃ g, g = w3.heap.size := ⟨_, rfl⟩
     have hEM : gE < gM := by omega
     have hbE : wb.heap.size ≤ gE := by rw [egE]; exact B1.size
     have HGE := Lib.hid egE
     rw [← egE] at hq hbel KM ⊢
     rw [← egM] at KM ⊢
     have st : BlR p N NN (fmE L) we w4 gE gM 0 := ⟨KM, by rw [← blr_zero, ← HNN.out]; exact hq.next b4, hbel.trans (b4.mono (by omega))⟩
     have HML := Lib.hid ML; have HB1 := Lib.hid B1
     clear e4 KM b4 hs4 egE egM hq hbel hsz ML B1 hwN
     go_wp2
     go_loopw [16, 79] (fun sv jv wr => ∃ j s : Nat, j ≤ M ∧ jv = .int .i64 j ∧ sv = .int .i64 s ∧ RowKit.Hid (s = bdm (L.take j)) ∧ BlR p N NN (fmE L) we wr gE gM s) (fun _ jv _ => M - (intOf jv).toNat)
     case atStart => exact ⟨0, 0, by omega, rfl, rfl, Lib.hid rfl, st⟩
     case round =>
      clear st
      obtain ⟨j, s, hj, rfl, rfl, HS, KM, ho, B2⟩ := hrel
      by_cases hjM : j < M
      ·obtain ⟨hd1, hd2, hd3, hd4, hd5, hd6⟩ := HD.out j hjM
       have ML := HML.out.next (by rw [← HGE.out]; exact B2)
       obtain ⟨gc, rfl⟩ : ∃ g, aL = some ⟨g, 0, none⟩ := by
        rcases ML.own.2 with ⟨h1, h2⟩ | ⟨g', c', cur, h1, -⟩
        ·omega
        ·simp only [Value.slice.injEq] at h1; exact ⟨g', h1.1⟩
       obtain ⟨aS, cS, eS, oS⟩ := ML.el j hjM
       obtain ⟨d, ed⟩ : ∃ d, d = D j := ⟨_, rfl⟩
       obtain ⟨xc, exc⟩ : ∃ xc, xc = LF j := ⟨_, rfl⟩
       have hF := HF.out j hjM
       have hlx : xc.length = d * d := by rw [exc, HLF.out j, tbv_length, ed]
       have hxe : ∀ i k, i < d → k < d → xc.getD (i * d + k) 0 = ((cmp p d (nl p (qs.getD j []))).e i k).val := fun i k hi hk => by rw [exc, HLF.out j, ← ed]; exact tbv_get _ hi hk
       obtain ⟨aS', cS', eS', oS'⟩ := HML.out.el j hjM
       have q0 : wr.cell? ⟨gc, j * 3, none⟩ = some (.int .i64 (d : Int)) := by rw [ed]; exact (ML.cells hjM).1
       have q1 : wr.cell? ⟨gc, j * 3 + 1, none⟩ = some (.int .i64 (d : Int)) := by rw [ed]; exact (ML.cells hjM).2.1
       have q2 := (ML.cells hjM).2.2
       rw [← exc] at eS oS
       rw [eS] at q2 oS
       rw [hlx] at q2 oS
       rw [← HS.out, ← ed] at hd5 hd6 hF
       have hdd : d * d ≤ 4096 := Nat.mul_le_mul (show d ≤ 64 by omega) (show d ≤ 64 by omega)
       have hd1 : 1 ≤ d := by omega
       obtain ⟨gS, rfl⟩ : ∃ g, aS = some ⟨g, 0, none⟩ := by
        rcases oS.shape with ⟨h1, h2⟩ | ⟨g', c', h1, -⟩
        ·have := congrArg List.length h2; rw [hlx] at this
         have := Nat.mul_pos hd1 hd1
         simp at *; omega
        ·simp only [Value.slice.injEq] at h1; exact ⟨g', h1.1⟩
       obtain ⟨dd, edd⟩ : ∃ dd, dd = d * d := ⟨_, rfl⟩
       rw [← edd] at q2 oS hdd
       have hos : Own .u64 27 we wb.heap.size (.slice (some ⟨gS, 0, none⟩) dd cS) xc := by rw [← exc, eS, hlx, ← edd] at oS'; exact oS'
       have HOS := Lib.hid hos
       have HF2 := Lib.hid hF; have HLX := Lib.hid hlx; have HXE := Lib.hid hxe; have HDD := Lib.hid edd; have HS2 := Lib.hid hd5
       obtain ⟨w5, e5, K18, b5, hs5⟩ := boxes1 wr 63 [.int .i64 d, .int .i64 d, .slice (some ⟨gS, 0, none⟩) dd cS]
       have hgM5 := KM.lt
       have hMr : gM < wr.heap.size := KM.lt
       replace KM := KM.next b5; replace ho := ho.next b5
       have B3 := B2.trans (b5.mono (by omega))
       clear hd2 hd3 hd4 hd5 hF hlx hxe exc edd ed eS ML B2 b5 hs5 oS oS' eS' hos
       go_upto_region 26 with (fail)
       rw [← e5]
       clear e5 q0 q1 q2
       obtain ⟨g18, eg18⟩ : ∃ g, g = wr.heap.size := ⟨_, rfl⟩
       rw [← eg18] at K18 hMr ⊢
       clear eg18
       have k0 := K18.cell 0
       have st : BlR p N NN (fmE L) we w5 gE gM (s + 0) := ⟨KM, ho, B3⟩
       clear KM ho B3
       go_wp2
       clear k0
       go_loopw [85] (fun iv wr => ∃ i : Nat, i ≤ d ∧ iv = .int .i64 i ∧ BlR p N NN (fmE L) we wr gE gM (s + i) ∧ Blk 63 wr g18 [.int .i64 d, .int .i64 d, .slice (some ⟨gS, 0, none⟩) dd cS]) (fun iv _ => d - (intOf iv).toNat)
       case atStart => exact ⟨0, by omega, rfl, st, K18⟩
       case round =>
        clear st K18
        obtain ⟨i, hi, rfl, ⟨KM, ho, B2⟩, K18⟩ := hrel
        by_cases hid : i < d
        ·have oS := HOS.out.next (by rw [← HGE.out]; exact B2)
         obtain ⟨r, er⟩ : ∃ r, r = s + i := ⟨_, rfl⟩
         rw [← er] at ho
         have hrN : r < N := by omega
         have hrr : r * N + N ≤ NN := by
          have := Nat.mul_le_mul_right N (show r + 1 ≤ N by omega); rw [Nat.succ_mul] at this; rw [HNN.out]; exact this
         obtain ⟨rN, erN⟩ : ∃ x, x = r * N := ⟨_, rfl⟩
         obtain ⟨lo, elo⟩ : ∃ x, x = rN + s := ⟨_, rfl⟩
         have hii : i * d + d ≤ dd := by
          have := Nat.mul_le_mul_right d (show i + 1 ≤ d by omega); rw [Nat.succ_mul] at this; rw [HDD.out]; exact this
         obtain ⟨l1, el1⟩ : ∃ x, x = i * d := ⟨_, rfl⟩
         obtain ⟨l2, el2⟩ : ∃ x, x = (i + 1) * d := ⟨_, rfl⟩
         rw [← el1] at hii
         rw [← erN] at hrr
         have hl2 : l2 = l1 + d := by rw [el2, el1, Nat.succ_mul]
         have hl2' : (i + 1 : Nat) ≤ 64 := by omega
         have a1 : IntKind.i64.wrap ((s : Int) + (i : Int)) = (r : Int) := by rw [er, ← Int.natCast_add]; exact IntWalk.i64_in _ ⟨by omega, by omega⟩
         have a2 : IntKind.i64.wrap ((r : Int) * (N : Int)) = (rN : Int) := by rw [erN, ← Int.natCast_mul]; exact IntWalk.i64_in _ ⟨by omega, by omega⟩
         have a3 : IntKind.i64.wrap ((rN : Int) + (s : Int)) = (lo : Int) := by rw [elo, ← Int.natCast_add]; exact IntWalk.i64_in _ ⟨by omega, by omega⟩
         have a4 : IntKind.i64.wrap ((i : Int) * (d : Int)) = (l1 : Int) := by rw [el1, ← Int.natCast_mul]; exact IntWalk.i64_in _ ⟨by omega, by omega⟩
         obtain ⟨i1, ei1⟩ : ∃ x, x = i + 1 := ⟨_, rfl⟩
         have a5 : IntKind.i64.wrap ((i : Int) + 1) = (i1 : Int) := by rw [IntWalk.i64_in _ ⟨by omega, by omega⟩]; omega
         have a6 : IntKind.i64.wrap ((i1 : Int) * (d : Int)) = (l2 : Int) := by
          have e6 : (i1 : Int) * (d : Int) = (l2 : Int) := by rw [el2, ei1, Int.natCast_mul]
          rw [e6]; exact IntWalk.i64_in _ ⟨by omega, by omega⟩
         have c1 : (lo : Int) ≤ (NN : Int) := by omega
         have c2 : (l2 : Int) ≤ (dd : Int) := by omega
         have c3 : (l1 : Int) ≤ (l2 : Int) := by omega
         have ER := Lib.hid er; have ERN := Lib.hid erN; have ELO := Lib.hid elo; have EL1 := Lib.hid el1; have HL2 := Lib.hid hl2; have EI1 := Lib.hid ei1
         have hlN : lo + d ≤ NN := by omega
         have hcS : dd ≤ cS := by
          rcases oS.2 with ⟨h1, -⟩ | ⟨g', c', cur, h1, -, -, h2, -⟩
          ·simp at h1
          ·simp only [Value.slice.injEq] at h1; have := HLX.out; have := HDD.out; omega
         have n1 : ¬ (NN = lo) := by omega
         have n2 : ¬ (cS = l1) := by omega
         have n3 : l2 ≤ cS := by omega
         have n4 : l1 ≤ l2 := by omega
         have n5 : lo ≤ NN := by omega
         clear er erN elo el1 el2 hl2 ei1
         go_upto_region 29 with (fail)
         have bd := dw wr
         replace KM := KM.next bd; replace ho := ho.next bd; replace K18 := K18.next bd; replace oS := oS.next bd
         replace B2 := B2.trans (bd.mono (by rw [HGE.out]; exact B2.size))
         clear bd
         have zF0 := Lib.hid fun (w : World) (hS : Below (wr.drew).heap.size (wr.drew) w) => And.intro ((KM.at hS) 2) (And.intro ((K18.at hS) 1) ((K18.at hS) 2))
         refine startP (S := (fun w' => Below (wr.drew).heap.size (wr.drew) w')) (by kernel_rfl) _ rfl rfl rfl (by kernel_rfl) (Below.refl _ _) (fun hHeld => ?_)
         refine tk 0 ?_
         refine tf 1 zF0.out ?_
         refine tk 2 ?_
         refine tk 3 ?_
         refine tk 4 ?_
         refine tk 5 ?_
         refine tk 6 ?_
         refine tk 7 ?_
         refine tk 8 ?_
         refine tk 9 ?_
         refine tk 10 ?_
         refine tf 11 zF0.out ?_
         refine tk 12 ?_
         refine tk 13 ?_
         refine tf 14 zF0.out ?_
         refine tk 15 ?_
         refine tk 16 ?_
         refine tk 17 ?_
         refine tk 18 ?_
         refine tf 19 zF0.out ?_
         refine tk 20 ?_
         refine tk 21 ?_
         clear zF0; refine doneL (by kernel_rfl) ?_ _
         refine lastL rfl (by rfl) ?_
         have hld : l2 - l1 = d := by have := HL2.out; omega
         have hyl : ((xc.drop l1).take d).length = d := by rw [List.length_take, List.length_drop]; have := HLX.out; have := HDD.out; omega
         refine cpO 41 27 Try.underlying41 (by kernel_rfl) _ _ rfl wr.drew gE gE NN NN lo (NN - lo) (NN - lo) (blr N (fmE L) r) ho ⟨gS, l1, none⟩ (l2 - l1) (cS - l1) ((xc.drop l1).take d) rfl rfl (by rw [hyl, hld]) (by rw [hld]; omega) (by rw [hld, blr_length, ← HNN.out]; omega) (fun j u hj => oS.cells_from l1 d (by have := HLX.out; have := HDD.out; omega) j u hj) ?_
         intro w6 ho6 hg6
         rw [hld] at ho6 ⊢
         have hstep : (blr N (fmE L) r).take lo ++ (xc.drop l1).take d ++ (blr N (fmE L) r).drop (lo + d) = blr N (fmE L) (r + 1) := by
          have hF9 : ∀ k, k < N → (fmE L r k).val = if s ≤ k ∧ k < s + d then ((xc.drop l1).take d).getD (k - s) 0 else 0 := fun k hk => by
           rw [ER.out, HF2.out i hid k hk]
           by_cases hc : s ≤ k ∧ k < s + d
           ·rw [if_pos hc, if_pos hc, getD_seg (by omega), EL1.out, HXE.out i (k - s) hid (by omega)]
           ·rw [if_neg hc, if_neg hc, Zp.zero_val]
          rw [ELO.out, ERN.out]
          exact blr_step hrN hd6 hyl hF9
         rw [hstep] at ho6
         have KM6 := KM.chg (Chg.grown hg6) (by intro h; simp only [Option.some.injEq] at h; omega)
         have K6 := K18.chg (Chg.grown hg6) (by intro h; simp only [Option.some.injEq] at h; omega)
         have B6 := B2.trans ((Chg.grown hg6).below (B := gE) (fun i _ h => by simp only [Option.some.injEq] at h; omega) (by rw [HGE.out]; exact B2.size))
         have FIN := Lib.hid (show BlR p N NN (fmE L) we w6 gE gM (s + (i + 1)) from ⟨KM6, by rw [show s + (i + 1) = r + 1 by rw [ER.out]; rfl]; exact ho6, B6⟩)
         clear KM6 ho6 B6 hg6 KM K18 ho oS B2 hHeld hstep a1 a2 a3 a4 a5 a6 c1 c2 c3 n1 n2 n3 n4 n5 hld hyl
         go_wp2
         go_roundw
         case rel => exact ⟨i + 1, by omega, by go_num, FIN.out, K6⟩
         case measure => simp [intOf] <;> omega
        ·obtain rfl : d = i := by omega
         have k0 := K18.cell 0
         have hws : IntKind.i64.wrap ((s : Int) + (d : Int)) = ((s + d : Nat) : Int) := by rw [IntWalk.i64_in _ ⟨by omega, by omega⟩]; omega
         go_wp2
         go_roundw
         case rel => exact ⟨j + 1, s + d, by omega, by go_num, by go_num, Lib.hid HS2.out.symm, ⟨KM, ho, B2⟩⟩
         case measure => simp [intOf] <;> omega
      ·obtain rfl : M = j := by omega
       obtain rfl : N = s := by
        have h1 := HS.out
        rw [← HLM.out, List.take_length] at h1
        have := HN.out; omega
       have hlt : (tbv (MT.of N N (fmE L))).length = NN := by rw [tbv_length, HNN.out]
       have B3 : Below wb.heap.size wb wr := HB1.out.trans (B2.mono hbE)
       have KR := HKR.out.next B3
       have BW := HB0.out.trans (B3.mono HB0.out.size)
       have k0 := KM.cell 0; have k1 := KM.cell 1; have k2 := KM.cell 2
       have f0 := KR.free 0; have f1 := KR.free 1; have f2 := KR.free 2
       have r0 := KR.cell 0; have r1 := KR.cell 1; have r2 := KR.cell 2
       have KF := ((KR.set 0 (.int .i64 N)).set 1 (.int .i64 N)).set 2 (.slice (some ⟨gE, 0, none⟩) NN NN)
       have d0 := KF.cell 0; have d1 := KF.cell 1; have d2 := KF.cell 2
       have hgE : g < gE := by omega
       have hof := ((ho.low (a := ⟨g, 0, none⟩) hgE (.int .i64 N)).low (a := ⟨g, 1, none⟩) hgE (.int .i64 N)).low (a := ⟨g, 2, none⟩) hgE (.slice (some ⟨gE, 0, none⟩) NN NN)
       have BF := ((BW.setCell (p := ⟨g, 0, none⟩) hgw (.int .i64 N)).setCell (p := ⟨g, 1, none⟩) hgw (.int .i64 N)).setCell (p := ⟨g, 2, none⟩) hgw (.slice (some ⟨gE, 0, none⟩) NN NN)
       have FR := Lib.hid (show RetFE p w N N (MT.of N N (fmE L)) (.returned (.tuple #[.agg #[.int .i64 N, .int .i64 N, .slice (some ⟨gE, 0, none⟩) NN NN], .int .i64 0])) (((wr.setCell ⟨g, 0, none⟩ (.int .i64 N)).setCell ⟨g, 1, none⟩ (.int .i64 N)).setCell ⟨g, 2, none⟩ (.slice (some ⟨gE, 0, none⟩) NN NN)) from
        ⟨some ⟨gE, 0, none⟩, NN, by rw [hlt], by rw [hlt, ← blr_all]; exact hof.mono (by omega), BF⟩)
       clear KF KR hof BF BW B3 B2 ho hgE hlt KM
       go_wp2
       exact bodyPost_ret (v := .tuple #[.agg #[.int .i64 N, .int .i64 N, .slice (some ⟨gE, 0, none⟩) NN NN], .int .i64 0]) (by simp [results, Try.results44, go_sem, d0, d1, d2]) rfl FR.out
end Go.Proofs.Ytkmfhabgempjiaa
/- Layer 25, plain: the invariants' product and the last one. -/
namespace Go.Proofs.Ytkmfhabgempjiaa
set_option maxHeartbeats 4000000
open Go.RowKit
section
open CR
variable {p n : Nat}
theorem mo_one1 (tr : Trial p) {g : Pol (Zp p)} (h : Mo g) (hl : Ln g 1) : g = 1 := by
 rcases h with rfl | ⟨d, h1, h2⟩
 ·exact absurd rfl hl.ne
 ·obtain rfl : d = 0 := by have := (Mo.ln tr h1 h2).unique hl; omega
  refine Pol.ext fun i => ?_
  rw [Pol.one_def, c_mon]
  by_cases e : i = 0
  ·subst e; rw [if_pos rfl]; exact h2
  ·rw [if_neg e]; exact h1 i (by omega)
theorem awk25 (tr : Trial p) (h5 : Zp.of p 5 = -Zp.of p 2) {U W V : (Nat → Nat → Pol (Zp p))} (h : SmR (XA (mx p 2 2 [2, 0, 0, 2])) U W V) (hoff : ∀ i k, i < 2 → k < 2 → i ≠ k → W i k = 0) (hm : ∀ k, k < 2 → Mo (W k k)) : pks W 2 = [0, 1] ∧ W 0 0 = pl p [5, 1] ∧ W 1 1 = pl p [5, 1] := by
 obtain ⟨hne, hdim⟩ := smith_deg tr h hoff hm
 have hl : Ln (pl p [5, 1]) 2 := Mo.ln tr (n := 1) (fun i hi => pl_dlt p _ i hi) (by rw [pl_c]; exact Zp.of_one p)
 have hmf : Mo (pl p [5, 1]) := Or.inr ⟨1, fun i hi => pl_dlt p _ i hi, by rw [pl_c]; exact Zp.of_one p⟩
 have ex : ∀ i k, i < 2 → k < 2 → (XA (mx p 2 2 [2, 0, 0, 2])).e i k = if i = k then pl p [5, 1] else 0 := fun i k hi hk => by
  unfold XA
  rw [MT.of_e _ hi hk, mx_e _ hi hk]
  by_cases e : i = k
  ·subst e
   rw [if_pos rfl, if_pos rfl]
   have e2 : Zp.of p ([2, 0, 0, 2].getD (i * 2 + i) 0) = Zp.of p 2 := by
    rcases (show i = 0 ∨ i = 1 by omega) with rfl | rfl <;> rfl
   rw [e2, pl_cons', pl_one, mul_one, h5, mon_neg, sub_eq, add_comm]
  ·rw [if_neg e, if_neg e]
   have e2 : [2, 0, 0, 2].getD (i * 2 + k) 0 = 0 := by
    rcases (show (i = 0 ∧ k = 1) ∨ (i = 1 ∧ k = 0) by omega) with ⟨rfl, rfl⟩ | ⟨rfl, rfl⟩ <;> rfl
   rw [e2, Zp.of_zero, mon_zero, sub_zero]
 have hd : ∀ k, k < 2 → Dv (pl p [5, 1]) (W k k) := fun k hk => by
  have e1 := congrArg (fun M : MT (Pol (Zp p)) 2 2 => M.e k k) h.e
  have e2 : W k k = (MT.of 2 2 U * XA (mx p 2 2 [2, 0, 0, 2]) * MT.of 2 2 V).e k k := by
   rw [← MT.of_e (f := W) hk hk]; exact e1
  rw [e2, MT.e_mul]
  refine Dv.sm 2 fun j hj => ?_
  rw [MT.e_mul]
  refine Dv.mul' (Dv.sm 2 fun i hi => ?_) _
  rw [ex i j hi hj]
  split
  ·exact (Dv.refl _).mul _
  ·exact (Dv.zero _).mul _
 have h0 := Dv.len tr (hd 0 (by omega)) (hne 0 (by omega)) hl (pln_ln _)
 have h1 := Dv.len tr (hd 1 (by omega)) (hne 1 (by omega)) hl (pln_ln _)
 have hs := hdim (MT.one 2)
 have hs2 : (pln (W 0 0) - 1) + ((pln (W 1 1) - 1) + 0) = 2 := hs
 have fin : ∀ k, k < 2 → pln (W k k) = 2 → W k k = pl p [5, 1] := fun k hk e => by
  obtain ⟨g, hg⟩ := hd k hk
  rw [mul_comm] at hg
  have hgn : g ≠ 0 := fun e0 => hne k hk (by rw [hg, e0, zero_mul])
  obtain ⟨a, ha⟩ := Ln.exists g
  obtain ⟨b, rfl⟩ := ha.pos hgn
  have h3 := ha.mul tr (m := b) (n := 1) hl
  rw [← hg] at h3
  have h4 := h3.unique (pln_ln _)
  obtain rfl : b = 0 := by omega
  obtain ⟨-, -, h5'⟩ := mo_top tr (hm k hk) (hne k hk)
  have hg1 : g = 1 := by
   refine mo_one1 tr (Or.inr ⟨0, ha.1, ?_⟩) ha
   rw [e, hg, Pol.c_mul] at h5'
   have e7 : sm (1 + 1) (fun s => g.c s * (pl p [5, 1]).c (1 - s)) = g.c 0 := by
    show 0 + g.c 0 * (pl p [5, 1]).c 1 + g.c 1 * (pl p [5, 1]).c 0 = g.c 0
    rw [ha.1 1 (by omega), zero_mul, add_zero, zero_add, pl_c]
    exact (congrArg (g.c 0 * ·) (Zp.of_one p)).trans (mul_one _)
   rw [← e7]; exact h5'
  rw [hg, hg1, one_mul]
 refine ⟨?_, fin 0 (by omega) (by omega), fin 1 (by omega) (by omega)⟩
 rw [pks_succ, if_pos (by omega), pks_succ, if_pos (by omega)]; rfl
end
end Go.Proofs.Ytkmfhabgempjiaa
/- Layer 25, plain: Smith's form of x less a matrix. -/
namespace Go.Proofs.Ytkmfhabgempjiaa
set_option maxHeartbeats 4000000
open Go.RowKit
section
open CR
variable {p n : Nat}
def SmF (A : MT (Zp p) n n) (W U V : (Nat → Nat → Pol (Zp p))) (X : MT (Pol (Zp p)) n n) : Prop := SmR (XA A) U W V ∧ Inv (MT.of n n U) X ∧ (∀ i k, i < n → k < n → i ≠ k → W i k = 0) ∧ (∀ k, k < n → Mo (W k k)) ∧ (∀ i k, i ≤ k → k < n → Dv (W i i) (W k k))
def IvL (n : Nat) (W : (Nat → Nat → Pol (Zp p))) (zz : List (List Nat)) : Prop := zz.length = (pks W n).length ∧ ∀ j, j < (pks W n).length → Nrm p (zz.getD j []) ∧ pl p (zz.getD j []) = W ((pks W n).getD j 0) ((pks W n).getD j 0)
end
end Go.Proofs.Ytkmfhabgempjiaa
/- The reference of chapter 25: lists of polynomials, degrees, the form. -/
namespace Go.Proofs.Ytkmfhabgempjiaa
set_option maxHeartbeats 4000000
open Go.RowKit
section
open CR
variable {p n : Nat}
theorem fmE_cons (x : Prt p n) (l : List (Prt p n)) (i k : Nat) : fmE (x :: l) i k = if i < x.1 ∨ k < x.1 then (if i < x.1 ∧ k < x.1 then cmpE x.1 x.2.1 i k else 0) else fmE l (i - x.1) (k - x.1) := rfl
theorem bls_drop (qs : List (List Nat)) (j : Nat) (h : j < qs.length) : (bls p qs).drop j = ((nl p (qs.getD j [])).length - 1, (fun i => (pl p (qs.getD j [])).c i), 0) :: (bls p qs).drop (j + 1) := by
 have h2 : j < (bls p qs).length := by rwa [bls_length]
 rw [List.drop_eq_getElem_cons h2]
 congr 1
 have e : (bls p qs)[j] = ((nl p qs[j]).length - 1, fun i => (pl p qs[j]).c i, 0) := List.getElem_map ..
 have e2 : qs.getD j [] = qs[j] := by simp only [List.getD, List.getElem?_eq_getElem h, Option.getD_some]
 rw [e, e2]
def MoL (p : Nat) (qs : List (List Nat)) : Prop := ∀ j, j < qs.length → 1 < (nl p (qs.getD j [])).length ∧ (nl p (qs.getD j [])).getD ((nl p (qs.getD j [])).length - 1) 0 = 1 ∧ (qs.getD j []).length ≤ 60
end
theorem Ns.get {w : World} {az : Option Addr} {cz M : Nat} {qs : List (List Nat)} (h : Ns w (.slice az M cz) qs) (hM : M = qs.length) {i : Nat} (hi : i < M) : ∃ b o ak ck, az = some ⟨b, o, none⟩ ∧ b < w.heap.size ∧ w.cell? ⟨b, o + i, none⟩ = some (.slice ak (qs.getD i []).length ck) ∧ Sl .u64 w (.slice ak (qs.getD i []).length ck) (qs.getD i []) := by
 obtain ⟨az', b, o, cz', U, ez, -, hz1, hz2⟩ := h
 simp only [Value.slice.injEq] at ez
 obtain ⟨rfl, -, rfl⟩ := ez
 obtain ⟨rfl, lz⟩ := hz1 (by omega)
 obtain ⟨qz, sz, -⟩ := hz2 i (by omega)
 obtain ⟨ak, ck, eu⟩ : ∃ ao c, U i = .slice ao (qs.getD i []).length c := by
  obtain ⟨a', b', o', c', e', -⟩ := sz; exact ⟨a', c', e'⟩
 rw [eu] at qz sz
 exact ⟨b, o, ak, ck, rfl, lz, qz, sz⟩
theorem Ns.slice {w : World} {v : Value} {qs : List (List Nat)} (h : Ns w v qs) : ∃ az cz, v = .slice az qs.length cz := by
 obtain ⟨ao, b, off, cap, U, e, -⟩ := h; exact ⟨ao, cap, e⟩
set_option maxRecDepth 20000 in
theorem law25_plain (v : Value) (qs : List (List Nat)) (w : World) (h : Ns w v qs) (hm : qs.length ≤ 1000) :
  Calls Try.prog 46 #[v] w (fun e w' => ∃ r, e = .returned r ∧ Ns w' r qs ∧ Below w.heap.size w w') := by
 obtain ⟨M, eM⟩ : ∃ M, M = qs.length := ⟨_, rfl⟩
 obtain ⟨az, cz, rfl⟩ := h.slice
 have hU : ∃ U : Nat → Value, ∀ j, j < M → (∃ b o, az = some ⟨b, o, none⟩ ∧ b < w.heap.size ∧ w.cell? ⟨b, o + j, none⟩ = some (U j)) ∧ Sl .u64 w (U j) (qs.getD j []) ∧ wf W64 (qs.getD j []) ∧ (U j).oneCell' = true := by
  obtain ⟨az', b, o, cz', U, ez, -, hz1, hz2⟩ := h
  simp only [Value.slice.injEq] at ez
  obtain ⟨rfl, -, rfl⟩ := ez
  refine ⟨U, fun j hj => ?_⟩
  obtain ⟨k1, k2⟩ := hz1 (by omega)
  obtain ⟨q1, q2, q3⟩ := hz2 j (by omega)
  refine ⟨⟨b, o, k1, k2, q1⟩, q2, q3, ?_⟩
  obtain ⟨a', b', o', c', e', -⟩ := q2
  rw [e']; rfl
 obtain ⟨U, hU⟩ := hU
 rw [← eM] at h hm ⊢
 have HU := Lib.hid hU; have HM := Lib.hid eM; clear hU h eM
 go_enter Try.func46, Try.ntmps46
 go_wp2
 go_loopw [3, 4] (fun rv jv wr => ∃ i : Nat, i ≤ M ∧ jv = .int .i64 i ∧ wr.ownsRow w.heap.size 41 1 rv i (rowL i U) ∧ Below w.heap.size w wr) (fun _ jv _ => M - (intOf jv).toNat)
 case atStart => exact ⟨0, by omega, rfl, World.ownsRow_nil _ _ _ _, Below.refl _ _⟩
 case round =>
  obtain ⟨i, hi, rfl, ho, B⟩ := hrel
  by_cases him : i < M
  ·obtain ⟨⟨b, o, rfl, lb, q1⟩, s1, -, h1⟩ := HU.out i him
   have q2 := (B.cell (p := ⟨b, o + i, none⟩) lb).trans q1
   obtain ⟨ua, uc, eu⟩ : ∃ ua uc, U i = .slice ua (qs.getD i []).length uc := by
    obtain ⟨a', b', o', c', e', -⟩ := s1; exact ⟨a', c', e'⟩
   obtain ⟨un, eun⟩ : ∃ un, un = (qs.getD i []).length := ⟨_, rfl⟩
   rw [← eun] at eu
   rw [eu] at q2
   have HEU := Lib.hid eu
   have hbz := B.size
   clear q1 lb s1 h1 eun eu
   go_wp2_with (at_builtin; refine apVl 68 41 24 (.slice none 0 0) Try.underlying68 (by kernel_rfl) (by decide) rfl rfl _ _ rfl wr w.heap.size u3 i (rowL i U) (.slice ua un uc) rfl ho (by omega) hbz rfl rfl ?_; intro g9 cap9 w9 ho9 hb9 hg9 _)
   have B9 := B.trans hb9
   rw [← HEU.out, ← rowL_snoc] at ho9
   clear ho hb9 hg9 q2 B
   go_roundw
   case rel => exact ⟨i + 1, by omega, by go_num, ho9, B9⟩
   case measure => simp [intOf] <;> omega
  ·obtain rfl : M = i := by omega
   obtain ⟨ao, c, rfl⟩ := rowOwn_slc ho
   have FIN := Lib.hid (show Ns wr (.slice ao M c) qs from by
    rcases ho.2 with ⟨e1, e2⟩ | ⟨g, cap, cur, e1, hb, hg, hnc, hcm, hcs, htk⟩
    ·simp only [Value.slice.injEq] at e1
     refine ⟨ao, 0, 0, c, U, by rw [← HM.out], by rw [← HM.out]; omega, fun h => absurd h (by rw [← HM.out]; omega), fun j hj => absurd hj (by rw [← HM.out]; omega)⟩
    ·have e1' := e1
     simp only [Value.slice.injEq] at e1'
     obtain ⟨rfl, -, rfl⟩ := e1'
     refine ⟨_, g, 0, c, U, by rw [← HM.out], by rw [← HM.out]; exact hnc, fun _ => ⟨rfl, (Array.getElem?_eq_some_iff.1 hg).1⟩, fun j hj => ?_⟩
     have hjM : j < M := by rw [HM.out]; exact hj
     obtain ⟨-, s1, s2, -⟩ := HU.out j hjM
     refine ⟨?_, s1.next B, s2⟩
     rw [Nat.zero_add, World.ownsRow.cellAt ho j (by omega), rowL_get hjM])
   clear ho
   go_wp2
   go_ret
   exact ⟨_, rfl, FIN.out, B⟩
set_option maxRecDepth 20000 in
theorem rf25_Degrees (p : Nat) (v : Value) (qs : List (List Nat)) (N : Nat) (w : World) (hp : FP p) (h : Ns w v qs) (hq : MoL p qs) (hN : bdm (bls p qs) = N) (h64 : N ≤ 64) :
  Calls Try.prog 45 #[v, .int .u64 p] w (RetW w (.tuple #[.int .i64 N, .bool true])) := by
 obtain ⟨M, eM⟩ : ∃ M, M = qs.length := ⟨_, rfl⟩
 obtain ⟨az, cz, rfl⟩ := h.slice
 obtain ⟨L, eL⟩ : ∃ L, L = bls p qs := ⟨_, rfl⟩
 rw [← eL] at hN
 have hLM : L.length = M := by rw [eL, eM, bls_length]
 have hD : ∀ j, j < M → 1 < (nl p (qs.getD j [])).length ∧ (nl p (qs.getD j [])).getD ((nl p (qs.getD j [])).length - 1) 0 = 1 ∧ (qs.getD j []).length ≤ 60 ∧ bdm (L.take (j + 1)) = bdm (L.take j) + ((nl p (qs.getD j [])).length - 1) ∧ bdm (L.take (j + 1)) ≤ N := fun j hj => by
  obtain ⟨h1, h2, h3⟩ := hq j (by omega)
  have hjL : j < L.length := by omega
  have h5 : (L[j]).1 = (nl p (qs.getD j [])).length - 1 := by subst eL; exact (bls_get qs j hjL).1
  have h6 := bdm_take L j hjL
  have h7 := bdm_le L (j + 1)
  exact ⟨h1, h2, h3, by omega, by omega⟩
 have hMN : M ≤ N := by
  have := bdm_ge L fun j hj => by
   have h1 := hD j (by omega)
   have h5 : (L[j]).1 = (nl p (qs.getD j [])).length - 1 := by subst eL; exact (bls_get qs j hj).1
   omega
  omega
 rw [← eM] at h ⊢
 have HNS := Lib.hid h; have HP := Lib.hid hp; have HLM := Lib.hid hLM; have HN := Lib.hid hN; have HD := Lib.hid hD; have HM := Lib.hid eM
 clear h hp hLM hN hD hq eM eL
 go_enter Try.func45, Try.ntmps45
 go_wp2
 go_loopw [6, 7, 8] (fun nv bv jv wr => ∃ i s : Nat, i ≤ M ∧ jv = .int .i64 i ∧ nv = .int .i64 s ∧ bv = .bool true ∧ RowKit.Hid (s = bdm (L.take i)) ∧ Below w.heap.size w wr) (fun _ _ jv _ => M - (intOf jv).toNat)
 case atStart => exact ⟨0, 0, by omega, rfl, rfl, rfl, Lib.hid rfl, Below.refl _ _⟩
 case round =>
  obtain ⟨i, s, hi, rfl, rfl, rfl, HS, B⟩ := hrel
  by_cases him : i < M
  ·obtain ⟨b, o, ak, ck, rfl, lb, qz, sz⟩ := (HNS.out.next B).get HM.out him
   obtain ⟨hd1, hd2, hd3, hd4, hd5⟩ := HD.out i him
   obtain ⟨q, eq⟩ : ∃ q, q = qs.getD i [] := ⟨_, rfl⟩
   rw [← eq] at qz sz hd1 hd2 hd3 hd4
   clear eq
   go_wp2_with fail
   refine (ref9_Norm p _ q _ HP.out sz (by omega)).mono ?_; rintro e w2 ⟨r2, z, rfl, o2, n2, v2, l2, b2⟩
   obtain rfl : z = nl p q := nl_is HP.out.pos n2 v2
   obtain ⟨z, ez⟩ : ∃ z, z = nl p q := ⟨_, rfl⟩
   rw [← ez] at o2 hd1 hd2 hd4 l2
   obtain ⟨a2, c2, rfl⟩ := o2.sliced
   obtain ⟨d, ed⟩ : ∃ d, z.length = d + 1 := ⟨z.length - 1, by omega⟩
   have hs64 : s + d ≤ 64 := by have := HS.out; omega
   have hz1 : IntKind.i64.wrap ((z.length : Int) - 1) = (d : Int) := by rw [IntWalk.i64_in _ ⟨by omega, by omega⟩]; omega
   have hz2 : IntKind.i64.wrap ((s : Int) + (d : Int)) = ((s + d : Nat) : Int) := by rw [IntWalk.i64_in _ ⟨by omega, by omega⟩]; omega
   have t1 : decide ((1 : Int) < (z.length : Int)) = true := by simp; omega
   have HS2 := Lib.hid (show s + d = bdm (L.take (i + 1)) by rw [hd4, HS.out]; omega)
   have B2 := B.trans (b2.mono B.size)
   have hmo := ref9_Monic (.slice a2 z.length c2) z true w2 o2.sl (by omega) (decide_eq_true (.inr hd2)).symm
   have HMO := Lib.hid hmo
   clear qz sz n2 v2 hmo ez hd4 hd5 hd2 o2 b2 B lb ed
   go_wp2_with fail
   refine HMO.out.mono ?_; rintro e w3 ⟨rfl, rfl⟩
   clear HMO t1 hz1 
   go_wp2
   go_roundw
   case rel => exact ⟨i + 1, s + d, by omega, by go_num, by go_num, rfl, HS2, B2⟩
   case measure => simp [intOf] <;> omega
  ·obtain rfl : M = i := by omega
   obtain rfl : N = s := by
    have h1 := HS.out
    rw [← HLM.out, List.take_length] at h1
    have := HN.out; omega
   go_wp2
   exact bodyPost_ret (v := .tuple #[.int .i64 N, .bool true]) (by simp [results, Try.results45, go_sem]) rfl ⟨rfl, B⟩
set_option maxRecDepth 20000 in
theorem rf25_inside (p : Nat) (v : Value) (q z : List Nat) (d i k : Nat) (x : Nat) (w : World) (hp : FP p) (hv : Sl .u64 w v z) (hz : z = nl p q) (hd : z.length = d + 1) (hd2 : d ≤ 64) (hi : i ≤ 1000) (hk : k ≤ 1000) (hx : x = (if i < d ∧ k < d then cmpE d (fun i => (pl p q).c i) i k else (0 : Zp p)).val) :
  Calls Try.prog 139 #[v, .int .i64 i, .int .i64 k, .int .u64 p] w (RetW w (.int .u64 (x : Nat))) := by
 obtain ⟨ao, b, off, cap, rfl, hcap, hc⟩ := hv
 have hp1 := hp.1; have hp2 := hp.2
 have hz1 : ¬ p = 0 := by omega
 have hz2 : ¬ (p : Int) = 0 := by omega
 have hz0 : ((p : Int) == 0) = false := by simpa using (show p ≠ 0 by omega)
 obtain ⟨m, em⟩ : ∃ m, m = z.length := ⟨_, rfl⟩
 rw [← em] at hcap ⊢
 have hmd : m = d + 1 := by omega
 have s1 : IntKind.i64.wrap ((m : Int) - 1) = (d : Int) := by rw [IntWalk.i64_in _ ⟨by omega, by omega⟩]; omega
 have s2 : IntKind.i64.wrap ((k : Int) + 1) = (k : Int) + 1 := IntWalk.i64_in _ ⟨by omega, by omega⟩
 have s3 : IntKind.i64.wrap ((d : Int) - 1) = (d : Int) - 1 := IntWalk.i64_in _ ⟨by omega, by omega⟩
 have HP := Lib.hid hp
 by_cases h1 : i < d
 ·have t1 : decide ((d : Int) ≤ (i : Int)) = false := by simp; omega
  by_cases h2 : k < d
  ·have t2 : decide ((d : Int) ≤ (k : Int)) = false := by simp; omega
   rw [if_pos ⟨h1, h2⟩] at hx
   have hq : i < z.length := by omega
   obtain rfl := hc.ao (by intro h; rw [h] at hq; simp at hq)
   have qx := hc.cell i hq
   obtain ⟨y, ey⟩ : ∃ y, y = z.getD i 0 := ⟨_, rfl⟩
   rw [← ey] at qx
   have hyp : y < p := by rw [ey, hz]; exact wf_getD (nl_nrm hp.pos q).1 hp.pos _
   have hyc : (pl p q).c i = Zp.of p y := by rw [ey, hz, ← pl_c, nl_pl]
   by_cases h3 : k + 1 = d
   ·have h4 : i ≠ k + 1 := by omega
    have t3 : ((i : Int) == (k : Int) + 1) = false := by simp; omega
    have t4 : ((k : Int) == (d : Int) - 1) = true := by simp; omega
    have e1 : IntKind.u64.wrap (p : Int) = (p : Int) := wrap_u64 _ (by omega)
    have e1' : IntKind.u64.wrap (0 + (p : Int)) = (p : Int) := by rw [Int.zero_add]; exact e1
    obtain ⟨u, eu⟩ : ∃ u, u = p - y := ⟨_, rfl⟩
    have e2 : IntKind.u64.wrap ((p : Int) - (y : Int)) = (u : Int) := by
     rw [show (p : Int) - (y : Int) = (u : Int) by omega]; exact wrap_u64 _ (by omega)
    have hxx : x = u % p := by
     rw [hx]; unfold cmpE
     rw [if_neg h4, if_pos h3, CR.zero_add]
     show (-((pl p q).c i)).val = _
     rw [hyc, eu]
     rw [Zp.neg_val, Zp.val_of, show p - 1 + 1 = p by omega, Nat.mod_eq_of_lt hyp]
    have e3 : (u : Int).tmod (p : Int) = (x : Int) := by rw [hxx]; rfl
    have e4 : (u : Int) % (p : Int) = (x : Int) := by rw [hxx]; rfl
    clear hx hxx hyc eu ey hc hz em hd
    go_enter Try.func139, Try.ntmps139
    go_wp2
    go_ret
    exact ⟨rfl, Below.refl _ _⟩
   ·have t4 : ((k : Int) == (d : Int) - 1) = false := by simp; omega
    by_cases h4 : i = k + 1
    ·have t3 : ((i : Int) == (k : Int) + 1) = true := by simp; omega
     have hxx : x = 1 := by
      rw [hx]; unfold cmpE
      rw [if_pos h4, if_neg h3, CR.add_zero, ← Zp.of_one, Zp.val_of, Nat.mod_eq_of_lt (by omega)]
     subst hxx
     clear hx hyc ey hc hz em hd qx
     go_enter Try.func139, Try.ntmps139
     go_wp2
     go_ret
     exact ⟨rfl, Below.refl _ _⟩
    ·have t3 : ((i : Int) == (k : Int) + 1) = false := by simp; omega
     have hxx : x = 0 := by
      rw [hx]; unfold cmpE
      rw [if_neg h4, if_neg h3, CR.add_zero, Zp.zero_val]
     subst hxx
     clear hx hyc ey hc hz em hd qx
     go_enter Try.func139, Try.ntmps139
     go_wp2
     go_ret
     exact ⟨rfl, Below.refl _ _⟩
  ·have t2 : decide ((d : Int) ≤ (k : Int)) = true := by simp; omega
   rw [if_neg (fun h => h2 h.2), Zp.zero_val] at hx
   subst hx
   clear hc hz em hd
   go_enter Try.func139, Try.ntmps139
   go_wp2
   go_ret
   exact ⟨rfl, Below.refl _ _⟩
 ·have t1 : decide ((d : Int) ≤ (i : Int)) = true := by simp; omega
  rw [if_neg (fun h => h1 h.1), Zp.zero_val] at hx
  subst hx
  clear hc hz em hd
  go_enter Try.func139, Try.ntmps139
  go_wp2
  go_ret
  exact ⟨rfl, Below.refl _ _⟩
set_option maxRecDepth 20000 in
theorem rf25_At (p : Nat) (v : Value) (qs : List (List Nat)) (i k x : Nat) (w : World) (hp : FP p) (h : Ns w v qs) (hq : MoL p qs) (hm : qs.length ≤ 1000) (hi : i ≤ 1000) (hk : k ≤ 1000) (hx : x = (fmE (bls p qs) i k).val) :
  Calls Try.prog 100 #[v, .int .i64 i, .int .i64 k, .int .u64 p] w (RetW w (.int .u64 (x : Nat))) := by
 obtain ⟨M, eM⟩ : ∃ M, M = qs.length := ⟨_, rfl⟩
 obtain ⟨az, cz, rfl⟩ := h.slice
 rw [← eM] at h hm ⊢
 have HNS := Lib.hid h; have HP := Lib.hid hp; have HM := Lib.hid eM; have HQ := Lib.hid hq; have HX := Lib.hid hx
 clear h hp eM hq hx
 go_enter Try.func100, Try.ntmps100
 go_wp2
 go_loopw [1, 2, 9] (fun iv kv jv wr => ∃ j i' k' : Nat, j ≤ M ∧ jv = .int .i64 j ∧ iv = .int .i64 i' ∧ kv = .int .i64 k' ∧ i' ≤ 1000 ∧ k' ≤ 1000 ∧ RowKit.Hid (x = (fmE ((bls p qs).drop j) i' k').val) ∧ Below w.heap.size w wr) (fun _ _ jv _ => M - (intOf jv).toNat)
 case atStart => exact ⟨0, i, k, by omega, rfl, rfl, rfl, hi, hk, HX, Below.refl _ _⟩
 case round =>
  obtain ⟨j, i', k', hj, rfl, rfl, rfl, hi', hk', HX2, B⟩ := hrel
  by_cases hjM : j < M
  ·obtain ⟨b, o, ak, ck, rfl, lb, qz, sz⟩ := (HNS.out.next B).get HM.out hjM
   obtain ⟨hd1, -, hd3⟩ := HQ.out j (by rw [← HM.out]; exact hjM)
   have hdr := bls_drop (p := p) qs j (by rw [← HM.out]; exact hjM)
   obtain ⟨q, eq⟩ : ∃ q, q = qs.getD j [] := ⟨_, rfl⟩
   rw [← eq] at qz sz hd1 hd3 hdr
   obtain ⟨d, ed⟩ : ∃ d, d = (nl p q).length - 1 := ⟨_, rfl⟩
   have hx3 := HX2.out
   rw [hdr, fmE_cons] at hx3
   simp only [← ed] at hx3
   have HX3 := Lib.hid hx3
   clear eq HX2 hdr hx3
   go_wp2_with fail
   refine (ref9_Norm p _ q _ HP.out sz (by omega)).mono ?_; rintro e w2 ⟨r2, z, rfl, o2, n2, v2, l2, b2⟩
   have hzq : z = nl p q := nl_is HP.out.pos n2 v2
   have hzd : z.length = d + 1 := by rw [hzq]; omega
   have HZQ := Lib.hid hzq; have HZD := Lib.hid hzd
   obtain ⟨a2, c2, rfl⟩ := o2.sliced
   have hd64 : d ≤ 64 := by omega
   have hz1 : IntKind.i64.wrap ((z.length : Int) - 1) = (d : Int) := by rw [IntWalk.i64_in _ ⟨by omega, by omega⟩]; omega
   have B2 := B.trans (b2.mono B.size)
   have s2 := o2.sl
   clear qz sz n2 v2 hzq ed o2 b2 B lb hd1 hzd l2 hd3
   by_cases hc : i' < d ∨ k' < d
   ·have hx4 := HX3.out
    rw [if_pos hc] at hx4
    have HX4 := Lib.hid hx4
    clear hx4
    rcases Decidable.em (i' < d) with h1 | h1
    ·have t1 : decide ((i' : Int) < (d : Int)) = true := by simp; omega
     go_wp2_with fail
     refine (rf25_inside p _ q z d i' k' x _ HP.out s2 HZQ.out HZD.out hd64 hi' hk' HX4.out).mono ?_; rintro e w3 ⟨rfl, b3⟩
     have B3 := B2.trans (b3.mono B2.size)
     clear s2 t1 B2 b3 hz1
     go_wp2
     go_ret
     exact ⟨rfl, B3⟩
    ·have h2 : k' < d := by omega
     have t1 : decide ((i' : Int) < (d : Int)) = false := by simp; omega
     have t2 : decide ((k' : Int) < (d : Int)) = true := by simp; omega
     go_wp2_with fail
     refine (rf25_inside p _ q z d i' k' x _ HP.out s2 HZQ.out HZD.out hd64 hi' hk' HX4.out).mono ?_; rintro e w3 ⟨rfl, b3⟩
     have B3 := B2.trans (b3.mono B2.size)
     clear s2 t1 t2 B2 b3 hz1
     go_wp2
     go_ret
     exact ⟨rfl, B3⟩
   ·have hx4 := HX3.out
    rw [if_neg hc] at hx4
    have HX4 := Lib.hid hx4
    clear hx4
    have t1 : decide ((i' : Int) < (d : Int)) = false := by simp; omega
    have t2 : decide ((k' : Int) < (d : Int)) = false := by simp; omega
    obtain ⟨i2, ei2⟩ : ∃ y, y = i' - d := ⟨_, rfl⟩
    obtain ⟨k2, ek2⟩ : ∃ y, y = k' - d := ⟨_, rfl⟩
    rw [← ei2, ← ek2] at HX4
    have u1 : IntKind.i64.wrap ((i' : Int) - (d : Int)) = (i2 : Int) := by rw [IntWalk.i64_in _ ⟨by omega, by omega⟩]; omega
    have u2 : IntKind.i64.wrap ((k' : Int) - (d : Int)) = (k2 : Int) := by rw [IntWalk.i64_in _ ⟨by omega, by omega⟩]; omega
    have hi2 : i2 ≤ 1000 := by omega
    have hk2 : k2 ≤ 1000 := by omega
    clear ei2 ek2 s2
    go_wp2
    go_roundw
    case rel => exact ⟨j + 1, i2, k2, by omega, by go_num, rfl, rfl, hi2, hk2, HX4, B2⟩
    case measure => simp [intOf] <;> omega
  ·obtain rfl : M = j := by omega
   have hx0 : x = 0 := by
    have h1 := HX2.out
    rw [List.drop_eq_nil_of_le (by rw [bls_length, HM.out]; exact Nat.le_refl _)] at h1
    rw [h1]; exact Zp.zero_val _
   subst hx0
   go_wp2
   go_ret
   exact ⟨rfl, B⟩
def RfR (wb wr : World) (g N : Nat) (T : Nat → Nat → Nat) (n : Nat) : Prop := ∃ ao m k, Blk 63 wr (g + 1) [.int .i64 N, .int .i64 N, .slice ao m k] ∧ Own .u64 27 wr (g + 1 + 1) (.slice ao m k) (ftab N T n) ∧ Below (g + 1) wb wr
set_option maxRecDepth 20000 in
theorem rf25_Form (p : Nat) (v : Value) (qs : List (List Nat)) (N : Nat) (w : World) (hp : FP p) (h : Ns w v qs) (hq : MoL p qs) (hm : qs.length ≤ 1000) (h64 : N ≤ 64) :
  Calls Try.prog 49 #[v, .int .i64 N, .int .u64 p] w (RetFm p w N N (MT.of N N (fmE (bls p qs)))) := by
 obtain ⟨wb, ew, KR, KT, B0, hsz⟩ := boxes2 w 63 63 [.int .i64 0, .int .i64 0, .slice none 0 0] [.int .i64 N, .int .i64 N, .slice none 0 0]
 obtain ⟨az, cz, rfl⟩ := h.slice
 obtain ⟨T, eT⟩ : ∃ T : Nat → Nat → Nat, T = fun i k => (fmE (bls p qs) i k).val := ⟨_, rfl⟩
 have hTT : ftab N T (N * N) = tbv (MT.of N N (fmE (bls p qs))) := by
  unfold tbv; exact ftab_congr fun i k hi hk => by rw [eT, MT.of_e _ hi hk]
 have HTT := Lib.hid hTT; have HT := Lib.hid eT
 obtain ⟨M, eM⟩ : ∃ M, M = qs.length := ⟨_, rfl⟩
 rw [← eM] at h hm ⊢
 have hNS := h
 have HNS := Lib.hid hNS; have HP := Lib.hid hp; have HQ := Lib.hid hq; have HM := Lib.hid eM
 obtain ⟨Q, eQ⟩ : ∃ Q, Q = (MT.of N N (fmE (bls p qs)) : MT (Zp p) N N) := ⟨_, rfl⟩
 rw [← eQ] at HTT ⊢
 have hlQ : (tbv Q).length = N * N := tbv_length Q
 have HLQ := Lib.hid hlQ
 clear hTT eT h hNS hp hq eM eQ hlQ
 go_enter Try.func49, Try.ntmps49
 go_upto_region 2 with (fail)
 rw [← ew]
 obtain ⟨g, eg⟩ : ∃ g, g = w.heap.size := ⟨_, rfl⟩
 rw [← eg] at KR KT hsz ⊢
 have hgw : w.heap.size ≤ g := by omega
 have hgw2 : g ≤ w.heap.size := by omega
 clear ew eg
 have st : RfR wb wb g N T (0 * N) := ⟨_, _, _, KT, by rw [Nat.zero_mul]; exact Own.nil _ _ _ _, Below.refl _ _⟩
 have HKR := Lib.hid KR; have HB0 := Lib.hid B0
 have hwb : wb.heap.size = g + 1 + 1 := hsz
 have HWB := Lib.hid hwb
 clear KR KT B0 hsz hwb
 go_wp2
 go_loopw [8] (fun iv wr => ∃ i : Nat, i ≤ N ∧ iv = .int .i64 i ∧ RfR wb wr g N T (i * N)) (fun iv _ => N - (intOf iv).toNat)
 case atStart => exact ⟨0, by omega, rfl, st⟩
 case round =>
  clear st
  obtain ⟨i, hi, rfl, st⟩ := hrel
  by_cases hin : i < N
  ·go_wp2
   go_loopw [9] (fun kv wr => ∃ k : Nat, k ≤ N ∧ kv = .int .i64 k ∧ RfR wb wr g N T (i * N + k)) (fun kv _ => N - (intOf kv).toNat)
   case atStart => exact ⟨0, by omega, rfl, st⟩
   case round =>
    clear st
    obtain ⟨k, hk, rfl, st⟩ := hrel
    by_cases hkn : k < N
    ·obtain ⟨ao, mm, kk, KT, ho, B2⟩ := st
     go_upto_region 8 with (fail)
     have bd := dw wr
     have hgx : g + 1 + 1 ≤ wr.drew.heap.size := by have : g + 1 < wr.heap.size := KT.lt; exact this
     replace KT := KT.next bd; replace ho := ho.next bd
     replace B2 := B2.trans (bd.mono (show g + 1 ≤ wr.heap.size from Nat.le_of_lt (by have : g + 1 < wr.drew.heap.size := KT.lt; exact this)))
     clear bd
     have BW := HB0.out.trans (B2.mono (show w.heap.size ≤ g + 1 by omega))
     obtain ⟨x, ex⟩ : ∃ x, x = T i k := ⟨_, rfl⟩
     have hxx : x = (fmE (bls p qs) i k).val := by rw [ex, HT.out]
     have hat := Lib.hid (show ∀ w', Below wr.drew.heap.size wr.drew w' → Calls Try.prog 100 #[.slice az M cz, .int .i64 i, .int .i64 k, .int .u64 p] w' (RetW w' (.int .u64 (x : Nat))) from fun w' hb => rf25_At p _ qs i k x w' HP.out (HNS.out.next (BW.trans (hb.mono BW.size))) HQ.out (by rw [← HM.out]; exact hm) (by omega) (by omega) hxx)
     have hrow := Lib.hid (show ftab N T (i * N + k) ++ [x] = ftab N T (i * N + (k + 1)) from by rw [ex]; exact (ftab_at T hkn).symm)
     have hlen := Lib.hid (ftab_length N T (i * N + k))
     have hik : i * N ≤ 64 * 64 := Nat.mul_le_mul (by omega) h64
     clear ex hxx
     refine startP (S := (fun w' => Below (g + 1 + 1) wr.drew w')) (by kernel_rfl) _ rfl rfl rfl (by kernel_rfl) (Below.refl _ _) (fun hHeld => ?_)
     refine tk 0 ?_
     refine tg 1 rfl (fun w hS => by have fb := (KT.below hS (Nat.lt_succ_self _)).cell; have f4 := fb 2; clear fb; go_simp <;> with_reducible rfl) ?_
     refine tk 2 ?_
     refine tk 3 ?_
     refine tk 4 ?_
     refine tk 5 ?_
     refine on 6 fun K hK => ?_
     go_simp
     go_at_call 100
     (refine (hat.out _ (Below.refl _ _)).mono ?_); rintro e w5 ⟨rfl, b5⟩
     refine hK.out _ _ (hHeld.trans (b5.mono (Nat.le_trans hgx hHeld.size))) (fun hHeld => ?_)
     clear hK K
     try simp only [Act.put, zq1, zq2, zq3]
     refine on 7 fun K hK => ?_
     go_simp
     have hd := hHeld
     refine hK.out _ _ (hHeld.alloc (Nat.le_trans hgx hHeld.size) _) (fun hHeld => ?_)
     clear hK K
     try simp only [Act.put, zq1, zq2, zq3]
     refine on 8 fun K hK => ?_
     refine ap2 (ops := #[]) .u64 41 27 8 Try.underlying41 (by kernel_rfl) (by decide) rfl _ _ rfl w5 (g + 1 + 1) (.slice ao mm kk) (ftab N T (i * N + k)) x _ (by rfl) (ho.next b5) (by rw [hlen.out]; omega) (Nat.le_trans hgx hd.size) rfl rfl ?_
     intro gg cap1 wz hown' hbel'
     refine hK.out _ _ (hd.trans hbel') (fun hHeld => ?_)
     clear hK K
     try simp only [Act.put, zq1, zq2, zq3]
     refine tk 9 ?_
     refine doneL (by kernel_rfl) ?_ _
     refine lastL rfl (by rfl) ?_
     have KT2 := KT.below hHeld (Nat.lt_succ_self _)
     have q2 := KT2.cell 2; have qz := KT2.free 2
     have B3 := (B2.trans (hHeld.mono (by omega))).setCell (p := ⟨g + 1, 2, none⟩) (Nat.le_refl _) (.slice (some ⟨gg, 0, none⟩) ((ftab N T (i * N + k)).length + 1) cap1)
     have st := Lib.hid (show RfR wb (wz.setCell ⟨g + 1, 2, none⟩ (.slice (some ⟨gg, 0, none⟩) ((ftab N T (i * N + k)).length + 1) cap1)) g N T (i * N + (k + 1)) from
      ⟨_, _, _, KT2.set 2 _, by rw [← hrow.out]; exact hown'.low (a := ⟨g + 1, 2, none⟩) (Nat.lt_succ_self _) _, B3⟩)
     clear KT KT2 ho B2 B3 hown' hbel' hHeld hd hat b5 BW
     go_wp2
     go_roundw
     case rel => exact ⟨k + 1, by omega, by go_num, st.out⟩
     case measure => simp [intOf] <;> omega
    ·obtain rfl : N = k := by omega
     go_wp2
     go_roundw
     case rel => exact ⟨i + 1, by omega, by go_num, by rw [Nat.succ_mul]; exact st⟩
     case measure => simp [intOf] <;> omega
  ·obtain rfl : N = i := by omega
   obtain ⟨ao, mm, kk, KT, ho, B2⟩ := st
   rw [HTT.out] at ho
   obtain ⟨ao', c', e'⟩ := ho.sliced
   simp only [Value.slice.injEq] at e'
   obtain ⟨rfl, rfl, rfl⟩ := e'
   have KR := HKR.out.below B2 (Nat.lt_succ_self _)
   have BW := HB0.out.trans (B2.mono (show w.heap.size ≤ g + 1 by omega))
   have k0 := KT.cell 0; have k1 := KT.cell 1; have k2 := KT.cell 2
   have f0 := KR.free 0; have f1 := KR.free 1; have f2 := KR.free 2
   have r0 := KR.cell 0; have r1 := KR.cell 1; have r2 := KR.cell 2
   have KF := ((KR.set 0 (.int .i64 N)).set 1 (.int .i64 N)).set 2 (.slice ao (tbv Q).length kk)
   have d0 := KF.cell 0; have d1 := KF.cell 1; have d2 := KF.cell 2
   have hg1 : g < g + 1 + 1 := by omega
   have hof := ((ho.low (a := ⟨g, 0, none⟩) hg1 (.int .i64 N)).low (a := ⟨g, 1, none⟩) hg1 (.int .i64 N)).low (a := ⟨g, 2, none⟩) hg1 (.slice ao (tbv Q).length kk)
   have BF := ((BW.setCell (p := ⟨g, 0, none⟩) hgw (.int .i64 N)).setCell (p := ⟨g, 1, none⟩) hgw (.int .i64 N)).setCell (p := ⟨g, 2, none⟩) hgw (.slice ao (tbv Q).length kk)
   have FR := Lib.hid (show RetFm p w N N Q (.returned (.agg #[.int .i64 N, .int .i64 N, .slice ao (tbv Q).length kk])) (((wr.setCell ⟨g, 0, none⟩ (.int .i64 N)).setCell ⟨g, 1, none⟩ (.int .i64 N)).setCell ⟨g, 2, none⟩ (.slice ao (tbv Q).length kk)) from
    ⟨ao, kk, rfl, hof.mono (by omega), BF⟩)
   clear KF KR hof BF BW B2 ho KT
   go_wp2
   exact bodyPost_ret (v := .agg #[.int .i64 N, .int .i64 N, .slice ao (tbv Q).length kk]) (by simp [results, Try.results49, go_sem, d0, d1, d2]) rfl FR.out
end Go.Proofs.Ytkmfhabgempjiaa
/- Layer 25: invariants of equivalent matrices; Frobenius of what is not square. -/
namespace Go.Proofs.Ytkmfhabgempjiaa
set_option maxHeartbeats 4000000
open Go.RowKit
section
open CR
variable {p n : Nat}
theorem smF_chain {A : MT (Zp p) n n} {W U V : (Nat → Nat → Pol (Zp p))} {X : MT (Pol (Zp p)) n n} (h : SmF A W U V X) : Chain (dgo n W) ∧ MT.of n n W = MT.of n n (dg (dgo n W)) := by
 obtain ⟨-, -, h3, h4, h5⟩ := h
 refine ⟨⟨fun i => ?_, fun i j hij => ?_⟩, MT.of_congr fun i k hi hk => ?_⟩
 ·unfold dgo; split
  ·exact h4 i (by assumption)
  ·exact Or.inl rfl
 ·unfold dgo
  by_cases hj : j < n
  ·rw [if_pos hj, if_pos (by omega)]; exact h5 i j hij hj
  ·rw [if_neg hj]; exact ⟨0, (mul_zero _).symm⟩
 ·unfold dg dgo
  by_cases e : i = k
  ·subst e; rw [if_pos rfl, if_pos hi]
  ·rw [if_neg e, h3 i k hi hk e]
theorem smF_same (tr : Trial p) {A B : MT (Zp p) n n} {W U V W2 U2 V2 : (Nat → Nat → Pol (Zp p))} {X X2 : MT (Pol (Zp p)) n n} (hE : Eqv (XA A) (XA B)) (h : SmF A W U V X) (h' : SmF B W2 U2 V2 X2) : ∀ k, k < n → W k k = W2 k k := by
 obtain ⟨c1, e1⟩ := smF_chain h
 obtain ⟨c2, e2⟩ := smF_chain h'
 have hE2 : Eqv (MT.of n n (dg (dgo n W))) (MT.of n n (dg (dgo n W2))) := by
  rw [← e1, ← e2]
  exact (h.1.eqv.symm.trans hE).trans h'.1.eqv
 intro k hk
 have := smith_unique tr c1 c2 hE2 k hk hk
 unfold dgo at this
 rwa [if_pos hk, if_pos hk] at this
end
end Go.Proofs.Ytkmfhabgempjiaa
/- Plain: the invariants of a block companion whose polynomials divide each other in turn. -/
namespace Go.Proofs.Ytkmfhabgempjiaa
set_option maxHeartbeats 4000000
open Go.RowKit
open CR
section
variable {p n k t : Nat} {s d : Nat → Nat} {q : Nat → Pol (Zp p)}
structure Pmt (n k t m : Nat) (q : Nat → Pol (Zp p)) (R C : Nat → Nat) (W : Nat → Nat → Pol (Zp p)) : Prop where
 off : ∀ a c, a < n → c < n → a ≠ c → (a < t ∨ c < t) → W a c = 0
 mo : ∀ a, a < t → Mo (W a a)
 dg : Dg t W
 rr : ∀ i, i < k → t ≤ R i ∧ R i < n
 cc : ∀ i, i < k → t ≤ C i ∧ C i < n
 ri : ∀ i l, i < k → l < k → R i = R l → i = l
 ci : ∀ i l, i < k → l < k → C i = C l → i = l
 one : ∀ i, i < k → ∃ u v : Zp p, u * v = 1 ∧ W (R i) (C i) = mon u 0 * q i
 z : ∀ i l, i < k → l < k → i ≠ l → W (R i) (C l) = 0
 fx : ∀ i, i < m → R i = t + i ∧ C i = t + i ∧ W (t + i) (t + i) = q i
theorem pmt_step {A : MT (Pol (Zp p)) n n} {m : Nat} {R C : Nat → Nat} {U W V : Nat → Nat → Pol (Zp p)} (hn : t + k = n) (hm : m < k) (h : Pmt n k t m q R C W) (hS : SmR A U W V) : ∃ R' C' U' W' V', Pmt n k t (m + 1) q R' C' W' ∧ SmR A U' W' V' := by
 obtain ⟨u, v, huv, hv⟩ := h.one m hm
 have hr := h.rr m hm
 have hc := h.cc m hm
 obtain ⟨a, ea⟩ : ∃ a, a = t + m := ⟨_, rfl⟩
 obtain ⟨r, er⟩ : ∃ r, r = R m := ⟨_, rfl⟩
 obtain ⟨c, ec⟩ : ∃ c, c = C m := ⟨_, rfl⟩
 rw [← er] at hr hv
 rw [← ec] at hc hv
 have e1 : (mon v 0 : Pol (Zp p)) * mon u 0 = 1 := by rw [mon_mul0, mul_comm, huv, ← one_mon]
 have hS2 := ((hS.swR (i := a) (k := r) (by omega) hr.2).swC (i := a) (k := c) (by omega) hc.2).scl (t := a) e1
 obtain ⟨X, eX⟩ : ∃ X, X = swC (swR W a r) a c := ⟨_, rfl⟩
 rw [← eX] at hS2
 have hX : ∀ x y, X x y = W (sw a r x) (sw a c y) := fun x y => by rw [eX, swRC]
 have hs1 : ∀ y, scl X a (mon v 0) a y = X a y * mon v 0 := fun y => if_pos rfl
 have hs2 : ∀ x y, x ≠ a → scl X a (mon v 0) x y = X x y := fun x y hx => if_neg hx
 have hcase : ∀ x y, X x y = 0 → scl X a (mon v 0) x y = 0 := fun x y e => by
  by_cases h1 : x = a
  ·rw [h1, hs1, ← h1, e, zero_mul]
  ·rw [hs2 x y h1, e]
 have fR : ∀ i, i < m → sw a r (R i) = t + i ∧ sw a c (C i) = t + i := fun i hi => by
  obtain ⟨f1, f2, -⟩ := h.fx i hi
  have g1 : R i ≠ r := fun e => by have := h.ri i m (by omega) hm (by rw [e, er]); omega
  have g2 : C i ≠ c := fun e => by have := h.ci i m (by omega) hm (by rw [e, ec]); omega
  rw [sw_o (by omega) g1, sw_o (by omega) g2]; exact ⟨f1, f2⟩
 refine ⟨fun i => sw a r (R i), fun i => sw a c (C i), _, _, _, ⟨fun x y hx hy hne ho => ?_, fun x hx => ?_, fun x hx => ?_, fun i hi => ?_, fun i hi => ?_, fun i l hi hl e => h.ri i l hi hl (sw_inj e), fun i l hi hl e => h.ci i l hi hl (sw_inj e), fun i hi => ?_, fun i l hi hl hne => ?_, fun i hi => ?_⟩, hS2⟩
 ·refine hcase x y ?_
  rw [hX]
  by_cases h1 : x < t
  ·have g1 : sw a r x = x := sw_o (by omega) (by omega)
   rw [g1]
   refine h.off _ _ hx (sw_lt (by omega) hc.2 hy) ?_ (.inl h1)
   intro e
   by_cases h2 : y < t
   ·rw [sw_o (by omega) (by omega)] at e; exact hne e
   ·have := sw_ge (t := a) (a := c) (x := y) (l := t) (by omega) hc.1 (by omega)
    omega
  ·have h2 : y < t := by omega
   have g2 : sw a c y = y := sw_o (by omega) (by omega)
   rw [g2]
   refine h.off _ _ (sw_lt (by omega) hr.2 hx) hy ?_ (.inr h2)
   intro e
   have := sw_ge (t := a) (a := r) (x := x) (l := t) (by omega) hr.1 (by omega)
   omega
 ·rw [hs2 x x (by omega), hX, sw_o (by omega) (by omega), sw_o (by omega) (by omega)]; exact h.mo x hx
 ·show (scl X a (mon v 0) x x).dlt 1
  rw [hs2 x x (by omega), hX, sw_o (by omega) (by omega), sw_o (by omega) (by omega)]; exact h.dg x hx
 ·have := h.rr i hi
  exact ⟨sw_ge (by omega) hr.1 this.1, sw_lt (by omega) hr.2 this.2⟩
 ·have := h.cc i hi
  exact ⟨sw_ge (by omega) hc.1 this.1, sw_lt (by omega) hc.2 this.2⟩
 ·show ∃ u v' : Zp p, u * v' = 1 ∧ scl X a (mon v 0) (sw a r (R i)) (sw a c (C i)) = mon u 0 * q i
  obtain ⟨u', v', h1, h2⟩ := h.one i hi
  by_cases e : sw a r (R i) = a
  ·refine ⟨u' * v, v' * u, ?_, ?_⟩
   ·have : u' * v * (v' * u) = (u' * v') * (u * v) := by_ring [u', v, v', u] (X0 * X1 * (X2 * X3)) ((X0 * X2) * (X3 * X1)) rfl
    rw [this, h1, huv, mul_one]
   ·have g := hX (sw a r (R i)) (sw a c (C i))
    rw [sw_sw, sw_sw, h2] at g
    have g2 : scl X a (mon v 0) (sw a r (R i)) (sw a c (C i)) = X (sw a r (R i)) (sw a c (C i)) * mon v 0 := if_pos e
    rw [g2, g, ← mon_mul0]
    exact by_ring [(mon u' 0 : Pol (Zp p)), q i, mon v 0] (X0 * X1 * X2) (X0 * X2 * X1) rfl
  ·refine ⟨u', v', h1, ?_⟩
   rw [hs2 _ _ e, hX, sw_sw, sw_sw, h2]
 ·show scl X a (mon v 0) (sw a r (R i)) (sw a c (C l)) = 0
  refine hcase _ _ ?_
  rw [hX, sw_sw, sw_sw]; exact h.z i l hi hl hne
 ·show sw a r (R i) = t + i ∧ sw a c (C i) = t + i ∧ scl X a (mon v 0) (t + i) (t + i) = q i
  by_cases e : i = m
  ·subst e
   have g1 : sw a r (R i) = t + i := by rw [← er, sw_a, ea]
   have g2 : sw a c (C i) = t + i := by rw [← ec, sw_a, ea]
   refine ⟨g1, g2, ?_⟩
   rw [← ea, hs1, hX, sw_t, sw_t, hv]
   have : mon u 0 * q i * mon v 0 = (mon v 0 * mon u 0) * q i := by_ring [(mon u 0 : Pol (Zp p)), q i, mon v 0] (X0 * X1 * X2) ((X2 * X0) * X1) rfl
   rw [this, e1, one_mul]
  ·obtain ⟨g1, g2⟩ := fR i (by omega)
   refine ⟨g1, g2, ?_⟩
   obtain ⟨f1, f2, f3⟩ := h.fx i (by omega)
   rw [hs2 _ _ (by omega), hX]
   have k1 : sw a r (t + i) = R i := by rw [← g1, sw_sw]
   have k2 : sw a c (t + i) = C i := by rw [← g2, sw_sw]
   rw [k1, k2, f1, f2, f3]
theorem pmt_all {A : MT (Pol (Zp p)) n n} (hn : t + k = n) {R C : Nat → Nat} {U W V : Nat → Nat → Pol (Zp p)} (h : Pmt n k t 0 q R C W) (hS : SmR A U W V) : ∀ m, m ≤ k → ∃ R' C' U' W' V', Pmt n k t m q R' C' W' ∧ SmR A U' W' V'
 | 0, _ => ⟨R, C, U, W, V, h, hS⟩
 | m + 1, hm => by
  obtain ⟨R', C', U', W', V', h1, h2⟩ := pmt_all hn h hS m (by omega)
  exact pmt_step hn (by omega) h1 h2
theorem frz_diag (D : Dat n k s d q) {A : MT (Pol (Zp p)) n n} (hkn : k ≤ n) (h : Frz n k s d q A) : ∃ U W V, SmR A U W V ∧ (∀ a c, a < n → c < n → a ≠ c → W a c = 0) ∧ (∀ a, a < n - k → Mo (W a a) ∧ (W a a).dlt 1) ∧ ∀ i, i < k → W (n - k + i) (n - k + i) = q i := by
 obtain ⟨W, U, V, hS, hI, hG, R, C, hF⟩ := h
 have hpos := hF.pos
 have hP : Pmt n k (n - k) 0 q R C W := ⟨hI.off, hI.mo, hG, fun i hi => by have := hF.rr i hi; rw [D.sn] at this; exact this, fun i hi => by have := hF.cc i hi; rw [D.sn] at this; exact this, fun i l hi hl => hF.ri i l hi hl, fun i l hi hl => hF.ci i l hi hl, hF.one, fun i l hi hl hne => hF.z i l hi hl hne (.inl hi), fun i hi => absurd hi (by omega)⟩
 obtain ⟨R', C', U', W', V', h1, h2⟩ := pmt_all (show n - k + k = n by omega) hP hS k (Nat.le_refl _)
 refine ⟨U', W', V', h2, fun a c ha hc hne => ?_, fun a ha => ⟨h1.mo a ha, h1.dg a ha⟩, fun i hi => (h1.fx i hi).2.2⟩
 by_cases e : a < n - k ∨ c < n - k
 ·exact h1.off a c ha hc hne e
 ·obtain ⟨f1, -, -⟩ := h1.fx (a - (n - k)) (by omega)
  obtain ⟨-, f2, -⟩ := h1.fx (c - (n - k)) (by omega)
  have := h1.z (a - (n - k)) (c - (n - k)) (by omega) (by omega) (by omega)
  rw [f1, f2, show n - k + (a - (n - k)) = a by omega, show n - k + (c - (n - k)) = c by omega] at this
  exact this
theorem blk_inv (tr : Trial p) (D : Dat n k s d q) {A : MT (Zp p) n n} (hkn : k ≤ n) (h : Frz n k s d q (XA A)) (hdv : ∀ i l, i ≤ l → l < k → Dv (q i) (q l)) {U W V : Nat → Nat → Pol (Zp p)} {X : MT (Pol (Zp p)) n n} (hW : SmF A W U V X) : (∀ a, a < n - k → W a a = 1) ∧ ∀ i, i < k → W (n - k + i) (n - k + i) = q i := by
 obtain ⟨U1, W1, V1, hS, hoff, hlow, hq⟩ := frz_diag D hkn h
 have hmq : ∀ i, i < k → Mo (q i) := fun i hi => .inr ⟨d i, (D.hq i hi).1.1, (D.hq i hi).2⟩
 have hmo : ∀ a, a < n → Mo (W1 a a) := fun a ha => by
  by_cases e : a < n - k
  ·exact (hlow a e).1
  ·have := hq (a - (n - k)) (by omega)
   rw [show n - k + (a - (n - k)) = a by omega] at this
   rw [this]; exact hmq _ (by omega)
 obtain ⟨hne, -⟩ := smith_deg tr hS hoff hmo
 have h1 : ∀ a, a < n - k → W1 a a = 1 := fun a ha => by
  obtain ⟨g1, g2⟩ := hlow a ha
  refine mo_one1 tr g1 ?_
  obtain ⟨m, hm⟩ := Ln.exists (W1 a a)
  have g3 := hm.le g2
  obtain ⟨i, rfl⟩ := hm.pos (hne a (by omega))
  obtain rfl : i = 0 := by omega
  exact hm
 obtain ⟨X1, hX1⟩ := hS.u
 have hSF : SmF A W1 U1 V1 X1 := ⟨hS, hX1, hoff, hmo, fun i l hil hl => by
  by_cases e : i < n - k
  ·rw [h1 i e]; exact ⟨W1 l l, (one_mul _).symm⟩
  ·have e1 := hq (i - (n - k)) (by omega)
   have e2 := hq (l - (n - k)) (by omega)
   rw [show n - k + (i - (n - k)) = i by omega] at e1
   rw [show n - k + (l - (n - k)) = l by omega] at e2
   rw [e1, e2]; exact hdv _ _ (by omega) (by omega)⟩
 have hsame := smF_same tr (Eqv.refl (XA A)) hW hSF
 exact ⟨fun a ha => by rw [hsame a (by omega), h1 a ha], fun i hi => by rw [hsame _ (by omega), hq i hi]⟩
theorem blk_pks (tr : Trial p) (D : Dat n k s d q) (hkn : k ≤ n) {W : Nat → Nat → Pol (Zp p)} (h1 : ∀ a, a < n - k → W a a = 1) (h2 : ∀ i, i < k → W (n - k + i) (n - k + i) = q i) : (pks W n).length = k ∧ ∀ i, i < k → (pks W n).getD i 0 = n - k + i := by
 have hl1 : pln (1 : Pol (Zp p)) = 1 := pln_eq (by rw [one_mon]; exact ln_mon tr (mul_one 1))
 have k1 : ∀ a, a ≤ n - k → pks W a = [] := fun a => by
  induction a with
  | zero => intro _; rfl
  | succ a ih =>
   intro ha
   rw [pks_succ, ih (by omega), h1 a (by omega), hl1, if_neg (by omega)]; rfl
 have k2 : ∀ m, m ≤ k → (pks W (n - k + m)).length = m ∧ ∀ i, i < m → (pks W (n - k + m)).getD i 0 = n - k + i := fun m => by
  induction m with
  | zero => intro _; rw [Nat.add_zero, k1 _ (Nat.le_refl _)]; exact ⟨rfl, fun i hi => absurd hi (by omega)⟩
  | succ m ih =>
   intro hm
   obtain ⟨a1, a2⟩ := ih (by omega)
   have hq := (D.hq m (by omega)).1
   have hd := D.hd m (by omega)
   have e : pks W (n - k + (m + 1)) = pks W (n - k + m) ++ [n - k + m] := by
    rw [show n - k + (m + 1) = n - k + m + 1 by omega, pks_succ, h2 m (by omega), pln_eq hq, if_pos (by omega)]
   rw [e]
   refine ⟨by rw [List.length_append, a1]; rfl, fun i hi => ?_⟩
   rw [getD_snoc, a1]
   by_cases e2 : i = m
   ·rw [if_pos e2, e2]
   ·rw [if_neg e2]; exact a2 i (by omega)
 have := k2 k (Nat.le_refl _)
 rwa [show n - k + k = n by omega] at this
end
end Go.Proofs.Ytkmfhabgempjiaa
