/- What hess.order needs: an append of a struct, columns, the polynomial. -/
import Derived.Test.YtkmfhabgempjiaaQeM21
import Derived.Test.YtkmfhabgempjiaaQeM10
import Derived.Test.YtkmfhabgempjiaaQeM11
import Derived.Test.YtkmfhabgempjiaaQeM20
import Derived.Test.YtkmfhabgempjiaaQeM12
namespace Go.Proofs.Ytkmfhabgempjiaa
set_option maxHeartbeats 4000000
open Go.RowKit
theorem apS3 {P : Program} {ops : Array Oper} {rest : List Oper} {o : Oper} {a : Act} {Q : Exit → Act → World → Prop} (T e bytes : Nat) (z0 : Value)
  (hu : P.underlying T = some (.slice e)) (hi : (P.info? e).map (fun i => (i.zero, i.size, i.bytes)) = some (some z0, 3, bytes)) (hby : bytes ≤ 64) (hz0 : z0.cells.size = 3)
  (hgd : o.guard = none) (s x : Operand) (ho : o.op = .call { callee := .builtin .append, args := #[s, x], argTypes := #[T, T] })
  (w : World) (base : Nat) (v : Value) (n : Nat) (xs : List Value) (y1 y2 y3 : Value) (k1 : y1.oneCell' = true) (k2 : y2.oneCell' = true) (k3 : y3.oneCell' = true) (hown : w.ownsRow base e 3 v n xs)
  (hlen : n ≤ 1000000000) (hbase : base ≤ w.heap.size)
  (hs : a.eval s = v) (hx : a.eval x = .slice (some ⟨w.heap.size, 0, none⟩) 1 1)
  (h : ∀ (g cap : Nat) (w' : World), w'.ownsRow base e 3 (.slice (some ⟨g, 0, none⟩) (n + 1) cap) (n + 1) (xs ++ [y1, y2, y3]) → Below base w w' → w.grownBy w' v.ownBlock → wpList P ops Q rest (a.put o.dst (.slice (some ⟨g, 0, none⟩) (n + 1) cap)) w') :
  wpList P ops Q (o :: rest) a (w.alloc (.cells #[y1, y2, y3] e)) := by
 obtain ⟨i0, h1, h2, h3, h4⟩ := info_parts hi
 have hB := Blk.lit w e [y1, y2, y3]
 refine wpList_append_lies _ hgd s x T ho base e i0 z0 3 bytes hu h1 h2 h3 h4 hz0 (by decide) v n xs hs (World.ownsRow.alloc hown _) ⟨w.heap.size, 0, none⟩ 1 1 [y1, y2, y3] hx rfl ?_ ?_ (by decide) ?_ ?_ ?_ (w.heap.size + 1) ?_ ?_
 ·intro j u hj
  have e : (⟨w.heap.size, 0, none⟩ : Addr).add j = ⟨w.heap.size, j, none⟩ := by
   unfold Addr.add; split
   ·rename_i h; subst h; rfl
   ·simp
  rw [e]
  exact (hB.cell j).trans hj
 ·intro u hu
  simp only [List.mem_cons, List.not_mem_nil, or_false] at hu
  rcases hu with rfl | rfl | rfl
  ·exact k1
  ·exact k2
  ·exact k3
 ·unfold maxLen; omega
 ·have : (n + 1) * bytes ≤ (n + 1) * 64 := Nat.mul_le_mul_left _ hby
  omega
 ·simp; omega
 ·simp
 ·intro g cap w' k1 k2 k3 k4
  have hg : w.grownBy w' v.ownBlock := by
   have e0 := World.grownBy_alloc w (.cells #[y1, y2, y3] e) v.ownBlock
   exact ⟨k2.os.trans e0.os, k2.tape.trans e0.tape, k2.output.trans e0.output, Nat.le_trans e0.size k2.size, fun i hi hne => (k2.block i (Nat.lt_of_lt_of_le hi e0.size) hne).trans (e0.block i hi hne)⟩
  have hge : ∀ k, v.ownBlock = some k → base ≤ k := fun j hj => (World.ownsRow.lt hown j hj).1
  exact h g cap w' k1 (below_grown hg hbase hge) hg
theorem rowOwn_kept3 {w w' : World} {base b1 n n0 s s0 : Nat} {e e0 : TypeId} {v v0 : Value} {xs xs0 : List Value} (h : w.ownsRow base e s v n xs) (ho : w.ownsRow b1 e0 s0 v0 n0 xs0) (hg : w.grownBy w' v0.ownBlock) (he : e0 ≠ e) : w'.ownsRow base e s v n xs := by
 refine World.ownsRow.kept h hg ?_
 rcases h.2 with ⟨h1, _⟩ | ⟨g, cap, cur, h1, _, h2, _⟩
 ·left; rw [h1]; rfl
 ·right
  intro e1
  rw [h1] at e1
  exact rowOwn_ne ho h2 he e1.symm
def colC (n : Nat) (H : Nat → Option Addr × Nat) : Nat → List Value
 | 0 => []
 | j + 1 => colC n H j ++ [.int .i64 n, .int .i64 1, .slice (H j).1 n (H j).2]
theorem colC_length (n : Nat) (H : Nat → Option Addr × Nat) : ∀ j, (colC n H j).length = j * 3
 | 0 => rfl
 | j + 1 => by simp [colC, colC_length n H j, Nat.succ_mul]
theorem colC_get (n : Nat) (H : Nat → Option Addr × Nat) {t r : Nat} (hr : r < 3) : ∀ {j : Nat}, t < j → (colC n H j)[t * 3 + r]? = [Value.int .i64 n, .int .i64 1, .slice (H t).1 n (H t).2][r]?
 | 0, h => by omega
 | j + 1, h => by
  unfold colC
  by_cases e : t < j
  ·rw [List.getElem?_append_left (by rw [colC_length]; omega)]
   exact colC_get n H hr e
  ·obtain rfl : t = j := by omega
   rw [List.getElem?_append_right (by rw [colC_length]; omega), colC_length, show t * 3 + r - t * 3 = r by omega]
theorem colC_congr (n : Nat) {H K : Nat → Option Addr × Nat} : ∀ {j : Nat}, (∀ t, t < j → H t = K t) → colC n H j = colC n K j
 | 0, _ => rfl
 | j + 1, h => by
  unfold colC
  rw [colC_congr n (fun t ht => h t (Nat.lt_succ_of_lt ht)), h j (Nat.lt_succ_self _)]
theorem fm_own {w : World} {base : Nat} {u : Value} {R C : Int} {xs : List Nat} (h : Own .u64 27 w base u xs) : Fm w (.agg #[.int .i64 R, .int .i64 C, u]) R C xs := ⟨u, rfl, h.sl⟩
section
variable {p n : Nat}
theorem tb1_get (M : MT (Zp p) n 1) {i : Nat} (hi : i < n) : (tbv M).getD i 0 = (M.e i 0).val := by
 have h := tbv_get M (k := 0) hi (by omega)
 rwa [Nat.mul_one, Nat.add_zero] at h
theorem tb1_len (M : MT (Zp p) n 1) : (tbv M).length = n := by rw [tbv_length, Nat.mul_one]
def OrL (w0 wr : World) (j : Nat) (A : MT (Zp p) n n) (v : MT (Zp p) n 1) (lv : Value) : Prop :=
 ∃ H : Nat → Option Addr × Nat, wr.ownsRow w0.heap.size 63 3 lv j (colC n H j) ∧ (∀ t, t < j → Own .u64 27 wr 0 (.slice (H t).1 n (H t).2) (tbv (A.pow t * v)))
theorem OrL.next {w0 w1 w2 : World} {j : Nat} {A : MT (Zp p) n n} {v : MT (Zp p) n 1} {lv : Value} (h : OrL w0 w1 j A v lv) (hb : Below w1.heap.size w1 w2) : OrL w0 w2 j A v lv := by
 obtain ⟨H, h1, h2⟩ := h
 exact ⟨H, rowOwn_next h1 hb (Nat.le_refl _), fun t ht => (h2 t ht).next hb⟩
theorem OrL.cls {w0 wr : World} {j : Nat} {A : MT (Zp p) n n} {v : MT (Zp p) n 1} {lv : Value} (h : OrL w0 wr j A v lv) : Cls wr lv n j (fun t => tbv (A.pow t * v)) := by
 obtain ⟨H, h1, h2⟩ := h
 rcases h1.2 with ⟨rfl, h0⟩ | ⟨g, cap, cur, rfl, hb, hg, hn, _⟩
 ·subst h0
  exact ⟨none, 0, 0, 0, rfl, Nat.le_refl _, fun h => absurd h (by omega), fun t ht => absurd ht (by omega)⟩
 ·refine ⟨_, g, 0, cap, rfl, hn, fun _ => ⟨rfl, (Array.getElem?_eq_some_iff.1 hg).1⟩, fun t ht => ?_⟩
  have c : ∀ r, r < 3 → wr.cell? ⟨g, 0 + t * 3 + r, none⟩ = [Value.int .i64 n, .int .i64 1, .slice (H t).1 n (H t).2][r]? := fun r hr => by
   rw [Nat.zero_add, World.ownsRow.cellAt h1 (t * 3 + r) (by omega), colC_get n H hr ht]
  exact ⟨(H t).1, (H t).2, c 0 (by omega), c 1 (by omega), c 2 (by omega), tb1_len _, (h2 t ht).sl⟩
theorem OrL.push {w0 w1 w3 : World} {j cv : Nat} {A : MT (Zp p) n n} {v : MT (Zp p) n 1} {lv lv' : Value} {av : Option Addr} {H : Nat → Option Addr × Nat} (h1 : w1.ownsRow w0.heap.size 63 3 lv j (colC n H j)) (h2 : ∀ t, t < j → Own .u64 27 w1 0 (.slice (H t).1 n (H t).2) (tbv (A.pow t * v)))
  (hu : Own .u64 27 w1 0 (.slice av n cv) (tbv (A.pow j * v))) (hg : w1.grownBy w3 lv.ownBlock) (ho : w3.ownsRow w0.heap.size 63 3 lv' (j + 1) (colC n H j ++ [.int .i64 n, .int .i64 1, .slice av n cv])) : OrL w0 w3 (j + 1) A v lv' := by
 refine ⟨fun t => if t < j then H t else (av, cv), ?_, fun t ht => ?_⟩
 ·unfold colC
  rw [colC_congr n (K := H) (fun t ht => by simp [ht]), if_neg (by omega)]
  exact ho
 ·by_cases hc : t < j
  ·show Own .u64 27 w3 0 (.slice (if t < j then H t else (av, cv)).1 n (if t < j then H t else (av, cv)).2) _
   rw [if_pos hc]
   exact rowOwn_kept3 (h2 t hc) h1 hg (by decide)
  ·obtain rfl : t = j := by omega
   show Own .u64 27 w3 0 (.slice (if t < t then H t else (av, cv)).1 n (if t < t then H t else (av, cv)).2) _
   rw [if_neg (by omega)]
   exact rowOwn_kept3 hu h1 hg (by decide)
theorem krM_img (A : MT (Zp p) n n) (v : MT (Zp p) n 1) (j : Nat) : (MT.of n j fun i t => Zp.of p ((tbv (A.pow t * v)).getD i 0)) = krM A v j := MT.ext fun i k hi hk => by
 unfold krM
 rw [MT.of_e _ hi hk, MT.of_e _ hi hk, tb1_get _ hi, Zp.of_val]
def ordL (j : Nat) (x : Nat → Zp p) : List Nat := (List.range j).map fun t => (-x t).val
theorem ordL_length (j : Nat) (x : Nat → Zp p) : (ordL j x).length = j := by simp [ordL]
theorem ordL_succ (j : Nat) (x : Nat → Zp p) : ordL (j + 1) x = ordL j x ++ [(-x j).val] := by simp [ordL, List.range_succ]
theorem ordL_pl (j : Nat) (x : Nat → Zp p) : pl p (ordL j x ++ [1]) = mon 1 j - pof j x := Pol.ext fun i => by
 rw [pl_c, Pol.c_sub, c_mon]
 rcases Nat.lt_trichotomy i j with h | h | h
 ·rw [pof_c _ h, if_neg (by omega)]
  have e : (ordL j x ++ [1]).getD i 0 = (-x i).val := by
   simp only [List.getD, List.getElem?_append_left (show i < (ordL j x).length by rw [ordL_length]; exact h)]
   simp [ordL, h]
  rw [e, Zp.of_val, CR.zero_sub]
 ·subst h
  rw [if_pos rfl, pof_dlt i x i (Nat.le_refl _), CR.sub_zero]
  have e : (ordL i x ++ [1]).getD i 0 = 1 := by simp [List.getD, ordL_length]
  rw [e, Zp.of_one]
 ·rw [if_neg (by omega), pof_dlt j x i (by omega), CR.sub_zero]
  have e : (ordL j x ++ [1]).getD i 0 = 0 := by
   simp only [List.getD, List.getElem?_eq_none (show (ordL j x ++ [1]).length ≤ i by simp [ordL_length]; omega)]
   rfl
  rw [e, Zp.of_zero]
theorem ordL_nrm (hp : FP p) (j : Nat) (x : Nat → Zp p) : Nrm p (ordL j x ++ [1]) := by
 refine ⟨fun y hy => ?_, tr_snoc _ _ (by omega)⟩
 rw [List.mem_append] at hy
 have := hp.1
 rcases hy with h | h
 ·obtain ⟨t, _, rfl⟩ := List.mem_map.1 h
  have := (-x t).lt; omega
 ·rw [List.mem_singleton] at h; omega
def RetOrd (p : Nat) {n : Nat} (w : World) (A : MT (Zp p) n n) (v : MT (Zp p) n 1) (e : Ending) (w' : World) : Prop :=
 ∃ r zs, e = .returned r ∧ Own .u64 27 w' w.heap.size r zs ∧ Nrm p zs ∧ IsOrd (pl p zs) A v ∧ (∃ d, zs.length = d + 1 ∧ d ≤ n ∧ zs.getD d 0 = 1) ∧ Below w.heap.size w w'
def SolP (p : Nat) (w' : World) {n C D : Nat} (A : MT (Zp p) n C) (B : MT (Zp p) n D) (R K : Int) (a : Option Addr) (L k : Nat) (ec : Int) : Prop :=
 (∃ X : MT (Zp p) C D, A * X = B ∧ R = C ∧ K = D ∧ L = (tbv X).length ∧ Own .u64 27 w' 0 (.slice a L k) (tbv X) ∧ ec = 0) ∨ ((∀ X : MT (Zp p) C D, A * X ≠ B) ∧ R = 0 ∧ K = 0 ∧ a = none ∧ L = 0 ∧ k = 0 ∧ ec = 10)
theorem SolP.next {w w' : World} {C D : Nat} {A : MT (Zp p) n C} {B : MT (Zp p) n D} {R K : Int} {a : Option Addr} {L k : Nat} {ec : Int} (h : SolP p w A B R K a L k ec) (hb : Below w.heap.size w w') : SolP p w' A B R K a L k ec := by
 rcases h with ⟨X, h1, h2, h3, h4, h5, h6⟩ | h
 ·exact .inl ⟨X, h1, h2, h3, h4, h5.next hb, h6⟩
 ·exact .inr h
theorem SolP.off {w : World} {C D : Nat} {A : MT (Zp p) n C} {B : MT (Zp p) n D} {R K : Int} {a : Option Addr} {L k : Nat} {ec : Int} (h : SolP p w A B R K a L k ec) {g : Nat} {vals : List Value} (hb : Blk 63 w g vals) (i : Nat) (u : Value) : SolP p (w.setCell ⟨g, i, none⟩ u) A B R K a L k ec := by
 rcases h with ⟨X, h1, h2, h3, h4, h5, h6⟩ | h
 ·exact .inl ⟨X, h1, h2, h3, h4, h5.off hb i u, h6⟩
 ·exact .inr h
theorem OrL.off {w0 wr : World} {j : Nat} {A : MT (Zp p) n n} {v : MT (Zp p) n 1} {lv : Value} (h : OrL w0 wr j A v lv) {g : Nat} {vals : List Value} (hb : Blk 63 wr g vals) (hg : g < w0.heap.size) (i : Nat) (u : Value) : OrL w0 (wr.setCell ⟨g, i, none⟩ u) j A v lv := by
 obtain ⟨H, h1, h2⟩ := h
 exact ⟨H, ownsRow_setCell_below h1 (a := ⟨g, i, none⟩) hg u, fun t ht => (h2 t ht).off hb i u⟩
theorem RetSol.one {w w' : World} {C D : Nat} {A : MT (Zp p) n C} {B : MT (Zp p) n D} {e : Ending} (h : RetSol p w n C D A B e w') : ∃ R K a L k ec, e = .returned (.tuple #[.agg #[.int .i64 R, .int .i64 K, .slice a L k], .int .i64 ec]) ∧ SolP p w' A B R K a L k ec ∧ Below w.heap.size w w' := by
 rcases h with ⟨X, h1, ao, k, e1, h2, h3⟩ | ⟨h1, e1, h3⟩
 ·exact ⟨_, _, _, _, _, _, e1, .inl ⟨X, h1, rfl, rfl, rfl, h2.mono (Nat.zero_le _), rfl⟩, h3⟩
 ·exact ⟨_, _, _, _, _, _, e1, .inr ⟨h1, rfl, rfl, rfl, rfl, rfl, rfl⟩, h3⟩
end
end Go.Proofs.Ytkmfhabgempjiaa
/- hess.order: a column's order. -/
namespace Go.Proofs.Ytkmfhabgempjiaa
set_option maxHeartbeats 4000000
open Go.RowKit
def lenV : Value → Nat
 | .slice _ n _ => n
 | _ => 0
section
variable {p n : Nat}
def OrS (w0 wr : World) (gV j : Nat) (A : MT (Zp p) n n) (v : MT (Zp p) n 1) (lv : Value) : Prop :=
 ∃ a c, OrL w0 wr j A v lv ∧ Blk 63 wr gV [.int .i64 n, .int .i64 1, .slice a n c] ∧ Own .u64 27 wr 0 (.slice a n c) (tbv (A.pow j * v)) ∧ Kry A v j ∧ Below gV w0 wr
end
set_option maxRecDepth 20000 in
theorem hs_order (p : Nat) (a : Value) (n : Nat) (av : Option Addr) (cv : Nat) (v : MT (Zp p) n 1) (xs : List Nat) (w : World) (hp : FP p) (ht : Trial p) (hA : Fm w a n n xs) (hn : n ≤ 60) (hx : xs.length = n * n) (hv : Own .u64 27 w 0 (.slice av n cv) (tbv v)) :
  Calls Try.prog 123 #[.agg #[.int .u64 p], a, .agg #[.int .i64 n, .int .i64 1, .slice av n cv]] w (RetOrd p w (mx p n n xs) v) := by
 obtain ⟨aA, cA, rfl⟩ := hA.agg
 obtain ⟨wb, ew, KF, KA, KV, B0, hsz⟩ := boxes3 w 29 63 63 [.int .u64 p] [.int .i64 n, .int .i64 n, .slice aA xs.length cA] [.int .i64 n, .int .i64 1, .slice av n cv]
 clear hsz
 have HP := Lib.hid hp; have HT := Lib.hid ht; clear hp ht
 replace hv := hv.next B0
 have HX := Lib.hid hx; clear hx
 obtain ⟨A, eA⟩ : ∃ A, A = mx p n n xs := ⟨_, rfl⟩
 rw [← eA]
 have EA := Lib.hid eA; clear eA
 go_enter Try.func123, Try.ntmps123
 go_upto_region 1 with (fail)
 rw [← ew]
 obtain ⟨g, eg⟩ : ∃ g, g = w.heap.size := ⟨_, rfl⟩
 rw [← eg] at KF KA KV ⊢
 have hgw : w.heap.size ≤ g := by omega
 clear ew eg
 have hgb : g + 1 + 1 < wb.heap.size := KV.lt
 have st : OrS wb wb (g + 1 + 1) 0 A v (.slice none 0 0) := ⟨av, cv, ⟨fun _ => (none, 0), World.ownsRow_nil _ _ _ _, fun t ht => absurd ht (by omega)⟩, KV, by rw [show A.pow 0 * v = v from MT.one_mul v]; exact hv, Kry.zero A v, Below.refl _ _⟩
 have HKF := Lib.hid KF; have HKA := Lib.hid KA; have HA := Lib.hid hA; have HB0 := Lib.hid B0
 clear KF KA KV hA hv B0
 go_wp2
 go_loopw [7] (fun lv wr => ∃ (j : Nat) (al : Option Addr) (cl : Nat), lv = .slice al j cl ∧ OrS wb wr (g + 1 + 1) j A v (.slice al j cl)) (fun lv _ => n + 1 - lenV lv)
 case atStart => exact ⟨0, none, 0, rfl, st⟩
 case round =>
  clear st
  obtain ⟨j, al, cl, rfl, a, c, hL, KV, hV, hK, B1⟩ := hrel
  have hjn : j ≤ n := hK.le HT.out
  obtain ⟨V, eV⟩ : ∃ V, V = A.pow j * v := ⟨_, rfl⟩
  rw [← eV] at hV
  have EV := Lib.hid eV; clear eV
  have HK := Lib.hid hK; clear hK
  have KF := HKF.out.below B1 (by omega); have KA := HKA.out.below B1 (by omega)
  have BW := HB0.out.trans (B1.mono (show w.heap.size ≤ g + 1 + 1 by omega))
  have hA := HA.out.next BW
  go_upto_region 2 with (fail)
  go_cut [8, 9] (fun v8 v9 wx => ∃ (g8 : Nat) (R K : Int) (a8 : Option Addr) (L k8 : Nat) (ec : Int), v8 = .pointer (some ⟨g8, 0, none⟩) ∧ v9 = .int .i64 ec ∧ Blk 63 wx g8 [.int .i64 R, .int .i64 K, .slice a8 L k8] ∧ SolP p wx (krM A v j) V R K a8 L k8 ec ∧ Below wr.heap.size wr wx)
  case first =>
   have bd := dw wr
   have mV : Fm wr (.agg #[.int .i64 n, .int .i64 1, .slice a n c]) n (1 : Nat) (tbv V) := ⟨_, rfl, hV.sl⟩
   have hC := hL.cls
   have hpos := HP.out.1
   have hw : ∀ t i, t < j → i < n → (tbv (A.pow t * v)).getD i 0 < p := fun t i _ hi => by
    rw [tb1_get _ hi]; have := ((A.pow t * v).e i 0).lt; omega
   replace mV := mV.next bd; replace hC := hC.next bd; replace KF := KF.next bd; replace KA := KA.next bd; replace KV := KV.next bd; replace hA := hA.next bd
   have HW := Lib.hid hw
   clear hL hV B1 BW hw hpos
   have zF0 := Lib.hid fun (w : World) (hS : Below (wr.drew).heap.size (wr.drew) w) => And.intro ((KF.at hS) 0) (And.intro ((KA.at hS) 0) (And.intro ((KV.at hS) 0) (And.intro ((KV.at hS) 1) ((KV.at hS) 2))))
   refine startL (S := (fun w' => Below (wr.drew).heap.size (wr.drew) w')) (by kernel_rfl) (Below.refl _ _) (fun hHeld => ?_)
   refine tf 0 zF0.out ?_
   refine tk 1 ?_
   refine tk 2 ?_
   refine tf 3 zF0.out ?_
   refine tf 5 zF0.out ?_
   refine twoL 4 10 rfl rfl (by kernel_rfl) (by rfl) (by rfl) (fun K hK => ?_) (fun K hK => ?_)
   ·go_simp
    go_at_call 156
    (with_reducible refine (hs_images p _ n j (fun t => tbv (A.pow t * v)) _ (hC.next hHeld) (by omega) (by omega) HW.out).mono ?_); rintro e y1 ⟨a4, k4, rfl, o4, c4⟩; rw [krM_img] at o4 ⊢; obtain ⟨M4, eM4⟩ : ∃ M, M = krM A v j := ⟨_, rfl⟩; rw [← eM4] at o4 ⊢; have EM4 := Lib.hid eM4; clear eM4
    refine hK.out _ _ (hHeld.trans (c4.mono hHeld.size)) (fun hHeld => ?_)
    clear hK K
    try simp only [Act.put, zq1, zq2, zq3]
    refine twoL 6 10 rfl rfl (by kernel_rfl) (by rfl) (by rfl) (fun K hK => ?_) (fun K hK => ?_)
    ·go_simp
     go_at_call 155
     (with_reducible refine (fm_Solve p _ _ n j 1 (tbv M4) (tbv V) _ HP.out HT.out (fm_own o4) (mV.next hHeld) (by omega) (by omega) (by omega) (by omega) (tbv_length M4) (tbv_length V)).mono ?_); intro e y2 hs6; rw [mx_tbv, mx_tbv] at hs6; obtain ⟨R6, K6, a6, L6, k6, ec6, rfl, s6, c6⟩ := hs6.one; clear hs6; rw [EM4.out] at s6
     refine hK.out _ _ (hHeld.trans (c6.mono hHeld.size)) (fun hHeld => ?_)
     clear hK K
     try simp only [Act.put, zq1, zq2, zq3]
     refine tk 7 ?_
     refine tk 8 ?_
     refine tk 9 ?_
     refine on 10 fun K hK => ?_
     go_simp
     obtain ⟨ya, eya, KZ, bya, -⟩ := boxes1 y2 63 [.int .i64 0, .int .i64 0, .slice none 0 0]
     have hHd := hHeld
     refine hK.out _ _ (hHeld.alloc hHeld.size _) (fun hHeld => ?_)
     clear hK K
     try simp only [Act.put, zq1, zq2, zq3]
     rw [← eya] at hHeld ⊢
     obtain ⟨g1, eg1⟩ : ∃ g, g = y2.heap.size := ⟨_, rfl⟩
     have hg1 : wr.drew.heap.size ≤ g1 := by rw [eg1]; exact hHd.size
     rw [← eg1] at KZ
     try rw [← eg1]
     clear eya eg1
     replace s6 := s6.next bya
     refine on 11 fun K hK => ?_
     have KY := KZ
     have y0 := KZ.cell 0; have y1_ := KZ.cell 1; have y2_ := KZ.cell 2; have z0 := KZ.free 0; have z1 := KZ.free 1; have z2 := KZ.free 2
     go_simp
     refine hK.out _ _ (((hHeld.setCell (p := ⟨g1, 0, none⟩) hg1 (.int .i64 R6)).setCell (p := ⟨g1, 1, none⟩) hg1 (.int .i64 K6)).setCell (p := ⟨g1, 2, none⟩) hg1 (.slice a6 L6 k6)) (fun hHeld => ?_)
     clear hK K
     try simp only [Act.put, zq1, zq2, zq3]
     refine tk 12 ?_
     clear zF0; refine doneL (by kernel_rfl) ?_ _
     have K15 := ((KY.set 0 (.int .i64 R6)).set 1 (.int .i64 K6)).set 2 (.slice a6 L6 k6)
     have s15 := ((s6.off KY 0 (.int .i64 R6)).off (KY.set 0 _) 1 (.int .i64 K6)).off ((KY.set 0 _).set 1 _) 2 (.slice a6 L6 k6)
     have bx := bd.trans (hHeld.mono bd.size)
     clear KZ KY y0 y1_ y2_ z0 z1 z2 hHeld s6 mV hC KF KA KV hA
     go_wp2_with fail
     go_meet
     exact ⟨_, _, _, _, _, _, _, rfl, rfl, K15, s15, bx⟩
    ·go_simp
     obtain ⟨ya, eya, KZ, bya, -⟩ := boxes1 y1 63 [.int .i64 0, .int .i64 0, .slice none 0 0]
     have hHd := hHeld
     refine hK.out _ _ (hHeld.alloc hHeld.size _) (fun hHeld => ?_)
     clear hK K
     try simp only [Act.put, zq1, zq2, zq3]
     rw [← eya] at hHeld ⊢
     obtain ⟨g1, eg1⟩ : ∃ g, g = y1.heap.size := ⟨_, rfl⟩
     have hg1 : wr.drew.heap.size ≤ g1 := by rw [eg1]; exact hHd.size
     rw [← eg1] at KZ
     try rw [← eg1]
     clear eya eg1
     replace o4 := o4.next bya
     refine on 6 fun K hK => ?_
     go_simp
     go_at_call 155
     (with_reducible refine (fm_Solve p _ _ n j 1 (tbv M4) (tbv V) _ HP.out HT.out (fm_own o4) (mV.next hHeld) (by omega) (by omega) (by omega) (by omega) (tbv_length M4) (tbv_length V)).mono ?_); intro e y2 hs6; rw [mx_tbv, mx_tbv] at hs6; obtain ⟨R6, K6, a6, L6, k6, ec6, rfl, s6, c6⟩ := hs6.one; clear hs6; rw [EM4.out] at s6; replace KZ := KZ.next c6
     refine hK.out _ _ (hHeld.trans (c6.mono hHeld.size)) (fun hHeld => ?_)
     clear hK K
     try simp only [Act.put, zq1, zq2, zq3]
     refine tk 7 ?_
     refine tk 8 ?_
     refine tk 9 ?_
     refine on 11 fun K hK => ?_
     have KY := KZ
     have y0 := KZ.cell 0; have y1_ := KZ.cell 1; have y2_ := KZ.cell 2; have z0 := KZ.free 0; have z1 := KZ.free 1; have z2 := KZ.free 2
     go_simp
     refine hK.out _ _ (((hHeld.setCell (p := ⟨g1, 0, none⟩) hg1 (.int .i64 R6)).setCell (p := ⟨g1, 1, none⟩) hg1 (.int .i64 K6)).setCell (p := ⟨g1, 2, none⟩) hg1 (.slice a6 L6 k6)) (fun hHeld => ?_)
     clear hK K
     try simp only [Act.put, zq1, zq2, zq3]
     refine tk 12 ?_
     clear zF0; refine doneL (by kernel_rfl) ?_ _
     have K15 := ((KY.set 0 (.int .i64 R6)).set 1 (.int .i64 K6)).set 2 (.slice a6 L6 k6)
     have s15 := ((s6.off KY 0 (.int .i64 R6)).off (KY.set 0 _) 1 (.int .i64 K6)).off ((KY.set 0 _).set 1 _) 2 (.slice a6 L6 k6)
     have bx := bd.trans (hHeld.mono bd.size)
     clear KZ KY y0 y1_ y2_ z0 z1 z2 hHeld s6 mV hC KF KA KV hA
     go_wp2_with fail
     go_meet
     exact ⟨_, _, _, _, _, _, _, rfl, rfl, K15, s15, bx⟩
   ·go_simp
    obtain ⟨ya0, eya, KZ, bya, -⟩ := boxes1 wr 63 [.int .i64 0, .int .i64 0, .slice none 0 0]
    have hHd := hHeld
    refine hK.out _ _ (hHeld.alloc hHeld.size _) (fun hHeld => ?_)
    clear hK K
    try simp only [Act.put, zq1, zq2, zq3]
    rw [← eya] at hHeld ⊢
    obtain ⟨ya, eyb⟩ : ∃ y, y = ya0.drew := ⟨_, rfl⟩
    rw [← eyb] at hHeld ⊢
    replace KZ : Blk 63 ya wr.heap.size [.int .i64 0, .int .i64 0, .slice none 0 0] := by rw [eyb]; exact KZ.drew
    clear eyb bya
    obtain ⟨g1, eg1⟩ : ∃ g, g = wr.heap.size := ⟨_, rfl⟩
    have hg1 : wr.drew.heap.size ≤ g1 := by rw [eg1]; exact hHd.size
    rw [← eg1] at KZ
    try rw [← eg1]
    clear eya eg1
    refine on 4 fun K hK => ?_
    go_simp
    go_at_call 156
    (with_reducible refine (hs_images p _ n j (fun t => tbv (A.pow t * v)) _ (hC.next hHeld) (by omega) (by omega) HW.out).mono ?_); rintro e y1 ⟨a4, k4, rfl, o4, c4⟩; rw [krM_img] at o4 ⊢; obtain ⟨M4, eM4⟩ : ∃ M, M = krM A v j := ⟨_, rfl⟩; rw [← eM4] at o4 ⊢; have EM4 := Lib.hid eM4; clear eM4; replace KZ := KZ.next c4
    refine hK.out _ _ (hHeld.trans (c4.mono hHeld.size)) (fun hHeld => ?_)
    clear hK K
    try simp only [Act.put, zq1, zq2, zq3]
    refine on 6 fun K hK => ?_
    go_simp
    go_at_call 155
    (with_reducible refine (fm_Solve p _ _ n j 1 (tbv M4) (tbv V) _ HP.out HT.out (fm_own o4) (mV.next hHeld) (by omega) (by omega) (by omega) (by omega) (tbv_length M4) (tbv_length V)).mono ?_); intro e y2 hs6; rw [mx_tbv, mx_tbv] at hs6; obtain ⟨R6, K6, a6, L6, k6, ec6, rfl, s6, c6⟩ := hs6.one; clear hs6; rw [EM4.out] at s6; replace KZ := KZ.next c6
    refine hK.out _ _ (hHeld.trans (c6.mono hHeld.size)) (fun hHeld => ?_)
    clear hK K
    try simp only [Act.put, zq1, zq2, zq3]
    refine tk 7 ?_
    refine tk 8 ?_
    refine tk 9 ?_
    refine on 11 fun K hK => ?_
    have KY := KZ
    have y0 := KZ.cell 0; have y1_ := KZ.cell 1; have y2_ := KZ.cell 2; have z0 := KZ.free 0; have z1 := KZ.free 1; have z2 := KZ.free 2
    go_simp
    refine hK.out _ _ (((hHeld.setCell (p := ⟨g1, 0, none⟩) hg1 (.int .i64 R6)).setCell (p := ⟨g1, 1, none⟩) hg1 (.int .i64 K6)).setCell (p := ⟨g1, 2, none⟩) hg1 (.slice a6 L6 k6)) (fun hHeld => ?_)
    clear hK K
    try simp only [Act.put, zq1, zq2, zq3]
    refine tk 12 ?_
    clear zF0; refine doneL (by kernel_rfl) ?_ _
    have K15 := ((KY.set 0 (.int .i64 R6)).set 1 (.int .i64 K6)).set 2 (.slice a6 L6 k6)
    have s15 := ((s6.off KY 0 (.int .i64 R6)).off (KY.set 0 _) 1 (.int .i64 K6)).off ((KY.set 0 _).set 1 _) 2 (.slice a6 L6 k6)
    have bx := bd.trans (hHeld.mono bd.size)
    clear KZ KY y0 y1_ y2_ z0 z1 z2 hHeld s6 mV hC KF KA KV hA
    go_wp2_with fail
    go_meet
    exact ⟨_, _, _, _, _, _, _, rfl, rfl, K15, s15, bx⟩
  case rest =>
   obtain ⟨g8, R, K, a8, L, k8, ec, rfl, rfl, K8, hS, bx⟩ := hcut
   replace KF := KF.next bx; replace KA := KA.next bx; replace KV := KV.next bx; replace hA := hA.next bx; replace hV := hV.next bx; replace hL := hL.next bx
   have hVr : g + 1 + 1 ≤ wr.heap.size := by have := B1.size; omega
   replace B1 := B1.trans (bx.mono hVr); replace BW := BW.trans (bx.mono BW.size)
   clear bx hVr
   rcases hS with ⟨X, hX, rfl, rfl, rfl, hs, rfl⟩ | ⟨hno, rfl, rfl, rfl, rfl, rfl, rfl⟩
   ·have hlX := tb1_len X
    rw [hlX] at hs K8
    have hord := Lib.hid (HK.out.ord HT.out (X := X) (by rw [hX, EV.out]))
    obtain ⟨x, ex⟩ : ∃ x : Nat → Zp p, x = fun t => X.e t 0 := ⟨_, rfl⟩
    have EX := Lib.hid ex
    have hxg : ∀ t, t < j → (tbv X).getD t 0 = (x t).val := fun t ht => by rw [tb1_get X ht, ex]
    obtain ⟨XL, eXL⟩ : ∃ L, L = tbv X := ⟨_, rfl⟩
    rw [← eXL] at hs hlX hxg
    have HXL := Lib.hid hlX; have HXG := Lib.hid hxg
    have hcs := hs.sl
    clear ex eXL hlX hxg hL hV KV KA hA B1 hX
    obtain ⟨a8', b8, o8, c8', e8, hc8, kc⟩ := hcs
    have e8' := e8
    rw [HXL.out] at e8'
    simp only [Value.slice.injEq] at e8'
    obtain ⟨rfl, -, rfl⟩ := e8'
    have HCS := Lib.hid kc
    clear kc e8 hc8 hs
    have q8 := K8.cell 2
    have HKF := Lib.hid KF; clear KF
    go_wp2
    clear q8
    go_loopw [28, 10] (fun iv ov wr => ∃ i : Nat, i ≤ j ∧ iv = .int .i64 i ∧ Own .u64 27 wr wc.heap.size ov (ordL i x) ∧ Below wc.heap.size wc wr) (fun iv _ _ => j - (intOf iv).toNat)
    case atStart => exact ⟨0, by omega, rfl, Own.nil _ _ _ _, Below.refl _ _⟩
    case round =>
     obtain ⟨i, hi, rfl, ho, B3⟩ := hrel
     have KF := HKF.out.next B3
     have f0 := KF.cell 0
     have hlo := Lib.hid (ordL_length i x)
     by_cases hij : i < j
     ·have hne : XL ≠ [] := by intro h; have := HXL.out; rw [h] at this; simp at this; omega
      obtain rfl := HCS.out.ao hne
      have hlb := HCS.out.lt hne
      have qx := HCS.out.cell i (by rw [HXL.out]; exact hij)
      replace qx := (B3.cell (p := ⟨b8, o8 + i, none⟩) hlb).trans qx
      rw [HXG.out i hij] at qx
      obtain ⟨y, ey⟩ : ∃ y, y = (x i).val := ⟨_, rfl⟩
      rw [← ey] at qx
      obtain ⟨z, ez⟩ : ∃ z, z = (-Zp.of p y).val := ⟨_, rfl⟩
      have EZ := Lib.hid ez
      have hz := Lib.hid (show ordL (i + 1) x = ordL i x ++ [z] by rw [ordL_succ, ez, ey, Zp.of_val])
      obtain ⟨Q, eQ⟩ : ∃ Q, Q = ordL i x := ⟨_, rfl⟩
      rw [← eQ] at ho hz hlo
      clear ey ez hne eQ
      go_wp2_with fail
      refine (gfp_Neg p y z _ HP.out EZ.out).mono ?_; rintro e w9 ⟨rfl, b9⟩
      clear qx f0 KF
      replace ho := ho.next b9
      replace B3 := B3.trans (b9.mono B3.size)
      have hbs := B3.size
      go_wp2_with (at_builtin; refine wp_app1 .u64 43 27 8 Try.underlying43 (by kernel_rfl) (by decide) rfl _ _ rfl w9 wc.heap.size _ Q z _ (by rfl) ho (by rw [hlo.out]; omega) hbs rfl rfl ?_; intro v10 w10 ho10 hb10 _ _)
      have st := Lib.hid (show Own .u64 27 w10 wc.heap.size v10 (ordL (i + 1) x) ∧ Below wc.heap.size wc w10 by rw [hz.out]; exact ⟨ho10, B3.trans hb10⟩)
      clear ho ho10 hb10 B3 b9
      go_wp2
      go_roundw
      case rel => exact ⟨i + 1, by omega, by go_num, st.out⟩
      case measure => simp [intOf] <;> omega
     ·obtain rfl : i = j := by omega
      clear f0 KF
      have hbs := B3.size
      obtain ⟨Q, eQ⟩ : ∃ Q, Q = ordL i x := ⟨_, rfl⟩
      have hfin := Lib.hid (show Nrm p (Q ++ [1]) ∧ pl p (Q ++ [1]) = mon 1 i - pof i (fun t => X.e t 0) ∧ ∃ d, (Q ++ [1]).length = d + 1 ∧ d ≤ n ∧ (Q ++ [1]).getD d 0 = 1 by
       rw [eQ]
       exact ⟨ordL_nrm HP.out i x, by rw [ordL_pl, EX.out], i, by rw [List.length_append, ordL_length]; rfl, hjn, by simp [List.getD, ordL_length]⟩)
      rw [← eQ] at ho hlo
      clear eQ
      go_wp2_with (at_builtin; refine wp_app1 .u64 43 27 8 Try.underlying43 (by kernel_rfl) (by decide) rfl _ _ rfl wr wc.heap.size _ Q 1 _ (by rfl) ho (by rw [hlo.out]; omega) hbs rfl rfl ?_; intro v10 w10 ho10 hb10 _ _)
      have FR := Lib.hid (show RetOrd p w A v (.returned v10) w10 from ⟨v10, Q ++ [1], rfl, ho10.mono BW.size, hfin.out.1, by rw [hfin.out.2.1]; exact hord.out, hfin.out.2.2, BW.trans ((B3.trans hb10).mono BW.size)⟩)
      clear ho ho10 hb10 B3 BW
      go_wp2
      go_ret
      exact FR.out
   ·have hK1 := HK.out.succ HT.out (fun X hX => hno X (by rw [hX, EV.out]))
    have hj1 : j + 1 ≤ n := hK1.le HT.out
    have HK1 := Lib.hid hK1; clear hK1 hno
    obtain ⟨H, h1, h2⟩ := hL
    have HH2 := Lib.hid h2; clear h2
    have v0 := KV.cell 0; have v1 := KV.cell 1; have v2 := KV.cell 2
    have hbw : wb.heap.size ≤ wc.heap.size := B1.size
    go_wp2_with (at_builtin; refine apS3 125 63 40 (.agg #[.int .i64 0, .int .i64 0, .slice none 0 0]) Try.underlying125 (by kernel_rfl) (by decide) rfl rfl _ _ rfl wc wb.heap.size _ j _ _ _ _ rfl rfl rfl h1 (by omega) hbw rfl rfl ?_; intro g3 cap3 w3 ho3 hb3 hg3; have KV3 := KV.below hb3 hgb; have KF3 := KF.below hb3 (by omega); have KA3 := KA.below hb3 (by omega); have v30 := KV3.cell 0; have v31 := KV3.cell 1; have v32 := KV3.cell 2; have v33 := KF3.cell 0; have v34 := KA3.cell 0; have v35 := KA3.cell 1; have v36 := KA3.cell 2)
    have hgw2 : g + 1 + 1 ≤ wb.heap.size := by omega
    have hww : w.heap.size ≤ wb.heap.size := by omega
    have OL3 := Lib.hid (OrL.push h1 HH2.out (by rw [← EV.out]; exact hV) hg3 ho3)
    have hV3 : Own .u64 27 w3 0 (.slice a n c) (tbv V) := rowOwn_kept3 hV h1 hg3 (by decide)
    have BW3 := BW.trans (hb3.mono hww)
    have B13 := B1.trans (hb3.mono hgw2)
    have hA3 := HA.out.next BW3
    have hbw3 : g + 1 + 1 ≤ w3.heap.size := by have := KV3.lt; omega
    refine (fm_Mul p _ _ n n 1 xs (tbv V) _ HP.out hA3 (fm_own hV3) (by omega) (by omega) (by omega) HX.out (tbv_length V)).mono ?_; rintro e w4 ⟨a4, k4, rfl, o4, b4⟩
    clear v0 v1 v2 v30 v31 v32 v33 v34 v35 v36
    rw [← EA.out, mx_tbv] at o4 ⊢
    obtain ⟨V4, eV4⟩ : ∃ V4, V4 = A * V := ⟨_, rfl⟩
    rw [← eV4, tb1_len V4] at o4 ⊢
    have hV4 : V4 = A.pow (j + 1) * v := by rw [eV4, EV.out, ← MT.mul_assoc, MT.pow_comm, ← MT.pow_succ]
    rw [hV4] at o4
    clear eV4 hV4
    have KV4 := KV3.next b4
    have q0 := KV4.cell 0; have q1 := KV4.cell 1; have q2 := KV4.cell 2
    have z0 := KV4.free 0; have z1 := KV4.free 1; have z2 := KV4.free 2
    have KV5 := ((KV4.set 0 (.int .i64 n)).set 1 (.int .i64 1)).set 2 (.slice a4 n k4)
    have OL5 := (((OL3.out.next b4).off KV4 hgb 0 (.int .i64 n)).off (KV4.set 0 _) hgb 1 (.int .i64 1)).off ((KV4.set 0 _).set 1 _) hgb 2 (.slice a4 n k4)
    have o5 := (((o4.mono (Nat.zero_le _)).off KV4 0 (.int .i64 n)).off (KV4.set 0 _) 1 (.int .i64 1)).off ((KV4.set 0 _).set 1 _) 2 (.slice a4 n k4)
    have B15 := (((B13.trans (b4.mono hbw3)).setCell (p := ⟨g + 1 + 1, 0, none⟩) (Nat.le_refl _) (.int .i64 n)).setCell (p := ⟨g + 1 + 1, 1, none⟩) (Nat.le_refl _) (.int .i64 1)).setCell (p := ⟨g + 1 + 1, 2, none⟩) (Nat.le_refl _) (.slice a4 n k4)
    have st := Lib.hid (show OrS wb (((w4.setCell ⟨g + 1 + 1, 0, none⟩ (.int .i64 n)).setCell ⟨g + 1 + 1, 1, none⟩ (.int .i64 1)).setCell ⟨g + 1 + 1, 2, none⟩ (.slice a4 n k4)) (g + 1 + 1) (j + 1) A v (.slice (some ⟨g3, 0, none⟩) (j + 1) cap3) from ⟨a4, k4, OL5, KV5, o5, HK1.out, B15⟩)
    clear OL5 KV5 o5 B15 KV4 o4 b4 hA3 B13 BW3 hV3 OL3 h1 hg3 ho3 hb3 KV3 KF3 KA3 KV KF KA hA hV B1 BW K8
    go_wp2
    go_roundw
    case rel => exact ⟨j + 1, _, _, rfl, st.out⟩
    case measure => simp [lenV] <;> omega
end Go.Proofs.Ytkmfhabgempjiaa
/- hess.Min: the minimal polynomial; hess.Order: a column's order. -/
namespace Go.Proofs.Ytkmfhabgempjiaa
set_option maxHeartbeats 4000000
open Go.RowKit
section
variable {p n : Nat}
theorem uv_words (hp : FP p) (i : Nat) : (List.replicate n 0).set i 1 = tbv (uv n i : MT (Zp p) n 1) := by
 refine List.ext_getElem (by rw [List.length_set, List.length_replicate, tb1_len]) fun t h1 h2 => ?_
 rw [tb1_len] at h2
 have h3 := tb1_get (uv n i : MT (Zp p) n 1) h2
 simp only [List.getD, List.getElem?_eq_getElem (show t < (tbv (uv n i : MT (Zp p) n 1)).length by rw [tb1_len]; exact h2), Option.getD_some] at h3
 rw [h3, List.getElem_set]
 unfold uv
 rw [MT.of_e _ h2 (by omega)]
 by_cases e : t = i
 ·rw [if_pos e, if_pos e.symm, ← Zp.of_one, Zp.val_of, Nat.mod_eq_of_lt (by have := hp.1; omega)]
 ·rw [if_neg e, if_neg (fun h => e h.symm), List.getElem_replicate, Zp.zero_val]
def RetMin (p : Nat) {n : Nat} (w : World) (A : MT (Zp p) n n) (e : Ending) (w' : World) : Prop :=
 ∃ ao k zs d, e = .returned (.tuple #[.slice ao zs.length k, .int .i64 0]) ∧ Own .u64 27 w' w.heap.size (.slice ao zs.length k) zs ∧ Nrm p zs ∧ MinTo A n (pl p zs) ∧ zs.length = d + 1 ∧ d ≤ n ∧ Below w.heap.size w w'
theorem min_len (hp : FP p) (ht : Trial p) {A : MT (Zp p) n n} {zs : List Nat} (hz : Nrm p zs) (h : MinTo A n (pl p zs)) : ∃ d, zs.length = d + 1 ∧ d ≤ n := by
 have hl := nrm_ln hp.pos hz
 have h1 := h.deg ht hl
 rcases Nat.eq_zero_or_pos zs.length with e | e
 ·exfalso
  rw [e] at hl
  exact h.ne hl.nil
 ·exact ⟨zs.length - 1, by omega, by omega⟩
end
set_option maxRecDepth 20000 in
theorem hs_Min (p : Nat) (a : Value) (n : Nat) (xs : List Nat) (w : World) (hp : FP p) (ht : Trial p) (hA : Fm w a n n xs) (hn : n ≤ 60) (hx : xs.length = n * n) :
  Calls Try.prog 67 #[.agg #[.int .u64 p], a] w (RetMin p w (mx p n n xs)) := by
 obtain ⟨aA, cA, rfl⟩ := hA.agg
 obtain ⟨wb, ew, KF, KA, B0, hsz⟩ := boxes2 w 29 63 [.int .u64 p] [.int .i64 n, .int .i64 n, .slice aA xs.length cA]
 clear hsz
 have HP := Lib.hid hp; have HT := Lib.hid ht; clear hp ht
 have HA := Lib.hid hA; clear hA
 have HX := Lib.hid hx; clear hx
 obtain ⟨A, eA⟩ : ∃ A, A = mx p n n xs := ⟨_, rfl⟩
 rw [← eA]
 have EA := Lib.hid eA; clear eA
 go_enter Try.func67, Try.ntmps67
 go_upto_region 1 with (fail)
 rw [← ew]
 obtain ⟨g, eg⟩ : ∃ g, g = w.heap.size := ⟨_, rfl⟩
 rw [← eg] at KF KA ⊢
 clear ew eg
 have f1 := KA.cell 0; have f2 := KA.cell 1; have f3 := KA.cell 2
 go_wp2_with fail
 refine (hs_square_yes _ n xs _ (HA.out.next B0) (by omega) HX.out).mono ?_; rintro e w2 ⟨rfl, b2⟩
 clear f1 f2 f3
 replace KF := KF.next b2; replace KA := KA.next b2
 replace B0 := B0.trans (b2.mono B0.size)
 have o2 : Own .u64 27 (w2.alloc (.cells #[.int .u64 1] 27)) w2.heap.size (.slice (some ⟨w2.heap.size, 0, none⟩) 1 1) [1] := own_lit1 w2 1
 have b22 := (Below.refl w2.heap.size w2).alloc (Nat.le_refl _) (.cells #[.int .u64 1] 27)
 obtain ⟨w3, ew3⟩ : ∃ w3, w3 = w2.alloc (.cells #[.int .u64 1] 27) := ⟨_, rfl⟩
 rw [← ew3] at o2 b22
 go_upto_region 4 with (fail)
 rw [← ew3]
 replace KF := KF.next b22; replace KA := KA.next b22
 have hb2 := B0.size
 replace B0 := B0.trans (b22.mono B0.size)
 have st : ∃ zs, Own .u64 27 w3 w.heap.size (.slice (some ⟨w2.heap.size, 0, none⟩) 1 1) zs ∧ Nrm p zs ∧ MinTo A 0 (pl p zs) ∧ zs.length ≤ 1 + 0 * 64 := ⟨[1], o2.mono hb2, nrm_1 HP.out, by rw [pl1]; exact MinTo.start HT.out A, by simp⟩
 have HKF := Lib.hid KF; have HKA := Lib.hid KA; have HB0 := Lib.hid B0
 have c0 := KA.cell 0
 clear ew3 o2 b22 KF KA B0 b2
 go_wp2
 clear c0
 go_loopw [15, 6] (fun iv ov wr => ∃ i : Nat, i ≤ n ∧ iv = .int .i64 i ∧ (∃ zs, Own .u64 27 wr w.heap.size ov zs ∧ Nrm p zs ∧ MinTo A i (pl p zs) ∧ zs.length ≤ 1 + i * 64) ∧ Below w3.heap.size w3 wr) (fun iv _ _ => n - (intOf iv).toNat)
 case atStart => exact ⟨0, by omega, rfl, st, Below.refl _ _⟩
 case round =>
  clear st
  obtain ⟨i, hi, rfl, ⟨zs, ho, nz, hz, lz⟩, B1⟩ := hrel
  have HZ := Lib.hid (And.intro nz (And.intro hz lz)); clear nz hz lz
  have BW := HB0.out.trans (B1.mono HB0.out.size)
  by_cases hin : i < n
  ·have KF := HKF.out.next B1; have KA := HKA.out.next B1
   have c0 := KA.cell 0
   go_upto_region 9 with (at_make; refine wp_make .u64 41 27 8 Try.underlying41 (by kernel_rfl) (by decide) rfl _ _ rfl .i64 .i64 n (by omega) _ _ _ rfl rfl (by omega) (by omega) ?_; intro w5 hown hbel hsz5; have hcz := hown.cellAt i (by simpa using hin); have hfz := hown.frozenAt i)
   clear c0 KF KA
   have o6 : Own .u64 27 (w5.setCell ⟨wr.heap.size, i, none⟩ (.int .u64 1)) 0 (.slice (some ⟨wr.heap.size, 0, none⟩) n n) (tbv (uv n i : MT (Zp p) n 1)) := by
    have h := (hown.store i 1).1
    rw [uv_words HP.out] at h
    exact h.mono (Nat.zero_le _)
   have B5 := hbel.setCell (p := ⟨wr.heap.size, i, none⟩) (Nat.le_refl _) (.int .u64 1)
   obtain ⟨w6, ew6⟩ : ∃ w6, w6 = w5.setCell ⟨wr.heap.size, i, none⟩ (.int .u64 1) := ⟨_, rfl⟩
   obtain ⟨g5, eg5⟩ : ∃ g5, g5 = wr.heap.size := ⟨_, rfl⟩
   rw [← ew6] at o6 B5 ⊢
   rw [← eg5] at o6 ⊢
   clear ew6 eg5 hown hbel hsz5 hcz hfz
   have bd := B5.trans ((dw w6).mono B5.size)
   replace o6 := o6.next (dw w6)
   replace ho := ho.next bd
   replace B1 := B1.trans (bd.mono B1.size)
   replace BW := HB0.out.trans (B1.mono HB0.out.size)
   clear bd B5
   have KF := HKF.out.next B1; have KA := HKA.out.next B1
   have z0 := Lib.hid fun (w : World) (hS : Below (w6.drew).heap.size (w6.drew) w) => And.intro ((KF.at hS) 0) (And.intro ((KA.at hS) 0) (And.intro ((KA.at hS) 1) ((KA.at hS) 2)))
   refine startL (S := (fun w' => Below (w6.drew).heap.size (w6.drew) w')) (by kernel_rfl) (Below.refl _ _) (fun hHeld => ?_)
   refine tf 0 z0.out ?_
   refine tk 1 ?_
   refine tf 2 z0.out ?_
   refine tf 3 z0.out ?_
   refine tk 4 ?_
   refine tf 5 z0.out ?_
   refine tk 6 ?_
   refine tk 7 ?_
   refine on 8 fun K hK => ?_
   go_simp
   go_at_call 123
   (with_reducible refine (hs_order p _ n (some ⟨g5, 0, none⟩) n (uv n i) xs _ HP.out HT.out (HA.out.next (BW.trans (hHeld.mono BW.size))) hn HX.out (o6.next hHeld)).mono ?_); rintro e y1 ⟨r8, z8, rfl, o8, n8, v8, l8, c8⟩
   refine hK.out _ _ (hHeld.trans (c8.mono hHeld.size)) (fun hHeld => ?_)
   clear hK K
   try simp only [Act.put, zq1, zq2, zq3]
   refine on 9 fun K hK => ?_
   go_simp
   go_at_call 122
   (with_reducible refine (fp_Lcm p _ _ zs z8 _ HP.out HT.out (ho.next hHeld).sl o8.sl (by have := HZ.out.2.2; omega) (by obtain ⟨d, e1, e2, _⟩ := l8; omega)).mono ?_); have hHeld0 := hHeld.size; rintro e y2 ⟨r9, z9, rfl, o9, n9, m9, ⟨gg, q, u, hg1, hg2, hg3, hg4⟩, l9, c9⟩
   refine hK.out _ _ (hHeld.trans (c9.mono hHeld.size)) (fun hHeld => ?_)
   clear hK K
   try simp only [Act.put, zq1, zq2, zq3]
   refine tk 10 ?_
   clear z0; refine doneL (by kernel_rfl) ?_ _
   rw [← EA.out] at v8
   have hst := Lib.hid (show Nrm p z9 ∧ MinTo A (i + 1) (pl p z9) ∧ z9.length ≤ 1 + (i + 1) * 64 from
    ⟨n9, HZ.out.2.1.step v8 (isLcm_of HT.out m9 hg1 hg2 hg3 hg4), by have := HZ.out.2.2; obtain ⟨d, e1, e2, _⟩ := l8; omega⟩)
   have hws := BW.size
   have h69 := Nat.le_trans hws hHeld0
   replace B1 := B1.trans (hHeld.mono B1.size)
   have o9' := o9.mono h69
   clear o9 o8 v8 l8 n9 m9 hg1 hg2 hg3 hg4 l9 ho o6 hHeld KF KA BW
   go_wp2
   go_roundw
   case rel => exact ⟨i + 1, by omega, by go_num, ⟨z9, o9', hst.out.1, hst.out.2.1, hst.out.2.2⟩, B1⟩
   case measure => simp [intOf] <;> omega
  ·obtain rfl : i = n := by omega
   obtain ⟨ao, k, rfl⟩ := ho.sliced
   obtain ⟨d, hd1, hd2⟩ := min_len HP.out HT.out HZ.out.1 HZ.out.2.1
   have FR := Lib.hid (show RetMin p w A (.returned (.tuple #[.slice ao zs.length k, .int .i64 0])) wr from ⟨ao, k, zs, d, rfl, ho, HZ.out.1, HZ.out.2.1, hd1, hd2, BW⟩)
   clear hd1 hd2 ho BW B1
   go_wp2
   exact bodyPost_ret (v := .tuple #[.slice ao zs.length k, .int .i64 0]) (by simp [results, Try.results67, go_sem]) rfl FR.out
end Go.Proofs.Ytkmfhabgempjiaa
/- Layer 25, plain: the invariants' product and the last one. -/
namespace Go.Proofs.Ytkmfhabgempjiaa
set_option maxHeartbeats 4000000
open Go.RowKit
section
open CR
variable {p n : Nat}
theorem pr_congr {d d' : Nat → Pol (Zp p)} : ∀ k, (∀ j, j < k → d j = d' j) → pr d k = pr d' k
 | 0, _ => rfl
 | k + 1, h => by
  show pr d k * d k = pr d' k * d' k
  rw [pr_congr k fun j hj => h j (by omega), h k (by omega)]
theorem mo_one1 (tr : Trial p) {g : Pol (Zp p)} (h : Mo g) (hl : Ln g 1) : g = 1 := by
 rcases h with rfl | ⟨d, h1, h2⟩
 ·exact absurd rfl hl.ne
 ·obtain rfl : d = 0 := by have := (Mo.ln tr h1 h2).unique hl; omega
  refine Pol.ext fun i => ?_
  rw [Pol.one_def, c_mon]
  by_cases e : i = 0
  ·subst e; rw [if_pos rfl]; exact h2
  ·rw [if_neg e]; exact h1 i (by omega)
noncomputable def ivd (W : (Nat → Nat → Pol (Zp p))) (i j : Nat) : Pol (Zp p) := W ((pks W i).getD j 0) ((pks W i).getD j 0)
theorem pks_getD (W : (Nat → Nat → Pol (Zp p))) (i j : Nat) (hj : j < (pks W i).length) : (pks W i).getD j 0 < i ∧ 1 < pln (W ((pks W i).getD j 0) ((pks W i).getD j 0)) := by
 have : (pks W i).getD j 0 ∈ pks W i := by
  simp only [List.getD, List.getElem?_eq_getElem hj, Option.getD_some]
  exact List.getElem_mem hj
 exact pks_lt this
theorem pks_incr (W : (Nat → Nat → Pol (Zp p))) : ∀ i s t, s < t → t < (pks W i).length → (pks W i).getD s 0 < (pks W i).getD t 0
 | 0, _, _, _, h => absurd h (by simp [pks])
 | i + 1, s, t, hst, ht => by
  by_cases h1 : 1 < pln (W i i)
  ·rw [pks_succ, if_pos h1] at ht ⊢
   rw [List.length_append] at ht
   simp only [List.length_cons, List.length_nil] at ht
   rw [getD_snoc, getD_snoc, if_neg (by omega)]
   by_cases e : t = (pks W i).length
   ·rw [if_pos e]; exact (pks_getD W i s (by omega)).1
   ·rw [if_neg e]; exact pks_incr W i s t hst (by omega)
  ·rw [pks_succ, if_neg h1, List.append_nil] at ht ⊢
   exact pks_incr W i s t hst ht
theorem ivd_pr (tr : Trial p) {W : (Nat → Nat → Pol (Zp p))} : ∀ i, (∀ k, k < i → Mo (W k k) ∧ W k k ≠ 0) → pr (ivd W i) (pks W i).length = pr (fun k => W k k) i
 | 0, _ => rfl
 | i + 1, h => by
  have ih := ivd_pr tr i fun k hk => h k (by omega)
  obtain ⟨h1, h2, h3⟩ := mo_top tr (h i (by omega)).1 (h i (by omega)).2
  show _ = pr (fun k => W k k) i * W i i
  rw [← ih]
  by_cases hp : 1 < pln (W i i)
  ·have e : pks W (i + 1) = pks W i ++ [i] := by rw [pks_succ, if_pos hp]
   have el : (pks W (i + 1)).length = (pks W i).length + 1 := by rw [e, List.length_append]; rfl
   rw [el]
   show pr (ivd W (i + 1)) (pks W i).length * ivd W (i + 1) (pks W i).length = _
   rw [pr_congr (d' := ivd W i) _ fun j hj => by unfold ivd; rw [e, getD_snoc, if_neg (by omega)]]
   unfold ivd
   rw [e, getD_snoc, if_pos rfl]
  ·have e : pks W (i + 1) = pks W i := by rw [pks_succ, if_neg hp, List.append_nil]
   have e1 : W i i = 1 := mo_one1 tr (h i (by omega)).1 (by rwa [show pln (W i i) = 1 by omega] at h1)
   rw [e1, mul_one]
   unfold ivd
   rw [e]
theorem pr_mo {d : Nat → Pol (Zp p)} : ∀ k, (∀ j, j < k → Mo (d j)) → Mo (pr d k)
 | 0, _ => Mo.one
 | k + 1, h => (pr_mo k fun j hj => h j (by omega)).mul (h k (by omega))
theorem ivd_chi (tr : Trial p) {A : MT (Zp p) n n} {U W V : (Nat → Nat → Pol (Zp p))} (h : SmR (XA A) U W V) (hoff : ∀ i k, i < n → k < n → i ≠ k → W i k = 0) (hm : ∀ k, k < n → Mo (W k k)) : pr (ivd W n) (pks W n).length = chi A := by
 obtain ⟨hne, -⟩ := smith_deg tr h hoff hm
 rw [ivd_pr tr n fun k hk => ⟨hm k hk, hne k hk⟩]
 have e2 : (MT.of n n W).det = pr (fun k => W k k) n := by
  rw [← dn_dg]
  exact dn_congr n fun i k hi hk => by
   rw [MT.of_e _ hi hk]
   unfold dg
   by_cases hik : i = k
   ·subst hik; rw [if_pos rfl]
   ·rw [if_neg hik]; exact hoff i k hi hk hik
 obtain ⟨X, hX⟩ := h.u
 obtain ⟨Y, hY⟩ := h.v
 have e3 : (MT.of n n W).det = (MT.of n n U).det * chi A * (MT.of n n V).det := by rw [h.e, MT.det_mul, MT.det_mul]; rfl
 have e4 : chi A = (MT.of n n W).det * (X.det * Y.det) := by
  rw [e3]
  have h1 := hX.det
  have h2 := hY.det
  calc chi A = chi A * (1 * 1) := by rw [mul_one, mul_one]
   _ = chi A * (((MT.of n n U).det * X.det) * ((MT.of n n V).det * Y.det)) := by rw [h1, h2]
   _ = _ := by_ring [chi A, (MT.of n n U).det, X.det, (MT.of n n V).det, Y.det] (X0 * ((X1 * X2) * (X3 * X4))) (X1 * X0 * X3 * (X2 * X4)) rfl
 rw [e2] at e3 e4
 refine Mo.unique tr (pr_mo n fun k hk => hm k hk) ?_ ?_ ?_
 ·have h1 := chi_top n A.e
  rw [← chi_xh] at h1
  exact Or.inr ⟨n, h1.1, h1.2⟩
 ·exact ⟨X.det * Y.det, e4⟩
 ·exact ⟨(MT.of n n U).det * (MT.of n n V).det, by rw [e3]; exact by_ring [chi A, (MT.of n n U).det, (MT.of n n V).det] (X1 * X0 * X2) (X0 * (X1 * X2)) rfl⟩
theorem smith_min {A : MT (Zp p) n n} {U W V : (Nat → Nat → Pol (Zp p))} {X : MT (Pol (Zp p)) n n} (h : SmR (XA A) U W V) (hX : Inv (MT.of n n U) X) (hoff : ∀ i k, i < n → k < n → i ≠ k → W i k = 0) (hdv : ∀ i k, i ≤ k → k < n → Dv (W i i) (W k k)) {m : Nat} (hn : n = m + 1) (f : Pol (Zp p)) : Dv (W m m) f ↔ pev f A = 0 := by
 constructor
 ·intro hf
  refine pev_dv hf ?_
  rw [zero_uv]
  intro i hi
  obtain ⟨g, hg⟩ := smith_span (A := A) hX (uv n i)
  rw [hg, ms_mul]
  have hz : ∀ k, k < n → pev (W m m) A * (pev (g k) A * ph A (cl X k)) = 0 := fun k hk => by
   obtain ⟨q, hq⟩ := hdv k m (by omega) (by omega)
   rw [← MT.mul_assoc, pev_comm, MT.mul_assoc, hq, mul_comm (W k k) q, pev_mul, MT.mul_assoc, smith_kill h hX hoff hk, MT.mul_zero, MT.mul_zero]
  exact ms_zero fun k hk => hz k hk
 ·intro hf
  have hmn : m < n := by omega
  have h1 : ph A ((cl X m).sc f) = 0 := by rw [ph_sc, hf, MT.zero_mul]
  obtain ⟨C, hC⟩ := ph_ker h1
  obtain ⟨Y, hY⟩ := h.v
  have e1 : MT.of n n U * XA A = MT.of n n W * Y := by rw [h.e, MT.mul_assoc, hY.1, MT.mul_one]
  have e2 : MT.of n n U * (cl X m).sc f = MT.of n n W * (Y * C) := by rw [hC, ← MT.mul_assoc, e1, MT.mul_assoc]
  have e3 := congrArg (fun M : MT (Pol (Zp p)) n 1 => M.e m 0) e2
  have e4 : (MT.of n n U * (cl X m).sc f).e m 0 = f := by
   rw [MT.mul_sc, MT.e_sc]
   have e5 : (MT.of n n U * cl X m).e m 0 = (MT.of n n U * X).e m m := by
    rw [MT.e_mul, MT.e_mul]
    exact sm_congr fun j hj => by rw [cl_e _ hj]
   rw [e5, hX.1, MT.e_one hmn hmn, if_pos rfl]
   first | exact mul_one f | exact one_mul f
  have e6 : (MT.of n n W * (Y * C)).e m 0 = W m m * (Y * C).e m 0 := by
   rw [MT.e_mul, sm_one hmn fun j hj hne => by rw [MT.of_e _ hmn hj, hoff m j hmn hj (Ne.symm hne), zero_mul], MT.of_e _ hmn hmn]
  exact ⟨(Y * C).e m 0, by rw [← e6, ← e3]; exact e4.symm⟩
noncomputable def ivl (W : (Nat → Nat → Pol (Zp p))) (i k : Nat) : Pol (Zp p) := if k = 0 then 1 else ivd W i (k - 1)
theorem ivl_min (tr : Trial p) {A : MT (Zp p) n n} {U W V : (Nat → Nat → Pol (Zp p))} {X : MT (Pol (Zp p)) n n} (h : SmR (XA A) U W V) (hX : Inv (MT.of n n U) X) (hoff : ∀ i k, i < n → k < n → i ≠ k → W i k = 0) (hm : ∀ k, k < n → Mo (W k k)) (hdv : ∀ i k, i ≤ k → k < n → Dv (W i i) (W k k)) {L : Pol (Zp p)} (hL : MinTo A n L) : ivl W n (pks W n).length = L := by
 by_cases hn : n = 0
 ·subst hn
  have e : (pks W 0).length = 0 := rfl
  unfold ivl
  rw [e, if_pos rfl]
  exact Mo.unique tr Mo.one hL.mo ⟨L, (one_mul L).symm⟩ ((hL.iff 1).2 fun i hi => absurd hi (by omega))
 ·obtain ⟨m, rfl⟩ : ∃ m, n = m + 1 := ⟨n - 1, by omega⟩
  obtain ⟨hne, hdim⟩ := smith_deg tr h hoff hm
  have hlast : 1 < pln (W m m) := by
   refine Classical.byContradiction fun hc => ?_
   have hz : bdm ((List.range (m + 1)).map (prts A W X)) = 0 := by
    have hall : ∀ l : List Nat, (∀ k ∈ l, k < m + 1) → bdm (l.map (prts A W X)) = 0 := by
     intro l
     induction l with
     | nil => intro _; rfl
     | cons k l ih =>
      intro hl
      show (pln (W k k) - 1) + bdm (l.map (prts A W X)) = 0
      rw [ih fun j hj => hl j (List.mem_cons_of_mem _ hj)]
      have hk := hl k List.mem_cons_self
      have := Dv.len tr (hdv k m (by omega) (by omega)) (hne m (by omega)) (pln_ln _) (pln_ln _)
      omega
    exact hall _ fun k hk => List.mem_range.1 hk
   have := hdim X
   omega
  have e : pks W (m + 1) = pks W m ++ [m] := by rw [pks_succ, if_pos hlast]
  have el : (pks W (m + 1)).length = (pks W m).length + 1 := by rw [e, List.length_append]; rfl
  unfold ivl ivd
  rw [el, if_neg (by omega), Nat.add_sub_cancel, e, getD_snoc, if_pos rfl]
  have key := fun f => smith_min h hX hoff hdv (m := m) rfl f
  exact Mo.unique tr (hm m (by omega)) hL.mo ((key L).2 ((hL.full L).1 (Dv.refl L))) ((hL.full _).2 ((key _).1 (Dv.refl _)))
theorem ivl_dv {W : (Nat → Nat → Pol (Zp p))} (hdv : ∀ i k, i ≤ k → k < n → Dv (W i i) (W k k)) {k : Nat} (hk : k < (pks W n).length) : Dv (ivl W n k) (ivd W n k) := by
 unfold ivl
 by_cases e : k = 0
 ·rw [if_pos e]; exact ⟨_, (one_mul _).symm⟩
 ·rw [if_neg e]
  unfold ivd
  exact hdv _ _ (Nat.le_of_lt (pks_incr W n (k - 1) k (by omega) hk)) (pks_getD W n k hk).1
theorem awk25 (tr : Trial p) (h5 : Zp.of p 5 = -Zp.of p 2) {U W V : (Nat → Nat → Pol (Zp p))} (h : SmR (XA (mx p 2 2 [2, 0, 0, 2])) U W V) (hoff : ∀ i k, i < 2 → k < 2 → i ≠ k → W i k = 0) (hm : ∀ k, k < 2 → Mo (W k k)) : pks W 2 = [0, 1] ∧ W 0 0 = pl p [5, 1] ∧ W 1 1 = pl p [5, 1] := by
 obtain ⟨hne, hdim⟩ := smith_deg tr h hoff hm
 have hl : Ln (pl p [5, 1]) 2 := Mo.ln tr (n := 1) (fun i hi => pl_dlt p _ i hi) (by rw [pl_c]; exact Zp.of_one p)
 have hmf : Mo (pl p [5, 1]) := Or.inr ⟨1, fun i hi => pl_dlt p _ i hi, by rw [pl_c]; exact Zp.of_one p⟩
 have ex : ∀ i k, i < 2 → k < 2 → (XA (mx p 2 2 [2, 0, 0, 2])).e i k = if i = k then pl p [5, 1] else 0 := fun i k hi hk => by
  unfold XA
  rw [MT.of_e _ hi hk, mx_e _ hi hk]
  by_cases e : i = k
  ·subst e
   rw [if_pos rfl, if_pos rfl]
   have e2 : Zp.of p ([2, 0, 0, 2].getD (i * 2 + i) 0) = Zp.of p 2 := by
    rcases (show i = 0 ∨ i = 1 by omega) with rfl | rfl <;> rfl
   rw [e2, pl_cons', pl_one, mul_one, h5, mon_neg, sub_eq, add_comm]
  ·rw [if_neg e, if_neg e]
   have e2 : [2, 0, 0, 2].getD (i * 2 + k) 0 = 0 := by
    rcases (show (i = 0 ∧ k = 1) ∨ (i = 1 ∧ k = 0) by omega) with ⟨rfl, rfl⟩ | ⟨rfl, rfl⟩ <;> rfl
   rw [e2, Zp.of_zero, mon_zero, sub_zero]
 have hd : ∀ k, k < 2 → Dv (pl p [5, 1]) (W k k) := fun k hk => by
  have e1 := congrArg (fun M : MT (Pol (Zp p)) 2 2 => M.e k k) h.e
  have e2 : W k k = (MT.of 2 2 U * XA (mx p 2 2 [2, 0, 0, 2]) * MT.of 2 2 V).e k k := by
   rw [← MT.of_e (f := W) hk hk]; exact e1
  rw [e2, MT.e_mul]
  refine Dv.sm 2 fun j hj => ?_
  rw [MT.e_mul]
  refine Dv.mul' (Dv.sm 2 fun i hi => ?_) _
  rw [ex i j hi hj]
  split
  ·exact (Dv.refl _).mul _
  ·exact (Dv.zero _).mul _
 have h0 := Dv.len tr (hd 0 (by omega)) (hne 0 (by omega)) hl (pln_ln _)
 have h1 := Dv.len tr (hd 1 (by omega)) (hne 1 (by omega)) hl (pln_ln _)
 have hs := hdim (MT.one 2)
 have hs2 : (pln (W 0 0) - 1) + ((pln (W 1 1) - 1) + 0) = 2 := hs
 have fin : ∀ k, k < 2 → pln (W k k) = 2 → W k k = pl p [5, 1] := fun k hk e => by
  obtain ⟨g, hg⟩ := hd k hk
  rw [mul_comm] at hg
  have hgn : g ≠ 0 := fun e0 => hne k hk (by rw [hg, e0, zero_mul])
  obtain ⟨a, ha⟩ := Ln.exists g
  obtain ⟨b, rfl⟩ := ha.pos hgn
  have h3 := ha.mul tr (m := b) (n := 1) hl
  rw [← hg] at h3
  have h4 := h3.unique (pln_ln _)
  obtain rfl : b = 0 := by omega
  obtain ⟨-, -, h5'⟩ := mo_top tr (hm k hk) (hne k hk)
  have hg1 : g = 1 := by
   refine mo_one1 tr (Or.inr ⟨0, ha.1, ?_⟩) ha
   rw [e, hg, Pol.c_mul] at h5'
   have e7 : sm (1 + 1) (fun s => g.c s * (pl p [5, 1]).c (1 - s)) = g.c 0 := by
    show 0 + g.c 0 * (pl p [5, 1]).c 1 + g.c 1 * (pl p [5, 1]).c 0 = g.c 0
    rw [ha.1 1 (by omega), zero_mul, add_zero, zero_add, pl_c]
    exact (congrArg (g.c 0 * ·) (Zp.of_one p)).trans (mul_one _)
   rw [← e7]; exact h5'
  rw [hg, hg1, one_mul]
 refine ⟨?_, fin 0 (by omega) (by omega), fin 1 (by omega) (by omega)⟩
 rw [pks_succ, if_pos (by omega), pks_succ, if_pos (by omega)]; rfl
end
end Go.Proofs.Ytkmfhabgempjiaa
/- What the laws of layer 25 begin with: awake. -/
namespace Go.Proofs.Ytkmfhabgempjiaa
set_option maxHeartbeats 4000000
open Go.RowKit
set_option maxRecDepth 20000 in
theorem law25_awake (w : World) : Calls Try.prog 42 #[] w (LawOk w) := by
 obtain ⟨p, ep⟩ : ∃ p, p = Ps 3 := ⟨_, rfl⟩
 have hp : FP p := by rw [ep]; exact Ps_FP (by omega)
 have ht : Trial p := by rw [ep]; exact Ps_trial (by omega)
 have c0 : ∀ w : World, Calls Try.prog 17 #[.int .u8 3] w fun e w' => e = .returned (.agg #[.int .u64 (p : Nat)]) ∧ Below w.heap.size w w' := fun w => by rw [ep]; exact law9_Of 3 w
 have h5 : Zp.of p 5 = -Zp.of p 2 := by rw [ep]; rfl
 have hn1 : Nrm p [5, 1] := by rw [ep]; exact ⟨wf_cons (by decide) (wf_cons (by decide) (wf_nil _)), rfl⟩
 have C0 := Lib.hid c0; have HP := Lib.hid hp; have HT := Lib.hid ht; have H5 := Lib.hid h5; have HN1 := Lib.hid hn1
 clear c0 hp ht h5 hn1 ep
 go_enter Try.func42, Try.ntmps42
 go_wp2_with fail
 refine (C0.out _).mono ?_; rintro e w1 ⟨rfl, b1⟩
 go_wp2_with fail
 obtain ⟨w2, e2, k1, B2, -⟩ := boxes1 w1 27 [.int .u64 2, .int .u64 0, .int .u64 0, .int .u64 2]
 rw [← e2]
 have B3 := b1.trans (B2.mono b1.size)
 have hA : Fm w2 (.agg #[.int .i64 2, .int .i64 2, .slice (some ⟨w1.heap.size, 0, none⟩) 4 4]) (2 : Nat) (2 : Nat) [2, 0, 0, 2] := ⟨_, rfl, Blk.sl (xs := [2, 0, 0, 2]) k1⟩
 refine (fb_Invariants p _ 2 [2, 0, 0, 2] w2 HP.out HT.out hA (by omega) rfl).mono ?_
 rintro e w3 ⟨W, U, V, X, h1, -, h3, h4, -, iv, us, rfl, QI, b3⟩
 obtain ⟨e0, e1, e4⟩ := awk25 HT.out H5.out h1 h3 h4
 rw [e0] at QI
 have B4 := B3.trans (b3.mono B3.size)
 obtain ⟨hrow, hul, hel⟩ := QI
 obtain ⟨u0, u1, rfl⟩ : ∃ u0 u1, us = [u0, u1] := by
  match us, hul with
  | [a, b], _ => exact ⟨a, b, rfl⟩
 obtain ⟨z0, o0, n0, v0, -⟩ := hel 0 u0 rfl
 obtain ⟨z1, o1, n1, v1, -⟩ := hel 1 u1 rfl
 obtain rfl : z0 = [5, 1] := pl_inj HP.out.pos n0 HN1.out (v0.trans e1)
 obtain rfl : z1 = [5, 1] := pl_inj HP.out.pos n1 HN1.out (v1.trans e4)
 obtain ⟨gb, cap, rfl⟩ : ∃ b cap, iv = .slice (some ⟨b, 0, none⟩) 2 cap := by
  rcases rowOwn_shape hrow with ⟨_, e2⟩ | ⟨b, cap, e1, _⟩
  ·simp at e2
  ·exact ⟨b, cap, e1⟩
 have q0 : w3.cell? ⟨gb, 0, none⟩ = some u0 := World.ownsRow.cellAt hrow 0 (by decide)
 have q1 : w3.cell? ⟨gb, 1, none⟩ = some u1 := World.ownsRow.cellAt hrow 1 (by decide)
 obtain ⟨a0, c0, h0⟩ := o0.sliced
 obtain ⟨a1, c1, h1⟩ := o1.sliced
 rw [h0] at q0 o0; rw [h1] at q1 o1
 have gl : gb < w3.heap.size := (rowOwn_tyb hrow rfl).2.2
 have HS0 := Lib.hid o0; have HS1 := Lib.hid o1
 clear hrow hel h3 h4 o0 o1 n0 v0 n1 v1 e0 e1 e4 h0 h1 B3 b3 hA e2 k1 b1 B2
 have b7 := (Below.refl w3.heap.size w3).alloc (Nat.le_refl _) (.cells #[.int .u64 5, .int .u64 1] 27)
 have l7 := own_lit2 w3 5 1
 have q1' := (b7.cell (p := ⟨gb, 1, none⟩) gl).trans q1
 go_wp2_with fail
 refine (ref9_Same _ _ [5, 1] [5, 1] true _ (HS0.out.next b7).sl l7.sl (by simp) (by simp) (decide_eq_true rfl).symm).mono ?_; rintro e w8 ⟨rfl, q8⟩
 have b8 := b7.trans (q8.below w3.heap.size)
 have HS1' := HS1.out.next b8
 have B5 := B4.trans (b8.mono B4.size)
 have q1'' := (q8.below _).cell (p := ⟨gb, 1, none⟩) (by have := b7.size; omega) |>.trans q1'
 clear HS0 HS1 l7 q0 q1 q1' b7 q8 b8 B4
 have b9 := (Below.refl w8.heap.size w8).alloc (Nat.le_refl _) (.cells #[.int .u64 5, .int .u64 1] 27)
 have l9 := own_lit2 w8 5 1
 go_wp2_with fail
 refine (ref9_Same _ _ [5, 1] [5, 1] true _ (HS1'.next b9).sl l9.sl (by simp) (by simp) (decide_eq_true rfl).symm).mono ?_; rintro e w10 ⟨rfl, q10⟩
 have FIN := Lib.hid (show LawOk w (.returned (.bool true)) w10 from ⟨rfl, (B5.trans (b9.mono B5.size)).trans (q10.below w.heap.size)⟩)
 clear HS1' q1'' l9 b9 q10 B5
 go_wp2
 go_ret
 exact FIN.out
end Go.Proofs.Ytkmfhabgempjiaa
