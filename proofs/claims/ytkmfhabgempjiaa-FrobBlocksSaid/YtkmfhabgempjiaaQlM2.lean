/- A block that is known whole: its cells, and how it goes through later worlds. -/
import Derived.Tactics
import Derived.KernelRfl
import Derived.Deep.MidRow
import Derived.Deep.AppendLies
import Derived.Test.YtkmfhabgempjiaaProg
import Derived.Deep.RegionHeld
import Derived.OrdersHeld
import Derived.StillTail
import Derived.Test.YtkmfhabgempjiaaQlM1
namespace Go.Proofs.Ytkmfhabgempjiaa
set_option maxHeartbeats 4000000
open Go.RowKit
def Blk (e : TypeId) (w : World) (g : Nat) (vs : List Value) : Prop := w.heap[g]? = some (.cells vs.toArray e (0, 0))
theorem Blk.lit (w : World) (e : TypeId) (vs : List Value) : Blk e (w.alloc (.cells vs.toArray e)) w.heap.size vs := heap_alloc_new w _
theorem Blk.lt {e : TypeId} {w : World} {g : Nat} {vs : List Value} (h : Blk e w g vs) : g < w.heap.size := (Array.getElem?_eq_some_iff.1 h).1
theorem Blk.below {e : TypeId} {w w' : World} {g : Nat} {vs : List Value} (h : Blk e w g vs) {B : Nat} (hb : Below B w w') (hg : g < B) : Blk e w' g vs := by
 unfold Blk; rw [hb.block g hg]; exact h
theorem Blk.next {e : TypeId} {w w' : World} {g : Nat} {vs : List Value} (h : Blk e w g vs) (hb : Below w.heap.size w w') : Blk e w' g vs := h.below hb h.lt
theorem Blk.alloc {e : TypeId} {w : World} {g : Nat} {vs : List Value} (h : Blk e w g vs) (o : Obj) : Blk e (w.alloc o) g vs := h.next ((Below.refl _ _).alloc (Nat.le_refl _) o)
theorem Blk.drew {e : TypeId} {w : World} {g : Nat} {vs : List Value} (h : Blk e w g vs) : Blk e w.drew g vs := h
theorem Blk.cell {e : TypeId} {w : World} {g : Nat} {vs : List Value} (h : Blk e w g vs) (j : Nat) : w.cell? ⟨g, j, none⟩ = vs[j]? := by
 rw [cell_of_row w g j vs.toArray e (0, 0) h]; simp
theorem Blk.free {e : TypeId} {w : World} {g : Nat} {vs : List Value} (h : Blk e w g vs) (j : Nat) : w.frozen? ⟨g, j, none⟩ = false := frozen_of_row w g j _ e h
theorem Blk.set {e : TypeId} {w : World} {g : Nat} {vs : List Value} (h : Blk e w g vs) (j : Nat) (v : Value) : Blk e (w.setCell ⟨g, j, none⟩ v) g (vs.set j v) := by
 have := heap_setCell_same w g j vs.toArray e v h
 unfold Blk; rw [this]; simp
theorem Blk.far {e : TypeId} {w : World} {g : Nat} {vs : List Value} (h : Blk e w g vs) {a : Addr} (ha : g ≠ a.block) (v : Value) : Blk e (w.setCell a v) g vs := by
 unfold Blk; rw [Below.heap_setCell w a v g ha]; exact h
theorem Blk.at {e : TypeId} {w w' : World} {g : Nat} {vs : List Value} (h : Blk e w g vs) (hb : Below w.heap.size w w') (j : Nat) : w'.cell? ⟨g, j, none⟩ = vs[j]? := (h.next hb).cell j
end Go.Proofs.Ytkmfhabgempjiaa
/- Blocks that are laid one behind the other. -/
namespace Go.Proofs.Ytkmfhabgempjiaa
set_option maxHeartbeats 4000000
open Go.RowKit
theorem boxes1 (w : World) (e1 : TypeId) (A : List Value) : ∃ wb, wb = (w.alloc (.cells A.toArray e1)) ∧
  Blk e1 wb w.heap.size A ∧ Below w.heap.size w wb ∧ wb.heap.size = w.heap.size + 1 :=
 ⟨_, rfl, Blk.lit w e1 A, (Below.refl _ _).alloc (Nat.le_refl _) _, by simp⟩
theorem boxes2 (w : World) (e1 e2 : TypeId) (A B : List Value) : ∃ wb, wb = (w.alloc (.cells A.toArray e1)).alloc (.cells B.toArray e2) ∧
  Blk e1 wb w.heap.size A ∧ Blk e2 wb (w.heap.size + 1) B ∧ Below w.heap.size w wb ∧ wb.heap.size = w.heap.size + 1 + 1 := by
 have b1 := Blk.lit w e1 A
 have b2 := Blk.lit (w.alloc (.cells A.toArray e1)) e2 B
 have s1 : (w.alloc (.cells A.toArray e1)).heap.size = w.heap.size + 1 := by simp
 rw [s1] at b2
 exact ⟨_, rfl, b1.alloc _, b2, ((Below.refl _ _).alloc (Nat.le_refl _) _).alloc (by simp) _, by simp⟩
theorem boxes3 (w : World) (e1 e2 e3 : TypeId) (A B C : List Value) : ∃ wb, wb = ((w.alloc (.cells A.toArray e1)).alloc (.cells B.toArray e2)).alloc (.cells C.toArray e3) ∧
  Blk e1 wb w.heap.size A ∧ Blk e2 wb (w.heap.size + 1) B ∧ Blk e3 wb (w.heap.size + 1 + 1) C ∧ Below w.heap.size w wb ∧ wb.heap.size = w.heap.size + 1 + 1 + 1 := by
 obtain ⟨w2, rfl, b1, b2, hb, hs⟩ := boxes2 w e1 e2 A B
 obtain ⟨w3, e, b3, hb3, hs3⟩ := boxes1 ((w.alloc (.cells A.toArray e1)).alloc (.cells B.toArray e2)) e3 C
 rw [hs] at b3 hs3
 exact ⟨w3, e, b1.next hb3, b2.next hb3, b3, hb.trans (hb3.mono hb.size), hs3⟩
theorem boxes4 (w : World) (e1 e2 e3 e4 : TypeId) (A B C D : List Value) : ∃ wb, wb = (((w.alloc (.cells A.toArray e1)).alloc (.cells B.toArray e2)).alloc (.cells C.toArray e3)).alloc (.cells D.toArray e4) ∧
  Blk e1 wb w.heap.size A ∧ Blk e2 wb (w.heap.size + 1) B ∧ Blk e3 wb (w.heap.size + 1 + 1) C ∧ Blk e4 wb (w.heap.size + 1 + 1 + 1) D ∧ Below w.heap.size w wb ∧ wb.heap.size = w.heap.size + 1 + 1 + 1 + 1 := by
 obtain ⟨w2, rfl, b1, b2, b3, hb, hs⟩ := boxes3 w e1 e2 e3 A B C
 obtain ⟨w3, e, b4, hb3, hs3⟩ := boxes1 (((w.alloc (.cells A.toArray e1)).alloc (.cells B.toArray e2)).alloc (.cells C.toArray e3)) e4 D
 rw [hs] at b4 hs3
 exact ⟨w3, e, b1.next hb3, b2.next hb3, b3.next hb3, b4, hb.trans (hb3.mono hb.size), hs3⟩
theorem Own.low {k : IntKind} {e : TypeId} {w : World} {base : Nat} {v : Value} {xs : List Nat} (h : Own k e w base v xs) {a : Addr} (ha : a.block < base) (u : Value) : Own k e (w.setCell a u) base v xs :=
 ownsRow_setCell_below h ha u
end Go.Proofs.Ytkmfhabgempjiaa
/- Rows of rows: a slice of slices whose cells may be stored to. -/
namespace Go.Proofs.Ytkmfhabgempjiaa
set_option maxHeartbeats 4000000
open Go.RowKit
theorem rowOwn_next {w w' : World} {base : Nat} {e : TypeId} {size n : Nat} {v : Value} {xs : List Value} (h : w.ownsRow base e size v n xs) {B : Nat} (hb : Below B w w') (hB : w.heap.size ≤ B) : w'.ownsRow base e size v n xs := by
 refine ⟨h.1, ?_⟩
 rcases h.2 with h | ⟨g, cap, cur, a, b, c, d⟩
 ·exact .inl h
 ·refine .inr ⟨g, cap, cur, a, b, ?_, d⟩
  rw [hb.block g (by have := (Array.getElem?_eq_some_iff.1 c).1; omega)]; exact c
theorem rowOwn_mono {w : World} {base base' : Nat} {e : TypeId} {size n : Nat} {v : Value} {xs : List Value} (h : w.ownsRow base e size v n xs) (hb : base' ≤ base) : w.ownsRow base' e size v n xs := by
 refine ⟨h.1, ?_⟩
 rcases h.2 with h | ⟨g, cap, cur, a, b, c⟩
 ·exact .inl h
 ·exact .inr ⟨g, cap, cur, a, Nat.le_trans hb b, c⟩
theorem rowOwn_ne {w : World} {base : Nat} {e e' : TypeId} {size n b : Nat} {v : Value} {xs : List Value} {cur : Array Value} (h : w.ownsRow base e size v n xs) (hb : w.heap[b]? = some (.cells cur e' (0, 0))) (he : e ≠ e') : v.ownBlock ≠ some b := by
 intro hv
 rcases h.2 with ⟨rfl, _⟩ | ⟨g, cap, cur', rfl, _, hg, _⟩
 ·simp [Value.ownBlock] at hv
 ·simp [Value.ownBlock] at hv
  subst hv
  rw [hb] at hg
  simp at hg
  exact he hg.2.symm
theorem rowOwn_shape {w : World} {base : Nat} {e : TypeId} {n : Nat} {v : Value} {xs : List Value} (h : w.ownsRow base e 1 v n xs) :
  (v = .slice none 0 0 ∧ n = 0) ∨ ∃ g cap, v = .slice (some ⟨g, 0, none⟩) n cap ∧ base ≤ g ∧ g < w.heap.size ∧ n ≤ cap := by
 rcases h.2 with ⟨a, b⟩ | ⟨g, cap, cur, rfl, hb, hg, hn, _⟩
 ·exact .inl ⟨a, b⟩
 ·exact .inr ⟨g, cap, rfl, hb, (Array.getElem?_eq_some_iff.1 hg).1, hn⟩
theorem apV {P : Program} {o : Oper} {a : Act} {K : Act → World → Prop} {Q : Exit → Act → World → Prop} (T e bytes : Nat) (z0 : Value)
  (hu : P.underlying T = some (.slice e)) (hi : (P.info? e).map (fun i => (i.zero, i.size, i.bytes)) = some (some z0, 1, bytes)) (hby : bytes ≤ 32) (hz0 : z0.cells.size = 1)
  (s x : Operand) (ho : o.op = .call { callee := .builtin .append, args := #[s, x], argTypes := #[T, T] })
  (w : World) (base : Nat) (v : Value) (n : Nat) (vs : List Value) (y : Value) (hy : y.oneCell' = true) (hown : w.ownsRow base e 1 v n vs)
  (hlen : n ≤ 1000000000) (hbase : base ≤ w.heap.size)
  (hs : a.eval s = v) (hx : a.eval x = .slice (some ⟨w.heap.size, 0, none⟩) 1 1)
  (h : ∀ (g cap : Nat) (w' : World), w'.ownsRow base e 1 (.slice (some ⟨g, 0, none⟩) (n + 1) cap) (n + 1) (vs ++ [y]) → Below base w w' → w.grownBy w' v.ownBlock → (v.ownBlock = some g ∨ w.heap.size ≤ g) → K (a.put o.dst (.slice (some ⟨g, 0, none⟩) (n + 1) cap)) w') :
  Oper.wp P o a (w.alloc (.cells #[y] e)) K Q := by
 obtain ⟨i0, h1, h2, h3, h4⟩ := info_parts hi
 have hB := Blk.lit w e [y]
 refine wp_append_lies _ s x T ho base e i0 z0 1 bytes hu h1 h2 h3 h4 hz0 (by decide) v n vs hs (World.ownsRow.alloc hown _) ⟨w.heap.size, 0, none⟩ 1 1 [y] hx rfl ?_ ?_ (by decide) ?_ ?_ ?_ (w.heap.size + 1) ?_ ?_
 ·intro j u hj
  have e : (⟨w.heap.size, 0, none⟩ : Addr).add j = ⟨w.heap.size, j, none⟩ := by
   unfold Addr.add; split
   ·rename_i h; subst h; rfl
   ·simp
  rw [e]
  exact (hB.cell j).trans hj
 ·intro u hu
  rw [List.mem_singleton.1 hu]; exact hy
 ·unfold maxLen; omega
 ·have : (n + 1) * bytes ≤ (n + 1) * 32 := Nat.mul_le_mul_left _ hby
  omega
 ·simp; omega
 ·simp
 ·intro g cap w' k1 k2 k3 k4
  have hg : w.grownBy w' v.ownBlock := by
   have e0 := World.grownBy_alloc w (.cells #[y] e) v.ownBlock
   exact ⟨k2.os.trans e0.os, k2.tape.trans e0.tape, k2.output.trans e0.output, Nat.le_trans e0.size k2.size, fun i hi hne => (k2.block i (Nat.lt_of_lt_of_le hi e0.size) hne).trans (e0.block i hi hne)⟩
  have hge : ∀ k, v.ownBlock = some k → base ≤ k := fun j hj => (World.ownsRow.lt hown j hj).1
  exact h g cap w' k1 (below_grown hg hbase hge) hg (k3.imp id (fun e => by omega))
theorem apVl {P : Program} {ops : Array Oper} {rest : List Oper} {o : Oper} {a : Act} {Q : Exit → Act → World → Prop} (T e bytes : Nat) (z0 : Value)
  (hu : P.underlying T = some (.slice e)) (hi : (P.info? e).map (fun i => (i.zero, i.size, i.bytes)) = some (some z0, 1, bytes)) (hby : bytes ≤ 32) (hz0 : z0.cells.size = 1)
  (hgd : o.guard = none) (s x : Operand) (ho : o.op = .call { callee := .builtin .append, args := #[s, x], argTypes := #[T, T] })
  (w : World) (base : Nat) (v : Value) (n : Nat) (vs : List Value) (y : Value) (hy : y.oneCell' = true) (hown : w.ownsRow base e 1 v n vs)
  (hlen : n ≤ 1000000000) (hbase : base ≤ w.heap.size)
  (hs : a.eval s = v) (hx : a.eval x = .slice (some ⟨w.heap.size, 0, none⟩) 1 1)
  (h : ∀ (g cap : Nat) (w' : World), w'.ownsRow base e 1 (.slice (some ⟨g, 0, none⟩) (n + 1) cap) (n + 1) (vs ++ [y]) → Below base w w' → w.grownBy w' v.ownBlock → (v.ownBlock = some g ∨ w.heap.size ≤ g) → wpList P ops Q rest (a.put o.dst (.slice (some ⟨g, 0, none⟩) (n + 1) cap)) w') :
  wpList P ops Q (o :: rest) a (w.alloc (.cells #[y] e)) :=
 wpList_plain hgd fun _ hK => apV T e bytes z0 hu hi hby hz0 s x ho w base v n vs y hy hown hlen hbase hs hx fun g cap w' h1 h2 h3 h4 => hK _ _ (h g cap w' h1 h2 h3 h4)
section
variable {α : Type}
variable {V : World → Value → α → Prop} {e er : TypeId} {w w' : World} {base n N : Nat} {rv : Value} {vs : List Value} {W : Nat → Nat → α}
end
end Go.Proofs.Ytkmfhabgempjiaa
/- Plain: lists of words as matrices over the whole numbers by a prime. -/
namespace Go.Proofs.Ytkmfhabgempjiaa
set_option maxHeartbeats 4000000
def ftab (c : Nat) (T : Nat → Nat → Nat) (n : Nat) : List Nat := (List.range n).map fun j => T (j / c) (j % c)
theorem ftab_length (c : Nat) (T : Nat → Nat → Nat) (n : Nat) : (ftab c T n).length = n := by simp [ftab]
theorem ftab_at {c i k : Nat} (T : Nat → Nat → Nat) (hk : k < c) : ftab c T (i * c + (k + 1)) = ftab c T (i * c + k) ++ [T i k] := by
 unfold ftab
 rw [← Nat.add_assoc, List.range_succ, List.map_append]
 congr 1
 simp only [List.map_cons, List.map_nil]
 have h1 : (i * c + k) / c = i := by rw [Nat.mul_comm, Nat.mul_add_div (by omega), Nat.div_eq_of_lt hk, Nat.add_zero]
 have h2 : (i * c + k) % c = k := by rw [Nat.mul_comm, Nat.mul_add_mod, Nat.mod_eq_of_lt hk]
 rw [h1, h2]
theorem at_lt {i k r c n : Nat} (hn : n = r * c) (hi : i < r) (hk : k < c) : i * c + k < n := by
 have : (i + 1) * c ≤ r * c := Nat.mul_le_mul_right _ hi
 rw [Nat.succ_mul] at this; omega
theorem ftab_get {r c i k : Nat} (T : Nat → Nat → Nat) (hi : i < r) (hk : k < c) : (ftab c T (r * c)).getD (i * c + k) 0 = T i k := by
 have hlt := at_lt (n := r * c) rfl hi hk
 have h1 : (i * c + k) / c = i := by rw [Nat.mul_comm, Nat.mul_add_div (by omega), Nat.div_eq_of_lt hk, Nat.add_zero]
 have h2 : (i * c + k) % c = k := by rw [Nat.mul_comm, Nat.mul_add_mod, Nat.mod_eq_of_lt hk]
 unfold ftab
 simp only [List.getD, List.getElem?_map, List.getElem?_range hlt, Option.map_some, Option.getD_some]
 rw [h1, h2]
theorem ftab_congr {r c : Nat} {T S : Nat → Nat → Nat} (h : ∀ i k, i < r → k < c → T i k = S i k) : ftab c T (r * c) = ftab c S (r * c) := by
 unfold ftab
 refine List.map_congr_left fun j hj => ?_
 have hj := List.mem_range.1 hj
 have hc : 0 < c := Nat.pos_of_ne_zero fun e => by rw [e, Nat.mul_zero] at hj; omega
 exact h _ _ ((Nat.div_lt_iff_lt_mul hc).2 hj) (Nat.mod_lt _ hc)
theorem list_ftab {r c : Nat} {xs : List Nat} (h : xs.length = r * c) : xs = ftab c (fun i k => xs.getD (i * c + k) 0) (r * c) := by
 refine List.ext_getElem? fun j => ?_
 unfold ftab
 rw [List.getElem?_map]
 by_cases hj : j < r * c
 ·rw [List.getElem?_range hj, List.getElem?_eq_getElem (by omega)]
  simp only [Option.map_some]
  have e : j / c * c + j % c = j := by rw [Nat.mul_comm]; exact Nat.div_add_mod _ _
  rw [e, List.getD, List.getElem?_eq_getElem (by omega)]; rfl
 ·rw [List.getElem?_eq_none (by omega), List.getElem?_eq_none (by simp; omega)]; rfl
def mx (p r c : Nat) (xs : List Nat) : MT (Zp p) r c := MT.of r c fun i k => Zp.of p (xs.getD (i * c + k) 0)
def tbv {p r c : Nat} (M : MT (Zp p) r c) : List Nat := ftab c (fun i k => (M.e i k).val) (r * c)
theorem tbv_length {p r c : Nat} (M : MT (Zp p) r c) : (tbv M).length = r * c := ftab_length _ _ _
theorem tbv_get {p r c i k : Nat} (M : MT (Zp p) r c) (hi : i < r) (hk : k < c) : (tbv M).getD (i * c + k) 0 = (M.e i k).val := ftab_get _ hi hk
theorem mx_tbv {p r c : Nat} (M : MT (Zp p) r c) : mx p r c (tbv M) = M := MT.ext fun i k hi hk => by
 unfold mx; rw [MT.of_e _ hi hk, tbv_get M hi hk, Zp.of_val]
theorem mx_e {p r c i k : Nat} (xs : List Nat) (hi : i < r) (hk : k < c) : (mx p r c xs).e i k = Zp.of p (xs.getD (i * c + k) 0) := MT.of_e _ hi hk
theorem tbv_of {p r c : Nat} (T : Nat → Nat → Nat) (f : Nat → Nat → Zp p) (h : ∀ i k, i < r → k < c → T i k = (f i k).val) : ftab c T (r * c) = tbv (MT.of r c f) := by
 unfold tbv
 exact ftab_congr fun i k hi hk => by rw [h i k hi hk, MT.of_e _ hi hk]
theorem tbv_wf {p r c : Nat} (hp : 0 < p) (M : MT (Zp p) r c) : wf p (tbv M) := by
 intro x hx
 unfold tbv ftab at hx
 simp only [List.mem_map] at hx
 obtain ⟨j, _, rfl⟩ := hx
 have := (M.e (j / c) (j % c)).lt
 omega
end Go.Proofs.Ytkmfhabgempjiaa
/- Package gfp. -/
namespace Go.Proofs.Ytkmfhabgempjiaa
set_option maxHeartbeats 4000000
open Go.RowKit
def FP (p : Nat) : Prop := 2 ≤ p ∧ p ≤ 2147483647
theorem FP.pos {p : Nat} (h : FP p) : 0 < p := by have := h.1; omega
theorem Zp.fact {p z : Nat} {c : Zp p} (hp : FP p) (h : z = c.val) : z < p ∧ Zp.of p z = c := by
 subst h
 have h1 := c.lt
 have h2 := hp.1
 exact ⟨by omega, Zp.of_val c⟩
theorem Zp.of_is {p z : Nat} {c : Zp p} (hp : FP p) (h1 : z < p) (h2 : Zp.of p z = c) : z = c.val := by
 subst h2; rw [Zp.val_of]
 have h2 := hp.1
 rw [Nat.mod_eq_of_lt (by omega)]
theorem Zp.mod_is {p : Nat} (hp : FP p) (x : Nat) {c : Zp p} (h : Zp.of p x = c) : x % p = c.val :=
 Zp.of_is hp (Nat.mod_lt _ hp.pos) (by rw [Zp.of_mod, h])
theorem wrap_u64 (n : Nat) (h : n < 18446744073709551616) : IntKind.u64.wrap (n : Int) = (n : Int) := IntWalk.u64_in _ ⟨by omega, by omega⟩
structure Box (w w' : World) (g : Nat) : Prop where
 lt : g < w'.heap.size
 below : Below w.heap.size w w'
theorem Box.next {w w1 w2 : World} {g : Nat} (h : Box w w1 g) (b : Below w1.heap.size w1 w2) : Box w w2 g :=
 ⟨Nat.lt_of_lt_of_le h.lt b.size, h.below.trans (b.mono h.below.size)⟩
theorem Box.drew {w w1 : World} {g : Nat} (h : Box w w1 g) (n : Nat) : Box w (w1.drewN n) g :=
 ⟨h.lt, h.below.trans (Drawn.below ⟨n, rfl⟩ _)⟩
theorem gfp_P (p : Nat) (w : World) (hp : FP p) :
  Calls Try.prog 151 #[.agg #[.int .u64 p]] w fun e w' => e = .returned (.int .u64 p) ∧ Below w.heap.size w w' := by
 obtain ⟨h1, h2⟩ := hp
 have hz : ((p : Int) == 0) = false := by simpa using (show p ≠ 0 by omega)
 go_enter Try.func151, Try.ntmps151
 go_wp2
 go_ret
 exact ⟨rfl, (Below.refl _ _).alloc (Nat.le_refl _) _⟩
theorem gfp_Norm (p a : Nat) (w : World) (hp : FP p) :
  Calls Try.prog 134 #[.agg #[.int .u64 p], .int .u64 a] w fun e w' => e = .returned (.int .u64 (a % p : Nat)) ∧ Below w.heap.size w w' := by
 have h1 := hp.1
 have hz : ((p : Int) == 0) = false := by simpa using (show p ≠ 0 by omega)
 go_enter Try.func134, Try.ntmps134
 go_wp2_with fail
 refine (gfp_P p _ hp).mono ?_; rintro e w' ⟨rfl, b1⟩
 go_wp2
 go_ret
 exact ⟨rfl, ((Below.refl _ _).alloc (Nat.le_refl _) _).trans (b1.mono (by simp))⟩
theorem gfp_Add (p a b z : Nat) (w : World) (hp : FP p) (hz : z = (Zp.of p a + Zp.of p b).val) :
  Calls Try.prog 117 #[.agg #[.int .u64 p], .int .u64 a, .int .u64 b] w fun e w' => e = .returned (.int .u64 (z : Nat)) ∧ Below w.heap.size w w' := by
 have ha := Nat.mod_lt a hp.pos
 have hb := Nat.mod_lt b hp.pos
 have c1 := fun w => gfp_Norm p a w hp
 have c2 := fun w => gfp_Norm p b w hp
 have c3 := fun w => gfp_P p w hp
 have hr : (a % p + b % p) % p = z := by
  rw [hz]; exact Zp.mod_is hp _ (by rw [Zp.of_add, Zp.of_mod, Zp.of_mod])
 clear hz
 obtain ⟨x, ex⟩ : ∃ x, x = a % p := ⟨_, rfl⟩
 obtain ⟨y, ey⟩ : ∃ y, y = b % p := ⟨_, rfl⟩
 rw [← ex] at c1 ha hr
 rw [← ey] at c2 hb hr
 obtain ⟨h1, h2⟩ := hp
 have HR := Lib.hid hr
 have C1 := Lib.hid c1
 have C2 := Lib.hid c2
 have C3 := Lib.hid c3
 clear c1 c2 c3 ex ey hr
 have hz0 : ((p : Int) == 0) = false := by simpa using (show p ≠ 0 by omega)
 have hz1 : ¬ p = 0 := by omega
 have hz2 : ¬ (p : Int) = 0 := by omega
 have s1 : IntKind.u64.wrap ((x : Int) + (y : Int)) = ((x + y : Nat) : Int) := by rw [← Int.natCast_add]; exact wrap_u64 _ (by omega)
 have B : Below w.heap.size w (w.alloc (.cells #[.int .u64 p] 29)) := (Below.refl _ _).alloc (Nat.le_refl _) _
 have hcp : (w.alloc (.cells #[.int .u64 p] 29)).cell? ⟨w.heap.size, 0, none⟩ = some (.int .u64 p) := (World.ownsRow_lit w #[.int .u64 p] 1 (Nat.le_refl _) (by unfold maxLen; omega) rfl : Own .u64 29 (w.alloc (.cells #[.int .u64 p] 29)) w.heap.size (.slice (some ⟨w.heap.size, 0, none⟩) 1 1) [p]).cellAt 0 (by simp)
 have hg : w.heap.size < (w.alloc (.cells #[.int .u64 p] 29)).heap.size := by simp
 go_enter Try.func117, Try.ntmps117
 go_wp2_with fail
 generalize w.alloc (.cells #[.int .u64 p] 29) = wb at *
 obtain ⟨g, eg⟩ : ∃ g, g = w.heap.size := ⟨_, rfl⟩
 rw [← eg] at hcp hg ⊢
 have EG := Lib.hid eg; clear eg
 go_upto_region 1 with (fail)
 go_cut [6] (fun v wx => v = .int .u64 (z : Nat) ∧ Below w.heap.size w wx)
 case first =>
  have hbox : Box w wb.drew g := ⟨hg, B.trans (Drawn.below ⟨1, rfl⟩ _)⟩
  go_region_held3 (fun w' => w'.cell? ⟨g, 0, none⟩ = some (.int .u64 (p : Int)) ∧ Box w w' g) (first | (exact ⟨hcp, hbox⟩) | (go_split_ands; refine ⟨(bn.cell (p := ⟨g, 0, none⟩) (Box.lt (by assumption))).trans (by assumption), Box.next (by assumption) bn⟩))
   ((first
    | (go_at_call_of 134 (Value.int .u64 (a : Int)); refine (C1.out _).mono ?_; rintro e wn ⟨rfl, bn⟩)
    | (go_at_call_of 134 (Value.int .u64 (b : Int)); refine (C2.out _).mono ?_; rintro e wn ⟨rfl, bn⟩)
    | (go_at_call_of 151 (Value.agg #[.int .u64 (p : Int)]); refine (C3.out _).mono ?_; rintro e wn ⟨rfl, bn⟩)))
  all_goals (go_wp2_with fail; go_meet)
  all_goals (rename_i hh; exact ⟨by rw [← HR.out]; rfl, hh.2.below⟩)
 case rest =>
  obtain ⟨rfl, b⟩ := hcut
  go_wp2
  go_ret
  exact ⟨rfl, b⟩
theorem gfp_Sub (p a b z : Nat) (w : World) (hp : FP p) (hz : z = (Zp.of p a - Zp.of p b).val) :
  Calls Try.prog 136 #[.agg #[.int .u64 p], .int .u64 a, .int .u64 b] w fun e w' => e = .returned (.int .u64 (z : Nat)) ∧ Below w.heap.size w w' := by
 have ha := Nat.mod_lt a hp.pos
 have hb := Nat.mod_lt b hp.pos
 have c1 := fun w => gfp_Norm p a w hp
 have c2 := fun w => gfp_Norm p b w hp
 have c3 := fun w => gfp_P p w hp
 have hr : (a % p + p - b % p) % p = z := by
  rw [hz]; exact Zp.mod_is hp _ (Zp.of_sub p a b hp.pos)
 clear hz
 obtain ⟨x, ex⟩ : ∃ x, x = a % p := ⟨_, rfl⟩
 obtain ⟨y, ey⟩ : ∃ y, y = b % p := ⟨_, rfl⟩
 rw [← ex] at c1 ha hr
 rw [← ey] at c2 hb hr
 obtain ⟨h1, h2⟩ := hp
 have HR := Lib.hid hr
 have C1 := Lib.hid c1
 have C2 := Lib.hid c2
 have C3 := Lib.hid c3
 clear c1 c2 c3 ex ey hr
 have hz0 : ((p : Int) == 0) = false := by simpa using (show p ≠ 0 by omega)
 have hz1 : ¬ p = 0 := by omega
 have hz2 : ¬ (p : Int) = 0 := by omega
 have s1 : IntKind.u64.wrap ((x : Int) + (p : Int)) = ((x + p : Nat) : Int) := by rw [← Int.natCast_add]; exact wrap_u64 _ (by omega)
 have s2 : IntKind.u64.wrap (((x + p : Nat) : Int) - (y : Int)) = ((x + p - y : Nat) : Int) := by rw [← Int.ofNat_sub (by omega)]; exact wrap_u64 _ (by omega)
 have B : Below w.heap.size w (w.alloc (.cells #[.int .u64 p] 29)) := (Below.refl _ _).alloc (Nat.le_refl _) _
 have hcp : (w.alloc (.cells #[.int .u64 p] 29)).cell? ⟨w.heap.size, 0, none⟩ = some (.int .u64 p) := (World.ownsRow_lit w #[.int .u64 p] 1 (Nat.le_refl _) (by unfold maxLen; omega) rfl : Own .u64 29 (w.alloc (.cells #[.int .u64 p] 29)) w.heap.size (.slice (some ⟨w.heap.size, 0, none⟩) 1 1) [p]).cellAt 0 (by simp)
 have hg : w.heap.size < (w.alloc (.cells #[.int .u64 p] 29)).heap.size := by simp
 go_enter Try.func136, Try.ntmps136
 go_wp2_with fail
 generalize w.alloc (.cells #[.int .u64 p] 29) = wb at *
 obtain ⟨g, eg⟩ : ∃ g, g = w.heap.size := ⟨_, rfl⟩
 rw [← eg] at hcp hg ⊢
 have EG := Lib.hid eg; clear eg
 go_upto_region 1 with (fail)
 go_cut [6] (fun v wx => v = .int .u64 (z : Nat) ∧ Below w.heap.size w wx)
 case first =>
  have hbox : Box w wb.drew g := ⟨hg, B.trans (Drawn.below ⟨1, rfl⟩ _)⟩
  go_region_held3 (fun w' => w'.cell? ⟨g, 0, none⟩ = some (.int .u64 (p : Int)) ∧ Box w w' g) (first | (exact ⟨hcp, hbox⟩) | (go_split_ands; refine ⟨(bn.cell (p := ⟨g, 0, none⟩) (Box.lt (by assumption))).trans (by assumption), Box.next (by assumption) bn⟩))
   ((first
    | (go_at_call_of 134 (Value.int .u64 (a : Int)); refine (C1.out _).mono ?_; rintro e wn ⟨rfl, bn⟩)
    | (go_at_call_of 134 (Value.int .u64 (b : Int)); refine (C2.out _).mono ?_; rintro e wn ⟨rfl, bn⟩)
    | (go_at_call_of 151 (Value.agg #[.int .u64 (p : Int)]); refine (C3.out _).mono ?_; rintro e wn ⟨rfl, bn⟩)))
  all_goals (go_wp2_with fail; go_meet)
  all_goals (rename_i hh; exact ⟨by rw [← HR.out, show (x : Int) + p - y = ((x + p - y : Nat) : Int) by omega, wrap_u64 _ (by omega)]; rfl, hh.2.below⟩)
 case rest =>
  obtain ⟨rfl, b⟩ := hcut
  go_wp2
  go_ret
  exact ⟨rfl, b⟩
theorem gfp_Mul (p a b z : Nat) (w : World) (hp : FP p) (hz : z = (Zp.of p a * Zp.of p b).val) :
  Calls Try.prog 118 #[.agg #[.int .u64 p], .int .u64 a, .int .u64 b] w fun e w' => e = .returned (.int .u64 (z : Nat)) ∧ Below w.heap.size w w' := by
 have ha := Nat.mod_lt a hp.pos
 have hb := Nat.mod_lt b hp.pos
 have c1 := fun w => gfp_Norm p a w hp
 have c2 := fun w => gfp_Norm p b w hp
 have c3 := fun w => gfp_P p w hp
 have hr : ((a % p) * (b % p)) % p = z := by
  rw [hz]; exact Zp.mod_is hp _ (by rw [Zp.of_mul, Zp.of_mod, Zp.of_mod])
 clear hz
 obtain ⟨x, ex⟩ : ∃ x, x = a % p := ⟨_, rfl⟩
 obtain ⟨y, ey⟩ : ∃ y, y = b % p := ⟨_, rfl⟩
 rw [← ex] at c1 ha hr
 rw [← ey] at c2 hb hr
 obtain ⟨h1, h2⟩ := hp
 have HR := Lib.hid hr
 have C1 := Lib.hid c1
 have C2 := Lib.hid c2
 have C3 := Lib.hid c3
 clear c1 c2 c3 ex ey hr
 have hz0 : ((p : Int) == 0) = false := by simpa using (show p ≠ 0 by omega)
 have hz1 : ¬ p = 0 := by omega
 have hz2 : ¬ (p : Int) = 0 := by omega
 have s0 : x * y < 18446744073709551616 := Nat.lt_of_le_of_lt (Nat.mul_le_mul (Nat.le_of_lt (Nat.lt_of_lt_of_le ha h2)) (Nat.le_of_lt (Nat.lt_of_lt_of_le hb h2))) (by decide)
 have s1 : IntKind.u64.wrap ((x : Int) * (y : Int)) = ((x * y : Nat) : Int) := by rw [← Int.natCast_mul]; exact wrap_u64 _ s0
 have B : Below w.heap.size w (w.alloc (.cells #[.int .u64 p] 29)) := (Below.refl _ _).alloc (Nat.le_refl _) _
 have hcp : (w.alloc (.cells #[.int .u64 p] 29)).cell? ⟨w.heap.size, 0, none⟩ = some (.int .u64 p) := (World.ownsRow_lit w #[.int .u64 p] 1 (Nat.le_refl _) (by unfold maxLen; omega) rfl : Own .u64 29 (w.alloc (.cells #[.int .u64 p] 29)) w.heap.size (.slice (some ⟨w.heap.size, 0, none⟩) 1 1) [p]).cellAt 0 (by simp)
 have hg : w.heap.size < (w.alloc (.cells #[.int .u64 p] 29)).heap.size := by simp
 go_enter Try.func118, Try.ntmps118
 go_wp2_with fail
 generalize w.alloc (.cells #[.int .u64 p] 29) = wb at *
 obtain ⟨g, eg⟩ : ∃ g, g = w.heap.size := ⟨_, rfl⟩
 rw [← eg] at hcp hg ⊢
 have EG := Lib.hid eg; clear eg
 go_upto_region 1 with (fail)
 go_cut [6] (fun v wx => v = .int .u64 (z : Nat) ∧ Below w.heap.size w wx)
 case first =>
  have hbox : Box w wb.drew g := ⟨hg, B.trans (Drawn.below ⟨1, rfl⟩ _)⟩
  go_region_held3 (fun w' => w'.cell? ⟨g, 0, none⟩ = some (.int .u64 (p : Int)) ∧ Box w w' g) (first | (exact ⟨hcp, hbox⟩) | (go_split_ands; refine ⟨(bn.cell (p := ⟨g, 0, none⟩) (Box.lt (by assumption))).trans (by assumption), Box.next (by assumption) bn⟩))
   ((first
    | (go_at_call_of 134 (Value.int .u64 (a : Int)); refine (C1.out _).mono ?_; rintro e wn ⟨rfl, bn⟩)
    | (go_at_call_of 134 (Value.int .u64 (b : Int)); refine (C2.out _).mono ?_; rintro e wn ⟨rfl, bn⟩)
    | (go_at_call_of 151 (Value.agg #[.int .u64 (p : Int)]); refine (C3.out _).mono ?_; rintro e wn ⟨rfl, bn⟩)))
  all_goals (go_wp2_with fail; go_meet)
  all_goals (rename_i hh; exact ⟨by rw [← HR.out]; rfl, hh.2.below⟩)
 case rest =>
  obtain ⟨rfl, b⟩ := hcut
  go_wp2
  go_ret
  exact ⟨rfl, b⟩
end Go.Proofs.Ytkmfhabgempjiaa
/- Package gfp: raise, Inv, New; the statements' primes. -/
namespace Go.Proofs.Ytkmfhabgempjiaa
set_option maxHeartbeats 4000000
open Go.RowKit
theorem sq_bound {d p : Nat} (h : d * d ≤ p) (hp : p < 2147483648) : d ≤ 46340 := by
 rcases Nat.lt_or_ge 46340 d with h1 | h1
 ·exfalso
  have h2 : 46341 * 46341 ≤ d * d := Nat.mul_le_mul h1 h1
  omega
 ·exact h1
theorem modn_Prime (p : Nat) (w : World) (ht : Trial p) (hp : p < 2147483648) :
  Calls Try.prog 124 #[.int .u64 p] w fun e w' => e = .returned (.bool true) ∧ w = w' := by
 rcases ht with rfl | ⟨h1, h2, h3⟩
 ·go_enter Try.func124, Try.ntmps124
  go_wp2
  go_ret
  exact ⟨rfl, rfl⟩
 ·have H3 := Lib.hid h3; clear h3
  have h5 : (p : Int) < 2147483648 := by omega
  have HP := Lib.hid hp; clear hp
  have h4 : ((p : Int) % 2 == 0) = false := by simpa using (show ¬ (p : Int) % 2 = 0 by omega)
  have h6 : decide ((2147483648 : Int) ≤ (p : Int)) = false := decide_eq_false (by omega)
  have h7 : decide ((p : Int) < 2) = false := decide_eq_false (by omega)
  have h8 : ¬ (2147483648 : Int) ≤ (p : Int) := by omega
  have h9 : ¬ (p : Int) < 2 := by omega
  have H2 := Lib.hid h2; clear h2 h5 h1
  go_enter Try.func124, Try.ntmps124
  go_wp2
  go_loop [3] (fun dv => ∃ d : Nat, dv = .int .u64 d ∧ d ≤ 46345 ∧ 3 ≤ d ∧ d % 2 = 1) (fun dv => 46350 - (intOf dv).toNat)
  case atStart => exact ⟨3, rfl, by omega, by omega, by omega⟩
  case round =>
   obtain ⟨d, rfl, hd1, hd2, hd3⟩ := hrel
   have hs : d * d < 18446744073709551616 := Nat.lt_of_le_of_lt (Nat.mul_le_mul hd1 hd1) (by decide)
   have t1 : IntKind.u64.wrap ((d : Int) * (d : Int)) = ((d * d : Nat) : Int) := by rw [← Int.natCast_mul]; exact wrap_u64 _ hs
   have hb := fun h => sq_bound (d := d) (p := p) h HP.out
   have hr := H3.out d hd3 hd2
   obtain ⟨s, es⟩ : ∃ s, s = d * d := ⟨_, rfl⟩
   rw [← es] at t1 hb hr
   have ES := Lib.hid es; clear es hs
   by_cases hle : s ≤ p
   ·have hb2 := hb hle
    have hr2 := hr hle
    have t2 : (((p : Int).tmod (d : Int)) == 0) = false := by
     have : (p : Int).tmod (d : Int) = ((p % d : Nat) : Int) := rfl
     rw [this]; exact beq_eq_false_iff_ne.mpr (fun h => hr2 (Int.ofNat.inj h))
    have t3 : (((p : Int) % (d : Int)) == 0) = false := by
     have : (p : Int) % (d : Int) = ((p % d : Nat) : Int) := rfl
     rw [this]; exact beq_eq_false_iff_ne.mpr (fun h => hr2 (Int.ofNat.inj h))
    clear hr hb hr2
    go_wp2
    go_round
    case rel => exact ⟨d + 2, by go_num, by omega, by omega, by omega⟩
    case measure => simp [intOf] <;> omega
   ·clear hr hb
    go_wp2
    go_ret
    exact ⟨rfl, rfl⟩
theorem gfp_New (p : Nat) (w : World) (ht : Trial p) (hp : p < 2147483648) :
  Calls Try.prog 68 #[.int .u64 p] w fun e w' => e = .returned (.tuple #[.agg #[.int .u64 p], .bool true]) ∧ Below w.heap.size w w' := by
 go_enter Try.func68, Try.ntmps68
 go_wp2_with fail
 refine (modn_Prime p _ ht hp).mono ?_; rintro e w' ⟨rfl, rfl⟩
 go_wp2
 refine bodyPost_ret (v := .tuple #[.agg #[.int .u64 p], .bool true]) (by simp [results, Try.results68, go_sem]) rfl ⟨rfl, ?_⟩
 exact (Below.refl _ _).alloc (Nat.le_refl _) _
def Ps (k : Nat) : Nat := [2, 3, 5, 7, 11, 13, 101, 65537, 1000003, 1073741827, 2147483629, 2147483647].getD k 0
theorem ref8_P (n : Nat) (w : World) :
  Calls Try.prog 18 #[.int .u8 n] w fun e w' => e = .returned (.int .u64 (Ps (n % 12) : Nat)) ∧ w = w' := by
 obtain ⟨k, ek⟩ : ∃ k, k = n % 12 := ⟨_, rfl⟩
 have e : (n : Int) % 12 = (k : Int) := by omega
 have hk : k = 0 ∨ k = 1 ∨ k = 2 ∨ k = 3 ∨ k = 4 ∨ k = 5 ∨ k = 6 ∨ k = 7 ∨ k = 8 ∨ k = 9 ∨ k = 10 ∨ k = 11 := by omega
 rw [← ek]
 clear ek
 rcases hk with rfl | rfl | rfl | rfl | rfl | rfl | rfl | rfl | rfl | rfl | rfl | rfl
 ·have hi : ∀ w, (Instr.index 94 (.agg #[.int .u64 2, .int .u64 3, .int .u64 5, .int .u64 7, .int .u64 11, .int .u64 13, .int .u64 101, .int .u64 65537, .int .u64 1000003, .int .u64 1073741827, .int .u64 2147483629, .int .u64 2147483647]) (.int .u8 0)).run Try.prog w = .ok (.int .u64 2) w := fun _ => by kernel_rfl
  have e2 : (n : Int) % 12 = 0 := e
  clear e
  go_enter Try.func18, Try.ntmps18
  go_wp2
  go_ret
  exact ⟨rfl, rfl⟩
 ·have hi : ∀ w, (Instr.index 94 (.agg #[.int .u64 2, .int .u64 3, .int .u64 5, .int .u64 7, .int .u64 11, .int .u64 13, .int .u64 101, .int .u64 65537, .int .u64 1000003, .int .u64 1073741827, .int .u64 2147483629, .int .u64 2147483647]) (.int .u8 1)).run Try.prog w = .ok (.int .u64 3) w := fun _ => by kernel_rfl
  have e2 : (n : Int) % 12 = 1 := e
  clear e
  go_enter Try.func18, Try.ntmps18
  go_wp2
  go_ret
  exact ⟨rfl, rfl⟩
 ·have hi : ∀ w, (Instr.index 94 (.agg #[.int .u64 2, .int .u64 3, .int .u64 5, .int .u64 7, .int .u64 11, .int .u64 13, .int .u64 101, .int .u64 65537, .int .u64 1000003, .int .u64 1073741827, .int .u64 2147483629, .int .u64 2147483647]) (.int .u8 2)).run Try.prog w = .ok (.int .u64 5) w := fun _ => by kernel_rfl
  have e2 : (n : Int) % 12 = 2 := e
  clear e
  go_enter Try.func18, Try.ntmps18
  go_wp2
  go_ret
  exact ⟨rfl, rfl⟩
 ·have hi : ∀ w, (Instr.index 94 (.agg #[.int .u64 2, .int .u64 3, .int .u64 5, .int .u64 7, .int .u64 11, .int .u64 13, .int .u64 101, .int .u64 65537, .int .u64 1000003, .int .u64 1073741827, .int .u64 2147483629, .int .u64 2147483647]) (.int .u8 3)).run Try.prog w = .ok (.int .u64 7) w := fun _ => by kernel_rfl
  have e2 : (n : Int) % 12 = 3 := e
  clear e
  go_enter Try.func18, Try.ntmps18
  go_wp2
  go_ret
  exact ⟨rfl, rfl⟩
 ·have hi : ∀ w, (Instr.index 94 (.agg #[.int .u64 2, .int .u64 3, .int .u64 5, .int .u64 7, .int .u64 11, .int .u64 13, .int .u64 101, .int .u64 65537, .int .u64 1000003, .int .u64 1073741827, .int .u64 2147483629, .int .u64 2147483647]) (.int .u8 4)).run Try.prog w = .ok (.int .u64 11) w := fun _ => by kernel_rfl
  have e2 : (n : Int) % 12 = 4 := e
  clear e
  go_enter Try.func18, Try.ntmps18
  go_wp2
  go_ret
  exact ⟨rfl, rfl⟩
 ·have hi : ∀ w, (Instr.index 94 (.agg #[.int .u64 2, .int .u64 3, .int .u64 5, .int .u64 7, .int .u64 11, .int .u64 13, .int .u64 101, .int .u64 65537, .int .u64 1000003, .int .u64 1073741827, .int .u64 2147483629, .int .u64 2147483647]) (.int .u8 5)).run Try.prog w = .ok (.int .u64 13) w := fun _ => by kernel_rfl
  have e2 : (n : Int) % 12 = 5 := e
  clear e
  go_enter Try.func18, Try.ntmps18
  go_wp2
  go_ret
  exact ⟨rfl, rfl⟩
 ·have hi : ∀ w, (Instr.index 94 (.agg #[.int .u64 2, .int .u64 3, .int .u64 5, .int .u64 7, .int .u64 11, .int .u64 13, .int .u64 101, .int .u64 65537, .int .u64 1000003, .int .u64 1073741827, .int .u64 2147483629, .int .u64 2147483647]) (.int .u8 6)).run Try.prog w = .ok (.int .u64 101) w := fun _ => by kernel_rfl
  have e2 : (n : Int) % 12 = 6 := e
  clear e
  go_enter Try.func18, Try.ntmps18
  go_wp2
  go_ret
  exact ⟨rfl, rfl⟩
 ·have hi : ∀ w, (Instr.index 94 (.agg #[.int .u64 2, .int .u64 3, .int .u64 5, .int .u64 7, .int .u64 11, .int .u64 13, .int .u64 101, .int .u64 65537, .int .u64 1000003, .int .u64 1073741827, .int .u64 2147483629, .int .u64 2147483647]) (.int .u8 7)).run Try.prog w = .ok (.int .u64 65537) w := fun _ => by kernel_rfl
  have e2 : (n : Int) % 12 = 7 := e
  clear e
  go_enter Try.func18, Try.ntmps18
  go_wp2
  go_ret
  exact ⟨rfl, rfl⟩
 ·have hi : ∀ w, (Instr.index 94 (.agg #[.int .u64 2, .int .u64 3, .int .u64 5, .int .u64 7, .int .u64 11, .int .u64 13, .int .u64 101, .int .u64 65537, .int .u64 1000003, .int .u64 1073741827, .int .u64 2147483629, .int .u64 2147483647]) (.int .u8 8)).run Try.prog w = .ok (.int .u64 1000003) w := fun _ => by kernel_rfl
  have e2 : (n : Int) % 12 = 8 := e
  clear e
  go_enter Try.func18, Try.ntmps18
  go_wp2
  go_ret
  exact ⟨rfl, rfl⟩
 ·have hi : ∀ w, (Instr.index 94 (.agg #[.int .u64 2, .int .u64 3, .int .u64 5, .int .u64 7, .int .u64 11, .int .u64 13, .int .u64 101, .int .u64 65537, .int .u64 1000003, .int .u64 1073741827, .int .u64 2147483629, .int .u64 2147483647]) (.int .u8 9)).run Try.prog w = .ok (.int .u64 1073741827) w := fun _ => by kernel_rfl
  have e2 : (n : Int) % 12 = 9 := e
  clear e
  go_enter Try.func18, Try.ntmps18
  go_wp2
  go_ret
  exact ⟨rfl, rfl⟩
 ·have hi : ∀ w, (Instr.index 94 (.agg #[.int .u64 2, .int .u64 3, .int .u64 5, .int .u64 7, .int .u64 11, .int .u64 13, .int .u64 101, .int .u64 65537, .int .u64 1000003, .int .u64 1073741827, .int .u64 2147483629, .int .u64 2147483647]) (.int .u8 10)).run Try.prog w = .ok (.int .u64 2147483629) w := fun _ => by kernel_rfl
  have e2 : (n : Int) % 12 = 10 := e
  clear e
  go_enter Try.func18, Try.ntmps18
  go_wp2
  go_ret
  exact ⟨rfl, rfl⟩
 ·have hi : ∀ w, (Instr.index 94 (.agg #[.int .u64 2, .int .u64 3, .int .u64 5, .int .u64 7, .int .u64 11, .int .u64 13, .int .u64 101, .int .u64 65537, .int .u64 1000003, .int .u64 1073741827, .int .u64 2147483629, .int .u64 2147483647]) (.int .u8 11)).run Try.prog w = .ok (.int .u64 2147483647) w := fun _ => by kernel_rfl
  have e2 : (n : Int) % 12 = 11 := e
  clear e
  go_enter Try.func18, Try.ntmps18
  go_wp2
  go_ret
  exact ⟨rfl, rfl⟩
set_option maxRecDepth 100000 in
theorem Ps_trial {k : Nat} (hk : k < 12) : Trial (Ps k) := by
 have h : k = 0 ∨ k = 1 ∨ k = 2 ∨ k = 3 ∨ k = 4 ∨ k = 5 ∨ k = 6 ∨ k = 7 ∨ k = 8 ∨ k = 9 ∨ k = 10 ∨ k = 11 := by omega
 rcases h with rfl | rfl | rfl | rfl | rfl | rfl | rfl | rfl | rfl | rfl | rfl | rfl
 ·exact Or.inl rfl
 ·exact trial_of (l := 0) (by decide +kernel)
 ·exact trial_of (l := 0) (by decide +kernel)
 ·exact trial_of (l := 0) (by decide +kernel)
 ·exact trial_of (l := 0) (by decide +kernel)
 ·exact trial_of (l := 0) (by decide +kernel)
 ·exact trial_of (l := 3) (by decide +kernel)
 ·exact trial_of (l := 7) (by decide +kernel)
 ·exact trial_of (l := 9) (by decide +kernel)
 ·exact trial_of (l := 14) (by decide +kernel)
 ·exact trial_of (l := 15) (by decide +kernel)
 ·exact trial_of (l := 15) (by decide +kernel)
theorem Ps_le (k : Nat) : Ps k ≤ 2147483647 := by
 by_cases h : k < 12
 ·have h : k = 0 ∨ k = 1 ∨ k = 2 ∨ k = 3 ∨ k = 4 ∨ k = 5 ∨ k = 6 ∨ k = 7 ∨ k = 8 ∨ k = 9 ∨ k = 10 ∨ k = 11 := by omega
  rcases h with rfl | rfl | rfl | rfl | rfl | rfl | rfl | rfl | rfl | rfl | rfl | rfl <;> decide
 ·unfold Ps; rw [List.getD, List.getElem?_eq_none (by simp; omega)]; decide
theorem Ps_FP {k : Nat} (hk : k < 12) : FP (Ps k) := ⟨trial_gt (Ps_trial hk), Ps_le k⟩
end Go.Proofs.Ytkmfhabgempjiaa
/- Package gfp: raise, Inv; the statements' fields. -/
namespace Go.Proofs.Ytkmfhabgempjiaa
set_option maxHeartbeats 4000000
open Go.RowKit
theorem law9_Of (n : Nat) (w : World) :
  Calls Try.prog 17 #[.int .u8 n] w fun e w' => e = .returned (.agg #[.int .u64 (Ps (n % 12) : Nat)]) ∧ Below w.heap.size w w' := by
 have ht := Ps_trial (k := n % 12) (by omega)
 have hl := Ps_le (n % 12)
 have hP := fun w => ref8_P n w
 obtain ⟨p, ep⟩ : ∃ p, p = Ps (n % 12) := ⟨_, rfl⟩
 rw [← ep] at ht hl hP ⊢
 have HT := Lib.hid (show Trial p ∧ p < 2147483648 from ⟨ht, by omega⟩)
 have HP := Lib.hid hP
 clear ht hl hP ep
 have ho : Own .u64 29 (w.alloc (.cells #[.int .u64 0] 29)) w.heap.size (.slice (some ⟨w.heap.size, 0, none⟩) 1 1) [0] := World.ownsRow_lit w #[.int .u64 0] 1 (Nat.le_refl _) (by unfold maxLen; omega) rfl
 have B : Below w.heap.size w (w.alloc (.cells #[.int .u64 0] 29)) := (Below.refl _ _).alloc (Nat.le_refl _) _
 go_enter Try.func17, Try.ntmps17
 go_wp2_with fail
 generalize w.alloc (.cells #[.int .u64 0] 29) = wb at *
 obtain ⟨g, eg⟩ : ∃ g, g = w.heap.size := ⟨_, rfl⟩
 rw [← eg] at ho ⊢
 have hgw : w.heap.size ≤ g := by omega
 clear eg
 refine (HP.out _).mono ?_; rintro e w' ⟨rfl, rfl⟩
 go_wp2_with fail
 refine (gfp_New p _ HT.out.1 HT.out.2).mono ?_; rintro e w' ⟨rfl, b1⟩
 have ho2 := (ho.next b1).next ((Below.refl _ _).alloc (Nat.le_refl _) (.cells #[.int .u64 (p : Int)] 29))
 have hc := ho2.cellAt 0 (by simp)
 have hf := ho2.frozenAt 0
 have hc2 := (ho2.store 0 p).1.cellAt 0 (by simp)
 replace B := ((B.trans (b1.mono B.size)).alloc (Nat.le_trans B.size b1.size) (.cells #[.int .u64 (p : Int)] 29)).setCell (p := ⟨g, 0, none⟩) hgw (.int .u64 (p : Int))
 go_wp2
 refine bodyPost_ret (v := .agg #[.int .u64 p]) ?_ rfl ⟨rfl, B⟩
 simp [results, Try.results17, go_sem, hc2]
def RaiseRel (w wr : World) (p g n0 : Nat) (a0 : Zp p) (a n r : Nat) : Prop :=
 Box w wr g ∧ wr.cell? ⟨g, 0, none⟩ = some (.int .u64 p) ∧ n ≤ n0 ∧ n < 18446744073709551616 ∧ r < p ∧ Zp.of p r * pw (Zp.of p a) n = a0
theorem gfp_raise (p a n z : Nat) (w : World) (hp : FP p) (hn : n < 18446744073709551616) (hz : z = (pw (Zp.of p a) n).val) :
  Calls Try.prog 160 #[.agg #[.int .u64 p], .int .u64 a, .int .u64 n] w fun e w' => e = .returned (.int .u64 (z : Nat)) ∧ Below w.heap.size w w' := by
 have c1 := fun w => gfp_Norm p 1 w hp
 have hm : 1 % p = 1 := Nat.mod_eq_of_lt (by have := hp.1; omega)
 have h1p : 1 < p := by have := hp.1; omega
 rw [hm] at c1
 have cm := fun (x y z : Nat) (w : World) (hz : z = (Zp.of p x * Zp.of p y).val) => gfp_Mul p x y z w hp hz
 obtain ⟨a0, ea0⟩ : ∃ a0, a0 = pw (Zp.of p a) n := ⟨_, rfl⟩
 rw [← ea0] at hz
 have hst : Zp.of p 1 * pw (Zp.of p a) n = a0 := by rw [ea0, Zp.of_one, CR.one_mul]
 clear ea0
 have HST := Lib.hid hst
 have HZ := Lib.hid hz
 have C1 := Lib.hid c1
 have CM := Lib.hid cm
 have HP := Lib.hid hp
 clear c1 cm hp hm hst hz
 have B : Below w.heap.size w (w.alloc (.cells #[.int .u64 p] 29)) := (Below.refl _ _).alloc (Nat.le_refl _) _
 have hcp : (w.alloc (.cells #[.int .u64 p] 29)).cell? ⟨w.heap.size, 0, none⟩ = some (.int .u64 p) := (World.ownsRow_lit w #[.int .u64 p] 1 (Nat.le_refl _) (by unfold maxLen; omega) rfl : Own .u64 29 (w.alloc (.cells #[.int .u64 p] 29)) w.heap.size (.slice (some ⟨w.heap.size, 0, none⟩) 1 1) [p]).cellAt 0 (by simp)
 have hg : w.heap.size < (w.alloc (.cells #[.int .u64 p] 29)).heap.size := by simp
 go_enter Try.func160, Try.ntmps160
 go_wp2_with fail
 generalize w.alloc (.cells #[.int .u64 p] 29) = wb at *
 obtain ⟨g, eg⟩ : ∃ g, g = w.heap.size := ⟨_, rfl⟩
 rw [← eg] at hcp hg ⊢
 have EG := Lib.hid eg; clear eg
 refine (C1.out _).mono ?_; rintro e w1 ⟨rfl, b1⟩
 replace hcp := (b1.cell (p := ⟨g, 0, none⟩) hg).trans hcp
 have hbx : Box w w1 g := (Box.mk hg B).next b1
 clear B hg b1
 go_wp2_with fail
 go_loopw [1, 2, 7] (fun av nv rv wr => ∃ a n' r : Nat, av = .int .u64 a ∧ nv = .int .u64 n' ∧ rv = .int .u64 r ∧ RaiseRel w wr p g n a0 a n' r) (fun _ nv _ _ => (intOf nv).toNat)
 case atStart => exact ⟨a, n, 1, rfl, rfl, rfl, hbx, hcp, Nat.le_refl _, hn, h1p, HST.out⟩
 case round =>
  obtain ⟨a, m, r, rfl, rfl, rfl, hbx, hcp, hmn, hm64, hr, hval⟩ := hrel
  have HV := Lib.hid hval; clear hval
  obtain ⟨r2, er2⟩ : ∃ r2, r2 = (Zp.of p r * Zp.of p a).val := ⟨_, rfl⟩
  obtain ⟨a2, ea2⟩ : ∃ a2, a2 = (Zp.of p a * Zp.of p a).val := ⟨_, rfl⟩
  have CRR := Lib.hid (fun w => CM.out r a r2 w er2)
  have CA := Lib.hid (fun w => CM.out a a a2 w ea2)
  have fr := Zp.fact HP.out er2
  have fa := Zp.fact HP.out ea2
  have FR := Lib.hid fr
  have FA := Lib.hid fa
  clear fr fa er2 ea2
  have hm0 : (0 : Int) ≤ (m : Int) := Int.natCast_nonneg _
  by_cases h0 : m = 0
  ·subst h0
   go_wp2
   go_ret
   refine ⟨?_, hbx.below⟩
   have h2 := HV.out
   have h3 : Zp.of p r = a0 := by rw [← h2]; exact (CR.mul_one _).symm
   rw [Zp.of_is HP.out hr h3, HZ.out]; rfl
  ·have hmp : 0 < m := by omega
   by_cases hodd : m % 2 = 1
   ·have ho : (m : Int) % 2 = 1 := by omega
    have hval : Zp.of p r2 * pw (Zp.of p a2) (m / 2) = a0 := by
     rw [FR.out.2, FA.out.2, pw_dbl, ← HV.out]
     have : m = 2 * (m / 2) + 1 := by omega
     conv => rhs; rw [this, pw_succ]
     exact by_ring [Zp.of p r, Zp.of p a, pw (Zp.of p a) (2 * (m / 2))] (X0 * X1 * X2) (X0 * (X2 * X1)) rfl
    have HV2 := Lib.hid hval; clear hval hodd
    go_wp2_with fail
    refine (CRR.out _).mono ?_; rintro e w1 ⟨rfl, b1⟩
    replace hcp := (b1.cell (p := ⟨g, 0, none⟩) hbx.lt).trans hcp
    replace hbx := hbx.next b1
    clear b1
    go_wp2_with fail
    refine (CA.out _).mono ?_; rintro e w2 ⟨rfl, b2⟩
    replace hcp := (b2.cell (p := ⟨g, 0, none⟩) hbx.lt).trans hcp
    replace hbx := hbx.next b2
    clear b2
    go_wp2
    go_roundw
    case rel => exact ⟨a2, m / 2, r2, rfl, by go_num, rfl, hbx, hcp, by omega, by omega, FR.out.1, HV2.out⟩
    case measure => simp [intOf] <;> omega
   ·have ho : ((m : Int) % 2 == 1) = false := beq_eq_false_iff_ne.mpr (by omega)
    have hval : Zp.of p r * pw (Zp.of p a2) (m / 2) = a0 := by
     rw [FA.out.2, pw_dbl, ← HV.out]
     have : 2 * (m / 2) = m := by omega
     rw [this]
    have HV2 := Lib.hid hval; clear hval hodd
    go_wp2_with fail
    refine (CA.out _).mono ?_; rintro e w2 ⟨rfl, b2⟩
    replace hcp := (b2.cell (p := ⟨g, 0, none⟩) hbx.lt).trans hcp
    replace hbx := hbx.next b2
    clear b2
    go_wp2
    go_roundw
    case rel => exact ⟨a2, m / 2, r, rfl, by go_num, rfl, hbx, hcp, by omega, by omega, hr, HV2.out⟩
    case measure => simp [intOf] <;> omega
def Zp.iv {p : Nat} (x : Zp p) : Zp p := if x.val = 0 then 0 else pw x (p - 2)
theorem Zp.iv_mul {p : Nat} (h : Trial p) {x : Zp p} (hx : x ≠ 0) : x.iv * x = 1 := by
 unfold Zp.iv
 rw [if_neg (fun h0 => hx (Zp.ext (by rw [h0, Zp.zero_val])))]
 exact Zp.inv h hx
theorem gfp_Inv (p a z : Nat) (w : World) (hp : FP p) (hz : z = (Zp.of p a).iv.val) :
  Calls Try.prog 131 #[.agg #[.int .u64 p], .int .u64 a] w fun e w' => e = .returned (.int .u64 (z : Nat)) ∧ Below w.heap.size w w' := by
 have h1 := hp.1
 have h2 := hp.2
 have c1 := fun w => gfp_Norm p a w hp
 have c2 := fun w => gfp_P p w hp
 have hv : (Zp.of p a).val = a % p := by rw [Zp.val_of, show p - 1 + 1 = p by omega]
 have B : Below w.heap.size w (w.alloc (.cells #[.int .u64 p] 29)) := (Below.refl _ _).alloc (Nat.le_refl _) _
 have hcp : (w.alloc (.cells #[.int .u64 p] 29)).cell? ⟨w.heap.size, 0, none⟩ = some (.int .u64 p) := (World.ownsRow_lit w #[.int .u64 p] 1 (Nat.le_refl _) (by unfold maxLen; omega) rfl : Own .u64 29 (w.alloc (.cells #[.int .u64 p] 29)) w.heap.size (.slice (some ⟨w.heap.size, 0, none⟩) 1 1) [p]).cellAt 0 (by simp)
 have hg : w.heap.size < (w.alloc (.cells #[.int .u64 p] 29)).heap.size := by simp
 by_cases h0 : a % p = 0
 ·rw [h0] at c1
  have hz0 : z = 0 := by
   rw [hz]; unfold Zp.iv; rw [if_pos (by rw [hv, h0])]; exact Zp.zero_val p
  subst hz0
  have C1 := Lib.hid c1
  clear c1 c2 hv h0 hz
  go_enter Try.func131, Try.ntmps131
  go_wp2_with fail
  generalize w.alloc (.cells #[.int .u64 p] 29) = wb at *
  obtain ⟨g, eg⟩ : ∃ g, g = w.heap.size := ⟨_, rfl⟩
  rw [← eg] at hcp hg ⊢
  have EG := Lib.hid eg; clear eg
  refine (C1.out _).mono ?_; rintro e w1 ⟨rfl, b1⟩
  go_wp2
  go_ret
  exact ⟨rfl, B.trans (b1.mono B.size)⟩
 ·have hz1 : z = (pw (Zp.of p a) (p - 2)).val := by
   rw [hz]; unfold Zp.iv; rw [if_neg (by rw [hv]; exact h0)]
  have c3 := fun w => gfp_raise p a (p - 2) z w hp (by omega) hz1
  obtain ⟨m, em⟩ : ∃ m, m = a % p := ⟨_, rfl⟩
  obtain ⟨q, eq⟩ : ∃ q, q = p - 2 := ⟨_, rfl⟩
  rw [← em] at c1 h0
  rw [← eq] at c3
  have s1 : IntKind.u64.wrap ((p : Int) - 2) = (q : Int) := by
   rw [show (p : Int) - 2 = ((q : Nat) : Int) by omega]; exact wrap_u64 _ (by omega)
  have hmz : ((m : Int) == 0) = false := by simpa using h0
  have C1 := Lib.hid c1
  have C2 := Lib.hid c2
  have C3 := Lib.hid c3
  have EQ := Lib.hid eq
  clear c1 c2 c3 hv h0 hz hz1 em eq
  go_enter Try.func131, Try.ntmps131
  go_wp2_with fail
  generalize w.alloc (.cells #[.int .u64 p] 29) = wb at *
  obtain ⟨g, eg⟩ : ∃ g, g = w.heap.size := ⟨_, rfl⟩
  rw [← eg] at hcp hg ⊢
  have EG := Lib.hid eg; clear eg
  refine (C1.out _).mono ?_; rintro e w1 ⟨rfl, b1⟩
  replace hcp := (b1.cell (p := ⟨g, 0, none⟩) hg).trans hcp
  have hbx : Box w w1 g := (Box.mk hg B).next b1
  clear B hg b1
  go_upto_region 3 with (fail)
  go_cut [4] (fun v wx => v = .int .u64 (z : Nat) ∧ Below w.heap.size w wx)
  case first =>
   have hbox : Box w w1.drew g := hbx.drew 1
   go_region_held3 (fun w' => w'.cell? ⟨g, 0, none⟩ = some (.int .u64 (p : Int)) ∧ Box w w' g) (first | (exact ⟨hcp, hbox⟩) | (go_split_ands; refine ⟨(bn.cell (p := ⟨g, 0, none⟩) (Box.lt (by assumption))).trans (by assumption), Box.next (by assumption) bn⟩))
    ((first
     | (go_at_call 151; refine (C2.out _).mono ?_; rintro e wn ⟨rfl, bn⟩)
     | (go_at_call 160; refine (C3.out _).mono ?_; rintro e wn ⟨rfl, bn⟩)))
   all_goals (go_wp2_with fail; go_meet)
   all_goals (rename_i hh; exact ⟨rfl, hh.2.below⟩)
  case rest =>
   obtain ⟨rfl, b⟩ := hcut
   go_wp2
   go_ret
   exact ⟨rfl, b⟩
end Go.Proofs.Ytkmfhabgempjiaa
/- Package fmat: what a matrix reads as; the word at a place; which are formed, which alike. -/
namespace Go.Proofs.Ytkmfhabgempjiaa
set_option maxHeartbeats 4000000
open Go.RowKit
def RetW (w : World) (v : Value) (e : Ending) (w' : World) : Prop := e = .returned v ∧ Below w.heap.size w w'
def Fm (w : World) (v : Value) (R C : Int) (xs : List Nat) : Prop := ∃ u, v = .agg #[.int .i64 R, .int .i64 C, u] ∧ Sl .u64 w u xs
theorem Fm.next {w w' : World} {v : Value} {R C : Int} {xs : List Nat} (h : Fm w v R C xs) (hb : Below w.heap.size w w') : Fm w' v R C xs := by
 obtain ⟨u, e, hz⟩ := h; exact ⟨u, e, hz.next hb⟩
theorem Fm.agg {w : World} {v : Value} {R C : Int} {xs : List Nat} (h : Fm w v R C xs) : ∃ ao c, v = .agg #[.int .i64 R, .int .i64 C, .slice ao xs.length c] := by
 obtain ⟨u, e, ao, b, off, cap, rfl, -⟩ := h; exact ⟨ao, cap, e⟩
def Sd (n : Int) : Prop := 0 ≤ n ∧ n ≤ 64
instance (n : Int) : Decidable (Sd n) := by unfold Sd; exact inferInstance
def Fd (R C : Int) (n : Nat) : Prop := Sd R ∧ Sd C ∧ (n : Int) = R * C
instance (R C : Int) (n : Nat) : Decidable (Fd R C n) := by unfold Fd; exact inferInstance
theorem Sd.mul {R C : Int} (hR : Sd R) (hC : Sd C) : IntKind.i64.wrap (R * C) = R * C := by
 have h1 : 0 ≤ R * C := Int.mul_nonneg hR.1 hC.1
 have h2 : R * C ≤ 64 * 64 := Int.mul_le_mul hR.2 hC.2 hC.1 (by omega)
 exact IntWalk.i64_in _ ⟨by omega, by omega⟩
theorem Fd.of {r c n : Nat} (hr : r ≤ 64) (hc : c ≤ 64) (hn : n = r * c) : Fd r c n := ⟨⟨by omega, by omega⟩, ⟨by omega, by omega⟩, by rw [hn, Int.natCast_mul]⟩
theorem fm_get (v : Value) (R : Int) (c i k : Nat) (xs : List Nat) (w : World) (hm : Fm w v R c xs) (hi : i ≤ 100000) (hc : c ≤ 100000) (hk : k ≤ 100000) (hj : i * c + k < xs.length) (x : Nat) (hx : x = xs.getD (i * c + k) 0) :
  Calls Try.prog 150 #[v, .int .i64 i, .int .i64 k] w (RetW w (.int .u64 (x : Nat))) := by
 obtain ⟨u, rfl, ao, b, off, cap, rfl, hcap, hz⟩ := hm
 have ha := hz.ao (by intro h; subst h; simp at hj)
 subst ha
 obtain ⟨wb, ew, KA, B0, hsz⟩ := boxes1 w 63 [.int .i64 R, .int .i64 c, .slice (some ⟨b, off, none⟩) xs.length cap]
 clear hsz
 have hw : i * c ≤ 100000 * 100000 := Nat.mul_le_mul hi hc
 have h1 : IntKind.i64.wrap ((i : Int) * (c : Int)) = ((i * c : Nat) : Int) := by rw [← Int.natCast_mul]; exact IntWalk.i64_in _ ⟨by omega, by omega⟩
 have h2 : IntKind.i64.wrap ((k : Int) + ((i * c : Nat) : Int)) = ((i * c + k : Nat) : Int) := by rw [← Int.natCast_add, Nat.add_comm]; exact IntWalk.i64_in _ ⟨by omega, by omega⟩
 have h2' : IntKind.i64.wrap (((i * c : Nat) : Int) + (k : Int)) = ((i * c + k : Nat) : Int) := by rw [← Int.natCast_add]; exact IntWalk.i64_in _ ⟨by omega, by omega⟩
 have q1 := (hz.below B0 (Nat.le_refl _)).cell _ hj
 rw [← hx] at q1
 clear hx
 go_enter Try.func150, Try.ntmps150
 go_upto_region 1 with (fail)
 rw [← ew]
 clear ew h2
 have c1 := KA.cell 1; have c2 := KA.cell 2
 clear KA
 go_wp2
 go_ret
 exact ⟨rfl, B0⟩
theorem fm_side_yes (n : Int) (w : World) (h : Sd n) : Calls Try.prog 142 #[.int .i64 n] w fun e w' => e = .returned (.bool true) ∧ w = w' := by
 have h1 := h.1; have h2 := h.2
 have d1 : decide (n ≥ 0) = true := decide_eq_true h1
 go_enter Try.func142, Try.ntmps142
 go_wp2
 go_ret
 simp
theorem fm_side_no (n : Int) (w : World) (h : ¬ Sd n) : Calls Try.prog 142 #[.int .i64 n] w fun e w' => e = .returned (.bool false) ∧ w = w' := by
 by_cases h1 : 0 ≤ n
 ·have h2 : ¬ n ≤ 64 := fun h2 => h ⟨h1, h2⟩
  go_enter Try.func142, Try.ntmps142
  go_wp2
  go_ret
  simp
 ·go_enter Try.func142, Try.ntmps142
  go_wp2
  go_ret
  simp
theorem fm_Formed (v : Value) (R C : Int) (xs : List Nat) (w : World) (hm : Fm w v R C xs) :
  Calls Try.prog 104 #[v] w (RetW w (.bool (decide (Fd R C xs.length)))) := by
 obtain ⟨ao, cp, rfl⟩ := hm.agg
 obtain ⟨wb, ew, KA, B0, hsz⟩ := boxes1 w 63 [.int .i64 R, .int .i64 C, .slice ao xs.length cp]
 clear hsz hm
 by_cases hR : Sd R
 ·by_cases hC : Sd C
  ·have hw : IntKind.i64.wrap (R * C) = R * C := Sd.mul hR hC
   by_cases hn : (xs.length : Int) = R * C
   ·rw [decide_eq_true (show Fd R C xs.length from ⟨hR, hC, hn⟩)]
    have hn2 : ((xs.length : Int) == R * C) = true := by simp [hn]
    clear hn
    go_enter Try.func104, Try.ntmps104
    go_wp2_with fail
    refine (fm_side_yes R _ hR).mono ?_; rintro e w2 ⟨rfl, rfl⟩
    go_wp2_with fail
    refine (fm_side_yes C _ hC).mono ?_; rintro e w2 ⟨rfl, rfl⟩
    go_wp2
    rw [← ew]
    go_ret
    exact ⟨by simp, B0⟩
   ·rw [decide_eq_false (show ¬ Fd R C xs.length from fun h => hn h.2.2)]
    have hn2 : ((xs.length : Int) == R * C) = false := by simp [hn]
    clear hn
    go_enter Try.func104, Try.ntmps104
    go_wp2_with fail
    refine (fm_side_yes R _ hR).mono ?_; rintro e w2 ⟨rfl, rfl⟩
    go_wp2_with fail
    refine (fm_side_yes C _ hC).mono ?_; rintro e w2 ⟨rfl, rfl⟩
    go_wp2
    rw [← ew]
    go_ret
    exact ⟨by simp, B0⟩
  ·rw [decide_eq_false (show ¬ Fd R C xs.length from fun h => hC h.2.1)]
   go_enter Try.func104, Try.ntmps104
   go_wp2_with fail
   refine (fm_side_yes R _ hR).mono ?_; rintro e w2 ⟨rfl, rfl⟩
   go_wp2_with fail
   refine (fm_side_no C _ hC).mono ?_; rintro e w2 ⟨rfl, rfl⟩
   go_wp2
   rw [← ew]
   go_ret
   exact ⟨rfl, B0⟩
 ·rw [decide_eq_false (show ¬ Fd R C xs.length from fun h => hR h.1)]
  go_enter Try.func104, Try.ntmps104
  go_wp2_with fail
  refine (fm_side_no R _ hR).mono ?_; rintro e w2 ⟨rfl, rfl⟩
  go_wp2
  rw [← ew]
  go_ret
  exact ⟨rfl, B0⟩
theorem fm_Formed_yes (v : Value) (R C : Int) (xs : List Nat) (w : World) (hm : Fm w v R C xs) (h : Fd R C xs.length) : Calls Try.prog 104 #[v] w (RetW w (.bool true)) := by
 have := fm_Formed v R C xs w hm
 rwa [decide_eq_true h] at this
theorem fm_Formed_no (v : Value) (R C : Int) (xs : List Nat) (w : World) (hm : Fm w v R C xs) (h : ¬ Fd R C xs.length) : Calls Try.prog 104 #[v] w (RetW w (.bool false)) := by
 have := fm_Formed v R C xs w hm
 rwa [decide_eq_false h] at this
end Go.Proofs.Ytkmfhabgempjiaa
/- A region that draws its order and ends in one operation that waits for all others: that operation is taken apart, and the others are a region of their own. -/
namespace Go.Proofs.Ytkmfhabgempjiaa
set_option maxHeartbeats 4000000
open Go
def peelB (l : List Oper) : Bool :=
 decide (0 < l.length) && Region.sinkB .any l.toArray (l.length - 1) &&
 (List.range l.length).all (fun j => match l.toArray[j]? with
  | some o => o.after.all (fun e => !Region.binds .any e || decide (e.on < j)) && (match o.guard with | some (g, _) => decide (g < l.length - 1) | none => true)
  | none => true)
def PeelQ (P : Program) (l : List Oper) (Q : Exit → Act → World → Prop) : Exit → Act → World → Prop
 | .normal, a, w => wpOp P l.toArray Q (l.length - 1) (fun a' w' => Q .normal a' w') a w
 | e, a, w => Q e a w
section
variable {P : Program} {Q : Exit → Act → World → Prop} {hd : List Oper} {t : Oper}
theorem get_head {j : Nat} (hj : j < hd.length) : (hd ++ [t]).toArray[j]? = hd.toArray[j]? := by
 simp [List.getElem?_append_left hj]
theorem get_last : (hd ++ [t]).toArray[hd.length]? = some t := by simp
theorem peel_spec {l : List Oper} (h : peelB l = true) : 0 < l.length ∧ Region.sinkB .any l.toArray (l.length - 1) = true ∧
  ∀ j o, l.toArray[j]? = some o → (∀ e ∈ o.after, Region.binds .any e = true → e.on < j) ∧ (∀ g x, o.guard = some (g, x) → g < l.length - 1) := by
 simp only [peelB, Bool.and_eq_true, decide_eq_true_eq] at h
 obtain ⟨⟨h0, h1⟩, h2⟩ := h
 refine ⟨h0, h1, fun j o ho => ?_⟩
 have hj : j < l.length := by
  have := (Array.getElem?_eq_some_iff.1 ho).1
  simpa using this
 have := List.all_eq_true.1 h2 j (List.mem_range.2 hj)
 simp only [ho, Bool.and_eq_true] at this
 refine ⟨fun e he hb => ?_, fun g x hg => ?_⟩
 ·have h3 := Array.all_eq_true_iff_forall_mem.1 this.1 e he
  simpa [hb] using h3
 ·have h3 := this.2
  rw [hg] at h3
  simpa using h3
theorem ready_nil_all {ops : Array Oper} {listed : Array Bool} (hs : listed.size = ops.size) (hw : ∀ j o, ops[j]? = some o → ∀ e ∈ o.after, Region.binds .any e = true → e.on < j)
  (h : Region.ready .any ops listed = []) : ∀ j, j < ops.size → listed.getD j true = true := by
 intro j
 induction j using Nat.strongRecOn with
 | _ j ih =>
  intro hj
  cases hl : listed.getD j true with
  | true => rfl
  | false =>
   have : j ∈ Region.ready .any ops listed := by
    refine mem_ready.2 ⟨hl, ops[j], by simp [hj], fun e he hb => ?_⟩
    have hlt := hw j ops[j] (by simp [hj]) e he hb
    have := ih e.on hlt (by omega)
    have hes : e.on < listed.size := by omega
    simp [hes] at this ⊢; exact this
   rw [h] at this; cases this
theorem getD_push_lt {listed : Array Bool} {b d : Bool} {j : Nat} (hj : j < listed.size) : (listed.push b).getD j d = listed.getD j d := by
 simp [Array.getElem?_push, Nat.ne_of_lt hj]
theorem getD_push_eq {listed : Array Bool} {b d : Bool} : (listed.push b).getD listed.size d = b := by
 simp
theorem ready_push {listed : Array Bool} (hs : listed.size = hd.length) (hB : peelB (hd ++ [t]) = true) {j : Nat} (hj : j < hd.length) :
  j ∈ Region.ready .any (hd ++ [t]).toArray (listed.push false) ↔ j ∈ Region.ready .any hd.toArray listed := by
 have sp := (peel_spec hB).2.2
 rw [mem_ready, mem_ready, getD_push_lt (by omega), get_head hj]
 constructor
 ·rintro ⟨h0, o, ho, h⟩
  refine ⟨h0, o, ho, fun e he hb => ?_⟩
  have hlt := (sp j o (by rw [get_head hj]; exact ho)).1 e he hb
  have := h e he hb
  rwa [getD_push_lt (by omega)] at this
 ·rintro ⟨h0, o, ho, h⟩
  refine ⟨h0, o, ho, fun e he hb => ?_⟩
  have hlt := (sp j o (by rw [get_head hj]; exact ho)).1 e he hb
  rw [getD_push_lt (by omega)]; exact h e he hb
theorem sink_ready {listed : Array Bool} (hs : listed.size = hd.length) (hcl : ∀ j o, hd.toArray[j]? = some o → listed.getD j false = true → ∀ e ∈ o.after, Region.binds .any e = true → listed.getD e.on false = true)
  (hB : peelB (hd ++ [t]) = true) (h : hd.length ∈ Region.ready .any (hd ++ [t]).toArray (listed.push false)) : ∀ j, j < hd.length → listed.getD j true = true := by
 intro j hj
 cases hl : listed.getD j true with
 | true => rfl
 | false =>
  exfalso
  have sp := peel_spec hB
  have inv : HeadInv .any (hd ++ [t]).toArray hd.length (listed.push false) := by
   refine ⟨by simp [hs], fun i o ho hi e he hb => ?_, fun i h1 h2 => ?_⟩
   ·by_cases hi' : i < hd.length
    ·rw [getD_push_lt (by omega)] at hi
     rw [get_head hi'] at ho
     have hlt := (sp.2.2 i o (by rw [get_head hi']; exact ho)).1 e he hb
     rw [getD_push_lt (by omega)]
     exact hcl i o ho hi e he hb
    ·have : i = listed.size := by
      have := (Array.getElem?_eq_some_iff.1 ho).1
      simp at this; omega
     subst this
     rw [getD_push_eq] at hi; cases hi
   ·have : i = listed.size := by simp at h2; omega
    subst this; exact getD_push_eq
  refine tail_waits (md := .any) (by have := sp.2.1; simpa using this) ?_ (by simp) inv (hd.length - j) j rfl hj (by rw [getD_push_lt (by omega)]; exact hl) hd.length (Nat.le_refl _) h
  unfold Region.chainB
  refine List.all_eq_true.2 fun i hi => ?_
  have := List.mem_range.1 hi
  simp at this
  simp only [Bool.or_eq_true, decide_eq_true_eq]; left; omega
theorem yielded_head {g : Nat} (hg : g < hd.length) (tmps : Array Value) : yielded (hd ++ [t]).toArray tmps g = yielded hd.toArray tmps g := by
 unfold yielded; rw [get_head hg]
theorem wpOp_head {K : Act → World → Prop} {i : Nat} (hB : peelB (hd ++ [t]) = true) (hi : i < hd.length) {a : Act} {w : World} (Q1 : Exit → Act → World → Prop)
  (hQ : ∀ e, e ≠ .normal → ∀ a w, Q1 e a w → Q e a w)
  (h : wpOp P hd.toArray Q1 i K a w) : wpOp P (hd ++ [t]).toArray Q i K a w := by
 unfold wpOp at *
 rw [get_head hi]
 have sp := (peel_spec hB).2.2
 cases ho : hd.toArray[i]? with
 | none => simp only [ho] at h ⊢; exact h
 | some o =>
  simp only [ho] at h ⊢
  have hw : Region.wanted o (yielded (hd ++ [t]).toArray a.tmps) = Region.wanted o (yielded hd.toArray a.tmps) := by
   unfold Region.wanted
   cases hg : o.guard with
   | none => rfl
   | some gw =>
    obtain ⟨g, x⟩ := gw
    have := (sp i o (by rw [get_head hi]; exact ho)).2 g x hg
    simp only [List.length_append, List.length_cons, List.length_nil] at this
    simp only
    rw [yielded_head (by omega)]
  rw [hw]
  split
  ·rename_i hw1
   simp only [hw1, if_true] at h
   rcases h with h | ⟨h1, a0, w0, h2⟩
   ·left
    unfold Oper.wp at *
    generalize (execOp a.eval o).run P w = r at *
    cases r with
    | ok n w' =>
     cases n <;> simp only [Oper.upon] at h ⊢ <;>
      first
       | exact h
       | exact Calls.mono h (fun e w'' he => by
         cases e with
         | returned v => exact he
         | panicked c => exact hQ _ (by simp) _ _ he
         | outgrown => obtain ⟨a0, w0, h2⟩ := he; exact ⟨a0, w0, hQ _ (by simp) _ _ h2⟩)
    | halt x w' => cases x <;> simp only [Oper.upon] at h ⊢ <;> first | exact h | exact hQ _ (by simp) _ _ h
   ·right; exact ⟨h1, a0, w0, hQ _ (by simp) _ _ h2⟩
  ·rename_i hw1
   simp only [hw1] at h; exact h
theorem peelQ_other : ∀ e, e ≠ .normal → ∀ a w, PeelQ P (hd ++ [t]) Q e a w → Q e a w := by
 intro e he a w h
 cases e <;> first | exact (he rfl).elim | exact h
theorem closed_set {listed : Array Bool} {ops : Array Oper} (hcl : ∀ j o, ops[j]? = some o → listed.getD j false = true → ∀ e ∈ o.after, Region.binds .any e = true → listed.getD e.on false = true)
  {i : Nat} (hi : i ∈ Region.ready .any ops listed) : ∀ j o, ops[j]? = some o → (listed.setIfInBounds i true).getD j false = true → ∀ e ∈ o.after, Region.binds .any e = true → (listed.setIfInBounds i true).getD e.on false = true := by
 obtain ⟨_, oi, hoi, hall⟩ := mem_ready.1 hi
 intro j o ho hl e he hb
 by_cases hij : i = j
 ·subst hij
  have : o = oi := Option.some.inj (ho.symm.trans hoi)
  subst this
  exact getD_set_true (hall e he hb)
 ·rw [getD_set_ne false hij] at hl
  exact getD_set_true (hcl j o ho hl e he hb)
theorem wpAny_peel (hB : peelB (hd ++ [t]) = true) : ∀ (fuel : Nat) (listed : Array Bool) (a : Act) (w : World), listed.size = hd.length →
  (∀ j o, hd.toArray[j]? = some o → listed.getD j false = true → ∀ e ∈ o.after, Region.binds .any e = true → listed.getD e.on false = true) →
  wpAny P .any hd.toArray (PeelQ P (hd ++ [t]) Q) fuel listed a w → wpAny P .any (hd ++ [t]).toArray Q (fuel + 1) (listed.push false) a w := by
 have sp := peel_spec hB
 have last : ∀ (listed : Array Bool) (a : Act) (w : World) (f : Nat), listed.size = hd.length → Region.ready .any hd.toArray listed = [] → PeelQ P (hd ++ [t]) Q .normal a w →
   (Region.ready .any (hd ++ [t]).toArray (listed.push false) = [] → Q .normal a w) ∧ ∀ i ∈ Region.ready .any (hd ++ [t]).toArray (listed.push false), wpOp P (hd ++ [t]).toArray Q i (wpAny P .any (hd ++ [t]).toArray Q f ((listed.push false).setIfInBounds i true)) a w := by
  intro listed a w f hs hr hq
  have hall := ready_nil_all (ops := hd.toArray) (listed := listed) (by simpa using hs) (fun j o ho => (sp.2.2 j o (by rw [get_head (by have := (Array.getElem?_eq_some_iff.1 ho).1; simpa using this)]; exact ho)).1) hr
  have hrn : hd.length ∈ Region.ready .any (hd ++ [t]).toArray (listed.push false) := by
   refine mem_ready.2 ⟨by rw [← hs, getD_push_eq], t, get_last, fun e he hb => ?_⟩
   have hlt := (sp.2.2 hd.length t get_last).1 e he hb
   rw [getD_push_lt (by omega)]
   have := hall e.on (by simpa using hlt)
   have hes : e.on < listed.size := by omega
   simp [hes] at this ⊢; exact this
  refine ⟨fun h => (by rw [h] at hrn; cases hrn), fun i hi => ?_⟩
  have hin : i = hd.length := by
   rcases Nat.lt_or_ge i hd.length with h | h
   ·rw [ready_push hs hB h, hr] at hi; cases hi
   ·obtain ⟨_, o, ho, _⟩ := mem_ready.1 hi
    have := (Array.getElem?_eq_some_iff.1 ho).1
    simp at this; omega
  subst hin
  have hq' : wpOp P (hd ++ [t]).toArray Q hd.length (fun a' w' => Q .normal a' w') a w := by
   have : wpOp P (hd ++ [t]).toArray Q ((hd ++ [t]).length - 1) (fun a' w' => Q .normal a' w') a w := hq
   simpa using this
  refine wpOp_mono (fun a' w' h => wpAny_done ?_ h f) hq'
  refine List.eq_nil_iff_forall_not_mem.2 fun j hj => ?_
  obtain ⟨h0, o, ho, _⟩ := mem_ready.1 hj
  have hjl := (Array.getElem?_eq_some_iff.1 ho).1
  simp at hjl
  by_cases hjn : j = hd.length
  ·subst hjn
   have hsz : hd.length < ((listed.push false).setIfInBounds hd.length true).size := by simp [hs]
   simp [hs] at h0
  ·have hne : hd.length ≠ j := fun e => hjn e.symm
   rw [getD_set_ne true hne, getD_push_lt (by omega), hall j (by simp; omega)] at h0
   cases h0
 intro fuel
 induction fuel with
 | zero =>
  intro listed a w hs hcl h
  exact last listed a w 0 hs h.1 h.2
 | succ fuel ih =>
  intro listed a w hs hcl h
  cases hr : Region.ready .any hd.toArray listed with
  | nil => exact last listed a w (fuel + 1) hs hr (h.1 hr)
  | cons x xs =>
   have hx : x ∈ Region.ready .any hd.toArray listed := by rw [hr]; exact List.mem_cons_self ..
   have hxl : x < hd.length := by
    obtain ⟨_, o, ho, _⟩ := mem_ready.1 hx
    have := (Array.getElem?_eq_some_iff.1 ho).1
    simpa using this
   refine ⟨fun h0 => ?_, fun i hi => ?_⟩
   ·have := (ready_push hs hB hxl).2 hx
    rw [h0] at this; cases this
   ·have hil : i < hd.length := by
     rcases Nat.lt_or_ge i hd.length with h' | h'
     ·exact h'
     ·exfalso
      have hin : i = hd.length := by
       obtain ⟨_, o, ho, _⟩ := mem_ready.1 hi
       have := (Array.getElem?_eq_some_iff.1 ho).1
       simp at this; omega
      subst hin
      have hall := sink_ready hs hcl hB hi x hxl
      obtain ⟨h0, _⟩ := mem_ready.1 hx
      rw [hall] at h0; cases h0
    have hi' := (ready_push hs hB hil).1 hi
    refine wpOp_mono (fun a' w' h' => ?_) (wpOp_head hB hil _ peelQ_other (h.2 i hi'))
    have := ih (listed.setIfInBounds i true) a' w' (by simpa using hs) (closed_set hcl hi') h'
    rwa [show (listed.push false).setIfInBounds i true = (listed.setIfInBounds i true).push false by
     apply Array.ext
     ·simp
     ·intro k h1 h2
      simp at h1 h2
      rw [Array.getElem_setIfInBounds (hj := by simpa using h1), Array.getElem_push, Array.getElem_push]
      by_cases hki : i = k
      ·subst hki; simp [hs, hil]
      ·by_cases hk2 : k < listed.size
       ·simp only [hki, if_false, hk2, dif_pos, Array.size_setIfInBounds]; rw [Array.getElem_setIfInBounds (hj := hk2), if_neg hki]
       ·simp [hki, hk2]]
theorem wp_region_peel {id : Nat} {a : Act} {w : World} {S : World → Prop} (hm : P.follows .mixedOrders = true) (hB : peelB (hd ++ [t]) = true) (hS : S { w with drawn := w.drawn + 1 })
  (h : S { w with drawn := w.drawn + 1 } → wpAnyH P .any hd.toArray (PeelQ P (hd ++ [t]) Q) S hd.toArray.size (Array.replicate hd.toArray.size false) a { w with drawn := w.drawn + 1 }) : (Code.region id (hd ++ [t]).toArray true).wp P Q a w := by
 refine wp_region_any hm ?_
 have := wpAny_peel hB _ (Array.replicate hd.toArray.size false) a { w with drawn := w.drawn + 1 } (by simp) (fun j o ho hl => by rw [getD_replicate_false] at hl; cases hl) (wpAny_of_held _ _ _ _ (h hS))
 rw [show (Array.replicate hd.toArray.size false).push false = Array.replicate (hd ++ [t]).toArray.size false by
  rw [← Array.replicate_succ]; simp] at this
 simpa using this
end
/-! The same, over a list that is written out. -/
section
variable {P : Program} {l : List Oper} {Q : Exit → Act → World → Prop} {S : World → Prop}
theorem drop_last {l : List Oper} {t : Oper} (h : l[l.length - 1]? = some t) : l = l.dropLast ++ [t] := by
 have hne : l ≠ [] := by intro e; subst e; simp at h
 have h1 := List.dropLast_concat_getLast hne
 have h2 : l.getLast hne = t := by
  rw [List.getLast_eq_getElem]
  have := List.getElem?_eq_some_iff.1 h
  exact this.2
 rw [h2] at h1; exact h1.symm
theorem startP {id : Nat} {a : Act} {w : World} {hd : List Oper} {n : Nat} (hm : P.follows .mixedOrders = true) (t : Oper) (ht : l[l.length - 1]? = some t) (hh : l.dropLast = hd) (hn : hd.length = n) (hB : peelB l = true) (hS : S w.drew)
  (h : S w.drew → wpAnyH P .any hd.toArray (PeelQ P l Q) S n (Array.replicate n false) a w.drew) : (Code.region id l.toArray true).wp P Q a w := by
 have e := drop_last ht
 subst hh
 have := wp_region_peel (id := id) (P := P) (Q := Q) (hd := l.dropLast) (t := t) (a := a) (w := w) (S := S) hm (by rw [← e]; exact hB) hS (by
  rw [← e]; subst hn; simpa using h)
 rwa [← e] at this
theorem startL {id : Nat} {a : Act} {w : World} (hm : P.follows .mixedOrders = true) (hS : S w.drew)
  (h : S w.drew → wpAnyH P .any l.toArray Q S l.length (Array.replicate l.length false) a w.drew) : (Code.region id l.toArray true).wp P Q a w :=
 wp_region_held hm (by simpa using h hS)
theorem takeL {fuel : Nat} {listed : Array Bool} {a : Act} {w : World} (i : Nat) {oi : Oper} {v : Value} (hi : l[i]? = some oi)
  (hs : Region.noSelect l.toArray = true) (hf : Region.free .any l.toArray listed i = true) (hr : (Region.ready .any l.toArray listed).contains i = true)
  (hQ : ∀ c a w, Q (.panic c) (a.put oi.dst v) w → Q (.panic c) a w) (hy : Region.wanted oi (yielded l.toArray a.tmps) = true ∧ ∀ w, S w → (execOp a.eval oi).run P w = .ok (.value v) w) (hS : S w)
  (h : wpAnyH P .any l.toArray Q S fuel (listed.setIfInBounds i true) (a.put oi.dst v) w) : wpAnyH P .any l.toArray Q S (fuel + 1) listed a w :=
 wpAnyH_take (by simpa using hi) hs hf hr hQ (Or.inl hy) hS h
theorem skipL {fuel : Nat} {listed : Array Bool} {a : Act} {w : World} (i : Nat) {oi : Oper} (hi : l[i]? = some oi)
  (hs : Region.noSelect l.toArray = true) (hf : Region.free .any l.toArray listed i = true) (hr : (Region.ready .any l.toArray listed).contains i = true)
  (hQ : ∀ c a w, Q (.panic c) (a.put oi.dst undef) w → Q (.panic c) a w) (hy : Region.wanted oi (yielded l.toArray a.tmps) = false) (hS : S w)
  (h : wpAnyH P .any l.toArray Q S fuel (listed.setIfInBounds i true) (a.put oi.dst undef) w) : wpAnyH P .any l.toArray Q S (fuel + 1) listed a w :=
 wpAnyH_take (by simpa using hi) hs hf hr hQ (Or.inr ⟨hy, rfl⟩) hS h
theorem oneL {fuel : Nat} {listed : Array Bool} {a : Act} {w : World} (i : Nat) {o : Oper} (hi : l[i]? = some o) (hr : Region.ready .any l.toArray listed = [i])
  (hw : Region.wanted o (yielded l.toArray a.tmps) = true)
  (h : ∀ K' : Act → World → Prop, Shut (∀ a w, S w → (S w → wpAnyH P .any l.toArray Q S fuel (listed.setIfInBounds i true) a w) → K' a w) → Oper.wp P o a w K' Q) : wpAnyH P .any l.toArray Q S (fuel + 1) listed a w :=
 wpAnyH_ready hr (by simp) (AllReadyH.cons (o := o) (by simpa using hi) (fun K' hK => by rw [if_pos hw]; exact h K' hK) AllReadyH.nil)
theorem twoL {fuel : Nat} {listed : Array Bool} {a : Act} {w : World} (i j : Nat) {oi oj : Oper} (hi : l[i]? = some oi) (hj : l[j]? = some oj) (hr : Region.ready .any l.toArray listed = [i, j])
  (hwi : Region.wanted oi (yielded l.toArray a.tmps) = true) (hwj : Region.wanted oj (yielded l.toArray a.tmps) = true)
  (h1 : ∀ K' : Act → World → Prop, Shut (∀ a w, S w → (S w → wpAnyH P .any l.toArray Q S fuel (listed.setIfInBounds i true) a w) → K' a w) → Oper.wp P oi a w K' Q)
  (h2 : ∀ K' : Act → World → Prop, Shut (∀ a w, S w → (S w → wpAnyH P .any l.toArray Q S fuel (listed.setIfInBounds j true) a w) → K' a w) → Oper.wp P oj a w K' Q) : wpAnyH P .any l.toArray Q S (fuel + 1) listed a w :=
 wpAnyH_ready hr (by simp) (AllReadyH.cons (o := oi) (by simpa using hi) (fun K' hK => by rw [if_pos hwi]; exact h1 K' hK)
  (AllReadyH.cons (o := oj) (by simpa using hj) (fun K' hK => by rw [if_pos hwj]; exact h2 K' hK) AllReadyH.nil))
theorem doneL {listed : Array Bool} {a : Act} {w : World} (hr : Region.ready .any l.toArray listed = []) (h : Q .normal a w) : ∀ fuel, wpAnyH P .any l.toArray Q S fuel listed a w := wpAnyH_done hr h
theorem lastL {a : Act} {w : World} {t : Oper} (ht : l[l.length - 1]? = some t) (hw : Region.wanted t (yielded l.toArray a.tmps) = true)
  (h : Oper.wp P t a w (fun a' w' => Q .normal a' w') Q) : PeelQ P l Q .normal a w := by
 show wpOp P l.toArray Q (l.length - 1) (fun a' w' => Q .normal a' w') a w
 unfold wpOp
 have : l.toArray[l.length - 1]? = some t := by simpa using ht
 simp only [this, hw, if_true]
 exact Or.inl h
theorem zq1 {α : Type _} (l : List α) (i : Nat) (a : α) : l.toArray.setIfInBounds i a = (l.set i a).toArray := List.setIfInBounds_toArray ..
theorem zq2 {α : Type _} {a b : α} {t : List α} : (a :: t).set 0 b = b :: t := rfl
theorem zq3 {α : Type _} {a b : α} {t : List α} {n : Nat} : (a :: t).set (n + 1) b = a :: t.set n b := rfl
theorem tk {fuel : Nat} {listed : Array Bool} {a a' : Act} {w : World} (i : Nat) {oi : Oper} {v : Value} (h : wpAnyH P .any l.toArray Q S fuel (listed.setIfInBounds i true) a' w) (hi : l[i]? = some oi := by exact rfl)
  (hy : ∀ w, S w → (execOp a.eval oi).run P w = .ok (.value v) w := by intro w hS; go_simp <;> with_reducible rfl) (ha : a.put oi.dst v = a' := by simp only [Act.put, zq1, zq2, zq3]; exact rfl)
  (hs : Region.noSelect l.toArray = true := by kernel_rfl) (hf : Region.free .any l.toArray listed i = true := by kernel_rfl) (hr : (Region.ready .any l.toArray listed).contains i = true := by kernel_rfl)
  (hQ : ∀ c a w, Q (.panic c) (a.put oi.dst v) w → Q (.panic c) a w := by exact fun _ _ _ h => h) (hw : Region.wanted oi (yielded l.toArray a.tmps) = true := by rfl) (hS : S w := by assumption) : wpAnyH P .any l.toArray Q S (fuel + 1) listed a w :=
 takeL i hi hs hf hr hQ ⟨hw, hy⟩ hS (by rw [ha]; exact h)
theorem tf {fuel : Nat} {listed : Array Bool} {a a' : Act} {w : World} (i : Nat) {oi : Oper} {v : Value} {C : World → Prop} (hF : ∀ w, S w → C w) (h : wpAnyH P .any l.toArray Q S fuel (listed.setIfInBounds i true) a' w) (hi : l[i]? = some oi := by exact rfl)
  (hy : ∀ w, S w → C w → (execOp a.eval oi).run P w = .ok (.value v) w := by intro w hS hC; go_split_ands; go_simp <;> with_reducible rfl) (ha : a.put oi.dst v = a' := by simp only [Act.put, zq1, zq2, zq3]; exact rfl)
  (hs : Region.noSelect l.toArray = true := by kernel_rfl) (hf : Region.free .any l.toArray listed i = true := by kernel_rfl) (hr : (Region.ready .any l.toArray listed).contains i = true := by kernel_rfl)
  (hQ : ∀ c a w, Q (.panic c) (a.put oi.dst v) w → Q (.panic c) a w := by exact fun _ _ _ h => h) (hw : Region.wanted oi (yielded l.toArray a.tmps) = true := by rfl) (hS : S w := by assumption) : wpAnyH P .any l.toArray Q S (fuel + 1) listed a w :=
 takeL i hi hs hf hr hQ ⟨hw, fun w hS => hy w hS (hF w hS)⟩ hS (by rw [ha]; exact h)
theorem tg {fuel : Nat} {listed : Array Bool} {a a' : Act} {w : World} (i : Nat) {oi : Oper} {v : Value} (hi : l[i]? = some oi) (hy : ∀ w, S w → (execOp a.eval oi).run P w = .ok (.value v) w) (h : wpAnyH P .any l.toArray Q S fuel (listed.setIfInBounds i true) a' w)
  (ha : a.put oi.dst v = a' := by simp only [Act.put, zq1, zq2, zq3]; exact rfl)
  (hs : Region.noSelect l.toArray = true := by kernel_rfl) (hf : Region.free .any l.toArray listed i = true := by kernel_rfl) (hr : (Region.ready .any l.toArray listed).contains i = true := by kernel_rfl)
  (hQ : ∀ c a w, Q (.panic c) (a.put oi.dst v) w → Q (.panic c) a w := by exact fun _ _ _ h => h) (hw : Region.wanted oi (yielded l.toArray a.tmps) = true := by rfl) (hS : S w := by assumption) : wpAnyH P .any l.toArray Q S (fuel + 1) listed a w :=
 takeL i hi hs hf hr hQ ⟨hw, hy⟩ hS (by rw [ha]; exact h)
theorem on {fuel : Nat} {listed : Array Bool} {a : Act} {w : World} (i : Nat) {o : Oper} (h : ∀ K' : Act → World → Prop, Shut (∀ a w, S w → (S w → wpAnyH P .any l.toArray Q S fuel (listed.setIfInBounds i true) a w) → K' a w) → Oper.wp P o a w K' Q)
  (hi : l[i]? = some o := by exact rfl) (hr : Region.ready .any l.toArray listed = [i] := by kernel_rfl) (hw : Region.wanted o (yielded l.toArray a.tmps) = true := by rfl) : wpAnyH P .any l.toArray Q S (fuel + 1) listed a w := oneL i hi hr hw h
end
end Go.Proofs.Ytkmfhabgempjiaa
