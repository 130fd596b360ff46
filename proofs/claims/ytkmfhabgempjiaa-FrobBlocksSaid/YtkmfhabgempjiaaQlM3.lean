/- Package fpoly: Norm. -/
import Derived.Deep.AppendLies
import Derived.Test.YtkmfhabgempjiaaQlM1
import Derived.Test.YtkmfhabgempjiaaQlM2
namespace Go.Proofs.Ytkmfhabgempjiaa
set_option maxHeartbeats 1000000
open Go.RowKit
theorem set_far (w : World) (a : Addr) (v : Value) (p : Addr) (h : p.block ≠ a.block) : (w.setCell a v).cell? p = w.cell? p :=
 World.cell?_of_block (w := w) (Below.heap_setCell w a v p.block h)
theorem Box.set {w w1 : World} {g : Nat} (h : Box w w1 g) {a : Addr} (ha : w.heap.size ≤ a.block) (v : Value) : Box w (w1.setCell a v) g :=
 ⟨by rw [show (w1.setCell a v).heap.size = w1.heap.size by simp [World.setCell]]; exact h.lt, h.below.setCell ha v⟩
def RetP (p : Nat) (w : World) (L : Nat) (f : Pol (Zp p)) (e : Ending) (w' : World) : Prop :=
 ∃ r zs, e = .returned r ∧ Own .u64 27 w' w.heap.size r zs ∧ Nrm p zs ∧ pl p zs = f ∧ zs.length ≤ L ∧ Below w.heap.size w w'
def modTake (p : Nat) (xs : List Nat) (k i : Nat) : List Nat := (xs.take i).map (· % p) ++ List.replicate (k - i) 0
theorem modTake_len (p : Nat) (xs : List Nat) (k i : Nat) (hi : i ≤ k) (hk : k ≤ xs.length) : (modTake p xs k i).length = k := by
 simp [modTake]; omega
theorem modTake_set (p : Nat) (xs : List Nat) (k i : Nat) (hi : i < k) (hk : k ≤ xs.length) : (modTake p xs k i).set i (xs.getD i 0 % p) = modTake p xs k (i + 1) := by
 have hl : ((xs.take i).map (· % p)).length = i := by simp; omega
 unfold modTake
 rw [show k - i = (k - (i + 1)) + 1 by omega, List.replicate_succ, List.set_append_right _ _ (by omega), hl, Nat.sub_self, List.set_cons_zero, take_snoc xs i (by omega), List.map_append]
 simp
theorem norm_end {p : Nat} {xs : List Nat} {k : Nat} (hp : 0 < p) (hk : k ≤ xs.length) (h0 : 0 < k) (hl : ¬ xs.getD (k - 1) 0 % p = 0) (hpl : pl p (xs.take k) = pl p xs) :
  Nrm p (modTake p xs k k) ∧ pl p (modTake p xs k k) = pl p xs := by
 have e : modTake p xs k k = (xs.take k).map (· % p) := by simp [modTake]
 rw [e]
 refine ⟨⟨?_, ?_⟩, by rw [pl_map_mod, hpl]⟩
 ·intro x hx
  obtain ⟨y, _, rfl⟩ := List.mem_map.1 hx
  exact Nat.mod_lt _ hp
 ·obtain ⟨j, rfl⟩ : ∃ j, k = j + 1 := ⟨k - 1, by omega⟩
  rw [take_snoc xs j (by omega), List.map_append, List.map_singleton]
  exact tr_snoc _ _ hl
theorem norm_step {p : Nat} {xs : List Nat} {k : Nat} (hp : 0 < p) (h0 : 0 < k) (hl : xs.getD (k - 1) 0 % p = 0) (hpl : pl p (xs.take k) = pl p xs) : pl p (xs.take (k - 1)) = pl p xs := by
 obtain ⟨j, rfl⟩ : ∃ j, k = j + 1 := ⟨k - 1, by omega⟩
 rw [pl_take_succ] at hpl
 simp only [Nat.add_sub_cancel] at hl ⊢
 rw [(Zp.of_eq_zero hp).mpr hl, mon_zero, CR.add_zero] at hpl
 exact hpl
theorem fp_Norm (p : Nat) (v : Value) (xs : List Nat) (w : World) (hp : FP p) (hv : Sl .u64 w v xs) (hm : xs.length ≤ 2000000000000) :
  Calls Try.prog 80 #[.agg #[.int .u64 p], v] w (RetP p w xs.length (pl p xs)) := by
 obtain ⟨ao, b, off, cap, rfl, hl, hcs⟩ := hv
 have B : Below w.heap.size w (w.alloc (.cells #[.int .u64 p] 29)) := (Below.refl _ _).alloc (Nat.le_refl _) _
 have hcp : (w.alloc (.cells #[.int .u64 p] 29)).cell? ⟨w.heap.size, 0, none⟩ = some (.int .u64 p) := (World.ownsRow_lit w #[.int .u64 p] 1 (Nat.le_refl _) (by unfold maxLen; omega) rfl : Own .u64 29 (w.alloc (.cells #[.int .u64 p] 29)) w.heap.size (.slice (some ⟨w.heap.size, 0, none⟩) 1 1) [p]).cellAt 0 (by simp)
 have hg : w.heap.size < (w.alloc (.cells #[.int .u64 p] 29)).heap.size := by simp
 have HP := Lib.hid hp; clear hp
 go_enter Try.func80, Try.ntmps80
 go_wp2_with fail
 generalize w.alloc (.cells #[.int .u64 p] 29) = wb at *
 obtain ⟨g, eg⟩ : ∃ g, g = w.heap.size := ⟨_, rfl⟩
 rw [← eg] at hcp hg ⊢
 have hgw : w.heap.size ≤ g := by omega
 clear eg
 have hbx : Box w wb g := ⟨hg, B⟩
 clear hg B
 go_loopw [5] (fun kv wr => ∃ k : Nat, k ≤ xs.length ∧ kv = .int .i64 k ∧ Box w wr g ∧ wr.cell? ⟨g, 0, none⟩ = some (.int .u64 p) ∧ pl p (xs.take k) = pl p xs) (fun kv _ => (intOf kv).toNat)
 case atStart => exact ⟨xs.length, Nat.le_refl _, rfl, hbx, hcp, by rw [List.take_length]⟩
 case round =>
  clear hbx hcp
  obtain ⟨k, hk, rfl, hbx, hcp, hpl⟩ := hrel
  have HPL := Lib.hid hpl; clear hpl
  by_cases h0 : 0 < k
  ·obtain rfl := hcs.ao (by intro h; subst h; simp at hk; omega)
   obtain ⟨q, rfl⟩ : ∃ q, k = q + 1 := ⟨k - 1, by omega⟩
   have hcx := (hcs.below hbx.below (Nat.le_refl _)).cell q (by omega)
   have s1 : IntKind.i64.wrap (q : Int) = (q : Int) := by rw [IntWalk.i64_in _ ⟨by omega, by omega⟩]
   have s2 : IntKind.i64.wrap ((q : Int) + 1 - 1) = (q : Int) := by rw [IntWalk.i64_in _ ⟨by omega, by omega⟩] <;> omega
   have s3 : (0 : Int) < (q : Int) + 1 := by omega
   have i0 : (0 : Int) ≤ (q : Int) := Int.natCast_nonneg _
   have i1 : (q : Int) < (xs.length : Int) := by omega
   have hbw : b < w.heap.size := hcs.lt (by intro h; subst h; simp at hk)
   obtain ⟨x, ex⟩ : ∃ x, x = xs.getD q 0 := ⟨_, rfl⟩
   rw [← ex] at hcx
   obtain ⟨m, em⟩ : ∃ m, m = x % p := ⟨_, rfl⟩
   have c1 := fun w => gfp_Norm p x w HP.out
   rw [← em] at c1
   have C1 := Lib.hid c1; clear c1
   have EX := Lib.hid ex; clear ex
   have EM := Lib.hid em; clear em
   have hbn : b ≠ g := by omega
   have hbs := hbx.below.size
   by_cases hm0 : m = 0
   ·subst hm0
    go_wp2
    go_region_held3 (fun w' => w'.cell? ⟨g, 0, none⟩ = some (.int .u64 (p : Int)) ∧ w'.cell? ⟨b, off + q, none⟩ = some (.int .u64 (x : Int)) ∧ Box w w' g) (first | (exact ⟨hcp, hcx, hbx.drew 1⟩) | (go_split_ands; refine ⟨(bn.cell (p := ⟨g, 0, none⟩) (Box.lt (by assumption))).trans (by assumption), (bn.cell (p := ⟨b, off + q, none⟩) (Nat.lt_of_lt_of_le hbw hbs)).trans (by assumption), Box.next (by assumption) bn⟩))
     ((go_at_call 134; refine (C1.out _).mono ?_; rintro e wn ⟨rfl, bn⟩))
    go_wp2
    go_roundw
    case rel => exact ⟨q, by omega, by go_num, (hbx.drew 1).next bn, (bn.cell (p := ⟨g, 0, none⟩) (hbx.drew 1).lt).trans hcp, norm_step HP.out.pos h0 (by rw [Nat.add_sub_cancel, ← EX.out]; exact EM.out.symm) HPL.out⟩
    case measure => simp [intOf] <;> omega
   ·have hmz : ((m : Int) == 0) = false := by simpa using hm0
    go_wp2
    go_region_held3 (fun w' => w'.cell? ⟨g, 0, none⟩ = some (.int .u64 (p : Int)) ∧ w'.cell? ⟨b, off + q, none⟩ = some (.int .u64 (x : Int)) ∧ Box w w' g) (first | (exact ⟨hcp, hcx, hbx.drew 1⟩) | (go_split_ands; refine ⟨(bn.cell (p := ⟨g, 0, none⟩) (Box.lt (by assumption))).trans (by assumption), (bn.cell (p := ⟨b, off + q, none⟩) (Nat.lt_of_lt_of_le hbw hbs)).trans (by assumption), Box.next (by assumption) bn⟩))
     ((go_at_call 134; refine (C1.out _).mono ?_; rintro e wn ⟨rfl, bn⟩))
    have hbx2 := (hbx.drew 1).next bn
    have hcp2 := (bn.cell (p := ⟨g, 0, none⟩) (hbx.drew 1).lt).trans hcp
    clear hbx hcp hcx bn s1 s2 hbs i1 i0 C1 hmz
    go_wp2_with (at_make; refine wp_make .u64 43 27 8 Try.underlying43 (by kernel_rfl) (by decide) rfl _ _ rfl .i64 .i64 (q + 1) (by omega) _ _ _ rfl rfl (by omega) (by omega) ?_; intro w1 hown hbel hsz)
    obtain ⟨gg, egg⟩ : ∃ gg, gg = wn.heap.size := ⟨_, rfl⟩
    have hgg : g < gg := by have := hbx2.lt; omega
    have hggw : w.heap.size ≤ gg := by omega
    have hbgg : b ≠ gg := by omega
    replace hown := hown.mono hbx2.below.size
    rw [← egg] at hown ⊢
    replace hcp2 := (hbel.cell (p := ⟨g, 0, none⟩) hbx2.lt).trans hcp2
    replace hbx2 := hbx2.next hbel
    clear hbel hsz egg
    have hne : g ≠ gg := by omega
    go_loopw [30] (fun iv wr => ∃ i : Nat, i ≤ q + 1 ∧ iv = .int .i64 i ∧ Box w wr g ∧ wr.cell? ⟨g, 0, none⟩ = some (.int .u64 p) ∧ Own .u64 27 wr w.heap.size (.slice (some ⟨gg, 0, none⟩) (q + 1) (q + 1)) (modTake p xs (q + 1) i)) (fun iv _ => q + 1 - (intOf iv).toNat)
    case atStart => exact ⟨0, by omega, rfl, hbx2, hcp2, by rw [show modTake p xs (q + 1) 0 = List.replicate (q + 1) 0 by simp [modTake]]; exact hown⟩
    case round =>
     clear hown hcp2 hbx2
     obtain ⟨i, hi, rfl, hbx, hcp, ho⟩ := hrel
     by_cases hlt : i < q + 1
     ·have hcx := (hcs.below hbx.below (Nat.le_refl _)).cell i (by omega)
      obtain ⟨y, ey⟩ : ∃ y, y = xs.getD i 0 := ⟨_, rfl⟩
      rw [← ey] at hcx
      obtain ⟨m2, em2⟩ : ∃ m2, m2 = y % p := ⟨_, rfl⟩
      have c1 := fun w => gfp_Norm p y w HP.out
      rw [← em2] at c1
      have C1 := Lib.hid c1; clear c1
      have hset := modTake_set p xs (q + 1) i hlt hk
      rw [← ey, ← em2] at hset
      have hlen := modTake_len p xs (q + 1) i hi hk
      have HSET := Lib.hid hset
      clear ey em2 hset
      have hbs := hbx.below.size
      have i0 : (0 : Int) ≤ (i : Int) := Int.natCast_nonneg _
      have i1 : (i : Int) < (q : Int) + 1 := by omega
      have i2 : (i : Int) < (xs.length : Int) := by omega
      obtain ⟨zs, ezs⟩ : ∃ zs, zs = modTake p xs (q + 1) i := ⟨_, rfl⟩
      rw [← ezs] at ho hlen HSET
      clear ezs
      go_wp2
      go_region_held3 (fun w' => w'.cell? ⟨g, 0, none⟩ = some (.int .u64 (p : Int)) ∧ w'.cell? ⟨b, off + i, none⟩ = some (.int .u64 (y : Int)) ∧ Box w w' g) (first | (exact ⟨hcp, hcx, hbx.drew 1⟩) | (go_split_ands; refine ⟨(bn.cell (p := ⟨g, 0, none⟩) (Box.lt (by assumption))).trans (by assumption), (bn.cell (p := ⟨b, off + i, none⟩) (Nat.lt_of_lt_of_le hbw hbs)).trans (by assumption), Box.next (by assumption) bn⟩) | (go_split_ands; exact ⟨(set_far _ _ _ ⟨g, 0, none⟩ hne).trans (by assumption), (set_far _ _ _ ⟨b, off + i, none⟩ hbgg).trans (by assumption), Box.set (by assumption) hggw _⟩))
       ((go_at_call 134; refine (C1.out _).mono ?_; rintro e wn ⟨rfl, bn⟩; have ho' := (ho.drawn ⟨1, rfl⟩).next bn; have hc' := ho'.cellAt i (Nat.lt_of_lt_of_eq hlt hlen.symm); have hf' := ho'.frozenAt i))
      have ho2 := (ho'.store i m2).1
      have hbx2 : Box w (wn.setCell ⟨gg, i, none⟩ (.int .u64 (m2 : Int))) g := Box.set ((hbx.drew 1).next bn) hggw _
      have hcp2 : (wn.setCell ⟨gg, i, none⟩ (.int .u64 (m2 : Int))).cell? ⟨g, 0, none⟩ = some (.int .u64 (p : Int)) := (set_far _ _ _ ⟨g, 0, none⟩ hne).trans ((bn.cell (p := ⟨g, 0, none⟩) (hbx.drew 1).lt).trans hcp)
      clear ho ho' hc' hf' hbx hcp bn
      go_wp2
      go_roundw
      case rel => exact ⟨i + 1, by omega, by go_num, hbx2, hcp2, by rw [← HSET.out]; exact ho2⟩
      case measure => simp [intOf] <;> omega
     ·obtain rfl : i = q + 1 := by omega
      have hend := norm_end HP.out.pos hk h0 (by rw [Nat.add_sub_cancel, ← EX.out, ← EM.out]; exact hm0) HPL.out
      have hlen := modTake_len p xs (q + 1) (q + 1) hi hk
      have HE := Lib.hid hend
      have HLN := Lib.hid hlen
      clear hend hlen
      go_wp2
      go_ret
      exact ⟨_, _, rfl, ho, HE.out.1, HE.out.2, by rw [HLN.out]; exact hk, hbx.below⟩
  ·obtain rfl : k = 0 := by omega
   go_wp2
   go_quiet (fail)
   go_wp2
   go_ret
   exact ⟨_, [], rfl, Own.nil _ _ _ _, nrm_nil _, by rw [← HPL.out]; rfl, by simp, (hbx.drew _).below⟩
end Go.Proofs.Ytkmfhabgempjiaa
/- Package fpoly: Derive. -/
namespace Go.Proofs.Ytkmfhabgempjiaa
set_option maxHeartbeats 1000000
open Go.RowKit
theorem step_app2 {P : Program} {ops : Array Oper} {o : Oper} {a : Act} {K : Act → World → Prop} {Q : Exit → Act → World → Prop} {E : Prop} (k : IntKind) (T e bytes : Nat)
  (hu : P.underlying T = some (.slice e)) (hi : (P.info? e).map (fun i => (i.zero, i.size, i.bytes)) = some (some (.int k 0), 1, bytes)) (hby : bytes ≤ 8)
  (hgd : o.guard = none) (s x : Operand) (ho : o.op = .call { callee := .builtin .append, args := #[s, x], argTypes := #[T, T] })
  (w : World) (base : Nat) (v : Value) (xs : List Nat) (y : Nat) (yv : Int) (hy : yv = y) (hown : Own k e w base v xs) (hlen : xs.length ≤ 10000000000000) (hbase : base ≤ w.heap.size)
  (hs : a.eval s = v) (hx : a.eval x = .slice (some ⟨w.heap.size, 0, none⟩) 1 1)
  (h : ∀ (g cap : Nat) (w' : World), Own k e w' base (.slice (some ⟨g, 0, none⟩) (xs.length + 1) cap) (xs ++ [y]) → Below base w w' → K (a.put o.dst (.slice (some ⟨g, 0, none⟩) (xs.length + 1) cap)) w') :
  if Go.Region.wanted o (Go.yielded ops a.tmps) = true then Go.Oper.wp P o a (w.alloc (.cells #[.int k yv] e)) K Q else E := by
 subst hy
 obtain ⟨i0, h1, h2, h3, h4⟩ := info_parts hi
 refine step_append_lies _ hgd s x T ho base e i0 (.int k 0) 1 bytes hu h1 h2 h3 h4 rfl (by decide) v xs.length (vs k xs) hs (World.ownsRow.alloc hown _) ⟨w.heap.size, 0, none⟩ 1 1 (vs k [y]) hx rfl ?_ ?_ (by decide) ?_ ?_ ?_ (w.heap.size + 1) ?_ ?_
 ·intro j u hj
  match j, hj with
  | 0, hj => simp [vs] at hj; subst hj; simp [Addr.add]
 ·intro u hu; simp [vs] at hu; subst hu; rfl
 ·unfold maxLen; omega
 ·have : (xs.length + 1) * bytes ≤ (xs.length + 1) * 8 := Nat.mul_le_mul_left _ hby
  omega
 ·simp; omega
 ·simp
 ·intro g cap w' h1 h2 _ _
  have hg : w.grownBy w' v.ownBlock := by
   have e0 := World.grownBy_alloc w (.cells #[.int k (y : Int)] e) v.ownBlock
   exact ⟨h2.os.trans e0.os, h2.tape.trans e0.tape, h2.output.trans e0.output, Nat.le_trans e0.size h2.size, fun i hi hne => (h2.block i (Nat.lt_of_lt_of_le hi e0.size) hne).trans (e0.block i hi hne)⟩
  refine h g cap w' ?_ (below_grown hg hbase hown.block_ge)
  unfold Own; rw [vs_append, List.length_append]; exact h1
theorem pl_take_all (p : Nat) (xs : List Nat) (i : Nat) (h : xs.length ≤ i) : pl p (xs.take i) = pl p xs := by
 rw [List.take_of_length_le h]
end Go.Proofs.Ytkmfhabgempjiaa
/- Package fpoly: both, Add, Sub. -/
namespace Go.Proofs.Ytkmfhabgempjiaa
set_option maxHeartbeats 1000000
open Go.RowKit
theorem fp_at (v : Value) (xs : List Nat) (i : Nat) (w : World) (hv : Sl .u64 w v xs) :
  Calls Try.prog 165 #[v, .int .i64 i] w fun e w' => e = .returned (.int .u64 (xs.getD i 0 : Nat)) ∧ w = w' := by
 obtain ⟨ao, b, off, cap, rfl, hl, hcs⟩ := hv
 have i0 : (0 : Int) ≤ (i : Int) := Int.natCast_nonneg _
 by_cases hi : i < xs.length
 ·obtain rfl := hcs.ao (by intro h; subst h; simp at hi)
  have hcx := hcs.cell i hi
  have i1 : (i : Int) < (xs.length : Int) := by omega
  obtain ⟨x, ex⟩ : ∃ x, x = xs.getD i 0 := ⟨_, rfl⟩
  rw [← ex] at hcx ⊢
  clear ex
  go_enter Try.func165, Try.ntmps165
  go_wp2
  go_ret
  exact ⟨rfl, rfl⟩
 ·have e : xs.getD i 0 = 0 := by rw [List.getD, List.getElem?_eq_none (by omega)]; rfl
  rw [e]
  clear e
  go_enter Try.func165, Try.ntmps165
  go_wp2
  go_ret
  exact ⟨rfl, rfl⟩
theorem pl_set_take (p : Nat) (zs : List Nat) (i z : Nat) (hi : i < zs.length) : pl p ((zs.set i z).take (i + 1)) = pl p (zs.take i) + mon (Zp.of p z) i := by
 rw [take_set_succ zs i z hi, pl_snoc, List.length_take, Nat.min_eq_left (by omega)]
theorem both_Add {p i z x y : Nat} {xs ys zs : List Nat} (hi : i < zs.length) (hv : pl p (zs.take i) = pl p (xs.take i) + pl p (ys.take i)) (hx : x = xs.getD i 0) (hy : y = ys.getD i 0) (hz : Zp.of p z = Zp.of p x + Zp.of p y) :
  pl p ((zs.set i z).take (i + 1)) = pl p (xs.take (i + 1)) + pl p (ys.take (i + 1)) := by
 rw [pl_set_take p zs i z hi, hv, hz, pl_take_succ, pl_take_succ, ← hx, ← hy, mon_add]
 exact by_ring [pl p (xs.take i), pl p (ys.take i), mon (Zp.of p x) i, mon (Zp.of p y) i] (X0 + X1 + (X2 + X3)) (X0 + X2 + (X1 + X3)) rfl
theorem fp_bothAdd (p : Nat) (v u : Value) (xs ys : List Nat) (w : World) (hp : FP p) (s0 : Sl .u64 w v xs) (s1 : Sl .u64 w u ys) (hm : xs.length ≤ 1000000000000) (hn : ys.length ≤ 1000000000000) :
  Calls Try.prog 137 #[.agg #[.int .u64 p], v, u, .func (.func 117) #[.agg #[.int .u64 p]] #[]] w (RetP p w (max xs.length ys.length) (pl p xs + pl p ys)) := by
 obtain ⟨ao, ba, oa, ca, rfl, la, ka⟩ := s0
 have s0 : Sl .u64 w (.slice ao xs.length ca) xs := ⟨ao, ba, oa, ca, rfl, la, ka⟩
 obtain ⟨bo, bb, ob, cb, rfl, lb, kb⟩ := s1
 have s1 : Sl .u64 w (.slice bo ys.length cb) ys := ⟨bo, bb, ob, cb, rfl, lb, kb⟩
 clear ka kb
 have B : Below w.heap.size w (w.alloc (.cells #[.int .u64 p] 29)) := (Below.refl _ _).alloc (Nat.le_refl _) _
 have hcp : (w.alloc (.cells #[.int .u64 p] 29)).cell? ⟨w.heap.size, 0, none⟩ = some (.int .u64 p) := (World.ownsRow_lit w #[.int .u64 p] 1 (Nat.le_refl _) (by unfold maxLen; omega) rfl : Own .u64 29 (w.alloc (.cells #[.int .u64 p] 29)) w.heap.size (.slice (some ⟨w.heap.size, 0, none⟩) 1 1) [p]).cellAt 0 (by simp)
 have hg : w.heap.size < (w.alloc (.cells #[.int .u64 p] 29)).heap.size := by simp
 have HP := Lib.hid hp; clear hp
 go_enter Try.func137, Try.ntmps137
 go_upto_region 1 with (fail)
 generalize w.alloc (.cells #[.int .u64 p] 29) = wb at *
 obtain ⟨g, eg⟩ : ∃ g, g = w.heap.size := ⟨_, rfl⟩
 rw [← eg] at hcp hg ⊢
 have hgw : w.heap.size ≤ g := by omega
 clear eg
 have hbx : Box w wb g := ⟨hg, B⟩
 clear hg B
 obtain ⟨n, en⟩ : ∃ n, n = max xs.length ys.length := ⟨_, rfl⟩
 rw [← en]
 have hnx : xs.length ≤ n := by omega
 have hny : ys.length ≤ n := by omega
 have hnm : n ≤ 1000000000000 := by omega
 have hnc : n = xs.length ∨ n = ys.length := by omega
 have EN := Lib.hid en; clear en
 go_cut [9] (fun ov wx => ∃ gg, ov = .slice (some ⟨gg, 0, none⟩) n n ∧ g < gg ∧ Own .u64 27 wx w.heap.size ov (List.replicate n 0) ∧ Box w wx g ∧ wx.cell? ⟨g, 0, none⟩ = some (.int .u64 p))
 case first =>
  go_wp2_with (at_make; refine wp_make .u64 43 27 8 Try.underlying43 (by kernel_rfl) (by decide) rfl _ _ rfl .i64 .i64 n (by omega) _ _ _ rfl rfl (by omega) (by omega) ?_; intro w1 hown hbel hsz)
  all_goals go_meet
  all_goals exact ⟨_, rfl, hbx.lt, hown.mono hbx.below.size, hbx.next hbel, (hbel.cell (p := ⟨g, 0, none⟩) hbx.lt).trans hcp⟩
 case rest =>
  clear hbx hcp
  obtain ⟨gg, rfl, hgg, hown, hbx, hcp⟩ := hcut
  have hne : g ≠ gg := by omega
  have hggw : w.heap.size ≤ gg := by omega
  clear hgg hgw hnc
  go_wp2_with fail
  go_loopw [19] (fun iv wr => ∃ (i : Nat) (zs : List Nat), i ≤ n ∧ iv = .int .i64 i ∧ Box w wr g ∧ wr.cell? ⟨g, 0, none⟩ = some (.int .u64 p) ∧ Own .u64 27 wr w.heap.size (.slice (some ⟨gg, 0, none⟩) n n) zs ∧ zs.length = n ∧ pl p (zs.take i) = pl p (xs.take i) + pl p (ys.take i)) (fun iv _ => n - (intOf iv).toNat)
  case atStart => exact ⟨0, List.replicate n 0, by omega, rfl, hbx, hcp, hown, by simp, by simp only [List.take_zero, pl_nil]; rw [CR.zero_add]⟩
  case round =>
   clear hown hcp hbx
   obtain ⟨i, zs, hi, rfl, hbx, hcp, ho, hzl, hval⟩ := hrel
   have HV := Lib.hid hval; clear hval
   by_cases hlt : i < n
   ·obtain ⟨x, ex⟩ : ∃ x, x = xs.getD i 0 := ⟨_, rfl⟩
    obtain ⟨y, ey⟩ : ∃ y, y = ys.getD i 0 := ⟨_, rfl⟩
    obtain ⟨z, ez⟩ : ∃ z, z = (Zp.of p x + Zp.of p y).val := ⟨_, rfl⟩
    have c1 := fp_at _ xs i wr (s0.next hbx.below)
    have c2 := fp_at _ ys i wr (s1.next hbx.below)
    rw [← ex] at c1
    rw [← ey] at c2
    have C1 := Lib.hid c1
    have C2 := Lib.hid c2
    have C3 := Lib.hid (fun w => gfp_Add p x y z w HP.out ez)
    have AR := Lib.hid (both_Add (z := z) (by omega) HV.out ex ey (Zp.fact HP.out ez).2)
    clear c1 c2 ex ey ez
    have i0 : (0 : Int) ≤ (i : Int) := Int.natCast_nonneg _
    have i1 : (i : Int) < (n : Int) := by omega
    go_wp2_with fail
    refine C1.out.mono ?_; rintro e w' ⟨rfl, rfl⟩
    go_wp2_with fail
    refine C2.out.mono ?_; rintro e w' ⟨rfl, rfl⟩
    go_wp2_with fail
    refine (C3.out _).mono ?_; rintro e w3 ⟨rfl, b3⟩
    replace hcp := (b3.cell (p := ⟨g, 0, none⟩) hbx.lt).trans hcp
    replace hbx := hbx.next b3
    replace ho := ho.next b3
    have hc' := ho.cellAt i (by omega)
    have hf' := ho.frozenAt i
    have ho2 := (ho.store i z).1
    have hbx2 : Box w (w3.setCell ⟨gg, i, none⟩ (.int .u64 (z : Int))) g := Box.set hbx hggw _
    have hcp2 : (w3.setCell ⟨gg, i, none⟩ (.int .u64 (z : Int))).cell? ⟨g, 0, none⟩ = some (.int .u64 (p : Int)) := (set_far _ _ _ ⟨g, 0, none⟩ hne).trans hcp
    clear b3 ho hbx hcp
    go_wp2
    go_roundw
    case rel => exact ⟨i + 1, zs.set i z, by omega, by go_num, hbx2, hcp2, ho2, by simpa using hzl, AR.out⟩
    case measure => simp [intOf] <;> omega
   ·obtain rfl : i = n := by omega
    have hend : pl p zs = pl p xs + pl p ys := by
     have := HV.out
     rwa [pl_take_all p zs i (by omega), pl_take_all p xs i hnx, pl_take_all p ys i hny] at this
    have HE := Lib.hid hend; clear hend
    have HZL := Lib.hid hzl
    go_wp2_with fail
    refine (fp_Norm p _ zs _ HP.out ho.sl (by omega)).mono ?_; rintro e w2 ⟨r, z2, rfl, o2, m2, v2, l2, b2⟩
    have V2 := Lib.hid v2; clear v2
    go_wp2
    go_ret
    exact ⟨r, z2, rfl, o2.mono hbx.below.size, m2, by rw [V2.out, HE.out], by have h1 := HZL.out; have h2 := EN.out; omega, hbx.below.trans (b2.mono hbx.below.size)⟩
theorem fp_Add (p : Nat) (v u : Value) (xs ys : List Nat) (w : World) (hp : FP p) (hv : Sl .u64 w v xs) (hu : Sl .u64 w u ys) (hm : xs.length ≤ 1000000000000) (hn : ys.length ≤ 1000000000000) :
  Calls Try.prog 90 #[.agg #[.int .u64 p], v, u] w (RetP p w (max xs.length ys.length) (pl p xs + pl p ys)) := by
 have B : Below w.heap.size w (w.alloc (.cells #[.int .u64 p] 29)) := (Below.refl _ _).alloc (Nat.le_refl _) _
 have hcp : (w.alloc (.cells #[.int .u64 p] 29)).cell? ⟨w.heap.size, 0, none⟩ = some (.int .u64 p) := (World.ownsRow_lit w #[.int .u64 p] 1 (Nat.le_refl _) (by unfold maxLen; omega) rfl : Own .u64 29 (w.alloc (.cells #[.int .u64 p] 29)) w.heap.size (.slice (some ⟨w.heap.size, 0, none⟩) 1 1) [p]).cellAt 0 (by simp)
 have hg : w.heap.size < (w.alloc (.cells #[.int .u64 p] 29)).heap.size := by simp
 have HP := Lib.hid hp; clear hp
 go_enter Try.func90, Try.ntmps90
 go_wp2_with fail
 generalize w.alloc (.cells #[.int .u64 p] 29) = wb at *
 obtain ⟨g, eg⟩ : ∃ g, g = w.heap.size := ⟨_, rfl⟩
 rw [← eg] at hcp hg ⊢
 have hgw : w.heap.size ≤ g := by omega
 clear eg
 have hbx : Box w wb g := ⟨hg, B⟩
 clear hg B
 refine (fp_bothAdd p v u xs ys _ HP.out (hv.next hbx.below) (hu.next hbx.below) hm hn).mono ?_; rintro e w2 ⟨r, z2, rfl, o2, m2, v2, l2, b2⟩
 have V2 := Lib.hid v2; clear v2
 go_wp2
 go_ret
 exact ⟨r, z2, rfl, o2.mono hbx.below.size, m2, V2.out, l2, hbx.below.trans (b2.mono hbx.below.size)⟩
theorem both_Sub {p i z x y : Nat} {xs ys zs : List Nat} (hi : i < zs.length) (hv : pl p (zs.take i) = pl p (xs.take i) - pl p (ys.take i)) (hx : x = xs.getD i 0) (hy : y = ys.getD i 0) (hz : Zp.of p z = Zp.of p x - Zp.of p y) :
  pl p ((zs.set i z).take (i + 1)) = pl p (xs.take (i + 1)) - pl p (ys.take (i + 1)) := by
 rw [pl_set_take p zs i z hi, hv, hz, pl_take_succ, pl_take_succ, ← hx, ← hy, CR.sub_eq (Zp.of p x), mon_add, mon_neg]
 exact by_ring [pl p (xs.take i), pl p (ys.take i), mon (Zp.of p x) i, mon (Zp.of p y) i] (X0 - X1 + (X2 + -X3)) (X0 + X2 - (X1 + X3)) rfl
theorem fp_bothSub (p : Nat) (v u : Value) (xs ys : List Nat) (w : World) (hp : FP p) (s0 : Sl .u64 w v xs) (s1 : Sl .u64 w u ys) (hm : xs.length ≤ 1000000000000) (hn : ys.length ≤ 1000000000000) :
  Calls Try.prog 137 #[.agg #[.int .u64 p], v, u, .func (.func 136) #[.agg #[.int .u64 p]] #[]] w (RetP p w (max xs.length ys.length) (pl p xs - pl p ys)) := by
 obtain ⟨ao, ba, oa, ca, rfl, la, ka⟩ := s0
 have s0 : Sl .u64 w (.slice ao xs.length ca) xs := ⟨ao, ba, oa, ca, rfl, la, ka⟩
 obtain ⟨bo, bb, ob, cb, rfl, lb, kb⟩ := s1
 have s1 : Sl .u64 w (.slice bo ys.length cb) ys := ⟨bo, bb, ob, cb, rfl, lb, kb⟩
 clear ka kb
 have B : Below w.heap.size w (w.alloc (.cells #[.int .u64 p] 29)) := (Below.refl _ _).alloc (Nat.le_refl _) _
 have hcp : (w.alloc (.cells #[.int .u64 p] 29)).cell? ⟨w.heap.size, 0, none⟩ = some (.int .u64 p) := (World.ownsRow_lit w #[.int .u64 p] 1 (Nat.le_refl _) (by unfold maxLen; omega) rfl : Own .u64 29 (w.alloc (.cells #[.int .u64 p] 29)) w.heap.size (.slice (some ⟨w.heap.size, 0, none⟩) 1 1) [p]).cellAt 0 (by simp)
 have hg : w.heap.size < (w.alloc (.cells #[.int .u64 p] 29)).heap.size := by simp
 have HP := Lib.hid hp; clear hp
 go_enter Try.func137, Try.ntmps137
 go_upto_region 1 with (fail)
 generalize w.alloc (.cells #[.int .u64 p] 29) = wb at *
 obtain ⟨g, eg⟩ : ∃ g, g = w.heap.size := ⟨_, rfl⟩
 rw [← eg] at hcp hg ⊢
 have hgw : w.heap.size ≤ g := by omega
 clear eg
 have hbx : Box w wb g := ⟨hg, B⟩
 clear hg B
 obtain ⟨n, en⟩ : ∃ n, n = max xs.length ys.length := ⟨_, rfl⟩
 rw [← en]
 have hnx : xs.length ≤ n := by omega
 have hny : ys.length ≤ n := by omega
 have hnm : n ≤ 1000000000000 := by omega
 have hnc : n = xs.length ∨ n = ys.length := by omega
 have EN := Lib.hid en; clear en
 go_cut [9] (fun ov wx => ∃ gg, ov = .slice (some ⟨gg, 0, none⟩) n n ∧ g < gg ∧ Own .u64 27 wx w.heap.size ov (List.replicate n 0) ∧ Box w wx g ∧ wx.cell? ⟨g, 0, none⟩ = some (.int .u64 p))
 case first =>
  go_wp2_with (at_make; refine wp_make .u64 43 27 8 Try.underlying43 (by kernel_rfl) (by decide) rfl _ _ rfl .i64 .i64 n (by omega) _ _ _ rfl rfl (by omega) (by omega) ?_; intro w1 hown hbel hsz)
  all_goals go_meet
  all_goals exact ⟨_, rfl, hbx.lt, hown.mono hbx.below.size, hbx.next hbel, (hbel.cell (p := ⟨g, 0, none⟩) hbx.lt).trans hcp⟩
 case rest =>
  clear hbx hcp
  obtain ⟨gg, rfl, hgg, hown, hbx, hcp⟩ := hcut
  have hne : g ≠ gg := by omega
  have hggw : w.heap.size ≤ gg := by omega
  clear hgg hgw hnc
  go_wp2_with fail
  go_loopw [19] (fun iv wr => ∃ (i : Nat) (zs : List Nat), i ≤ n ∧ iv = .int .i64 i ∧ Box w wr g ∧ wr.cell? ⟨g, 0, none⟩ = some (.int .u64 p) ∧ Own .u64 27 wr w.heap.size (.slice (some ⟨gg, 0, none⟩) n n) zs ∧ zs.length = n ∧ pl p (zs.take i) = pl p (xs.take i) - pl p (ys.take i)) (fun iv _ => n - (intOf iv).toNat)
  case atStart => exact ⟨0, List.replicate n 0, by omega, rfl, hbx, hcp, hown, by simp, by simp only [List.take_zero, pl_nil]; rw [CR.sub_zero]⟩
  case round =>
   clear hown hcp hbx
   obtain ⟨i, zs, hi, rfl, hbx, hcp, ho, hzl, hval⟩ := hrel
   have HV := Lib.hid hval; clear hval
   by_cases hlt : i < n
   ·obtain ⟨x, ex⟩ : ∃ x, x = xs.getD i 0 := ⟨_, rfl⟩
    obtain ⟨y, ey⟩ : ∃ y, y = ys.getD i 0 := ⟨_, rfl⟩
    obtain ⟨z, ez⟩ : ∃ z, z = (Zp.of p x - Zp.of p y).val := ⟨_, rfl⟩
    have c1 := fp_at _ xs i wr (s0.next hbx.below)
    have c2 := fp_at _ ys i wr (s1.next hbx.below)
    rw [← ex] at c1
    rw [← ey] at c2
    have C1 := Lib.hid c1
    have C2 := Lib.hid c2
    have C3 := Lib.hid (fun w => gfp_Sub p x y z w HP.out ez)
    have AR := Lib.hid (both_Sub (z := z) (by omega) HV.out ex ey (Zp.fact HP.out ez).2)
    clear c1 c2 ex ey ez
    have i0 : (0 : Int) ≤ (i : Int) := Int.natCast_nonneg _
    have i1 : (i : Int) < (n : Int) := by omega
    go_wp2_with fail
    refine C1.out.mono ?_; rintro e w' ⟨rfl, rfl⟩
    go_wp2_with fail
    refine C2.out.mono ?_; rintro e w' ⟨rfl, rfl⟩
    go_wp2_with fail
    refine (C3.out _).mono ?_; rintro e w3 ⟨rfl, b3⟩
    replace hcp := (b3.cell (p := ⟨g, 0, none⟩) hbx.lt).trans hcp
    replace hbx := hbx.next b3
    replace ho := ho.next b3
    have hc' := ho.cellAt i (by omega)
    have hf' := ho.frozenAt i
    have ho2 := (ho.store i z).1
    have hbx2 : Box w (w3.setCell ⟨gg, i, none⟩ (.int .u64 (z : Int))) g := Box.set hbx hggw _
    have hcp2 : (w3.setCell ⟨gg, i, none⟩ (.int .u64 (z : Int))).cell? ⟨g, 0, none⟩ = some (.int .u64 (p : Int)) := (set_far _ _ _ ⟨g, 0, none⟩ hne).trans hcp
    clear b3 ho hbx hcp
    go_wp2
    go_roundw
    case rel => exact ⟨i + 1, zs.set i z, by omega, by go_num, hbx2, hcp2, ho2, by simpa using hzl, AR.out⟩
    case measure => simp [intOf] <;> omega
   ·obtain rfl : i = n := by omega
    have hend : pl p zs = pl p xs - pl p ys := by
     have := HV.out
     rwa [pl_take_all p zs i (by omega), pl_take_all p xs i hnx, pl_take_all p ys i hny] at this
    have HE := Lib.hid hend; clear hend
    have HZL := Lib.hid hzl
    go_wp2_with fail
    refine (fp_Norm p _ zs _ HP.out ho.sl (by omega)).mono ?_; rintro e w2 ⟨r, z2, rfl, o2, m2, v2, l2, b2⟩
    have V2 := Lib.hid v2; clear v2
    go_wp2
    go_ret
    exact ⟨r, z2, rfl, o2.mono hbx.below.size, m2, by rw [V2.out, HE.out], by have h1 := HZL.out; have h2 := EN.out; omega, hbx.below.trans (b2.mono hbx.below.size)⟩
theorem fp_Sub (p : Nat) (v u : Value) (xs ys : List Nat) (w : World) (hp : FP p) (hv : Sl .u64 w v xs) (hu : Sl .u64 w u ys) (hm : xs.length ≤ 1000000000000) (hn : ys.length ≤ 1000000000000) :
  Calls Try.prog 154 #[.agg #[.int .u64 p], v, u] w (RetP p w (max xs.length ys.length) (pl p xs - pl p ys)) := by
 have B : Below w.heap.size w (w.alloc (.cells #[.int .u64 p] 29)) := (Below.refl _ _).alloc (Nat.le_refl _) _
 have hcp : (w.alloc (.cells #[.int .u64 p] 29)).cell? ⟨w.heap.size, 0, none⟩ = some (.int .u64 p) := (World.ownsRow_lit w #[.int .u64 p] 1 (Nat.le_refl _) (by unfold maxLen; omega) rfl : Own .u64 29 (w.alloc (.cells #[.int .u64 p] 29)) w.heap.size (.slice (some ⟨w.heap.size, 0, none⟩) 1 1) [p]).cellAt 0 (by simp)
 have hg : w.heap.size < (w.alloc (.cells #[.int .u64 p] 29)).heap.size := by simp
 have HP := Lib.hid hp; clear hp
 go_enter Try.func154, Try.ntmps154
 go_wp2_with fail
 generalize w.alloc (.cells #[.int .u64 p] 29) = wb at *
 obtain ⟨g, eg⟩ : ∃ g, g = w.heap.size := ⟨_, rfl⟩
 rw [← eg] at hcp hg ⊢
 have hgw : w.heap.size ≤ g := by omega
 clear eg
 have hbx : Box w wb g := ⟨hg, B⟩
 clear hg B
 refine (fp_bothSub p v u xs ys _ HP.out (hv.next hbx.below) (hu.next hbx.below) hm hn).mono ?_; rintro e w2 ⟨r, z2, rfl, o2, m2, v2, l2, b2⟩
 have V2 := Lib.hid v2; clear v2
 go_wp2
 go_ret
 exact ⟨r, z2, rfl, o2.mono hbx.below.size, m2, V2.out, l2, hbx.below.trans (b2.mono hbx.below.size)⟩
end Go.Proofs.Ytkmfhabgempjiaa
/- Package fpoly: Mul. -/
namespace Go.Proofs.Ytkmfhabgempjiaa
set_option maxHeartbeats 1000000
open Go.RowKit
def TwoCut (p : Nat) (w : World) (g : Nat) (xs ys : List Nat) (a b : Value) (wx : World) : Prop :=
 ∃ za zb, Own .u64 27 wx w.heap.size a za ∧ Nrm p za ∧ pl p za = pl p xs ∧ za.length ≤ xs.length ∧ Own .u64 27 wx w.heap.size b zb ∧ Nrm p zb ∧ pl p zb = pl p ys ∧ zb.length ≤ ys.length ∧
  Box w wx g ∧ wx.cell? ⟨g, 0, none⟩ = some (.int .u64 p)
theorem mul_arith {p i k z m x y : Nat} {A C zs : List Nat} (hl : i + k < zs.length) (hv : pl p zs = pl p (A.take i) * pl p C + mon (Zp.of p x) i * pl p (C.take k)) (hy : y = C.getD k 0)
  (hm : Zp.of p m = Zp.of p x * Zp.of p y) (hz : Zp.of p z = Zp.of p (zs.getD (i + k) 0) + Zp.of p m) :
  pl p (zs.set (i + k) z) = pl p (A.take i) * pl p C + mon (Zp.of p x) i * pl p (C.take (k + 1)) := by
 rw [pl_set p zs (i + k) z hl, hv, hz, hm, pl_take_succ, ← hy, CR.mul_add, mon_mul, CR.add_comm (Zp.of p (zs.getD (i + k) 0)), CR.add_sub_cancel, CR.add_assoc]
theorem mul_outer {p i x : Nat} {A C zs : List Nat} (hx : x = A.getD i 0) (hv : pl p zs = pl p (A.take i) * pl p C + mon (Zp.of p x) i * pl p (C.take C.length)) :
  pl p zs = pl p (A.take (i + 1)) * pl p C := by
 rw [hv, pl_take_succ, ← hx, CR.add_mul, List.take_length]
theorem fp_Mul (p : Nat) (v u : Value) (xs ys : List Nat) (w : World) (hp : FP p) (s0 : Sl .u64 w v xs) (s1 : Sl .u64 w u ys) (hm : xs.length ≤ 1000000000000) (hn : ys.length ≤ 1000000000000) :
  Calls Try.prog 65 #[.agg #[.int .u64 p], v, u] w (RetP p w (xs.length + ys.length - 1) (pl p xs * pl p ys)) := by
 obtain ⟨ao, ba, oa, ca, rfl, la, ka⟩ := s0
 have s0 : Sl .u64 w (.slice ao xs.length ca) xs := ⟨ao, ba, oa, ca, rfl, la, ka⟩
 obtain ⟨bo, bb, ob, cb, rfl, lb, kb⟩ := s1
 have s1 : Sl .u64 w (.slice bo ys.length cb) ys := ⟨bo, bb, ob, cb, rfl, lb, kb⟩
 clear ka kb
 have B : Below w.heap.size w (w.alloc (.cells #[.int .u64 p] 29)) := (Below.refl _ _).alloc (Nat.le_refl _) _
 have hcp : (w.alloc (.cells #[.int .u64 p] 29)).cell? ⟨w.heap.size, 0, none⟩ = some (.int .u64 p) := (World.ownsRow_lit w #[.int .u64 p] 1 (Nat.le_refl _) (by unfold maxLen; omega) rfl : Own .u64 29 (w.alloc (.cells #[.int .u64 p] 29)) w.heap.size (.slice (some ⟨w.heap.size, 0, none⟩) 1 1) [p]).cellAt 0 (by simp)
 have hg : w.heap.size < (w.alloc (.cells #[.int .u64 p] 29)).heap.size := by simp
 have HP := Lib.hid hp; clear hp
 go_enter Try.func65, Try.ntmps65
 go_upto_region 1 with (fail)
 generalize w.alloc (.cells #[.int .u64 p] 29) = wb at *
 obtain ⟨g, eg⟩ : ∃ g, g = w.heap.size := ⟨_, rfl⟩
 rw [← eg] at hcp hg ⊢
 have hgw : w.heap.size ≤ g := by omega
 clear eg
 have hbx : Box w wb g := ⟨hg, B⟩
 clear hg B
 go_cut [1, 2] (fun a b wx => TwoCut p w g xs ys a b wx)
 case first =>
  have s0b : Sl .u64 wb.drew (.slice ao xs.length ca) xs := (s0.next hbx.below).drawn ⟨1, rfl⟩
  have s1b : Sl .u64 wb.drew (.slice bo ys.length cb) ys := (s1.next hbx.below).drawn ⟨1, rfl⟩
  go_region_held3 (fun w' => w'.cell? ⟨g, 0, none⟩ = some (.int .u64 (p : Int)) ∧ Box w w' g) (first | (exact ⟨hcp, hbx.drew 1⟩) | (go_split_ands; refine ⟨(b2.cell (p := ⟨g, 0, none⟩) (Box.lt (by assumption))).trans (by assumption), Box.next (by assumption) b2⟩) | (go_split_ands; refine ⟨(b1.cell (p := ⟨g, 0, none⟩) (Box.lt (by assumption))).trans (by assumption), Box.next (by assumption) b1⟩))
   ((first
    | (go_at_call_of 80 (Value.slice ao xs.length ca); refine (fp_Norm p _ xs _ HP.out s0b (by omega)).mono ?_; rintro e w1 ⟨r1, z1, rfl, o1, m1, v1, l1, b1⟩)
    | (go_at_call_of 80 (Value.slice bo ys.length cb); refine (fp_Norm p _ ys _ HP.out (s1b.next b1) (by omega)).mono ?_; rintro e w2 ⟨r2, z2, rfl, o2, m2, v2, l2, b2⟩)))
  all_goals (go_wp2_with fail; go_meet)
  all_goals exact ⟨z1, z2, (o1.next b2).mono hbx.below.size, m1, v1, l1, o2.mono (Nat.le_trans hbx.below.size b1.size), m2, v2, l2, ((hbx.drew 1).next b1).next b2, (b2.cell (p := ⟨g, 0, none⟩) ((hbx.drew 1).next b1).lt).trans ((b1.cell (p := ⟨g, 0, none⟩) (hbx.drew 1).lt).trans hcp)⟩
 case rest =>
  clear hbx hcp s0 s1
  obtain ⟨A, C, oA, nA, vA, lA, oC, nC, vC, lC, hbx, hcp⟩ := hcut
  obtain ⟨ao, ba, oa, ca, rfl, la, ka⟩ := oA.sl
  have sA : Sl .u64 wc (.slice ao A.length ca) A := ⟨ao, ba, oa, ca, rfl, la, ka⟩
  obtain ⟨bo, bb, ob, cb, rfl, lb, kb⟩ := oC.sl
  have sC : Sl .u64 wc (.slice bo C.length cb) C := ⟨bo, bb, ob, cb, rfl, lb, kb⟩
  have VA := Lib.hid vA; have VC := Lib.hid vC
  clear vA vC oA oC
  by_cases hA0 : A.length = 0
  ·have hA : A = [] := List.length_eq_zero_iff.mp hA0
   have hz : pl p xs * pl p ys = 0 := by rw [← VA.out, hA, pl_nil, CR.zero_mul]
   have HZ := Lib.hid hz
   subst hA
   clear hz hA0
   go_wp2
   go_ret
   exact ⟨_, [], rfl, Own.nil _ _ _ _, nrm_nil _, by rw [HZ.out, pl_nil], by simp, hbx.below⟩
  ·by_cases hC0 : C.length = 0
   ·have hC : C = [] := List.length_eq_zero_iff.mp hC0
    have hz : pl p xs * pl p ys = 0 := by rw [← VC.out, hC, pl_nil, CR.mul_zero]
    have HZ := Lib.hid hz
    subst hC
    clear hz hC0
    have hAz : (((A.length : Nat) : Int) == 0) = false := beq_eq_false_iff_ne.mpr (by omega)
    go_wp2
    go_ret
    exact ⟨_, [], rfl, Own.nil _ _ _ _, nrm_nil _, by rw [HZ.out, pl_nil], by simp, hbx.below⟩
   ·have hAz : (((A.length : Nat) : Int) == 0) = false := beq_eq_false_iff_ne.mpr (by omega)
    have hCz : (((C.length : Nat) : Int) == 0) = false := beq_eq_false_iff_ne.mpr (by omega)
    obtain ⟨n, en⟩ : ∃ n, n + 1 = A.length + C.length := ⟨A.length + C.length - 1, by omega⟩
    go_wp2_with (at_make; refine wp_make .u64 43 27 8 Try.underlying43 (by kernel_rfl) (by decide) rfl _ _ rfl .i64 .i64 n (by omega) _ _ _ rfl rfl (by omega) (by omega) ?_; intro w1 hown hbel hsz)
    obtain ⟨gg, egg⟩ : ∃ gg, gg = wc.heap.size := ⟨_, rfl⟩
    have hgg : g < gg := by have := hbx.lt; omega
    have hne : g ≠ gg := by omega
    have hwg : w.heap.size ≤ gg := by omega
    rw [← egg] at hown ⊢
    have hggl : gg ≤ wc.heap.size := by omega
    have EGG := Lib.hid egg; clear egg
    have EN := Lib.hid en
    have hbel' : Below gg wc w1 := hbel.mono hggl
    obtain rfl := ka.ao (by intro h; subst h; exact hA0 rfl)
    obtain rfl := kb.ao (by intro h; subst h; exact hC0 rfl)
    have hba : ba < wc.heap.size := ka.lt (by intro h; subst h; exact hA0 rfl)
    have hbb : bb < wc.heap.size := kb.lt (by intro h; subst h; exact hC0 rfl)
    have hgs1 : gg < w1.heap.size := by omega
    clear hsz hAz hCz sA sC
    go_loopw [35] (fun iv wr => ∃ (i : Nat) (zs : List Nat), i ≤ A.length ∧ iv = .int .i64 i ∧ Own .u64 27 wr gg (.slice (some ⟨gg, 0, none⟩) n n) zs ∧ zs.length = n ∧ Below wc.heap.size wc wr ∧ gg < wr.heap.size ∧ pl p zs = pl p (A.take i) * pl p C) (fun iv _ => A.length - (intOf iv).toNat)
    case atStart => exact ⟨0, List.replicate n 0, by omega, rfl, hown, by simp, hbel, hgs1, by rw [List.take_zero, pl_nil, CR.zero_mul, pl_replicate0]⟩
    case round =>
     clear hown hbel hbel' hgs1
     obtain ⟨i, zs, hi, rfl, ho, hzl, hb, hgs, hval⟩ := hrel
     have HV := Lib.hid hval; clear hval
     by_cases hlt : i < A.length
     ·have hcx := (ka.below hb (Nat.le_refl _)).cell i hlt
      obtain ⟨x, ex⟩ : ∃ x, x = A.getD i 0 := ⟨_, rfl⟩
      rw [← ex] at hcx
      have EX := Lib.hid ex; clear ex
      have i0 : (0 : Int) ≤ (i : Int) := Int.natCast_nonneg _
      have i1 : (i : Int) < (A.length : Int) := by omega
      obtain ⟨wo, rfl⟩ : ∃ wo : World, wo = wr := ⟨_, rfl⟩
      go_wp2
      go_loopw [42] (fun kv wr => ∃ (k : Nat) (zs : List Nat), k ≤ C.length ∧ kv = .int .i64 k ∧ Own .u64 27 wr gg (.slice (some ⟨gg, 0, none⟩) n n) zs ∧ zs.length = n ∧ Below wc.heap.size wc wr ∧ gg < wr.heap.size ∧ pl p zs = pl p (A.take i) * pl p C + mon (Zp.of p x) i * pl p (C.take k)) (fun kv _ => C.length - (intOf kv).toNat)
      case atStart => exact ⟨0, zs, by omega, rfl, ho, hzl, hb, hgs, by rw [HV.out, List.take_zero, pl_nil, CR.mul_zero, CR.add_zero]⟩
      case round =>
       clear ho hzl hb hgs HV hcx
       obtain ⟨k, zs, hk, rfl, ho, hzl, hb, hgs, hval⟩ := hrel
       have HV := Lib.hid hval; clear hval
       by_cases hltk : k < C.length
       ·have hcy := (kb.below hb (Nat.le_refl _)).cell k hltk
        obtain ⟨y, ey⟩ : ∃ y, y = C.getD k 0 := ⟨_, rfl⟩
        rw [← ey] at hcy
        have hct := (ho.drawn ⟨1, rfl⟩).cellAt (i + k) (by omega)
        have hft := (ho.drawn ⟨1, rfl⟩).frozenAt (i + k)
        obtain ⟨t, et⟩ : ∃ t, t = zs.getD (i + k) 0 := ⟨_, rfl⟩
        rw [← et] at hct
        obtain ⟨m, em⟩ : ∃ m, m = (Zp.of p x * Zp.of p y).val := ⟨_, rfl⟩
        obtain ⟨z, ez⟩ : ∃ z, z = (Zp.of p t + Zp.of p m).val := ⟨_, rfl⟩
        have C1 := Lib.hid (fun w => gfp_Mul p x y m w HP.out em)
        have C2 := Lib.hid (fun w => gfp_Add p t m z w HP.out ez)
        have ar := mul_arith (z := z) (m := m) (by omega) HV.out ey (Zp.fact HP.out em).2 (by rw [← et]; exact (Zp.fact HP.out ez).2)
        have AR := Lib.hid ar
        have ET := Lib.hid et
        clear ar ey em ez et
        have hcg : wr.drew.cell? ⟨g, 0, none⟩ = some (.int .u64 (p : Int)) := (hb.cell (p := ⟨g, 0, none⟩) hbx.lt).trans hcp
        have hbs := hb.size
        have hgl := Nat.lt_of_lt_of_le hbx.lt hbs
        have k0 : (0 : Int) ≤ (k : Int) := Int.natCast_nonneg _
        have k1 : (k : Int) < (C.length : Int) := by omega
        have j0 : (0 : Int) ≤ (i : Int) + (k : Int) := by omega
        have j1 : (i : Int) + (k : Int) < (n : Int) := by omega
        have sj : IntKind.i64.wrap ((i : Int) + (k : Int)) = (i : Int) + (k : Int) := IntWalk.i64_in _ ⟨by omega, by omega⟩
        have hkn : i + k < zs.length := by omega
        have hij : ((i : Int) + (k : Int)).toNat = i + k := by omega
        have HIJ := Lib.hid hij
        replace hct : wr.drew.cell? ⟨gg, ((i : Int) + (k : Int)).toNat, none⟩ = some (.int .u64 (t : Int)) := by rw [hij]; exact hct
        clear hft hij
        have HKN := Lib.hid hkn
        have HZL := Lib.hid hzl
        have HGG := Lib.hid (show gg < wr.drew.heap.size from hgs)
        clear hkn hzl
        replace hb : Below wc.heap.size wc wr.drew := hb.trans (Drawn.below ⟨1, rfl⟩ _)
        have ho1 := ho.drawn (w' := wr.drew) ⟨1, rfl⟩
        go_upto_region 11 with (fail)
        clear hcy
        refine startP (S := fun w' => Below wr.drew.heap.size wr.drew w') (by kernel_rfl) _ rfl rfl rfl (by kernel_rfl) (Below.refl _ _) (fun hHeld => ?_)
        refine tg 0 rfl (fun w hS => by have f1 := (hS.cell (p := ⟨g, 0, none⟩) hgl).trans hcg; have f2 := (hS.cell (p := ⟨gg, ((i : Int) + (k : Int)).toNat, none⟩) HGG.out).trans hct; go_simp <;> with_reducible rfl) ?_
        refine tg 1 rfl (fun w hS => by have f1 := (hS.cell (p := ⟨g, 0, none⟩) hgl).trans hcg; have f2 := (hS.cell (p := ⟨gg, ((i : Int) + (k : Int)).toNat, none⟩) HGG.out).trans hct; go_simp <;> with_reducible rfl) ?_
        refine tg 2 rfl (fun w hS => by have f1 := (hS.cell (p := ⟨g, 0, none⟩) hgl).trans hcg; have f2 := (hS.cell (p := ⟨gg, ((i : Int) + (k : Int)).toNat, none⟩) HGG.out).trans hct; go_simp <;> with_reducible rfl) ?_
        refine tg 3 rfl (fun w hS => by have f1 := (hS.cell (p := ⟨g, 0, none⟩) hgl).trans hcg; have f2 := (hS.cell (p := ⟨gg, ((i : Int) + (k : Int)).toNat, none⟩) HGG.out).trans hct; go_simp <;> with_reducible rfl) ?_
        refine tg 4 rfl (fun w hS => by have f1 := (hS.cell (p := ⟨g, 0, none⟩) hgl).trans hcg; have f2 := (hS.cell (p := ⟨gg, ((i : Int) + (k : Int)).toNat, none⟩) HGG.out).trans hct; go_simp <;> with_reducible rfl) ?_
        refine tg 5 rfl (fun w hS => by have f1 := (hS.cell (p := ⟨g, 0, none⟩) hgl).trans hcg; have f2 := (hS.cell (p := ⟨gg, ((i : Int) + (k : Int)).toNat, none⟩) HGG.out).trans hct; go_simp <;> with_reducible rfl) ?_
        refine tg 6 rfl (fun w hS => by have f1 := (hS.cell (p := ⟨g, 0, none⟩) hgl).trans hcg; have f2 := (hS.cell (p := ⟨gg, ((i : Int) + (k : Int)).toNat, none⟩) HGG.out).trans hct; go_simp <;> with_reducible rfl) ?_
        refine tg 7 rfl (fun w hS => by have f1 := (hS.cell (p := ⟨g, 0, none⟩) hgl).trans hcg; have f2 := (hS.cell (p := ⟨gg, ((i : Int) + (k : Int)).toNat, none⟩) HGG.out).trans hct; go_simp <;> with_reducible rfl) ?_
        refine tg 8 rfl (fun w hS => by have f1 := (hS.cell (p := ⟨g, 0, none⟩) hgl).trans hcg; have f2 := (hS.cell (p := ⟨gg, ((i : Int) + (k : Int)).toNat, none⟩) HGG.out).trans hct; go_simp <;> with_reducible rfl) ?_
        refine tg 9 rfl (fun w hS => by have f1 := (hS.cell (p := ⟨g, 0, none⟩) hgl).trans hcg; have f2 := (hS.cell (p := ⟨gg, ((i : Int) + (k : Int)).toNat, none⟩) HGG.out).trans hct; go_simp <;> with_reducible rfl) ?_
        refine tg 10 rfl (fun w hS => by have f1 := (hS.cell (p := ⟨g, 0, none⟩) hgl).trans hcg; have f2 := (hS.cell (p := ⟨gg, ((i : Int) + (k : Int)).toNat, none⟩) HGG.out).trans hct; go_simp <;> with_reducible rfl) ?_
        refine tg 11 rfl (fun w hS => by have f1 := (hS.cell (p := ⟨g, 0, none⟩) hgl).trans hcg; have f2 := (hS.cell (p := ⟨gg, ((i : Int) + (k : Int)).toNat, none⟩) HGG.out).trans hct; go_simp <;> with_reducible rfl) ?_
        refine tg 12 rfl (fun w hS => by have f1 := (hS.cell (p := ⟨g, 0, none⟩) hgl).trans hcg; have f2 := (hS.cell (p := ⟨gg, ((i : Int) + (k : Int)).toNat, none⟩) HGG.out).trans hct; go_simp <;> with_reducible rfl) ?_
        refine tg 13 rfl (fun w hS => by have f1 := (hS.cell (p := ⟨g, 0, none⟩) hgl).trans hcg; have f2 := (hS.cell (p := ⟨gg, ((i : Int) + (k : Int)).toNat, none⟩) HGG.out).trans hct; go_simp <;> with_reducible rfl) ?_
        refine on 14 fun K hK => ?_
        go_simp
        go_at_call 118
        refine (C1.out _).mono ?_; rintro e wm ⟨rfl, b1⟩
        refine hK _ _ (hHeld.trans (b1.mono hHeld.size)) (fun hHeld => ?_)
        clear hK K
        try simp only [Act.put, zq1, zq2, zq3]
        refine on 15 fun K hK => ?_
        go_simp
        go_at_call 117
        refine (C2.out _).mono ?_; rintro e wn ⟨rfl, b2⟩
        refine hK _ _ (hHeld.trans (b2.mono hHeld.size)) (fun hHeld => ?_)
        clear hK K
        try simp only [Act.put, zq1, zq2, zq3]
        refine tg 16 rfl (fun w hS => by have f1 := (hS.cell (p := ⟨g, 0, none⟩) hgl).trans hcg; have f2 := (hS.cell (p := ⟨gg, ((i : Int) + (k : Int)).toNat, none⟩) HGG.out).trans hct; go_simp <;> with_reducible rfl) ?_
        refine doneL (by kernel_rfl) ?_ _
        refine lastL rfl (by rfl) ?_
        have ho2 := (ho1.next b1).next b2
        have hc2 := ho2.cellAt (i + k) HKN.out
        have hf2 := ho2.frozenAt (i + k)
        rw [← HIJ.out] at hc2 hf2
        have hgs3 := Nat.lt_of_lt_of_le HGG.out hHeld.size
        have hb3 := hb.trans (hHeld.mono hb.size)
        clear hcg hct hHeld b1 b2
        go_wp2
        go_roundw
        case rel => exact ⟨k + 1, zs.set (i + k) z, by omega, by go_num, (ho2.store (i + k) z).1, by rw [List.length_set]; exact HZL.out, hb3.setCell (Nat.le_of_eq EGG.out.symm) _, by simpa [World.setCell] using hgs3, AR.out⟩
        case measure => simp [intOf] <;> omega
       ·obtain rfl : k = C.length := by omega
        have ho2 := mul_outer EX.out HV.out
        have HO := Lib.hid ho2; clear ho2
        go_wp2
        go_roundw
        case rel => exact ⟨i + 1, zs, by omega, by go_num, ho, hzl, hb, hgs, HO.out⟩
        case measure => simp [intOf] <;> omega
     ·obtain rfl : i = A.length := by omega
      have hend : pl p zs = pl p xs * pl p ys := by rw [HV.out, List.take_length, VA.out, VC.out]
      have HE := Lib.hid hend; clear hend
      have hcp2 := (hb.cell (p := ⟨g, 0, none⟩) hbx.lt).trans hcp
      have hbx2 := hbx.next hb
      have HZL := Lib.hid hzl
      clear hcp hbx
      go_wp2_with fail
      refine (fp_Norm p _ zs _ HP.out ho.sl (by omega)).mono ?_; rintro e w2 ⟨r, z2, rfl, o2, m2, v2, l2, b2⟩
      have V2 := Lib.hid v2; clear v2
      go_wp2
      go_ret
      exact ⟨r, z2, rfl, o2.mono hbx2.below.size, m2, by rw [V2.out, HE.out], by have h1 := HZL.out; have h2 := EN.out; omega, hbx2.below.trans (b2.mono hbx2.below.size)⟩
end Go.Proofs.Ytkmfhabgempjiaa
