/- Package mul: low, high, less, joined, Mul, Square. -/
import Derived.Test.YtnnidjhhcnmnnaaNat4
namespace Go.Proofs.Ytnnidjhhcnmnnaa
open Go.RowKit

/-- A part of a slice is returned. -/
def RetS (w : World) (xs : List Nat) (e : Ending) (w' : World) : Prop := ∃ r, e = .returned r ∧ Sl .u64 w r xs ∧ w = w'

set_option maxHeartbeats 400000 in
theorem mul_low (v : Value) (xs : List Nat) (n : Nat) (w : World) (hv : Sl .u64 w v xs) :
    Calls Try.prog 56 #[v, .int .i64 n] w (RetS w (xs.take n)) := by
  obtain ⟨ao, b, off, cap, rfl, hl, hcs⟩ := hv
  have hn0 : (0 : Int) ≤ (n : Int) := Int.natCast_nonneg _
  by_cases h : xs.length ≤ n
  · rw [List.take_of_length_le h]
    go_enter Try.func56, Try.ntmps56
    go_wp2
    go_ret
    exact ⟨_, rfl, ⟨ao, b, off, cap, rfl, hl, hcs⟩, rfl⟩
  · have hlen : (xs.take n).length = n := by simp; omega
    have hc2 := hcs.take n
    obtain ⟨X, eX⟩ : ∃ X, X = xs.take n := ⟨_, rfl⟩
    rw [← eX] at hlen hc2 ⊢
    have EX := Lib.hid eX
    have HL := Lib.hid hlen
    clear eX hlen
    go_enter Try.func56, Try.ntmps56
    go_wp2
    go_ret
    exact ⟨_, rfl, ⟨ao, b, off, cap, by rw [HL.out]; rfl, by rw [HL.out]; omega, hc2⟩, rfl⟩

set_option maxHeartbeats 400000 in
theorem mul_high (v : Value) (xs : List Nat) (n : Nat) (w : World) (hv : Sl .u64 w v xs) :
    Calls Try.prog 57 #[v, .int .i64 n] w (RetS w (xs.drop n)) := by
  obtain ⟨ao, b, off, cap, rfl, hl, hcs⟩ := hv
  have hn0 : (0 : Int) ≤ (n : Int) := Int.natCast_nonneg _
  by_cases h : xs.length ≤ n
  · rw [List.drop_eq_nil_of_le h]
    go_enter Try.func57, Try.ntmps57
    go_wp2
    go_ret
    exact ⟨_, rfl, Sl.nil _ _, rfl⟩
  · obtain rfl := hcs.ao (by intro h0; subst h0; simp at h)
    have hqc : ¬ cap = n := by omega
    have hlen : (xs.drop n).length = xs.length - n := by simp
    have hc2 : Cs .u64 w (some ⟨b, off + n, none⟩) b (off + n) (xs.drop n) := ⟨fun _ => rfl, fun j hj => by
      have e : (xs.drop n).getD j 0 = xs.getD (n + j) 0 := by simp [List.getD, List.getElem?_drop]
      rw [e, Nat.add_assoc]; exact hcs.cell (n + j) (by simp at hj; omega)⟩
    obtain ⟨X, eX⟩ : ∃ X, X = xs.drop n := ⟨_, rfl⟩
    rw [← eX] at hlen hc2 ⊢
    have HL := Lib.hid hlen
    clear eX hlen
    go_enter Try.func57, Try.ntmps57
    go_wp2
    go_ret
    exact ⟨_, rfl, ⟨_, b, off + n, cap - n, by rw [HL.out]; rfl, by rw [HL.out]; omega, hc2⟩, rfl⟩

set_option maxHeartbeats 400000 in
theorem mul_less (v u : Value) (xs ys : List Nat) (w : World) (hv : Sl .u64 w v xs) (hu : Sl .u64 w u ys) (hm : xs.length ≤ 100000000) (hn : ys.length ≤ 100000000) (hx : wf W64 xs) (hy : wf W64 ys)
    (hge : nv W64 ys ≤ nv W64 xs) :
    Calls Try.prog 58 #[v, u] w (RetN w xs.length (nv W64 xs - nv W64 ys)) := by
  have HGE := Lib.hid hge; clear hge
  go_enter Try.func58, Try.ntmps58
  go_wp2_with fail
  refine (nat_Sub_yes v u xs ys _ hv hu hm hn hx hy HGE.out).mono ?_; rintro e w1 ⟨r, z, rfl, o, m, vv, l, b⟩
  have V1 := Lib.hid vv; clear vv
  go_wp2
  go_ret
  exact ⟨r, z, rfl, o, m, V1.out, l, b⟩

/-- 'make([]T, n, m)'. -/
theorem wp_make2 {P : Program} {ops : Array Oper} {rest : List Oper} {o : Oper} {a : Act} {Q : Exit → Act → World → Prop} (k : IntKind) (T e bytes : Nat)
    (hu : P.underlying T = some (.slice e)) (hi : (P.info? e).map (fun i => (i.zero, i.size, i.bytes)) = some (some (.int k 0), 1, bytes)) (hby : bytes ≤ 8)
    (hgd : o.guard = none) (l c : Operand) (ho : o.op = .makeSlice T l c) (kl kc : IntKind) (n m : Nat) (hnm : n ≤ m) (hm : m ≤ 1000000000)
    (w : World) (L C : Int) (hl : a.eval l = .int kl L) (hc : a.eval c = .int kc C) (hL : L = n) (hC : C = m)
    (h : ∀ (w' : World), Own k e w' w.heap.size (.slice (some ⟨w.heap.size, 0, none⟩) n m) (List.replicate n 0) → Below w.heap.size w w' → wpList P ops Q rest (a.put o.dst (.slice (some ⟨w.heap.size, 0, none⟩) n m)) w') :
    wpList P ops Q (o :: rest) a w := by
  obtain ⟨i0, h1, h2, h3, h4⟩ := info_parts hi
  subst h4 hL hC
  have hb : i0.bytes * m ≤ 8 * m := Nat.mul_le_mul_right _ hby
  have hb2 : (i0.bytes : Int) * (m : Int) ≤ 281474976710656 := by
    have h9 : ((i0.bytes * m : Nat) : Int) ≤ 281474976710656 := by omega
    rwa [Int.natCast_mul] at h9
  have hr := run_make (P := P) w T e i0 (.int k 0) hu h1 h2 kl kc (n : Int) (m : Int) (by omega) (by omega) hb2 (by omega)
  have hcells : (madeCells (Value.int k 0).cells (((m : Int)).toNat * i0.size)).toList = vs k (List.replicate m 0) := by
    rw [h3, vs_replicate]; simp [Value.cells, toList_madeCells_one]
  have hsz : (madeCells (Value.int k 0).cells (((m : Int)).toNat * i0.size)).size = m * 1 := by rw [size_madeCells, h3]; simp
  have hown := World.ownsRow_lit (base := w.heap.size) (e := e) (size := 1) w (madeCells (Value.int k 0).cells (((m : Int)).toNat * i0.size)) m (Nat.le_refl _) (by unfold maxLen; omega) hsz
  rw [hcells] at hown
  have ho2 : Own k e (w.alloc (.cells (madeCells (Value.int k 0).cells (((m : Int)).toNat * i0.size)) e)) w.heap.size (.slice (some ⟨w.heap.size, 0, none⟩) m m) (List.replicate m 0) := by
    unfold Own; rw [List.length_replicate]; exact hown
  have ho3 := ho2.take n (by simp; exact hnm)
  rw [List.take_replicate, Nat.min_eq_left hnm] at ho3
  refine wpList_plain hgd fun K hK' => ?_
  unfold Oper.wp
  simp [execOp, ho, hl, hc, hr, Result.andThen]
  exact hK' _ _ (by simpa using h _ ho3 ((Below.refl _ _).alloc (Nat.le_refl _) _))

set_option maxHeartbeats 400000 in
theorem mul_up (v : Value) (xs : List Nat) (n : Nat) (w : World) (hv : Sl .u64 w v xs) (hm : xs.length ≤ 100000000) (hn : n ≤ 100000000) (hx : wf W64 xs) :
    Calls Try.prog 65 #[v, .int .i64 n] w fun e w' => ∃ r zs, e = .returned r ∧ Own .u64 32 w' w.heap.size r zs ∧ wf W64 zs ∧ nv W64 zs = W64 ^ n * nv W64 xs ∧ zs.length ≤ n + xs.length ∧ Below w.heap.size w w' := by
  obtain ⟨ao, b, off, cap, rfl, hl, hcs⟩ := hv
  by_cases h : xs.length = 0
  · have h0 : xs = [] := List.length_eq_zero_iff.1 h
    subst h0
    go_enter Try.func65, Try.ntmps65
    go_wp2
    go_ret
    exact ⟨_, [], rfl, Own.nil _ _ _ _, wf_nil _, by simp [nv], by simp, Below.refl _ _⟩
  · obtain rfl := hcs.ao (by intro h0; subst h0; simp at h)
    have hne : (((xs.length : Nat) : Int) == 0) = false := by simpa using h
    have hpos : 0 < xs.length := by omega
    clear h
    go_enter Try.func65, Try.ntmps65
    go_wp2_with (first | (at_make; refine wp_make2 .u64 23 32 8 Try.underlying23 (by kernel_rfl) (by decide) rfl _ _ rfl .i64 .i64 n (n + xs.length) (by omega) (by omega) _ _ _ rfl rfl (by omega) (by omega) ?_; intro w1 hown hbel; have hcs1 := hcs.below hbel (Nat.le_refl _)) | (at_builtin; refine wp_appS .u64 23 32 8 Try.underlying23 (by kernel_rfl) (by decide) rfl _ _ rfl _ w.heap.size _ (List.replicate n 0) xs hown (by simp; omega) hbel.size rfl _ b off cap rfl hcs1 ?_; intro v' w2 hown2 hbel2 hgr))
    go_ret
    exact ⟨_, List.replicate n 0 ++ xs, rfl, hown2, wf_append (wf_replicate0 (by decide) _) hx, by rw [nv_append, nv_replicate0]; simp, by simp, hbel.trans hbel2⟩

set_option maxHeartbeats 1000000 in
theorem mul_joined (v0 v1 v2 : Value) (x0 x1 x2 : List Nat) (n : Nat) (w : World) (s0 : Sl .u64 w v0 x0) (s1 : Sl .u64 w v1 x1) (s2 : Sl .u64 w v2 x2) (l0 : x0.length ≤ 1000000) (l1 : x1.length ≤ 1000000) (l2 : x2.length ≤ 1000000) (hn : n ≤ 1000000)
    (f0 : wf W64 x0) (f1 : wf W64 x1) (f2 : wf W64 x2) :
    Calls Try.prog 59 #[v0, v1, v2, .int .i64 n] w fun e w' => ∃ r zs, e = .returned r ∧ Own .u64 32 w' w.heap.size r zs ∧ Nrm W64 zs ∧ nv W64 zs = nv W64 x0 + W64 ^ n * nv W64 x1 + W64 ^ (2 * n) * nv W64 x2 ∧ Below w.heap.size w w' := by
  have hn0 : (0 : Int) ≤ (n : Int) := Int.natCast_nonneg _
  go_enter Try.func59, Try.ntmps59
  go_wp2_with fail
  refine (mul_up v1 x1 n _ s1 (by omega) (by omega) f1).mono ?_; rintro e w1 ⟨r1, z1, rfl, o1, m1, e1, k1, b1⟩
  have E1 := Lib.hid e1; clear e1
  replace s0 := s0.next b1
  replace s2 := s2.next b1
  go_wp2_with fail
  refine (nat_Add v0 r1 x0 z1 _ s0 o1.sl (by omega) (by omega) f0 m1).mono ?_; rintro e w2 ⟨r2, z2, rfl, o2, m2, e2, k2, b2⟩
  have E2 := Lib.hid e2; clear e2
  replace s2 := s2.next b2
  have B := b1.trans (b2.mono b1.size)
  go_wp2_with fail
  refine (mul_up v2 x2 (2 * n) _ s2 (by omega) (by omega) f2).mono ?_; rintro e w3 ⟨r3, z3, rfl, o3, m3, e3, k3, b3⟩
  have E3 := Lib.hid e3; clear e3
  have o2' := o2.next b3
  replace B := B.trans (b3.mono B.size)
  go_wp2_with fail
  refine (nat_Add r2 r3 z2 z3 _ o2'.sl o3.sl (by omega) (by omega) m2.1 m3).mono ?_; rintro e w4 ⟨r4, z4, rfl, o4, m4, e4, k4, b4⟩
  have E4 := Lib.hid e4; clear e4
  go_wp2
  go_ret
  exact ⟨_, z4, rfl, o4.mono B.size, m4, by rw [E4.out, E2.out, E1.out, E3.out], B.trans (b4.mono B.size)⟩

end Go.Proofs.Ytnnidjhhcnmnnaa
