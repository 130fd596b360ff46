/- What the statements of layer 1 share: awake, few. -/
import Derived.Test.YtnnidjhhcnmnnaaNat4
namespace Go.Proofs.Ytnnidjhhcnmnnaa
open Go.RowKit

/-- A law's end: true; nothing that was there has changed. -/
def LawOk (w : World) (e : Ending) (w' : World) : Prop := e = .returned (.bool true) ∧ Below w.heap.size w w'

/-- A bool is returned; nothing but draws has happened. -/
theorem nat_Cmp_is (v u : Value) (xs ys : List Nat) (w : World) (hv : Sl .u64 w v xs) (hu : Sl .u64 w u ys) (hm : xs.length ≤ 1000000000) (hn : ys.length ≤ 1000000000) (hx : wf W64 xs) (hy : wf W64 ys) (t : Int)
    (ht : cmpN (nv W64 xs) (nv W64 ys) = t) : Calls Try.prog 29 #[v, u] w (RetQ w (.int .i64 t)) := by
  subst ht; exact nat_Cmp v u xs ys w hv hu hm hn hx hy

set_option maxHeartbeats 400000 in
theorem law1_few_yes (v0 v1 v2 : Value) (x0 x1 x2 : List Nat) (n : Int) (w : World) (h0 : Sl .u64 w v0 x0) (h1 : Sl .u64 w v1 x1) (h2 : Sl .u64 w v2 x2)
    (l0 : (x0.length : Int) ≤ n) (l1 : (x1.length : Int) ≤ n) (l2 : (x2.length : Int) ≤ n) :
    Calls Try.prog 22 #[v0, v1, v2, .int .i64 n] w fun e w' => e = .returned (.bool true) ∧ w = w' := by
  obtain ⟨a0, b0, o0, c0, rfl, -, -⟩ := h0
  obtain ⟨a1, b1, o1, c1, rfl, -, -⟩ := h1
  obtain ⟨a2, b2, o2, c2, rfl, -, -⟩ := h2
  go_enter Try.func22, Try.ntmps22
  go_wp2
  go_ret
  exact ⟨rfl, rfl⟩

set_option maxHeartbeats 400000 in
theorem law1_few_no (v0 v1 v2 : Value) (x0 x1 x2 : List Nat) (n : Int) (w : World) (h0 : Sl .u64 w v0 x0) (h1 : Sl .u64 w v1 x1) (h2 : Sl .u64 w v2 x2)
    (h : ¬((x0.length : Int) ≤ n ∧ (x1.length : Int) ≤ n ∧ (x2.length : Int) ≤ n)) :
    Calls Try.prog 22 #[v0, v1, v2, .int .i64 n] w fun e w' => e = .returned (.bool false) ∧ w = w' := by
  obtain ⟨a0, b0, o0, c0, rfl, -, -⟩ := h0
  obtain ⟨a1, b1, o1, c1, rfl, -, -⟩ := h1
  obtain ⟨a2, b2, o2, c2, rfl, -, -⟩ := h2
  by_cases l0 : (x0.length : Int) ≤ n
  · by_cases l1 : (x1.length : Int) ≤ n
    · have l2 : ¬ (x2.length : Int) ≤ n := fun l2 => h ⟨l0, l1, l2⟩
      clear h
      go_enter Try.func22, Try.ntmps22
      go_wp2
      go_ret
      exact ⟨rfl, rfl⟩
    · clear h
      go_enter Try.func22, Try.ntmps22
      go_wp2
      go_ret
      exact ⟨rfl, rfl⟩
  · clear h
    go_enter Try.func22, Try.ntmps22
    go_wp2
    go_ret
    exact ⟨rfl, rfl⟩

theorem list_two {zs : List Nat} (h : Nrm W64 zs) (hv : nv W64 zs = W64) : zs = [0, 1] := by
  refine nrm_inj (by decide) h ⟨wf_cons (by decide) (wf_cons (by decide) (wf_nil _)), rfl⟩ ?_
  rw [hv]; simp [nv]

set_option maxHeartbeats 400000 in
theorem law1_awake (w : World) : Calls Try.prog 15 #[] w (LawOk w) := by
  have c1 := nat_Of 18446744073709551615 (by decide) w
  have C1 := Lib.hid c1; clear c1
  go_enter Try.func15, Try.ntmps15
  go_wp2_with fail
  refine C1.out.mono ?_; rintro e w1 ⟨r1, z1, rfl, o1, n1, v1, l1, b1⟩
  have V1 := Lib.hid v1; clear v1
  go_wp2_with fail
  refine (nat_Of 1 (by decide) w1).mono ?_; rintro e w2 ⟨r2, z2, rfl, o2, n2, v2, l2, b2⟩
  have V2 := Lib.hid v2; clear v2
  go_wp2_with fail
  refine (nat_Add r1 r2 z1 z2 w2 (o1.next b2).sl o2.sl (by omega) (by omega) n1.1 n2.1).mono ?_; rintro e w3 ⟨r3, z3, rfl, o3, n3, v3, l3, b3⟩
  have hz : z3 = [0, 1] := list_two n3 (by rw [v3, V1.out, V2.out]; rfl)
  subst hz
  rcases o3.shape with ⟨_, h⟩ | ⟨g, cap, rfl, _, _, _, _⟩
  · simp at h
  have hc0 : w3.cell? ⟨g, 0, none⟩ = some (.int .u64 0) := o3.cellAt 0 (by simp)
  have hc1 : w3.cell? ⟨g, 1, none⟩ = some (.int .u64 1) := o3.cellAt 1 (by simp)
  clear v3 l3 n3
  go_wp2
  go_ret
  exact ⟨rfl, (b1.trans (b2.mono b1.size)).trans (b3.mono (Nat.le_trans b1.size b2.size))⟩

end Go.Proofs.Ytnnidjhhcnmnnaa
