/- The reference of chapter 23: places, forms, matrices of one reading. -/
import Derived.ChangeSame
import Derived.Lib.SmallJoins
import Derived.Test.YthghdjpjbngllaaZfOpen
import Derived.Test.YthghdjpjbngllaaZfFm
import Derived.Test.YthghdjpjbngllaaZfQz
import Derived.Test.YthghdjpjbngllaaZfHz
import Derived.Test.YthghdjpjbngllaaZfRfh
import Derived.Test.YthghdjpjbngllaaZfXwz
namespace Go.Proofs.Ythghdjpjbngllaa
open Go.RowKit

theorem rf23_Formed (v : Value) (R C : Int) (xs : List (List Nat)) (w : World) (hm : Xm w v R C xs) (b : Bool) (hb : b = decide (Fd R C xs.length)) :
    Calls Try.prog 20 #[v] w (RetW w (.bool b)) := by
  obtain ⟨ao, ca, rfl⟩ := hm.agg
  obtain ⟨wb, ew, KA, B0, hsz⟩ := boxes1 w 24 [.int .i64 R, .int .i64 C, .slice ao xs.length ca]
  clear hsz hm
  by_cases h0 : R ≥ 0
  rotate_left
  · obtain rfl : b = false := by rw [hb]; exact decide_eq_false (fun h => h0 h.1.1)
    clear hb
    have d0 : decide (R ≥ 0) = false := decide_eq_false (by omega)
    go_enter Try.func20, Try.ntmps20
    go_upto_region 1 with (fail)
    rw [← ew]
    clear ew
    have c0 := KA.cell 0; have c1 := KA.cell 1; have c2 := KA.cell 2
    go_wp2
    go_ret
    exact ⟨rfl, B0⟩
  by_cases h1 : R ≤ 64
  rotate_left
  · obtain rfl : b = false := by rw [hb]; exact decide_eq_false (fun h => h1 h.1.2)
    clear hb
    have d0 : decide (R ≥ 0) = true := decide_eq_true (by omega)
    have d1 : decide (R ≤ 64) = false := decide_eq_false (by omega)
    go_enter Try.func20, Try.ntmps20
    go_upto_region 1 with (fail)
    rw [← ew]
    clear ew
    have c0 := KA.cell 0; have c1 := KA.cell 1; have c2 := KA.cell 2
    go_wp2
    go_ret
    exact ⟨rfl, B0⟩
  by_cases h2 : C ≥ 0
  rotate_left
  · obtain rfl : b = false := by rw [hb]; exact decide_eq_false (fun h => h2 h.2.1.1)
    clear hb
    have d0 : decide (R ≥ 0) = true := decide_eq_true (by omega)
    have d1 : decide (R ≤ 64) = true := decide_eq_true (by omega)
    have d2 : decide (C ≥ 0) = false := decide_eq_false (by omega)
    go_enter Try.func20, Try.ntmps20
    go_upto_region 1 with (fail)
    rw [← ew]
    clear ew
    have c0 := KA.cell 0; have c1 := KA.cell 1; have c2 := KA.cell 2
    go_wp2
    go_ret
    exact ⟨rfl, B0⟩
  by_cases h3 : C ≤ 64
  rotate_left
  · obtain rfl : b = false := by rw [hb]; exact decide_eq_false (fun h => h3 h.2.1.2)
    clear hb
    have d0 : decide (R ≥ 0) = true := decide_eq_true (by omega)
    have d1 : decide (R ≤ 64) = true := decide_eq_true (by omega)
    have d2 : decide (C ≥ 0) = true := decide_eq_true (by omega)
    have d3 : decide (C ≤ 64) = false := decide_eq_false (by omega)
    go_enter Try.func20, Try.ntmps20
    go_upto_region 1 with (fail)
    rw [← ew]
    clear ew
    have c0 := KA.cell 0; have c1 := KA.cell 1; have c2 := KA.cell 2
    go_wp2
    go_ret
    exact ⟨rfl, B0⟩
  by_cases h4 : (xs.length : Int) = R * C
  rotate_left
  · obtain rfl : b = false := by rw [hb]; exact decide_eq_false (fun h => h4 h.2.2)
    clear hb
    have d0 : decide (R ≥ 0) = true := decide_eq_true (by omega)
    have d1 : decide (R ≤ 64) = true := decide_eq_true (by omega)
    have d2 : decide (C ≥ 0) = true := decide_eq_true (by omega)
    have d3 : decide (C ≤ 64) = true := decide_eq_true (by omega); have hw : IntKind.i64.wrap (R * C) = R * C := Sd.mul ⟨h0, h1⟩ ⟨h2, h3⟩
    have d4 : ((xs.length : Int) == R * C) = false := by simp [h4]
    go_enter Try.func20, Try.ntmps20
    go_upto_region 1 with (fail)
    rw [← ew]
    clear ew
    have c0 := KA.cell 0; have c1 := KA.cell 1; have c2 := KA.cell 2
    go_wp2
    go_ret
    exact ⟨rfl, B0⟩
  obtain rfl : b = true := by rw [hb]; exact decide_eq_true ⟨⟨h0, h1⟩, ⟨h2, h3⟩, h4⟩
  clear hb
  have d0 : decide (R ≥ 0) = true := decide_eq_true (by omega)
  have d1 : decide (R ≤ 64) = true := decide_eq_true (by omega)
  have d2 : decide (C ≥ 0) = true := decide_eq_true (by omega)
  have d3 : decide (C ≤ 64) = true := decide_eq_true (by omega); have hw : IntKind.i64.wrap (R * C) = R * C := Sd.mul ⟨h0, h1⟩ ⟨h2, h3⟩
  have d4 : ((xs.length : Int) == R * C) = true := by simp [h4]
  go_enter Try.func20, Try.ntmps20
  go_upto_region 1 with (fail)
  rw [← ew]
  clear ew
  have c0 := KA.cell 0; have c1 := KA.cell 1; have c2 := KA.cell 2
  go_wp2
  go_ret
  exact ⟨rfl, B0⟩

theorem rf23_None (ao : Option Addr) (k : Nat) (w : World) : Calls Try.prog 44 #[.agg #[.int .i64 0, .int .i64 0, .slice ao 0 k]] w (RetW w (.bool true)) := by
  obtain ⟨wb, ew, KA, B0, hsz⟩ := boxes1 w 24 [.int .i64 0, .int .i64 0, .slice ao 0 k]
  clear hsz
  go_enter Try.func44, Try.ntmps44
  go_upto_region 1 with (fail)
  rw [← ew]
  clear ew
  have c0 := KA.cell 0; have c1 := KA.cell 1; have c2 := KA.cell 2
  go_wp2
  go_ret
  exact ⟨rfl, B0⟩

theorem Xm.open {w : World} {v : Value} {R C : Int} {xs : List (List Nat)} (h : Xm w v R C xs) : ∃ (ao : Option Addr) (b off cap : Nat) (U : Nat → Value), v = .agg #[.int .i64 R, .int .i64 C, .slice ao xs.length cap] ∧ xs.length ≤ cap ∧ (0 < xs.length → ao = some ⟨b, off, none⟩ ∧ b < w.heap.size) ∧
    ∀ j, j < xs.length → w.cell? ⟨b, off + j, none⟩ = some (U j) ∧ Sl .u64 w (U j) (xs.getD j []) ∧ wf W64 (xs.getD j []) := by
  obtain ⟨u, rfl, ao, b, off, cap, U, rfl, h1, h2, h3⟩ := h
  exact ⟨ao, b, off, cap, U, rfl, h1, h2, h3⟩

/-- A matrix of a size that is looked at. -/
def Fwx (s n : Int) (R C : Int) (xs : List (List Nat)) : Prop := R ≤ s ∧ C ≤ s ∧ xs.length ≤ 100 ∧ ∀ j, j < xs.length → ((xs.getD j []).length : Int) ≤ n
set_option maxHeartbeats 1000000 in
theorem rf23_Few (v : Value) (R C s n : Int) (xs : List (List Nat)) (w : World) (hm : Xm w v R C xs) (b : Bool) (hb : b = true ↔ Fwx s n R C xs) :
    Calls Try.prog 16 #[v, .int .i64 s, .int .i64 n] w (RetW w (.bool b)) := by
  obtain ⟨ao, bo, off, ca, U, rfl, -, hao, hat⟩ := hm.open
  obtain ⟨wb, ew, KA, B0, hsz⟩ := boxes1 w 24 [.int .i64 R, .int .i64 C, .slice ao xs.length ca]
  have HB := Lib.hid hb; have HAO := Lib.hid hao; have HAT := Lib.hid hat
  clear hsz hm hb hao hat
  have HB0 := Lib.hid B0
  go_enter Try.func16, Try.ntmps16
  go_upto_region 1 with (fail)
  rw [← ew]
  clear ew
  have c0 := KA.cell 0; have c1 := KA.cell 1; have c2 := KA.cell 2
  go_wp2
  go_loop [7] (fun iv => ∃ i : Nat, i ≤ xs.length ∧ iv = .int .i64 i ∧ Hid (∀ j, j < i → ((xs.getD j []).length : Int) ≤ n)) (fun iv => xs.length - (intOf iv).toNat)
  case atStart => exact ⟨0, by omega, rfl, Lib.hid fun j hj => by omega⟩
  case round =>
    obtain ⟨i, hi, rfl, HK⟩ := hrel
    by_cases hil : i < xs.length
    · by_cases hic : i < 100
      · obtain ⟨rfl, hbl⟩ := HAO.out (by omega)
        obtain ⟨q0, s0, -⟩ := HAT.out i hil
        obtain ⟨b1, -, -, b2, e0, -, -⟩ := id s0
        rw [e0] at q0
        have q1 := (HB0.out.cell (p := ⟨bo, off + i, none⟩) hbl).trans q0
        obtain ⟨m, em⟩ : ∃ m, m = (xs.getD i []).length := ⟨_, rfl⟩
        rw [← em] at q1
        have EM := Lib.hid em
        clear q0 s0 e0 em
        by_cases hmn : (m : Int) ≤ n
        · have d0 : decide ((m : Int) > n) = false := decide_eq_false (by omega)
          have HN := Lib.hid (show ∀ j, j < i + 1 → ((xs.getD j []).length : Int) ≤ n from fun j hj => by
            by_cases e : j = i
            · rw [e, ← EM.out]; exact hmn
            · exact HK.out j (by omega))
          go_wp2
          go_round
          case rel => exact ⟨i + 1, by omega, by go_num, HN⟩
          case measure => simp [intOf] <;> omega
        · have d0 : decide ((m : Int) > n) = true := decide_eq_true (by omega)
          obtain rfl : b = false := by
            cases b with
            | false => rfl
            | true => exact absurd ((HB.out.1 rfl).2.2.2 i hil) (by rw [← EM.out]; exact hmn)
          go_wp2
          go_ret
          exact ⟨rfl, HB0.out⟩
      · obtain rfl : b = false := by
          cases b with
          | false => rfl
          | true => have := (HB.out.1 rfl).2.2.1; omega
        have d9 : decide (((xs.length : Nat) : Int) ≤ 100) = false := decide_eq_false (by omega)
        by_cases h0 : R ≤ s
        · have d0 : decide (R ≤ s) = true := decide_eq_true h0
          by_cases h1 : C ≤ s
          · have d1 : decide (C ≤ s) = true := decide_eq_true h1
            go_wp2
            go_ret
            exact ⟨rfl, HB0.out⟩
          · have d1 : decide (C ≤ s) = false := decide_eq_false h1
            go_wp2
            go_ret
            exact ⟨rfl, HB0.out⟩
        · have d0 : decide (R ≤ s) = false := decide_eq_false h0
          go_wp2
          go_ret
          exact ⟨rfl, HB0.out⟩
    · obtain rfl : i = xs.length := by omega
      by_cases h0 : R ≤ s
      · have d0 : decide (R ≤ s) = true := decide_eq_true h0
        by_cases h1 : C ≤ s
        · have d1 : decide (C ≤ s) = true := decide_eq_true h1
          by_cases h2 : xs.length ≤ 100
          · have d2 : decide (((xs.length : Nat) : Int) ≤ 100) = true := decide_eq_true (by omega)
            obtain rfl : b = true := HB.out.2 ⟨h0, h1, h2, HK.out⟩
            go_wp2
            go_ret
            exact ⟨rfl, HB0.out⟩
          · have d2 : decide (((xs.length : Nat) : Int) ≤ 100) = false := decide_eq_false (by omega)
            obtain rfl : b = false := by
              cases b with
              | false => rfl
              | true => exact absurd (HB.out.1 rfl).2.2.1 h2
            go_wp2
            go_ret
            exact ⟨rfl, HB0.out⟩
        · have d1 : decide (C ≤ s) = false := decide_eq_false h1
          obtain rfl : b = false := by
            cases b with
            | false => rfl
            | true => exact absurd (HB.out.1 rfl).2.1 h1
          go_wp2
          go_ret
          exact ⟨rfl, HB0.out⟩
      · have d0 : decide (R ≤ s) = false := decide_eq_false h0
        obtain rfl : b = false := by
          cases b with
          | false => rfl
          | true => exact absurd (HB.out.1 rfl).1 h0
        go_wp2
        go_ret
        exact ⟨rfl, HB0.out⟩

theorem rf23_At (v : Value) (R : Int) (c i k p : Nat) (xs : List (List Nat)) (w : World) (hp : FP p) (hm : Xm w v R c xs) (hi : i ≤ 1000) (hc : c ≤ 1000) (hk : k ≤ 1000) (hj : i * c + k < xs.length) (hl : (xs.getD (i * c + k) []).length ≤ 1000000) :
    Calls Try.prog 81 #[v, .int .i64 i, .int .i64 k, .int .u64 p] w (RetP p w (xs.getD (i * c + k) []).length (pl p (xs.getD (i * c + k) []))) := by
  obtain ⟨ao, bo, off, ca, U, rfl, -, hao, hat⟩ := hm.open
  obtain ⟨rfl, hbl⟩ := hao (by omega)
  have hw : i * c ≤ 1000 * 1000 := Nat.mul_le_mul hi hc
  obtain ⟨lo, elo⟩ : ∃ lo, lo = i * c := ⟨_, rfl⟩
  obtain ⟨ix, eix⟩ : ∃ ix, ix = lo + k := ⟨_, rfl⟩
  have h1 : IntKind.i64.wrap ((i : Int) * (c : Int)) = (lo : Int) := by rw [elo, ← Int.natCast_mul]; exact IntWalk.i64_in _ ⟨by omega, by omega⟩
  have h2 : IntKind.i64.wrap ((lo : Int) + (k : Int)) = (ix : Int) := by rw [eix, ← Int.natCast_add]; exact IntWalk.i64_in _ ⟨by omega, by omega⟩
  rw [← elo, ← eix] at hj hl ⊢
  obtain ⟨q0, s0, -⟩ := hat _ hj
  obtain ⟨ys, ey⟩ : ∃ ys, ys = xs.getD ix [] := ⟨_, rfl⟩
  rw [← ey] at s0 hl ⊢
  obtain ⟨wb, ew, KA, B0, hsz⟩ := boxes1 w 24 [.int .i64 R, .int .i64 c, .slice (some ⟨bo, off, none⟩) xs.length ca]
  have HP := Lib.hid hp
  have q1 := (B0.cell (p := ⟨bo, off + ix, none⟩) hbl).trans q0
  have s1 := s0.next B0
  clear hsz hm hp hao hat q0 s0 ey hw elo eix
  go_enter Try.func81, Try.ntmps81
  go_upto_region 1 with (fail)
  rw [← ew]
  clear ew
  have c1 := KA.cell 1; have c2 := KA.cell 2
  clear KA
  go_wp2_with fail
  refine (ref9_Norm p (U ix) ys _ HP.out s1 (by omega)).mono ?_; rintro e w2 ⟨r2, z2, rfl, o2, n2, v2, l2, b2⟩
  have FIN := Lib.hid (show RetP p w ys.length (pl p ys) (.returned r2) w2 from ⟨r2, z2, rfl, o2.mono B0.size, n2, v2, l2, B0.trans (b2.mono B0.size)⟩)
  clear o2 n2 v2 l2 b2 s1 B0 c1 c2 q1
  go_wp2
  go_ret
  exact FIN.out

set_option maxHeartbeats 1000000 in
theorem rf23_Normal (v : Value) (R C : Int) (p : Nat) (xs : List (List Nat)) (w : World) (hp : FP p) (hm : Xm w v R C xs) (hF : Fd R C xs.length) (hx : ∀ j, j < xs.length → Nrm p (xs.getD j []) ∧ (xs.getD j []).length ≤ 1000000) (hl : xs.length ≤ 1000000) :
    Calls Try.prog 103 #[v, .int .u64 p] w (RetW w (.bool true)) := by
  obtain ⟨ao, bo, off, ca, U, rfl, -, hao, hat⟩ := hm.open
  obtain ⟨wb, ew, KA, B0, hsz⟩ := boxes1 w 24 [.int .i64 R, .int .i64 C, .slice ao xs.length ca]
  have hA := hm.next B0
  have HAT := Lib.hid hat; have HX := Lib.hid hx; have HF := Lib.hid hF; have HP := Lib.hid hp
  have HAO := Lib.hid hao
  clear hsz hm hat hx hF hp hao
  obtain ⟨g, eg⟩ : ∃ g, g = w.heap.size := ⟨_, rfl⟩
  have HE := Lib.hid eg
  rw [← eg] at KA
  go_enter Try.func103, Try.ntmps103
  go_upto_region 1 with (fail)
  rw [← ew, ← eg]
  clear ew eg
  go_wp2
  go_loopw [5] (fun iv wr => ∃ i : Nat, i ≤ xs.length ∧ iv = .int .i64 i ∧ Below wb.heap.size wb wr) (fun iv _ => xs.length - (intOf iv).toNat)
  case atStart => exact ⟨0, by omega, rfl, Below.refl _ _⟩
  case round =>
    obtain ⟨i, hi, rfl, B1⟩ := hrel
    have K1 := KA.next B1
    have c2 := K1.cell 2
    by_cases hil : i < xs.length
    · obtain ⟨rfl, hbl⟩ := HAO.out (by omega)
      obtain ⟨q0, s0, -⟩ := HAT.out i hil
      have q1 := ((B0.trans (B1.mono B0.size)).cell (p := ⟨bo, off + i, none⟩) hbl).trans q0
      have s1 := s0.next (B0.trans (B1.mono B0.size))
      obtain ⟨nz, lz⟩ := HX.out i hil
      obtain ⟨ys, ey⟩ : ∃ ys, ys = xs.getD i [] := ⟨_, rfl⟩
      rw [← ey] at s1 nz lz
      clear q0 s0 ey
      go_upto_region 4 with (fail)
      clear c2
      have bd := Drawn.below (w' := wr.drew) ⟨1, rfl⟩ wr.heap.size
      have hbr : bo < wr.drew.heap.size := World.block_lt_of_cell? wr _ q1
      have q2 : wr.drew.cell? ⟨bo, off + i, none⟩ = some (U i) := (bd.cell (p := ⟨bo, off + i, none⟩) hbr).trans q1
      replace K1 := K1.next bd; replace s1 := s1.next bd
      replace B1 := B1.trans (bd.mono B1.size)
      clear bd q1
      refine startL (S := (fun w' => Below (wr.drew).heap.size (wr.drew) w')) (by kernel_rfl) (Below.refl _ _) (fun hHeld => ?_)
      refine takeL 0 (v := ?_) rfl (by kernel_rfl) (by kernel_rfl) (by kernel_rfl) (fun _ _ _ h => h) ⟨by rfl, ?_⟩ (by assumption) ?_
      rotate_left
      · intro w hS; go_simp <;> with_reducible rfl
      simp only [Act.put, List.setIfInBounds_toArray, List.set_cons_zero, List.set_cons_succ]
      refine takeL 1 (v := ?_) rfl (by kernel_rfl) (by kernel_rfl) (by kernel_rfl) (fun _ _ _ h => h) ⟨by rfl, ?_⟩ (by assumption) ?_
      rotate_left
      · intro w hS; have f1 := (K1.at hS) 2; have f3 := (hS.cell (p := ⟨bo, off + i, none⟩) hbr).trans q2; go_simp <;> with_reducible rfl
      simp only [Act.put, List.setIfInBounds_toArray, List.set_cons_zero, List.set_cons_succ]
      refine takeL 2 (v := ?_) rfl (by kernel_rfl) (by kernel_rfl) (by kernel_rfl) (fun _ _ _ h => h) ⟨by rfl, ?_⟩ (by assumption) ?_
      rotate_left
      · intro w hS; go_simp <;> with_reducible rfl
      simp only [Act.put, List.setIfInBounds_toArray, List.set_cons_zero, List.set_cons_succ]
      refine takeL 3 (v := ?_) rfl (by kernel_rfl) (by kernel_rfl) (by kernel_rfl) (fun _ _ _ h => h) ⟨by rfl, ?_⟩ (by assumption) ?_
      rotate_left
      · intro w hS; go_simp <;> with_reducible rfl
      simp only [Act.put, List.setIfInBounds_toArray, List.set_cons_zero, List.set_cons_succ]
      refine takeL 4 (v := ?_) rfl (by kernel_rfl) (by kernel_rfl) (by kernel_rfl) (fun _ _ _ h => h) ⟨by rfl, ?_⟩ (by assumption) ?_
      rotate_left
      · intro w hS; have f1 := (K1.at hS) 2; have f3 := (hS.cell (p := ⟨bo, off + i, none⟩) hbr).trans q2; go_simp <;> with_reducible rfl
      simp only [Act.put, List.setIfInBounds_toArray, List.set_cons_zero, List.set_cons_succ]
      refine takeL 5 (v := ?_) rfl (by kernel_rfl) (by kernel_rfl) (by kernel_rfl) (fun _ _ _ h => h) ⟨by rfl, ?_⟩ (by assumption) ?_
      rotate_left
      · intro w hS; go_simp <;> with_reducible rfl
      simp only [Act.put, List.setIfInBounds_toArray, List.set_cons_zero, List.set_cons_succ]
      refine takeL 6 (v := ?_) rfl (by kernel_rfl) (by kernel_rfl) (by kernel_rfl) (fun _ _ _ h => h) ⟨by rfl, ?_⟩ (by assumption) ?_
      rotate_left
      · intro w hS; have f1 := (K1.at hS) 2; have f3 := (hS.cell (p := ⟨bo, off + i, none⟩) hbr).trans q2; go_simp <;> with_reducible rfl
      simp only [Act.put, List.setIfInBounds_toArray, List.set_cons_zero, List.set_cons_succ]
      refine takeL 7 (v := ?_) rfl (by kernel_rfl) (by kernel_rfl) (by kernel_rfl) (fun _ _ _ h => h) ⟨by rfl, ?_⟩ (by assumption) ?_
      rotate_left
      · intro w hS; go_simp <;> with_reducible rfl
      simp only [Act.put, List.setIfInBounds_toArray, List.set_cons_zero, List.set_cons_succ]
      refine takeL 8 (v := ?_) rfl (by kernel_rfl) (by kernel_rfl) (by kernel_rfl) (fun _ _ _ h => h) ⟨by rfl, ?_⟩ (by assumption) ?_
      rotate_left
      · intro w hS; go_simp <;> with_reducible rfl
      simp only [Act.put, List.setIfInBounds_toArray, List.set_cons_zero, List.set_cons_succ]
      refine takeL 9 (v := ?_) rfl (by kernel_rfl) (by kernel_rfl) (by kernel_rfl) (fun _ _ _ h => h) ⟨by rfl, ?_⟩ (by assumption) ?_
      rotate_left
      · intro w hS; have f1 := (K1.at hS) 2; have f3 := (hS.cell (p := ⟨bo, off + i, none⟩) hbr).trans q2; go_simp <;> with_reducible rfl
      simp only [Act.put, List.setIfInBounds_toArray, List.set_cons_zero, List.set_cons_succ]
      refine takeL 10 (v := ?_) rfl (by kernel_rfl) (by kernel_rfl) (by kernel_rfl) (fun _ _ _ h => h) ⟨by rfl, ?_⟩ (by assumption) ?_
      rotate_left
      · intro w hS; go_simp <;> with_reducible rfl
      simp only [Act.put, List.setIfInBounds_toArray, List.set_cons_zero, List.set_cons_succ]
      refine oneL 11 rfl (by kernel_rfl) (by rfl) (fun K hK => ?_)
      go_simp
      go_at_call 60
      (with_reducible refine (ref9_Norm p (U i) ys _ HP.out (s1.next hHeld) (by omega)).mono ?_); rintro e w2 ⟨r2, z2, rfl, o2, n2, v2, l2, b2⟩
      have t2 := o2.sl; clear o2
      refine hK.out _ _ (hHeld.trans (b2.mono hHeld.size)) (fun hHeld => ?_)
      clear hK K
      try simp only [Act.put, List.setIfInBounds_toArray, List.set_cons_zero, List.set_cons_succ]
      refine oneL 12 rfl (by kernel_rfl) (by rfl) (fun K hK => ?_)
      go_simp
      go_at_call 21
      (with_reducible refine (ref9_Same (U i) r2 ys z2 true _ ((s1.next hHeld)) t2 (by omega) (by omega) (by rw [pl_inj HP.out.pos n2 nz v2]; simp)).mono ?_); rintro e w3 ⟨rfl, q3⟩; have b3 := q3.below w2.heap.size; clear q3
      refine hK.out _ _ (hHeld.trans (b3.mono hHeld.size)) (fun hHeld => ?_)
      clear hK K
      try simp only [Act.put, List.setIfInBounds_toArray, List.set_cons_zero, List.set_cons_succ]
      refine takeL 13 (v := ?_) rfl (by kernel_rfl) (by kernel_rfl) (by kernel_rfl) (fun _ _ _ h => h) ⟨by rfl, ?_⟩ (by assumption) ?_
      rotate_left
      · intro w hS; go_simp <;> with_reducible rfl
      simp only [Act.put, List.setIfInBounds_toArray, List.set_cons_zero, List.set_cons_succ]
      refine doneL (by kernel_rfl) ?_ _
      replace B1 := B1.trans (hHeld.mono B1.size)
      clear hHeld K1 s1 q2 b2 b3 n2 v2 l2 t2
      go_wp2
      go_roundw
      case rel => exact ⟨i + 1, by omega, by go_num, B1⟩
      case measure => simp [intOf] <;> omega
    · obtain rfl : i = xs.length := by omega
      have hA1 := hA.next B1
      have c0 := K1.cell 0; have c1 := K1.cell 1
      go_wp2_with fail
      refine (rf23_Formed _ R C xs _ hA1 true (decide_eq_true HF.out).symm).mono ?_; rintro e w2 ⟨rfl, b2⟩
      have BF := B0.trans ((B1.trans (b2.mono B1.size)).mono B0.size)
      clear c0 c1 c2 K1 hA1 b2 B1
      go_wp2
      go_ret
      exact ⟨rfl, BF⟩

set_option maxHeartbeats 2000000 in
theorem rf23_Same (a b : Value) (R C : Int) (p : Nat) (xs ys : List (List Nat)) (w : World) (hp : FP p) (hA : Xm w a R C xs) (hB : Xm w b R C ys) (hl : ys.length = xs.length) (β : Bool) (hβ : β = true ↔ ∀ j, j < xs.length → nl p (xs.getD j []) = nl p (ys.getD j [])) (hm : xs.length ≤ 1000000)
    (hx : ∀ j, j < xs.length → (xs.getD j []).length ≤ 1000000) (hy : ∀ j, j < xs.length → (ys.getD j []).length ≤ 1000000) :
    Calls Try.prog 49 #[a, b, .int .u64 p] w (RetW w (.bool β)) := by
  obtain ⟨aA, bA, oA, cA, UA, rfl, -, hao, hat⟩ := hA.open
  obtain ⟨aB, bB, oB, cB, UB, rfl, -, hbo, hbt⟩ := hB.open
  rw [hl] at hbo hbt ⊢
  obtain ⟨wb, ew, KA, KB, B0, hsz⟩ := boxes2 w 24 24 [.int .i64 R, .int .i64 C, .slice aA xs.length cA] [.int .i64 R, .int .i64 C, .slice aB xs.length cB]
  have HAT := Lib.hid hat; have HBT := Lib.hid hbt; have HAO := Lib.hid hao; have HBO := Lib.hid hbo; have HX := Lib.hid hx; have HY := Lib.hid hy; have HP := Lib.hid hp; have HB := Lib.hid hβ
  clear hsz hA hB hat hbt hao hbo hx hy hp hβ hl
  obtain ⟨g, eg⟩ : ∃ g, g = w.heap.size := ⟨_, rfl⟩
  rw [← eg] at KA KB
  have hRR : (R != R) = false := by simp
  have hCC : (C != C) = false := by simp
  have hNN : ((xs.length : Int) != (xs.length : Int)) = false := by simp
  have c0 := KA.cell 0; have c1 := KA.cell 1; have c2 := KA.cell 2
  have d0 := KB.cell 0; have d1 := KB.cell 1; have d2 := KB.cell 2
  go_enter Try.func49, Try.ntmps49
  go_upto_region 1 with (fail)
  rw [← ew, ← eg]
  clear ew eg
  go_wp2
  clear c0 c1 c2 d0 d1 d2
  go_loopw [7] (fun iv wr => ∃ i : Nat, i ≤ xs.length ∧ iv = .int .i64 i ∧ Hid (∀ j, j < i → nl p (xs.getD j []) = nl p (ys.getD j [])) ∧ Below wb.heap.size wb wr) (fun iv _ => xs.length - (intOf iv).toNat)
  case atStart => exact ⟨0, by omega, rfl, Lib.hid fun j hj => by omega, Below.refl _ _⟩
  case round =>
    obtain ⟨i, hi, rfl, HK, B1⟩ := hrel
    have KA1 := KA.next B1; have KB1 := KB.next B1
    have c2 := KA1.cell 2
    by_cases hin : i < xs.length
    · obtain ⟨rfl, hbA⟩ := HAO.out (by omega)
      obtain ⟨rfl, hbB⟩ := HBO.out (by omega)
      obtain ⟨q0, s0, -⟩ := HAT.out i hin
      obtain ⟨q0', s0', -⟩ := HBT.out i hin
      have BB := B0.trans (B1.mono B0.size)
      have q1 := (BB.cell (p := ⟨bA, oA + i, none⟩) hbA).trans q0
      have q2 := (BB.cell (p := ⟨bB, oB + i, none⟩) hbB).trans q0'
      have s1 := s0.next BB; have s2 := s0'.next BB
      have lx := HX.out i hin; have ly := HY.out i hin
      obtain ⟨x, ex⟩ : ∃ x, x = xs.getD i [] := ⟨_, rfl⟩
      obtain ⟨y, ey⟩ : ∃ y, y = ys.getD i [] := ⟨_, rfl⟩
      rw [← ex] at s1 lx; rw [← ey] at s2 ly
      have EX := Lib.hid ex; have EY := Lib.hid ey
      clear q0 s0 q0' s0' ex ey BB
      go_upto_region 6 with (fail)
      clear c2
      have bd := Drawn.below (w' := wr.drew) ⟨1, rfl⟩ wr.heap.size
      have l1 : bA < wr.drew.heap.size := World.block_lt_of_cell? wr _ q1
      have l2 : bB < wr.drew.heap.size := World.block_lt_of_cell? wr _ q2
      have q1 : wr.drew.cell? ⟨bA, oA + i, none⟩ = some (UA i) := (bd.cell (p := ⟨bA, oA + i, none⟩) l1).trans q1
      have q2 : wr.drew.cell? ⟨bB, oB + i, none⟩ = some (UB i) := (bd.cell (p := ⟨bB, oB + i, none⟩) l2).trans q2
      replace KA1 := KA1.next bd; replace KB1 := KB1.next bd
      replace s1 := s1.next bd; replace s2 := s2.next bd
      replace B1 := B1.trans (bd.mono B1.size)
      clear bd
      obtain ⟨γ, eγ⟩ : ∃ γ, γ = decide (nl p x = nl p y) := ⟨_, rfl⟩
      have EG := Lib.hid eγ; clear eγ
      refine startL (S := (fun w' => Below (wr.drew).heap.size (wr.drew) w')) (by kernel_rfl) (Below.refl _ _) (fun hHeld => ?_)
      refine takeL 0 (v := ?_) rfl (by kernel_rfl) (by kernel_rfl) (by kernel_rfl) (fun _ _ _ h => h) ⟨by rfl, ?_⟩ (by assumption) ?_
      rotate_left
      · intro w hS; go_simp <;> with_reducible rfl
      simp only [Act.put, List.setIfInBounds_toArray, List.set_cons_zero, List.set_cons_succ]
      refine takeL 1 (v := ?_) rfl (by kernel_rfl) (by kernel_rfl) (by kernel_rfl) (fun _ _ _ h => h) ⟨by rfl, ?_⟩ (by assumption) ?_
      rotate_left
      · intro w hS; have f1 := (KA1.at hS) 2; have f2 := (KB1.at hS) 2; have f3 := (hS.cell (p := ⟨bA, oA + i, none⟩) l1).trans q1; have f4 := (hS.cell (p := ⟨bB, oB + i, none⟩) l2).trans q2; go_simp <;> with_reducible rfl
      simp only [Act.put, List.setIfInBounds_toArray, List.set_cons_zero, List.set_cons_succ]
      refine takeL 2 (v := ?_) rfl (by kernel_rfl) (by kernel_rfl) (by kernel_rfl) (fun _ _ _ h => h) ⟨by rfl, ?_⟩ (by assumption) ?_
      rotate_left
      · intro w hS; go_simp <;> with_reducible rfl
      simp only [Act.put, List.setIfInBounds_toArray, List.set_cons_zero, List.set_cons_succ]
      refine takeL 3 (v := ?_) rfl (by kernel_rfl) (by kernel_rfl) (by kernel_rfl) (fun _ _ _ h => h) ⟨by rfl, ?_⟩ (by assumption) ?_
      rotate_left
      · intro w hS; go_simp <;> with_reducible rfl
      simp only [Act.put, List.setIfInBounds_toArray, List.set_cons_zero, List.set_cons_succ]
      refine takeL 4 (v := ?_) rfl (by kernel_rfl) (by kernel_rfl) (by kernel_rfl) (fun _ _ _ h => h) ⟨by rfl, ?_⟩ (by assumption) ?_
      rotate_left
      · intro w hS; have f1 := (KA1.at hS) 2; have f2 := (KB1.at hS) 2; have f3 := (hS.cell (p := ⟨bA, oA + i, none⟩) l1).trans q1; have f4 := (hS.cell (p := ⟨bB, oB + i, none⟩) l2).trans q2; go_simp <;> with_reducible rfl
      simp only [Act.put, List.setIfInBounds_toArray, List.set_cons_zero, List.set_cons_succ]
      refine takeL 5 (v := ?_) rfl (by kernel_rfl) (by kernel_rfl) (by kernel_rfl) (fun _ _ _ h => h) ⟨by rfl, ?_⟩ (by assumption) ?_
      rotate_left
      · intro w hS; go_simp <;> with_reducible rfl
      simp only [Act.put, List.setIfInBounds_toArray, List.set_cons_zero, List.set_cons_succ]
      refine takeL 7 (v := ?_) rfl (by kernel_rfl) (by kernel_rfl) (by kernel_rfl) (fun _ _ _ h => h) ⟨by rfl, ?_⟩ (by assumption) ?_
      rotate_left
      · intro w hS; go_simp <;> with_reducible rfl
      simp only [Act.put, List.setIfInBounds_toArray, List.set_cons_zero, List.set_cons_succ]
      refine takeL 8 (v := ?_) rfl (by kernel_rfl) (by kernel_rfl) (by kernel_rfl) (fun _ _ _ h => h) ⟨by rfl, ?_⟩ (by assumption) ?_
      rotate_left
      · intro w hS; have f1 := (KA1.at hS) 2; have f2 := (KB1.at hS) 2; have f3 := (hS.cell (p := ⟨bA, oA + i, none⟩) l1).trans q1; have f4 := (hS.cell (p := ⟨bB, oB + i, none⟩) l2).trans q2; go_simp <;> with_reducible rfl
      simp only [Act.put, List.setIfInBounds_toArray, List.set_cons_zero, List.set_cons_succ]
      refine takeL 9 (v := ?_) rfl (by kernel_rfl) (by kernel_rfl) (by kernel_rfl) (fun _ _ _ h => h) ⟨by rfl, ?_⟩ (by assumption) ?_
      rotate_left
      · intro w hS; go_simp <;> with_reducible rfl
      simp only [Act.put, List.setIfInBounds_toArray, List.set_cons_zero, List.set_cons_succ]
      refine takeL 10 (v := ?_) rfl (by kernel_rfl) (by kernel_rfl) (by kernel_rfl) (fun _ _ _ h => h) ⟨by rfl, ?_⟩ (by assumption) ?_
      rotate_left
      · intro w hS; go_simp <;> with_reducible rfl
      simp only [Act.put, List.setIfInBounds_toArray, List.set_cons_zero, List.set_cons_succ]
      refine takeL 11 (v := ?_) rfl (by kernel_rfl) (by kernel_rfl) (by kernel_rfl) (fun _ _ _ h => h) ⟨by rfl, ?_⟩ (by assumption) ?_
      rotate_left
      · intro w hS; have f1 := (KA1.at hS) 2; have f2 := (KB1.at hS) 2; have f3 := (hS.cell (p := ⟨bA, oA + i, none⟩) l1).trans q1; have f4 := (hS.cell (p := ⟨bB, oB + i, none⟩) l2).trans q2; go_simp <;> with_reducible rfl
      simp only [Act.put, List.setIfInBounds_toArray, List.set_cons_zero, List.set_cons_succ]
      refine takeL 12 (v := ?_) rfl (by kernel_rfl) (by kernel_rfl) (by kernel_rfl) (fun _ _ _ h => h) ⟨by rfl, ?_⟩ (by assumption) ?_
      rotate_left
      · intro w hS; go_simp <;> with_reducible rfl
      simp only [Act.put, List.setIfInBounds_toArray, List.set_cons_zero, List.set_cons_succ]
      refine oneL 6 rfl (by kernel_rfl) (by rfl) (fun K hK => ?_)
      go_simp
      go_at_call 60
      (with_reducible refine (ref9_Norm p (UA i) x _ HP.out (s1.next hHeld) (by omega)).mono ?_); rintro e w3 ⟨r3, z3, rfl, o3, n3, v3, l3, b3⟩
      have t3 := o3.sl; clear o3
      refine hK.out _ _ (hHeld.trans (b3.mono hHeld.size)) (fun hHeld => ?_)
      clear hK K
      try simp only [Act.put, List.setIfInBounds_toArray, List.set_cons_zero, List.set_cons_succ]
      refine oneL 13 rfl (by kernel_rfl) (by rfl) (fun K hK => ?_)
      go_simp
      go_at_call 60
      (with_reducible refine (ref9_Norm p (UB i) y _ HP.out (s2.next hHeld) (by omega)).mono ?_); rintro e w4 ⟨r4, z4, rfl, o4, n4, v4, l4, b4⟩
      have t4 := o4.sl; clear o4; replace t3 := t3.next b4
      refine hK.out _ _ (hHeld.trans (b4.mono hHeld.size)) (fun hHeld => ?_)
      clear hK K
      try simp only [Act.put, List.setIfInBounds_toArray, List.set_cons_zero, List.set_cons_succ]
      refine oneL 14 rfl (by kernel_rfl) (by rfl) (fun K hK => ?_)
      go_simp
      go_at_call 21
      (with_reducible refine (ref9_Same r3 r4 z3 z4 γ _ t3 t4 (by omega) (by omega) (by rw [nl_is HP.out.pos n3 v3, nl_is HP.out.pos n4 v4]; exact EG.out)).mono ?_); rintro e w5 ⟨rfl, q5⟩; have b5 := q5.below w4.heap.size; clear q5
      refine hK.out _ _ (hHeld.trans (b5.mono hHeld.size)) (fun hHeld => ?_)
      clear hK K
      try simp only [Act.put, List.setIfInBounds_toArray, List.set_cons_zero, List.set_cons_succ]
      refine takeL 15 (v := ?_) rfl (by kernel_rfl) (by kernel_rfl) (by kernel_rfl) (fun _ _ _ h => h) ⟨by rfl, ?_⟩ (by assumption) ?_
      rotate_left
      · intro w hS; go_simp <;> with_reducible rfl
      simp only [Act.put, List.setIfInBounds_toArray, List.set_cons_zero, List.set_cons_succ]
      refine doneL (by kernel_rfl) ?_ _
      replace B1 := B1.trans (hHeld.mono B1.size)
      clear q1 q2 KA1 KB1 hHeld s1 s2 n3 v3 l3 t3 n4 v4 l4 t4 b3 b4 b5
      cases γ with
      | true =>
        have HN := Lib.hid (show ∀ j, j < i + 1 → nl p (xs.getD j []) = nl p (ys.getD j []) from fun j hj => by
          by_cases e : j = i
          · rw [e, ← EX.out, ← EY.out]; exact of_decide_eq_true EG.out.symm
          · exact HK.out j (by omega))
        go_wp2
        go_roundw
        case rel => exact ⟨i + 1, by omega, by go_num, HN, B1⟩
        case measure => simp [intOf] <;> omega
      | false =>
        obtain rfl : β = false := by
          cases β with
          | false => rfl
          | true => exact absurd (HB.out.1 rfl i hin) (by rw [← EX.out, ← EY.out]; exact of_decide_eq_false EG.out.symm)
        have BF := B0.trans (B1.mono B0.size)
        clear B1
        go_wp2
        go_ret
        exact ⟨rfl, BF⟩
    · obtain rfl : i = xs.length := by omega
      obtain rfl : β = true := HB.out.2 fun j hj => HK.out j hj
      have BF := B0.trans (B1.mono B0.size)
      clear B1
      go_wp2
      go_ret
      exact ⟨rfl, BF⟩

theorem rf23_Is (a b : Value) (R C : Int) (p : Nat) (xs ys : List (List Nat)) (w : World) (hp : FP p) (hA : Xm w a R C xs) (hB : Xm w b R C ys) (hF : Fd R C xs.length) (hl : ys.length = xs.length) (hm : xs.length ≤ 1000000) (hx : ∀ j, j < xs.length → Nrm p (xs.getD j []) ∧ (xs.getD j []).length ≤ 1000000)
    (hy : ∀ j, j < xs.length → (ys.getD j []).length ≤ 1000000) (hs : ∀ j, j < xs.length → nl p (xs.getD j []) = nl p (ys.getD j [])) :
    Calls Try.prog 46 #[a, b, .int .u64 p] w (RetW w (.bool true)) := by
  obtain ⟨aA, cA, rfl⟩ := hA.agg
  obtain ⟨aB, cB, rfl⟩ := hB.agg
  obtain ⟨wb, ew, KA, KB, B0, hsz⟩ := boxes2 w 24 24 [.int .i64 R, .int .i64 C, .slice aA xs.length cA] [.int .i64 R, .int .i64 C, .slice aB ys.length cB]
  clear hsz
  replace hA := hA.next B0; replace hB := hB.next B0
  have HS := Lib.hid hs; have HX := Lib.hid hx; have HY := Lib.hid hy; have HF := Lib.hid hF; have HL := Lib.hid hl; have HP := Lib.hid hp; clear hs hx hy hF hl hp
  have c0 := KA.cell 0; have c1 := KA.cell 1; have c2 := KA.cell 2
  go_enter Try.func46, Try.ntmps46
  go_upto_region 1 with (fail)
  rw [← ew]
  clear ew
  go_wp2_with fail
  refine (rf23_Normal _ R C p xs _ HP.out hA HF.out HX.out hm).mono ?_; rintro e w2 ⟨rfl, b2⟩
  replace hA := hA.next b2; replace hB := hB.next b2
  replace KA := KA.next b2; replace KB := KB.next b2
  clear c0 c1 c2
  have c0 := KA.cell 0; have c1 := KA.cell 1; have c2 := KA.cell 2
  have d0 := KB.cell 0; have d1 := KB.cell 1; have d2 := KB.cell 2
  go_wp2_with fail
  refine (rf23_Same _ _ R C p xs ys _ HP.out hA hB HL.out true ⟨fun _ => HS.out, fun _ => rfl⟩ hm (fun j hj => (HX.out j hj).2) HY.out).mono ?_; rintro e w3 ⟨rfl, b3⟩
  go_wp2
  go_ret
  exact ⟨rfl, (B0.trans (b2.mono B0.size)).trans (b3.mono (B0.trans (b2.mono B0.size)).size)⟩

end Go.Proofs.Ythghdjpjbngllaa
/- The reference of chapter 23: rows made columns; sums. -/
namespace Go.Proofs.Ythghdjpjbngllaa
open Go.RowKit

theorem ns_of_row {w : World} {base n : Nat} {v : Value} {E : Nat → Value} {Z : Nat → List Nat} (h : w.ownsRow base 33 1 v n (rowL n E)) (hE : ∀ j, j < n → Sl .u64 w (E j) (Z j) ∧ wf W64 (Z j)) : Ns w v ((List.range n).map Z) := by
  have hl : ((List.range n).map Z).length = n := by simp
  have hg : ∀ j, j < n → ((List.range n).map Z).getD j [] = Z j := fun j hj => by simp [List.getD, hj]
  rcases rowOwn_shape h with ⟨rfl, rfl⟩ | ⟨g, cap, rfl, _, hgl, hnc⟩
  · exact ⟨none, 0, 0, 0, fun _ => (.bool false), by rw [hl], by rw [hl]; exact Nat.le_refl _, fun h => by rw [hl] at h; omega, fun j hj => by rw [hl] at hj; omega⟩
  · refine ⟨some ⟨g, 0, none⟩, g, 0, cap, E, by rw [hl], by rw [hl]; exact hnc, fun _ => ⟨rfl, hgl⟩, fun j hj => ?_⟩
    rw [hl] at hj
    rw [hg j hj]
    exact ⟨by rw [Nat.zero_add, World.ownsRow.cellAt h j (by omega), rowL_get hj], hE j hj⟩
/-- A row that is owned. -/
def Orw (w : World) (base : Nat) (v : Value) (n : Nat) (E : Nat → Value) : Prop := w.ownsRow base 33 1 v n (rowL n E)
theorem Orw.next {w w' : World} {base n : Nat} {v : Value} {E : Nat → Value} (h : Orw w base v n E) (hb : Below w.heap.size w w') : Orw w' base v n E := rowOwn_next h hb (Nat.le_refl _)
theorem Orw.low {w : World} {base n : Nat} {v : Value} {E : Nat → Value} (h : Orw w base v n E) {a : Addr} (ha : a.block < base) (u : Value) : Orw (w.setCell a u) base v n E := ownsRow_setCell_below h ha u
theorem Orw.slc {w : World} {base n : Nat} {v : Value} {E : Nat → Value} (h : Orw w base v n E) : ∃ ao k, v = .slice ao n k := by
  rcases rowOwn_shape h with ⟨e1, e2⟩ | ⟨_, _, e1, _⟩
  · exact ⟨none, 0, by rw [e1, e2]⟩
  · exact ⟨_, _, e1⟩
/-- A matrix whose polynomials are what they are. -/
def RetXs (w : World) (r c : Nat) (Z : Nat → List Nat) (e : Ending) (w' : World) : Prop :=
  ∃ ao k, e = .returned (.agg #[.int .i64 r, .int .i64 c, .slice ao (r * c) k]) ∧ Ns w' (.slice ao (r * c) k) ((List.range (r * c)).map Z) ∧ Below w.heap.size w w'
/-- Where the loops of Turned stand. -/
def TuR (w wb wr : World) (g r c : Nat) (E : Nat → Value) (n : Nat) : Prop := ∃ v, Blk 24 wr (g + 1 + 1) [.int .i64 r, .int .i64 c, v] ∧ Blk 24 wr (g + 1) [.int .i64 0, .int .i64 0, .slice none 0 0] ∧
  Orw wr (g + 1 + 1 + 1) v n E ∧ Below (g + 1) wb wr ∧ Below w.heap.size w wr
/-- Where a place of the turned matrix stands. -/
def tix (r c j : Nat) : Nat := j % r * c + j / r
theorem tix_at {r c i k : Nat} (hk : k < r) : tix r c (i * r + k) = k * c + i := by
  unfold tix
  have h1 : (i * r + k) / r = i := by rw [Nat.mul_comm, Nat.mul_add_div (by omega), Nat.div_eq_of_lt hk, Nat.add_zero]
  have h2 : (i * r + k) % r = k := by rw [Nat.mul_comm, Nat.mul_add_mod, Nat.mod_eq_of_lt hk]
  rw [h1, h2]
theorem tix_lt {r c j : Nat} (hj : j < c * r) : tix r c j < r * c := by
  have hr : 0 < r := Nat.pos_of_ne_zero fun e => by rw [e, Nat.mul_zero] at hj; omega
  have h1 : j / r < c := (Nat.div_lt_iff_lt_mul hr).2 hj
  exact at_lt rfl (Nat.mod_lt _ hr) h1

set_option maxRecDepth 20000 in
set_option maxHeartbeats 2000000 in
theorem rf23_Turned (a : Value) (r c : Nat) (xs : List (List Nat)) (w : World) (hA : Xm w a r c xs) (hr : r ≤ 64) (hc : c ≤ 64) (hx : xs.length = r * c) :
    Calls Try.prog 47 #[a] w (RetXs w c r fun j => xs.getD (tix r c j) []) := by
  obtain ⟨ao, bo, off, ca, U, rfl, -, hao, hat⟩ := hA.open
  have hrc : r * c ≤ 64 * 64 := Nat.mul_le_mul hr hc
  obtain ⟨wb, ew, KA, KR, KT, B0, hsz⟩ := boxes3 w 24 24 24 [.int .i64 r, .int .i64 c, .slice ao xs.length ca] [.int .i64 0, .int .i64 0, .slice none 0 0] [.int .i64 c, .int .i64 r, .slice none 0 0]
  clear hsz
  have HAT := Lib.hid hat; have HX := Lib.hid hx
  have HAO := Lib.hid hao
  clear hA hat hx hao
  go_enter Try.func47, Try.ntmps47
  go_upto_region 2 with (fail)
  rw [← ew]
  obtain ⟨g, eg⟩ : ∃ g, g = w.heap.size := ⟨_, rfl⟩
  rw [← eg] at KA KR KT ⊢
  have hgw : w.heap.size ≤ g := by omega
  clear ew eg
  have hwb : g + 1 + 1 < wb.heap.size := KT.lt
  have st : TuR w wb wb g c r (fun j => U (tix r c j)) (0 * r) := ⟨_, KT, KR, by rw [Nat.zero_mul]; exact World.ownsRow_nil _ _ _ _, Below.refl _ _, B0⟩
  have HKA := Lib.hid KA
  clear KT KR B0 KA
  go_wp2
  go_loopw [4] (fun iv wr => ∃ i : Nat, i ≤ c ∧ iv = .int .i64 i ∧ TuR w wb wr g c r (fun j => U (tix r c j)) (i * r)) (fun iv _ => c - (intOf iv).toNat)
  case atStart => exact ⟨0, by omega, rfl, st⟩
  case round =>
    clear st
    obtain ⟨i, hi, rfl, st⟩ := hrel
    have B1 := st.choose_spec.2.2.2.1
    have KA := HKA.out.below B1 (by omega)
    have c1 := KA.cell 1
    by_cases hic : i < c
    · go_wp2
      clear c1 KA B1
      go_loopw [5] (fun kv wr => ∃ k : Nat, k ≤ r ∧ kv = .int .i64 k ∧ TuR w wb wr g c r (fun j => U (tix r c j)) (i * r + k)) (fun kv _ => r - (intOf kv).toNat)
      case atStart => exact ⟨0, by omega, rfl, st⟩
      case round =>
        clear st
        obtain ⟨k, hk, rfl, st⟩ := hrel
        have B1 := st.choose_spec.2.2.2.1
        have KA := HKA.out.below B1 (by omega)
        have c0 := KA.cell 0
        by_cases hkr : k < r
        · obtain ⟨bv, K2, K1, ho, B1', B0⟩ := st
          have hjx : k * c + i < xs.length := by rw [HX.out]; exact at_lt rfl hkr hic
          obtain ⟨rfl, hbl⟩ := HAO.out (by omega)
          obtain ⟨q0, s0, -⟩ := HAT.out _ hjx
          obtain ⟨j, ej⟩ : ∃ j, j = k * c + i := ⟨_, rfl⟩
          obtain ⟨t, et⟩ : ∃ t, t = k * c := ⟨_, rfl⟩
          have hkc : k * c ≤ 64 * 64 := Nat.mul_le_mul (by omega) hc
          have h1 : IntKind.i64.wrap ((k : Int) * (c : Int)) = (t : Int) := by rw [et, ← Int.natCast_mul]; exact IntWalk.i64_in _ ⟨by omega, by omega⟩
          have h2 : IntKind.i64.wrap ((t : Int) + (i : Int)) = (j : Int) := by rw [ej, et, ← Int.natCast_add]; exact IntWalk.i64_in _ ⟨by omega, by omega⟩
          have hjl : j < xs.length := by rw [ej]; exact hjx
          rw [← ej] at q0 s0
          obtain ⟨un, eun⟩ : ∃ un, un = (xs.getD j []).length := ⟨_, rfl⟩
          obtain ⟨ua, -, -, uc, eu, -, -⟩ := s0
          rw [← eun] at eu
          rw [eu] at q0
          have HU := Lib.hid (show rowL (i * r + k) (fun j => U (tix r c j)) ++ [.slice ua un uc] = rowL (i * r + (k + 1)) (fun j => U (tix r c j)) by
            rw [← Nat.add_assoc, rowL_snoc, tix_at hkr, ← ej, eu])
          have hik : i * r ≤ 64 * 64 := Nat.mul_le_mul (by omega) hr
          have q1 := (B0.cell (p := ⟨bo, off + j, none⟩) hbl).trans q0
          clear eu ej et hjx hkc q0 eun
          go_upto_region 8 with (fail)
          clear c0
          have bd := Drawn.below (w' := wr.drew) ⟨1, rfl⟩ wr.heap.size
          have q2 : wr.drew.cell? ⟨bo, off + j, none⟩ = some (.slice ua un uc) := q1
          have hbo : bo < g + 1 + 1 + 1 := by omega
          replace K2 := K2.next bd; replace K1 := K1.next bd; replace ho := ho.next bd; replace KA := KA.next bd
          have hgx : g + 1 + 1 + 1 ≤ wr.drew.heap.size := by have := K2.lt; omega
          replace B0 := B0.trans (bd.mono B0.size)
          replace B1 := B1.trans (bd.mono (show g + 1 ≤ wr.heap.size by have : wr.drew.heap.size = wr.heap.size := rfl; omega))
          clear bd B1' q1
          refine startP (S := (fun w' => Below (g + 1 + 1 + 1) wr.drew w')) (by kernel_rfl) _ rfl rfl rfl (by kernel_rfl) (Below.refl _ _) (fun hHeld => ?_)
          refine takeL 0 (v := ?_) rfl (by kernel_rfl) (by kernel_rfl) (by kernel_rfl) (fun _ _ _ h => h) ⟨by rfl, ?_⟩ (by assumption) ?_
          rotate_left
          · intro w hS; go_simp <;> with_reducible rfl
          simp only [Act.put, List.setIfInBounds_toArray, List.set_cons_zero, List.set_cons_succ]
          refine takeL 1 (v := ?_) rfl (by kernel_rfl) (by kernel_rfl) (by kernel_rfl) (fun _ _ _ h => h) ⟨by rfl, ?_⟩ (by assumption) ?_
          rotate_left
          · intro w hS; have fa := (K2.below hS (Nat.lt_succ_self _)).cell; have fb := (KA.below hS (by omega)).cell; have f1 := fa 2; have f2 := fb 0; have f3 := fb 1; have f4 := fb 2; have f5 := (hS.cell (p := ⟨bo, off + j, none⟩) hbo).trans q2; clear fa fb; go_simp <;> with_reducible rfl
          simp only [Act.put, List.setIfInBounds_toArray, List.set_cons_zero, List.set_cons_succ]
          refine takeL 2 (v := ?_) rfl (by kernel_rfl) (by kernel_rfl) (by kernel_rfl) (fun _ _ _ h => h) ⟨by rfl, ?_⟩ (by assumption) ?_
          rotate_left
          · intro w hS; go_simp <;> with_reducible rfl
          simp only [Act.put, List.setIfInBounds_toArray, List.set_cons_zero, List.set_cons_succ]
          refine takeL 3 (v := ?_) rfl (by kernel_rfl) (by kernel_rfl) (by kernel_rfl) (fun _ _ _ h => h) ⟨by rfl, ?_⟩ (by assumption) ?_
          rotate_left
          · intro w hS; have fa := (K2.below hS (Nat.lt_succ_self _)).cell; have fb := (KA.below hS (by omega)).cell; have f1 := fa 2; have f2 := fb 0; have f3 := fb 1; have f4 := fb 2; have f5 := (hS.cell (p := ⟨bo, off + j, none⟩) hbo).trans q2; clear fa fb; go_simp <;> with_reducible rfl
          simp only [Act.put, List.setIfInBounds_toArray, List.set_cons_zero, List.set_cons_succ]
          refine takeL 4 (v := ?_) rfl (by kernel_rfl) (by kernel_rfl) (by kernel_rfl) (fun _ _ _ h => h) ⟨by rfl, ?_⟩ (by assumption) ?_
          rotate_left
          · intro w hS; go_simp <;> with_reducible rfl
          simp only [Act.put, List.setIfInBounds_toArray, List.set_cons_zero, List.set_cons_succ]
          refine takeL 5 (v := ?_) rfl (by kernel_rfl) (by kernel_rfl) (by kernel_rfl) (fun _ _ _ h => h) ⟨by rfl, ?_⟩ (by assumption) ?_
          rotate_left
          · intro w hS; go_simp <;> with_reducible rfl
          simp only [Act.put, List.setIfInBounds_toArray, List.set_cons_zero, List.set_cons_succ]
          refine takeL 6 (v := ?_) rfl (by kernel_rfl) (by kernel_rfl) (by kernel_rfl) (fun _ _ _ h => h) ⟨by rfl, ?_⟩ (by assumption) ?_
          rotate_left
          · intro w hS; have fa := (K2.below hS (Nat.lt_succ_self _)).cell; have fb := (KA.below hS (by omega)).cell; have f1 := fa 2; have f2 := fb 0; have f3 := fb 1; have f4 := fb 2; have f5 := (hS.cell (p := ⟨bo, off + j, none⟩) hbo).trans q2; clear fa fb; go_simp <;> with_reducible rfl
          simp only [Act.put, List.setIfInBounds_toArray, List.set_cons_zero, List.set_cons_succ]
          refine takeL 7 (v := ?_) rfl (by kernel_rfl) (by kernel_rfl) (by kernel_rfl) (fun _ _ _ h => h) ⟨by rfl, ?_⟩ (by assumption) ?_
          rotate_left
          · intro w hS; go_simp <;> with_reducible rfl
          simp only [Act.put, List.setIfInBounds_toArray, List.set_cons_zero, List.set_cons_succ]
          refine takeL 8 (v := ?_) rfl (by kernel_rfl) (by kernel_rfl) (by kernel_rfl) (fun _ _ _ h => h) ⟨by rfl, ?_⟩ (by assumption) ?_
          rotate_left
          · intro w hS; go_simp <;> with_reducible rfl
          simp only [Act.put, List.setIfInBounds_toArray, List.set_cons_zero, List.set_cons_succ]
          refine takeL 9 (v := ?_) rfl (by kernel_rfl) (by kernel_rfl) (by kernel_rfl) (fun _ _ _ h => h) ⟨by rfl, ?_⟩ (by assumption) ?_
          rotate_left
          · intro w hS; go_simp <;> with_reducible rfl
          simp only [Act.put, List.setIfInBounds_toArray, List.set_cons_zero, List.set_cons_succ]
          refine takeL 10 (v := ?_) rfl (by kernel_rfl) (by kernel_rfl) (by kernel_rfl) (fun _ _ _ h => h) ⟨by rfl, ?_⟩ (by assumption) ?_
          rotate_left
          · intro w hS; go_simp <;> with_reducible rfl
          simp only [Act.put, List.setIfInBounds_toArray, List.set_cons_zero, List.set_cons_succ]
          refine takeL 11 (v := ?_) rfl (by kernel_rfl) (by kernel_rfl) (by kernel_rfl) (fun _ _ _ h => h) ⟨by rfl, ?_⟩ (by assumption) ?_
          rotate_left
          · intro w hS; have fa := (K2.below hS (Nat.lt_succ_self _)).cell; have fb := (KA.below hS (by omega)).cell; have f1 := fa 2; have f2 := fb 0; have f3 := fb 1; have f4 := fb 2; have f5 := (hS.cell (p := ⟨bo, off + j, none⟩) hbo).trans q2; clear fa fb; go_simp <;> with_reducible rfl
          simp only [Act.put, List.setIfInBounds_toArray, List.set_cons_zero, List.set_cons_succ]
          refine oneL 12 rfl (by kernel_rfl) (by rfl) (fun K hK => ?_)
          go_simp
          have hd := hHeld
          refine hK.out _ _ (hHeld.alloc (Nat.le_trans hgx hHeld.size) _) (fun hHeld => ?_)
          clear hK K
          try simp only [Act.put, List.setIfInBounds_toArray, List.set_cons_zero, List.set_cons_succ]
          refine oneL 13 rfl (by kernel_rfl) (by rfl) (fun K hK => ?_)
          refine apV 22 33 24 (.slice none 0 0) Try.underlying22 (by kernel_rfl) (by decide) rfl _ _ rfl wr.drew (g + 1 + 1 + 1) bv (i * r + k) (rowL (i * r + k) (fun j => U (tix r c j))) (.slice ua un uc) rfl ho (by omega) (Nat.le_trans hgx hd.size) rfl rfl ?_
          intro gg cap1 w5 hown' hbel' hgr' _
          refine hK.out _ _ (hd.trans hbel') (fun hHeld => ?_)
          clear hK K
          try simp only [Act.put, List.setIfInBounds_toArray, List.set_cons_zero, List.set_cons_succ]
          refine takeL 14 (v := ?_) rfl (by kernel_rfl) (by kernel_rfl) (by kernel_rfl) (fun _ _ _ h => h) ⟨by rfl, ?_⟩ (by assumption) ?_
          rotate_left
          · intro w hS; go_simp <;> with_reducible rfl
          simp only [Act.put, List.setIfInBounds_toArray, List.set_cons_zero, List.set_cons_succ]
          refine doneL (by kernel_rfl) ?_ _
          refine lastL rfl (by rfl) ?_
          have K2 := K2.below hHeld (Nat.lt_succ_self _)
          have K1 := K1.below hHeld (by omega)
          have B0 := B0.trans (hHeld.mono (by omega))
          have B1 := B1.trans (hHeld.mono (by omega))
          have f2 := K2.free 2
          have c2 := K2.cell 2
          rw [HU.out] at hown'
          have K2' := Lib.hid (K2.set 2 (.slice (some ⟨gg, 0, none⟩) (i * r + k + 1) cap1))
          have K1' := Lib.hid (K1.far (a := ⟨g + 1 + 1, 2, none⟩) (by simp) (.slice (some ⟨gg, 0, none⟩) (i * r + k + 1) cap1))
          have ho' := Lib.hid ((show Orw w5 (g + 1 + 1 + 1) (.slice (some ⟨gg, 0, none⟩) (i * r + k + 1) cap1) (i * r + (k + 1)) (fun j => U (tix r c j)) from hown').low (a := ⟨g + 1 + 1, 2, none⟩) (Nat.lt_succ_self _) (.slice (some ⟨gg, 0, none⟩) (i * r + k + 1) cap1))
          have B0' := Lib.hid (B0.setCell (p := ⟨g + 1 + 1, 2, none⟩) (show w.heap.size ≤ g + 1 + 1 by omega) (.slice (some ⟨gg, 0, none⟩) (i * r + k + 1) cap1))
          have B1' := Lib.hid (B1.setCell (p := ⟨g + 1 + 1, 2, none⟩) (show g + 1 ≤ g + 1 + 1 by omega) (.slice (some ⟨gg, 0, none⟩) (i * r + k + 1) cap1))
          clear K2 K1 hown' ho B0 B1 hHeld hd hbel' hgr' KA q2
          go_wp2
          go_roundw
          case rel => exact ⟨k + 1, by omega, by go_num, _, K2'.out, K1'.out, ho'.out, B1'.out, B0'.out⟩
          case measure => simp [intOf] <;> omega
        · obtain rfl : k = r := by omega
          clear KA B1
          go_wp2
          go_roundw
          case rel => exact ⟨i + 1, by omega, by go_num, by rw [Nat.succ_mul]; exact st⟩
          case measure => simp [intOf] <;> omega
    · obtain rfl : i = c := by omega
      obtain ⟨bv, K2, K1, ho, B1', B0⟩ := st
      obtain ⟨aq, cq, rfl⟩ := ho.slc
      clear KA B1
      have HB := Lib.hid (fun (w' : World) (h : Below w.heap.size w w') => (fun j hj => by
        obtain ⟨_, h2, h3⟩ := HAT.out (tix r i j) (by rw [HX.out]; exact tix_lt hj)
        exact ⟨h2.next h, h3⟩ : ∀ j, j < i * r → Sl .u64 w' (U (tix r i j)) (xs.getD (tix r i j) []) ∧ wf W64 (xs.getD (tix r i j) [])))
      have c0 := K2.cell 0; have c1 := K2.cell 1; have c2 := K2.cell 2
      have e0 := K1.cell 0; have e1 := K1.cell 1; have e2 := K1.cell 2
      have f0 := K1.free 0; have f1 := K1.free 1; have f2 := K1.free 2
      have KF := ((K1.set 0 (.int .i64 i)).set 1 (.int .i64 r)).set 2 (.slice aq (i * r) cq)
      have d0 := KF.cell 0; have d1 := KF.cell 1; have d2 := KF.cell 2
      have hlt : g + 1 < g + 1 + 1 + 1 := by omega
      have hof := ((ho.low (a := ⟨g + 1, 0, none⟩) hlt (.int .i64 i)).low (a := ⟨g + 1, 1, none⟩) hlt (.int .i64 r)).low (a := ⟨g + 1, 2, none⟩) hlt (.slice aq (i * r) cq)
      have hgw2 : w.heap.size ≤ g + 1 := by omega
      have BF := ((B0.setCell (p := ⟨g + 1, 0, none⟩) hgw2 (.int .i64 i)).setCell (p := ⟨g + 1, 1, none⟩) hgw2 (.int .i64 r)).setCell (p := ⟨g + 1, 2, none⟩) hgw2 (.slice aq (i * r) cq)
      have FR := Lib.hid (show RetXs w i r (fun j => xs.getD (tix r i j) []) (.returned (.agg #[.int .i64 i, .int .i64 r, .slice aq (i * r) cq])) (((wr.setCell ⟨g + 1, 0, none⟩ (.int .i64 i)).setCell ⟨g + 1, 1, none⟩ (.int .i64 r)).setCell ⟨g + 1, 2, none⟩ (.slice aq (i * r) cq)) from ⟨_, _, rfl, ns_of_row hof (HB.out _ BF), BF⟩)
      clear KF K1 K2 hof BF ho B0 B1'
      go_wp2
      exact bodyPost_ret (v := .agg #[.int .i64 i, .int .i64 r, .slice aq (i * r) cq]) (by simp [results, Try.results47, go_sem, d0, d1, d2]) rfl FR.out

/-- Where the loop of the reference's sum stands. -/
def AdR (p : Nat) (w wb wr : World) (g : Nat) (r c : Int) (L : Nat) (F : Nat → Pol (Zp p)) (n : Nat) : Prop := ∃ v us, Blk 24 wr (g + 1 + 1 + 1) [.int .i64 r, .int .i64 c, v] ∧ Blk 24 wr (g + 1 + 1) [.int .i64 0, .int .i64 0, .slice none 0 0] ∧
  Qls p wr (g + 1 + 1 + 1 + 1) v us n L F ∧ Below (g + 1 + 1) wb wr ∧ Below w.heap.size w wr

set_option maxRecDepth 20000 in
set_option maxHeartbeats 2000000 in
theorem rf23_Add (p L : Nat) (a b : Value) (r c : Nat) (xs ys : List (List Nat)) (w : World) (hp : FP p) (hA : Xm w a r c xs) (hB : Xm w b r c ys) (hr : r ≤ 64) (hc : c ≤ 64) (hx : xs.length = r * c) (hy : ys.length = r * c) (hL : L ≤ 1000000)
    (hlx : ∀ j, j < r * c → (xs.getD j []).length ≤ L) (hly : ∀ j, j < r * c → (ys.getD j []).length ≤ L) :
    Calls Try.prog 50 #[a, b, .int .u64 p] w (RetXm p w r c L fun j => pl p (xs.getD j []) + pl p (ys.getD j [])) := by
  obtain ⟨aA, bA, oA, cA, UA, rfl, -, hao, hat⟩ := hA.open
  obtain ⟨aB, bB, oB, cB, UB, rfl, -, hbo, hbt⟩ := hB.open
  have hrc : r * c ≤ 64 * 64 := Nat.mul_le_mul hr hc
  obtain ⟨N, eN⟩ : ∃ N, N = r * c := ⟨_, rfl⟩
  rw [← eN] at hrc hx hy hlx hly
  rw [hx] at hao hat hA ⊢; rw [hy] at hbo hbt hB ⊢
  obtain ⟨wb, ew, KA, KB, KR, KT, B0, hsz⟩ := boxes4 w 24 24 24 24 [.int .i64 r, .int .i64 c, .slice aA N cA] [.int .i64 r, .int .i64 c, .slice aB N cB] [.int .i64 0, .int .i64 0, .slice none 0 0] [.int .i64 r, .int .i64 c, .slice none 0 0]
  clear hsz
  obtain ⟨F, eF⟩ : ∃ F : Nat → Pol (Zp p), F = fun j => pl p (xs.getD j []) + pl p (ys.getD j []) := ⟨_, rfl⟩
  rw [← eF]
  have HFF := Lib.hid eF
  have HAT := Lib.hid hat; have HBT := Lib.hid hbt; have HAO := Lib.hid hao; have HBO := Lib.hid hbo; have HLX := Lib.hid hlx; have HLY := Lib.hid hly; have HL := Lib.hid hL; have HP := Lib.hid hp; have EN := Lib.hid eN
  clear hA hB hat hbt hao hbo hx hy hlx hly hL hp eF eN
  go_enter Try.func50, Try.ntmps50
  go_upto_region 2 with (fail)
  rw [← ew]
  obtain ⟨g, eg⟩ : ∃ g, g = w.heap.size := ⟨_, rfl⟩
  rw [← eg] at KA KB KR KT ⊢
  have hgw : w.heap.size ≤ g := by omega
  clear ew eg
  have hwb : g + 1 + 1 + 1 < wb.heap.size := KT.lt
  have st : AdR p w wb wb g r c L F 0 := ⟨_, [], KT, KR, ⟨World.ownsRow_nil _ _ _ _, rfl, fun j v hv => by simp at hv⟩, Below.refl _ _, B0⟩
  have HKA := Lib.hid KA; have HKB := Lib.hid KB
  clear KT KR B0 KA KB
  go_wp2
  go_loopw [8] (fun jv wr => ∃ j : Nat, j ≤ N ∧ jv = .int .i64 j ∧ AdR p w wb wr g r c L F j) (fun jv _ => N - (intOf jv).toNat)
  case atStart => exact ⟨0, by omega, rfl, st⟩
  case round =>
    clear st
    obtain ⟨j, hj, rfl, st⟩ := hrel
    have B1 := st.choose_spec.choose_spec.2.2.2.1
    have KA := HKA.out.below B1 (by omega)
    have c2 := KA.cell 2
    by_cases hjn : j < N
    · obtain ⟨bv, us, K2, K1, ho, B1', B0⟩ := st
      have KB := HKB.out.below B1 (by omega)
      obtain ⟨rfl, hbA⟩ := HAO.out (by omega)
      obtain ⟨rfl, hbB⟩ := HBO.out (by omega)
      obtain ⟨q0, s0, -⟩ := HAT.out j hjn
      obtain ⟨q0', s0', -⟩ := HBT.out j hjn
      have q1 := (B0.cell (p := ⟨bA, oA + j, none⟩) hbA).trans q0
      have q2 := (B0.cell (p := ⟨bB, oB + j, none⟩) hbB).trans q0'
      have lx := HLX.out j hjn; have ly := HLY.out j hjn
      have hL := HL.out
      obtain ⟨x, ex⟩ : ∃ x, x = xs.getD j [] := ⟨_, rfl⟩
      obtain ⟨y, ey⟩ : ∃ y, y = ys.getD j [] := ⟨_, rfl⟩
      rw [← ex] at s0 lx; rw [← ey] at s0' ly
      have HFJ := Lib.hid (show F j = pl p x + pl p y by rw [HFF.out, ex, ey])
      clear q0 q0' ex ey
      go_upto_region 5 with (fail)
      clear c2
      have bd := Drawn.below (w' := wr.drew) ⟨1, rfl⟩ wr.heap.size
      have q3 : wr.drew.cell? ⟨bA, oA + j, none⟩ = some (UA j) := q1
      have q4 : wr.drew.cell? ⟨bB, oB + j, none⟩ = some (UB j) := q2
      have l1 : bA < g + 1 + 1 + 1 + 1 := by omega
      have l2 : bB < g + 1 + 1 + 1 + 1 := by omega
      replace K2 := K2.next bd; replace K1 := K1.next bd; replace ho := ho.next bd; replace KA := KA.next bd; replace KB := KB.next bd
      have hgx : g + 1 + 1 + 1 + 1 ≤ wr.drew.heap.size := by have := K2.lt; omega
      replace B0 := B0.trans (bd.mono B0.size)
      replace B1 := B1.trans (bd.mono (show g + 1 + 1 ≤ wr.heap.size by have : wr.drew.heap.size = wr.heap.size := rfl; omega))
      have hw4 : w.heap.size ≤ g + 1 + 1 + 1 + 1 := by omega
      clear bd B1' q1 q2
      refine startP (S := (fun w' => Below (g + 1 + 1 + 1 + 1) wr.drew w')) (by kernel_rfl) _ rfl rfl rfl (by kernel_rfl) (Below.refl _ _) (fun hHeld => ?_)
      refine takeL 0 (v := ?_) rfl (by kernel_rfl) (by kernel_rfl) (by kernel_rfl) (fun _ _ _ h => h) ⟨by rfl, ?_⟩ (by assumption) ?_
      rotate_left
      · intro w hS; go_simp <;> with_reducible rfl
      simp only [Act.put, List.setIfInBounds_toArray, List.set_cons_zero, List.set_cons_succ]
      refine takeL 1 (v := ?_) rfl (by kernel_rfl) (by kernel_rfl) (by kernel_rfl) (fun _ _ _ h => h) ⟨by rfl, ?_⟩ (by assumption) ?_
      rotate_left
      · intro w hS; have fa := (K2.below hS (Nat.lt_succ_self _)).cell; have fb := (KA.below hS (by omega)).cell; have fc := (KB.below hS (by omega)).cell; have f1 := fa 2; have f2 := fb 2; have f3 := fc 2; have f5 := (hS.cell (p := ⟨bA, oA + j, none⟩) l1).trans q3; have f6 := (hS.cell (p := ⟨bB, oB + j, none⟩) l2).trans q4; clear fa fb fc; go_simp <;> with_reducible rfl
      simp only [Act.put, List.setIfInBounds_toArray, List.set_cons_zero, List.set_cons_succ]
      refine takeL 2 (v := ?_) rfl (by kernel_rfl) (by kernel_rfl) (by kernel_rfl) (fun _ _ _ h => h) ⟨by rfl, ?_⟩ (by assumption) ?_
      rotate_left
      · intro w hS; go_simp <;> with_reducible rfl
      simp only [Act.put, List.setIfInBounds_toArray, List.set_cons_zero, List.set_cons_succ]
      refine takeL 3 (v := ?_) rfl (by kernel_rfl) (by kernel_rfl) (by kernel_rfl) (fun _ _ _ h => h) ⟨by rfl, ?_⟩ (by assumption) ?_
      rotate_left
      · intro w hS; have fa := (K2.below hS (Nat.lt_succ_self _)).cell; have fb := (KA.below hS (by omega)).cell; have fc := (KB.below hS (by omega)).cell; have f1 := fa 2; have f2 := fb 2; have f3 := fc 2; have f5 := (hS.cell (p := ⟨bA, oA + j, none⟩) l1).trans q3; have f6 := (hS.cell (p := ⟨bB, oB + j, none⟩) l2).trans q4; clear fa fb fc; go_simp <;> with_reducible rfl
      simp only [Act.put, List.setIfInBounds_toArray, List.set_cons_zero, List.set_cons_succ]
      refine takeL 4 (v := ?_) rfl (by kernel_rfl) (by kernel_rfl) (by kernel_rfl) (fun _ _ _ h => h) ⟨by rfl, ?_⟩ (by assumption) ?_
      rotate_left
      · intro w hS; go_simp <;> with_reducible rfl
      simp only [Act.put, List.setIfInBounds_toArray, List.set_cons_zero, List.set_cons_succ]
      refine takeL 5 (v := ?_) rfl (by kernel_rfl) (by kernel_rfl) (by kernel_rfl) (fun _ _ _ h => h) ⟨by rfl, ?_⟩ (by assumption) ?_
      rotate_left
      · intro w hS; go_simp <;> with_reducible rfl
      simp only [Act.put, List.setIfInBounds_toArray, List.set_cons_zero, List.set_cons_succ]
      refine takeL 6 (v := ?_) rfl (by kernel_rfl) (by kernel_rfl) (by kernel_rfl) (fun _ _ _ h => h) ⟨by rfl, ?_⟩ (by assumption) ?_
      rotate_left
      · intro w hS; have fa := (K2.below hS (Nat.lt_succ_self _)).cell; have fb := (KA.below hS (by omega)).cell; have fc := (KB.below hS (by omega)).cell; have f1 := fa 2; have f2 := fb 2; have f3 := fc 2; have f5 := (hS.cell (p := ⟨bA, oA + j, none⟩) l1).trans q3; have f6 := (hS.cell (p := ⟨bB, oB + j, none⟩) l2).trans q4; clear fa fb fc; go_simp <;> with_reducible rfl
      simp only [Act.put, List.setIfInBounds_toArray, List.set_cons_zero, List.set_cons_succ]
      refine takeL 7 (v := ?_) rfl (by kernel_rfl) (by kernel_rfl) (by kernel_rfl) (fun _ _ _ h => h) ⟨by rfl, ?_⟩ (by assumption) ?_
      rotate_left
      · intro w hS; go_simp <;> with_reducible rfl
      simp only [Act.put, List.setIfInBounds_toArray, List.set_cons_zero, List.set_cons_succ]
      refine takeL 9 (v := ?_) rfl (by kernel_rfl) (by kernel_rfl) (by kernel_rfl) (fun _ _ _ h => h) ⟨by rfl, ?_⟩ (by assumption) ?_
      rotate_left
      · intro w hS; go_simp <;> with_reducible rfl
      simp only [Act.put, List.setIfInBounds_toArray, List.set_cons_zero, List.set_cons_succ]
      refine takeL 10 (v := ?_) rfl (by kernel_rfl) (by kernel_rfl) (by kernel_rfl) (fun _ _ _ h => h) ⟨by rfl, ?_⟩ (by assumption) ?_
      rotate_left
      · intro w hS; have fa := (K2.below hS (Nat.lt_succ_self _)).cell; have fb := (KA.below hS (by omega)).cell; have fc := (KB.below hS (by omega)).cell; have f1 := fa 2; have f2 := fb 2; have f3 := fc 2; have f5 := (hS.cell (p := ⟨bA, oA + j, none⟩) l1).trans q3; have f6 := (hS.cell (p := ⟨bB, oB + j, none⟩) l2).trans q4; clear fa fb fc; go_simp <;> with_reducible rfl
      simp only [Act.put, List.setIfInBounds_toArray, List.set_cons_zero, List.set_cons_succ]
      refine takeL 11 (v := ?_) rfl (by kernel_rfl) (by kernel_rfl) (by kernel_rfl) (fun _ _ _ h => h) ⟨by rfl, ?_⟩ (by assumption) ?_
      rotate_left
      · intro w hS; go_simp <;> with_reducible rfl
      simp only [Act.put, List.setIfInBounds_toArray, List.set_cons_zero, List.set_cons_succ]
      refine takeL 12 (v := ?_) rfl (by kernel_rfl) (by kernel_rfl) (by kernel_rfl) (fun _ _ _ h => h) ⟨by rfl, ?_⟩ (by assumption) ?_
      rotate_left
      · intro w hS; go_simp <;> with_reducible rfl
      simp only [Act.put, List.setIfInBounds_toArray, List.set_cons_zero, List.set_cons_succ]
      refine takeL 13 (v := ?_) rfl (by kernel_rfl) (by kernel_rfl) (by kernel_rfl) (fun _ _ _ h => h) ⟨by rfl, ?_⟩ (by assumption) ?_
      rotate_left
      · intro w hS; have fa := (K2.below hS (Nat.lt_succ_self _)).cell; have fb := (KA.below hS (by omega)).cell; have fc := (KB.below hS (by omega)).cell; have f1 := fa 2; have f2 := fb 2; have f3 := fc 2; have f5 := (hS.cell (p := ⟨bA, oA + j, none⟩) l1).trans q3; have f6 := (hS.cell (p := ⟨bB, oB + j, none⟩) l2).trans q4; clear fa fb fc; go_simp <;> with_reducible rfl
      simp only [Act.put, List.setIfInBounds_toArray, List.set_cons_zero, List.set_cons_succ]
      refine takeL 14 (v := ?_) rfl (by kernel_rfl) (by kernel_rfl) (by kernel_rfl) (fun _ _ _ h => h) ⟨by rfl, ?_⟩ (by assumption) ?_
      rotate_left
      · intro w hS; go_simp <;> with_reducible rfl
      simp only [Act.put, List.setIfInBounds_toArray, List.set_cons_zero, List.set_cons_succ]
      refine takeL 16 (v := ?_) rfl (by kernel_rfl) (by kernel_rfl) (by kernel_rfl) (fun _ _ _ h => h) ⟨by rfl, ?_⟩ (by assumption) ?_
      rotate_left
      · intro w hS; go_simp <;> with_reducible rfl
      simp only [Act.put, List.setIfInBounds_toArray, List.set_cons_zero, List.set_cons_succ]
      refine oneL 8 rfl (by kernel_rfl) (by rfl) (fun K hK => ?_)
      go_simp
      go_at_call 60
      (with_reducible refine (ref9_Norm p (UA j) x _ HP.out (s0.next (B0.trans (hHeld.mono hw4))) (by omega)).mono ?_); rintro e w3 ⟨r3, z3, rfl, o3, n3, v3, l3, b3⟩
      have t3 := o3.sl; clear o3
      refine hK.out _ _ (hHeld.trans (b3.mono (Nat.le_trans hgx hHeld.size))) (fun hHeld => ?_)
      clear hK K
      try simp only [Act.put, List.setIfInBounds_toArray, List.set_cons_zero, List.set_cons_succ]
      refine oneL 15 rfl (by kernel_rfl) (by rfl) (fun K hK => ?_)
      go_simp
      go_at_call 60
      (with_reducible refine (ref9_Norm p (UB j) y _ HP.out (s0'.next (B0.trans (hHeld.mono hw4))) (by omega)).mono ?_); rintro e w4 ⟨r4, z4, rfl, o4, n4, v4, l4, b4⟩
      have t4 := o4.sl; clear o4; replace t3 := t3.next b4
      refine hK.out _ _ (hHeld.trans (b4.mono (Nat.le_trans hgx hHeld.size))) (fun hHeld => ?_)
      clear hK K
      try simp only [Act.put, List.setIfInBounds_toArray, List.set_cons_zero, List.set_cons_succ]
      refine oneL 17 rfl (by kernel_rfl) (by rfl) (fun K hK => ?_)
      go_simp
      go_at_call 107
      (with_reducible refine (ref9_Add p r3 r4 z3 z4 _ HP.out t3 t4 (by omega) (by omega)).mono ?_); rintro e w5 ⟨rq, z5, rfl, o5, n5, v5, l5, b5⟩; obtain ⟨aq, cq, eq9⟩ := o5.sliced; subst eq9; have hz5 : wr.drew.heap.size ≤ w4.heap.size := Nat.le_trans b3.size b4.size
      refine hK.out _ _ (hHeld.trans (b5.mono (Nat.le_trans hgx hHeld.size))) (fun hHeld => ?_)
      clear hK K
      try simp only [Act.put, List.setIfInBounds_toArray, List.set_cons_zero, List.set_cons_succ]
      refine oneL 18 rfl (by kernel_rfl) (by rfl) (fun K hK => ?_)
      go_simp
      have hd := hHeld
      refine hK.out _ _ (hHeld.alloc (Nat.le_trans hgx hHeld.size) _) (fun hHeld => ?_)
      clear hK K
      try simp only [Act.put, List.setIfInBounds_toArray, List.set_cons_zero, List.set_cons_succ]
      refine oneL 19 rfl (by kernel_rfl) (by rfl) (fun K hK => ?_)
      have hq := ((ho.next b3).next b4).next b5
      refine apV 22 33 24 (.slice none 0 0) Try.underlying22 (by kernel_rfl) (by decide) rfl _ _ rfl w5 (g + 1 + 1 + 1 + 1) bv j us (.slice aq z5.length cq) rfl hq.1 (by omega) (Nat.le_trans hgx hd.size) rfl rfl ?_
      intro gg cap1 w6 hown' hbel' hgr' _
      refine hK.out _ _ (hd.trans hbel') (fun hHeld => ?_)
      clear hK K
      try simp only [Act.put, List.setIfInBounds_toArray, List.set_cons_zero, List.set_cons_succ]
      refine takeL 20 (v := ?_) rfl (by kernel_rfl) (by kernel_rfl) (by kernel_rfl) (fun _ _ _ h => h) ⟨by rfl, ?_⟩ (by assumption) ?_
      rotate_left
      · intro w hS; go_simp <;> with_reducible rfl
      simp only [Act.put, List.setIfInBounds_toArray, List.set_cons_zero, List.set_cons_succ]
      refine doneL (by kernel_rfl) ?_ _
      refine lastL rfl (by rfl) ?_
      have hqq := hq.push hgr' hown' o5 (Nat.le_trans hgx hz5) n5 (by rw [v5, v3, v4, HFJ.out]) (by omega)
      have K2 := K2.below hHeld (Nat.lt_succ_self _)
      have K1 := K1.below hHeld (by omega)
      have B0 := B0.trans (hHeld.mono (by omega))
      have B1 := B1.trans (hHeld.mono (by omega))
      have f2 := K2.free 2
      have c2 := K2.cell 2
      have K2' := Lib.hid (K2.set 2 (.slice (some ⟨gg, 0, none⟩) (j + 1) cap1))
      have K1' := Lib.hid (K1.far (a := ⟨g + 1 + 1 + 1, 2, none⟩) (by simp) (.slice (some ⟨gg, 0, none⟩) (j + 1) cap1))
      have ho' := Lib.hid (hqq.low (a := ⟨g + 1 + 1 + 1, 2, none⟩) (Nat.lt_succ_self _) (.slice (some ⟨gg, 0, none⟩) (j + 1) cap1))
      have B0' := Lib.hid (B0.setCell (p := ⟨g + 1 + 1 + 1, 2, none⟩) (show w.heap.size ≤ g + 1 + 1 + 1 by omega) (.slice (some ⟨gg, 0, none⟩) (j + 1) cap1))
      have B1' := Lib.hid (B1.setCell (p := ⟨g + 1 + 1 + 1, 2, none⟩) (show g + 1 + 1 ≤ g + 1 + 1 + 1 by omega) (.slice (some ⟨gg, 0, none⟩) (j + 1) cap1))
      clear K2 K1 hown' hqq hq ho B0 B1 hHeld hd hbel' hgr' KA KB q3 q4 o5 n5 v5 l5 v3 v4 l3 l4 n3 n4 b3 b4 b5 s0 s0' t3 t4
      go_wp2
      go_roundw
      case rel => exact ⟨j + 1, by omega, by go_num, _, _, K2'.out, K1'.out, ho'.out, B1'.out, B0'.out⟩
      case measure => simp [intOf] <;> omega
    · obtain rfl : j = N := by omega
      obtain ⟨bv, us, K2, K1, ho, B1', B0⟩ := st
      rw [EN.out] at ho
      obtain ⟨aq, cq, rfl⟩ := ho.slc
      clear KA B1
      have c0 := K2.cell 0; have c1 := K2.cell 1; have c2 := K2.cell 2
      have e0 := K1.cell 0; have e1 := K1.cell 1; have e2 := K1.cell 2
      have f0 := K1.free 0; have f1 := K1.free 1; have f2 := K1.free 2
      have KF := ((K1.set 0 (.int .i64 r)).set 1 (.int .i64 c)).set 2 (.slice aq (r * c) cq)
      have d0 := KF.cell 0; have d1 := KF.cell 1; have d2 := KF.cell 2
      have hlt : g + 1 + 1 < g + 1 + 1 + 1 + 1 := by omega
      have hof := ((ho.low (a := ⟨g + 1 + 1, 0, none⟩) hlt (.int .i64 r)).low (a := ⟨g + 1 + 1, 1, none⟩) hlt (.int .i64 c)).low (a := ⟨g + 1 + 1, 2, none⟩) hlt (.slice aq (r * c) cq)
      have hgw2 : w.heap.size ≤ g + 1 + 1 := by omega
      have BF := ((B0.setCell (p := ⟨g + 1 + 1, 0, none⟩) hgw2 (.int .i64 r)).setCell (p := ⟨g + 1 + 1, 1, none⟩) hgw2 (.int .i64 c)).setCell (p := ⟨g + 1 + 1, 2, none⟩) hgw2 (.slice aq (r * c) cq)
      have FR := Lib.hid (show RetXm p w r c L F (.returned (.agg #[.int .i64 r, .int .i64 c, .slice aq (r * c) cq])) (((wr.setCell ⟨g + 1 + 1, 0, none⟩ (.int .i64 r)).setCell ⟨g + 1 + 1, 1, none⟩ (.int .i64 c)).setCell ⟨g + 1 + 1, 2, none⟩ (.slice aq (r * c) cq)) from ⟨_, _, us, rfl, hof.mono (by omega), BF⟩)
      clear KF K1 K2 hof BF ho B0 B1'
      go_wp2
      exact bodyPost_ret (v := .agg #[.int .i64 r, .int .i64 c, .slice aq (r * c) cq]) (by simp [results, Try.results50, go_sem, d0, d1, d2]) rfl FR.out

end Go.Proofs.Ythghdjpjbngllaa
/- The reference of chapter 23: products, determinants. -/
namespace Go.Proofs.Ythghdjpjbngllaa
open Go.RowKit

theorem AdR.next {p : Nat} {w wb wr w' : World} {g : Nat} {r c : Int} {L : Nat} {F : Nat → Pol (Zp p)} {n : Nat} (h : AdR p w wb wr g r c L F n) (hg : g + 1 + 1 ≤ wr.heap.size) (b : Below wr.heap.size wr w') : AdR p w wb w' g r c L F n := by
  obtain ⟨v, us, K1, K2, o, B1, B2⟩ := h
  exact ⟨v, us, K1.next b, K2.next b, o.next b, B1.trans (b.mono hg), B2.trans (b.mono B2.size)⟩
theorem AdR.big {p : Nat} {w wb wr : World} {g : Nat} {r c : Int} {L : Nat} {F : Nat → Pol (Zp p)} {n : Nat} (h : AdR p w wb wr g r c L F n) : g + 1 + 1 + 1 < wr.heap.size := by
  obtain ⟨v, us, K1, _⟩ := h; exact K1.lt
/-- A polynomial that is owned. -/
def Opl (p : Nat) (w : World) (base : Nat) (v : Value) (L : Nat) (f : Pol (Zp p)) : Prop := ∃ zs, Own .u64 27 w base v zs ∧ Nrm p zs ∧ pl p zs = f ∧ zs.length ≤ L
set_option maxRecDepth 20000 in
set_option maxHeartbeats 4000000 in
theorem rf23_Mul (p L M : Nat) (a b : Value) (r m c : Nat) (xs ys : List (List Nat)) (w : World) (hp : FP p) (hA : Xm w a r m xs) (hB : Xm w b m c ys) (hr : r ≤ 64) (hm : m ≤ 64) (hc : c ≤ 64) (hx : xs.length = r * m) (hy : ys.length = m * c) (hM : M ≤ 100000) (hL : L = 2 * M)
    (hlx : ∀ j, j < xs.length → (xs.getD j []).length ≤ M) (hly : ∀ j, j < ys.length → (ys.getD j []).length ≤ M) (F : Nat → Pol (Zp p)) (hF : ∀ i k, i < r → k < c → F (i * c + k) = dotq p xs ys m c i k m) :
    Calls Try.prog 51 #[a, b, .int .u64 p] w (RetXm p w r c L F) := by
  obtain ⟨aA, cA, rfl⟩ := hA.agg
  obtain ⟨aB, cB, rfl⟩ := hB.agg
  have hrc : r * c ≤ 64 * 64 := Nat.mul_le_mul hr hc
  obtain ⟨wb, ew, KA, KB, KR, KT, B0, hsz⟩ := boxes4 w 24 24 24 24 [.int .i64 r, .int .i64 m, .slice aA xs.length cA] [.int .i64 m, .int .i64 c, .slice aB ys.length cB] [.int .i64 0, .int .i64 0, .slice none 0 0] [.int .i64 r, .int .i64 c, .slice none 0 0]
  clear hsz
  have HX := Lib.hid hx; have HY := Lib.hid hy; have HLX := Lib.hid hlx; have HLY := Lib.hid hly; have HF := Lib.hid hF; have HL := Lib.hid hL; have HP := Lib.hid hp
  clear hx hy hlx hly hF hL hp
  go_enter Try.func51, Try.ntmps51
  go_upto_region 2 with (fail)
  rw [← ew]
  obtain ⟨g, eg⟩ : ∃ g, g = w.heap.size := ⟨_, rfl⟩
  rw [← eg] at KA KB KR KT ⊢
  have hgw : w.heap.size ≤ g := by omega
  clear ew eg
  have hwb : g + 1 + 1 + 1 < wb.heap.size := KT.lt
  have st : AdR p w wb wb g r c L F (0 * c) := ⟨_, [], KT, KR, by rw [Nat.zero_mul]; exact ⟨World.ownsRow_nil _ _ _ _, rfl, fun j v hv => by simp at hv⟩, Below.refl _ _, B0⟩
  have HA := Lib.hid hA; have HB := Lib.hid hB; have HKA := Lib.hid KA; have HKB := Lib.hid KB
  clear hA hB KT KR B0 KA KB
  go_wp2
  go_loopw [8] (fun iv wr => ∃ i : Nat, i ≤ r ∧ iv = .int .i64 i ∧ AdR p w wb wr g r c L F (i * c)) (fun iv _ => r - (intOf iv).toNat)
  case atStart => exact ⟨0, by omega, rfl, st⟩
  case round =>
    clear st
    obtain ⟨i, hi, rfl, st⟩ := hrel
    have B1 := st.choose_spec.choose_spec.2.2.2.1
    have KA := HKA.out.below B1 (by omega)
    have c0 := KA.cell 0
    by_cases hir : i < r
    · go_wp2
      clear c0 KA B1
      go_loopw [9] (fun kv wr => ∃ k : Nat, k ≤ c ∧ kv = .int .i64 k ∧ AdR p w wb wr g r c L F (i * c + k)) (fun kv _ => c - (intOf kv).toNat)
      case atStart => exact ⟨0, by omega, rfl, st⟩
      case round =>
        clear st
        obtain ⟨k, hk, rfl, st⟩ := hrel
        have B1 := st.choose_spec.choose_spec.2.2.2.1
        have KB := HKB.out.below B1 (by omega)
        have c1 := KB.cell 1
        by_cases hkc : k < c
        · go_wp2
          clear c1 KB B1
          go_loopw [11, 10] (fun jv xv wr => ∃ j : Nat, j ≤ m ∧ jv = .int .i64 j ∧ Opl p wr (g + 1 + 1 + 1 + 1) xv L (dotq p xs ys m c i k j) ∧ AdR p w wb wr g r c L F (i * c + k)) (fun jv _ _ => m - (intOf jv).toNat)
          case atStart => exact ⟨0, by omega, rfl, ⟨[], Own.nil _ _ _ _, nrm_nil p, pl_nil p, Nat.zero_le _⟩, st⟩
          case round =>
            clear st
            obtain ⟨j, hj, rfl, PX, st⟩ := hrel
            have hbig := st.big
            have B1 := st.choose_spec.choose_spec.2.2.2.1
            have B2 := st.choose_spec.choose_spec.2.2.2.2
            have KA := HKA.out.below B1 (by omega)
            have c1 := KA.cell 1
            by_cases hjm : j < m
            · obtain ⟨zx, ox, nx, vx, lx⟩ := PX
              rename_i xv _ _ _ _ _ _ _ _ _ _ _ _ _ _ _
              go_upto_region 12 with (fail)
              clear c1 KA
              have bd := Drawn.below (w' := wr.drew) ⟨1, rfl⟩ wr.heap.size
              have hbig : g + 1 + 1 + 1 < wr.drew.heap.size := hbig
              replace st := st.next (by omega) bd
              replace ox := ox.next bd
              replace B1 := B1.trans (bd.mono (show g + 1 + 1 ≤ wr.heap.size by have : wr.drew.heap.size = wr.heap.size := rfl; omega))
              replace B2 := B2.trans (bd.mono B2.size)
              clear bd
              have KA := HKA.out.below B1 (by omega); have KB := HKB.out.below B1 (by omega)
              have sx := ox.sl
              have hxj : i * m + j < xs.length := at_lt HX.out hir hjm
              have hyj : j * c + k < ys.length := at_lt HY.out hjm hkc
              have hlx := HLX.out _ hxj; have hly := HLY.out _ hyj; have hL := HL.out
              obtain ⟨u, eu⟩ : ∃ u, u = xs.getD (i * m + j) [] := ⟨_, rfl⟩
              obtain ⟨v, ev⟩ : ∃ v, v = ys.getD (j * c + k) [] := ⟨_, rfl⟩
              have hatA := Lib.hid (fun w' (hb : Below wr.drew.heap.size wr.drew w') => rf23_At _ r m i j p xs w' HP.out (HA.out.next (B2.trans (hb.mono B2.size))) (by omega) (by omega) (by omega) hxj (by omega))
              have hatB := Lib.hid (fun w' (hb : Below wr.drew.heap.size wr.drew w') => rf23_At _ m c j k p ys w' HP.out (HB.out.next (B2.trans (hb.mono B2.size))) (by omega) (by omega) (by omega) hyj (by omega))
              rw [← eu] at hatA hlx; rw [← ev] at hatB hly
              have UU := Lib.hid eu; have VV := Lib.hid ev; have VX := Lib.hid vx
              clear eu ev vx hxj hyj
              refine startL (S := (fun w' => Below (wr.drew).heap.size (wr.drew) w')) (by kernel_rfl) (Below.refl _ _) (fun hHeld => ?_)
              refine takeL 0 (v := ?_) rfl (by kernel_rfl) (by kernel_rfl) (by kernel_rfl) (fun _ _ _ h => h) ⟨by rfl, ?_⟩ (by assumption) ?_
              rotate_left
              · intro w hS; go_simp <;> with_reducible rfl
              simp only [Act.put, List.setIfInBounds_toArray, List.set_cons_zero, List.set_cons_succ]
              refine takeL 1 (v := ?_) rfl (by kernel_rfl) (by kernel_rfl) (by kernel_rfl) (fun _ _ _ h => h) ⟨by rfl, ?_⟩ (by assumption) ?_
              rotate_left
              · intro w hS; have fa := KA.at hS; have f1 := fa 0; have f2 := fa 1; have f3 := fa 2; clear fa; have fb := KB.at hS; have f4 := fb 0; have f5 := fb 1; have f6 := fb 2; clear fb; go_simp <;> with_reducible rfl
              simp only [Act.put, List.setIfInBounds_toArray, List.set_cons_zero, List.set_cons_succ]
              refine takeL 2 (v := ?_) rfl (by kernel_rfl) (by kernel_rfl) (by kernel_rfl) (fun _ _ _ h => h) ⟨by rfl, ?_⟩ (by assumption) ?_
              rotate_left
              · intro w hS; go_simp <;> with_reducible rfl
              simp only [Act.put, List.setIfInBounds_toArray, List.set_cons_zero, List.set_cons_succ]
              refine takeL 3 (v := ?_) rfl (by kernel_rfl) (by kernel_rfl) (by kernel_rfl) (fun _ _ _ h => h) ⟨by rfl, ?_⟩ (by assumption) ?_
              rotate_left
              · intro w hS; go_simp <;> with_reducible rfl
              simp only [Act.put, List.setIfInBounds_toArray, List.set_cons_zero, List.set_cons_succ]
              refine takeL 4 (v := ?_) rfl (by kernel_rfl) (by kernel_rfl) (by kernel_rfl) (fun _ _ _ h => h) ⟨by rfl, ?_⟩ (by assumption) ?_
              rotate_left
              · intro w hS; go_simp <;> with_reducible rfl
              simp only [Act.put, List.setIfInBounds_toArray, List.set_cons_zero, List.set_cons_succ]
              refine takeL 6 (v := ?_) rfl (by kernel_rfl) (by kernel_rfl) (by kernel_rfl) (fun _ _ _ h => h) ⟨by rfl, ?_⟩ (by assumption) ?_
              rotate_left
              · intro w hS; have fa := KA.at hS; have f1 := fa 0; have f2 := fa 1; have f3 := fa 2; clear fa; have fb := KB.at hS; have f4 := fb 0; have f5 := fb 1; have f6 := fb 2; clear fb; go_simp <;> with_reducible rfl
              simp only [Act.put, List.setIfInBounds_toArray, List.set_cons_zero, List.set_cons_succ]
              refine takeL 7 (v := ?_) rfl (by kernel_rfl) (by kernel_rfl) (by kernel_rfl) (fun _ _ _ h => h) ⟨by rfl, ?_⟩ (by assumption) ?_
              rotate_left
              · intro w hS; go_simp <;> with_reducible rfl
              simp only [Act.put, List.setIfInBounds_toArray, List.set_cons_zero, List.set_cons_succ]
              refine takeL 8 (v := ?_) rfl (by kernel_rfl) (by kernel_rfl) (by kernel_rfl) (fun _ _ _ h => h) ⟨by rfl, ?_⟩ (by assumption) ?_
              rotate_left
              · intro w hS; go_simp <;> with_reducible rfl
              simp only [Act.put, List.setIfInBounds_toArray, List.set_cons_zero, List.set_cons_succ]
              refine takeL 9 (v := ?_) rfl (by kernel_rfl) (by kernel_rfl) (by kernel_rfl) (fun _ _ _ h => h) ⟨by rfl, ?_⟩ (by assumption) ?_
              rotate_left
              · intro w hS; go_simp <;> with_reducible rfl
              simp only [Act.put, List.setIfInBounds_toArray, List.set_cons_zero, List.set_cons_succ]
              refine takeL 11 (v := ?_) rfl (by kernel_rfl) (by kernel_rfl) (by kernel_rfl) (fun _ _ _ h => h) ⟨by rfl, ?_⟩ (by assumption) ?_
              rotate_left
              · intro w hS; go_simp <;> with_reducible rfl
              simp only [Act.put, List.setIfInBounds_toArray, List.set_cons_zero, List.set_cons_succ]
              refine takeL 13 (v := ?_) rfl (by kernel_rfl) (by kernel_rfl) (by kernel_rfl) (fun _ _ _ h => h) ⟨by rfl, ?_⟩ (by assumption) ?_
              rotate_left
              · intro w hS; go_simp <;> with_reducible rfl
              simp only [Act.put, List.setIfInBounds_toArray, List.set_cons_zero, List.set_cons_succ]
              refine oneL 5 rfl (by kernel_rfl) (by rfl) (fun K hK => ?_)
              go_simp
              go_at_call 81
              (refine (hatA.out _ hHeld).mono ?_); rintro e w5 ⟨r5, z5, rfl, o5, n5, v5, l5, b5⟩
              have t5 := o5.sl; clear o5
              refine hK.out _ _ (hHeld.trans (b5.mono hHeld.size)) (fun hHeld => ?_)
              clear hK K
              try simp only [Act.put, List.setIfInBounds_toArray, List.set_cons_zero, List.set_cons_succ]
              refine oneL 10 rfl (by kernel_rfl) (by rfl) (fun K hK => ?_)
              go_simp
              go_at_call 81
              (refine (hatB.out _ hHeld).mono ?_); rintro e w6 ⟨r6, z6, rfl, o6, n6, v6, l6, b6⟩
              have t6 := o6.sl; clear o6; replace t5 := t5.next b6
              refine hK.out _ _ (hHeld.trans (b6.mono hHeld.size)) (fun hHeld => ?_)
              clear hK K
              try simp only [Act.put, List.setIfInBounds_toArray, List.set_cons_zero, List.set_cons_succ]
              refine oneL 12 rfl (by kernel_rfl) (by rfl) (fun K hK => ?_)
              go_simp
              go_at_call 108
              (with_reducible refine (ref9_Mul p r5 r6 z5 z6 _ HP.out t5 t6 (by omega) (by omega)).mono ?_); rintro e w7 ⟨r7, z7, rfl, o7, n7, v7, l7, b7⟩
              have t7 := o7.sl; clear o7
              refine hK.out _ _ (hHeld.trans (b7.mono hHeld.size)) (fun hHeld => ?_)
              clear hK K
              try simp only [Act.put, List.setIfInBounds_toArray, List.set_cons_zero, List.set_cons_succ]
              refine oneL 14 rfl (by kernel_rfl) (by rfl) (fun K hK => ?_)
              go_simp
              go_at_call 107
              (with_reducible refine (ref9_Add p _ r7 zx z7 _ HP.out (sx.next hHeld) t7 (by omega) (by omega)).mono ?_); rintro e w8 ⟨r8, z8, rfl, o8, n8, v8, l8, b8⟩; have hw7 := hHeld.size
              refine hK.out _ _ (hHeld.trans (b8.mono hHeld.size)) (fun hHeld => ?_)
              clear hK K
              try simp only [Act.put, List.setIfInBounds_toArray, List.set_cons_zero, List.set_cons_succ]
              refine takeL 15 (v := ?_) rfl (by kernel_rfl) (by kernel_rfl) (by kernel_rfl) (fun _ _ _ h => h) ⟨by rfl, ?_⟩ (by assumption) ?_
              rotate_left
              · intro w hS; go_simp <;> with_reducible rfl
              simp only [Act.put, List.setIfInBounds_toArray, List.set_cons_zero, List.set_cons_succ]
              refine doneL (by kernel_rfl) ?_ _
              have st := Lib.hid (st.next (by omega) hHeld)
              have PN := Lib.hid (show Opl p w8 (g + 1 + 1 + 1 + 1) r8 L (dotq p xs ys m c i k (j + 1)) from ⟨z8, o8.mono (by omega), n8, by rw [v8, v7, v5, v6, dotq_succ, VX.out, UU.out, VV.out], by omega⟩)
              clear B1 B2 KA KB hHeld hatA hatB ox sx nx o8 n8 v8 v7 v5 v6 l5 l6 l7 l8 t5 t6 t7 b5 b6 b7 b8 n5 n6 n7
              go_wp2
              go_roundw
              case rel => exact ⟨j + 1, by omega, by go_num, PN.out, st.out⟩
              case measure => simp [intOf] <;> omega
            · obtain rfl : j = m := by omega
              obtain ⟨zx, ox, nx, vx, lx⟩ := PX
              obtain ⟨bv, us, K2, K1, ho, B3, B0⟩ := st
              obtain ⟨ax, cx, rfl⟩ := ox.sliced
              have f2 := K2.cell 2; have z2 := K2.free 2
              have hgx : g + 1 + 1 + 1 + 1 ≤ wr.heap.size := by have := K2.lt; omega
              have hic : i * c ≤ 64 * 64 := Nat.mul_le_mul (by omega) hc
              have VX := Lib.hid (show pl p zx = F (i * c + k) by rw [vx, HF.out i k hir hkc])
              clear vx
              go_wp2_with (at_builtin; refine apVl 22 33 24 (.slice none 0 0) Try.underlying22 (by kernel_rfl) (by decide) rfl rfl _ _ rfl wr (g + 1 + 1 + 1 + 1) bv (i * c + k) us (.slice ax zx.length cx) rfl ho.1 (by omega) hgx rfl rfl ?_; intro g4 c4 w4 ho4 hb4 hg4 _; have K4 := K2.below hb4 (by omega); have q1 := K4.cell 2; have q2 := K4.free 2)
              have K5 := K4.set 2 (.slice (some ⟨g4, 0, none⟩) (i * c + k + 1) c4)
              have K6 := (K1.below hb4 (by omega)).far (a := ⟨g + 1 + 1 + 1, 2, none⟩) (show g + 1 + 1 ≠ g + 1 + 1 + 1 by omega) (.slice (some ⟨g4, 0, none⟩) (i * c + k + 1) c4)
              have o6 := (ho.push hg4 ho4 ox (Nat.le_refl _) nx VX.out lx).low (a := ⟨g + 1 + 1 + 1, 2, none⟩) (show g + 1 + 1 + 1 < g + 1 + 1 + 1 + 1 by omega) (.slice (some ⟨g4, 0, none⟩) (i * c + k + 1) c4)
              have B6 := (B3.trans (hb4.mono (by omega))).setCell (p := ⟨g + 1 + 1 + 1, 2, none⟩) (show g + 1 + 1 ≤ g + 1 + 1 + 1 by omega) (.slice (some ⟨g4, 0, none⟩) (i * c + k + 1) c4)
              have B7 := (B0.trans (hb4.mono (by omega))).setCell (p := ⟨g + 1 + 1 + 1, 2, none⟩) (show w.heap.size ≤ g + 1 + 1 + 1 by omega) (.slice (some ⟨g4, 0, none⟩) (i * c + k + 1) c4)
              have st := Lib.hid (show AdR p w wb (w4.setCell ⟨g + 1 + 1 + 1, 2, none⟩ (.slice (some ⟨g4, 0, none⟩) (i * c + k + 1) c4)) g r c L F (i * c + (k + 1)) from ⟨_, _, K5, K6, o6, B6, B7⟩)
              clear K1 K2 K4 K5 K6 o6 B6 B7 ho ho4 hb4 hg4 B0 B3 B1 B2 KA c1 f2 z2 q1 q2 ox nx
              go_wp2
              go_roundw
              case rel => exact ⟨k + 1, by omega, by go_num, st.out⟩
              case measure => simp [intOf] <;> omega
        · obtain rfl : k = c := by omega
          go_wp2
          go_roundw
          case rel => exact ⟨i + 1, by omega, by go_num, by rw [Nat.succ_mul]; exact st⟩
          case measure => simp [intOf] <;> omega
    · obtain rfl : i = r := by omega
      obtain ⟨bv, us, K2, K1, ho, B3, B0⟩ := st
      obtain ⟨aq, cq, rfl⟩ := ho.slc
      have c0 := K2.cell 0; have c1 := K2.cell 1; have c2 := K2.cell 2
      have e0 := K1.cell 0; have e1 := K1.cell 1; have e2 := K1.cell 2
      have f0 := K1.free 0; have f1 := K1.free 1; have f2 := K1.free 2
      have KF := ((K1.set 0 (.int .i64 i)).set 1 (.int .i64 c)).set 2 (.slice aq (i * c) cq)
      have d0 := KF.cell 0; have d1 := KF.cell 1; have d2 := KF.cell 2
      have hlt : g + 1 + 1 < g + 1 + 1 + 1 + 1 := by omega
      have hof := ((ho.low (a := ⟨g + 1 + 1, 0, none⟩) hlt (.int .i64 i)).low (a := ⟨g + 1 + 1, 1, none⟩) hlt (.int .i64 c)).low (a := ⟨g + 1 + 1, 2, none⟩) hlt (.slice aq (i * c) cq)
      have hgw2 : w.heap.size ≤ g + 1 + 1 := by omega
      have BF := ((B0.setCell (p := ⟨g + 1 + 1, 0, none⟩) hgw2 (.int .i64 i)).setCell (p := ⟨g + 1 + 1, 1, none⟩) hgw2 (.int .i64 c)).setCell (p := ⟨g + 1 + 1, 2, none⟩) hgw2 (.slice aq (i * c) cq)
      have FR := Lib.hid (show RetXm p w i c L F (.returned (.agg #[.int .i64 i, .int .i64 c, .slice aq (i * c) cq])) (((wr.setCell ⟨g + 1 + 1, 0, none⟩ (.int .i64 i)).setCell ⟨g + 1 + 1, 1, none⟩ (.int .i64 c)).setCell ⟨g + 1 + 1, 2, none⟩ (.slice aq (i * c) cq)) from ⟨_, _, us, rfl, hof.mono (by omega), BF⟩)
      clear KF K1 K2 hof BF ho B0 B3 KA B1
      go_wp2
      exact bodyPost_ret (v := .agg #[.int .i64 i, .int .i64 c, .slice aq (i * c) cq]) (by simp [results, Try.results51, go_sem, d0, d1, d2]) rfl FR.out

end Go.Proofs.Ythghdjpjbngllaa
/- What the laws of layer 23 begin with: awake; a matrix of polynomials as an argument. -/
namespace Go.Proofs.Ythghdjpjbngllaa
open Go.RowKit

theorem ns_lit2 (w : World) (x y : Nat) (hx : x < W64) (hy : y < W64) : Ns ((w.alloc (.cells #[.int .u64 x, .int .u64 y] 27)).alloc (.cells #[.slice (some ⟨w.heap.size, 0, none⟩) 2 2] 33)) (.slice (some ⟨w.heap.size + 1, 0, none⟩) 1 1) [[x, y]] := by
  have h1 := own_lit2 w x y
  have hB := Blk.lit (w.alloc (.cells #[.int .u64 x, .int .u64 y] 27)) 33 [.slice (some ⟨w.heap.size, 0, none⟩) 2 2]
  have hs : (w.alloc (.cells #[.int .u64 x, .int .u64 y] 27)).heap.size = w.heap.size + 1 := by simp
  rw [hs] at hB
  have b2 := (Below.refl (w.alloc (.cells #[.int .u64 x, .int .u64 y] 27)).heap.size (w.alloc (.cells #[.int .u64 x, .int .u64 y] 27))).alloc (Nat.le_refl _) (.cells #[.slice (some ⟨w.heap.size, 0, none⟩) 2 2] 33)
  refine ⟨some ⟨w.heap.size + 1, 0, none⟩, w.heap.size + 1, 0, 1, fun _ => .slice (some ⟨w.heap.size, 0, none⟩) 2 2, rfl, Nat.le_refl _, fun _ => ⟨rfl, hB.lt⟩, fun j hj => ?_⟩
  obtain rfl : j = 0 := by simp at hj; omega
  exact ⟨hB.cell 0, h1.sl.next b2, wf_cons hx (wf_cons hy (wf_nil _))⟩

set_option maxRecDepth 20000 in
set_option maxHeartbeats 1000000 in
theorem law23_awake (w : World) : Calls Try.prog 15 #[] w (LawOk w) := by
  obtain ⟨p, ep⟩ : ∃ p, p = Ps 3 := ⟨_, rfl⟩
  have hp : FP p := by rw [ep]; exact Ps_FP (by omega)
  have ht : Trial p := by rw [ep]; exact Ps_trial (by omega)
  have c0 : ∀ w : World, Calls Try.prog 17 #[.int .u8 3] w fun e w' => e = .returned (.agg #[.int .u64 (p : Nat)]) ∧ Below w.heap.size w w' := fun w => by rw [ep]; exact law9_Of 3 w
  have hn3 : Nrm p [1, 2] := by rw [ep]; exact ⟨wf_cons (by decide) (wf_cons (by decide) (wf_nil _)), rfl⟩
  have C0 := Lib.hid c0; have HP := Lib.hid hp; have HT := Lib.hid ht; have HN3 := Lib.hid hn3
  clear c0 hp ht hn3 ep
  go_enter Try.func15, Try.ntmps15
  go_wp2_with fail
  refine (C0.out _).mono ?_; rintro e w1 ⟨rfl, b1⟩
  go_wp2_with fail
  have hns : Ns ((w1.alloc (.cells #[.int .u64 1, .int .u64 2] 27)).alloc (.cells #[.slice (some ⟨w1.heap.size, 0, none⟩) 2 2] 33)) (.slice (some ⟨w1.heap.size + 1, 0, none⟩) 1 1) [[1, 2]] := ns_lit2 w1 1 2 (by decide) (by decide)
  have b2 := ((Below.refl w1.heap.size w1).alloc (Nat.le_refl _) (.cells #[.int .u64 1, .int .u64 2] 27)).alloc (by simp) (.cells #[.slice (some ⟨w1.heap.size, 0, none⟩) 2 2] 33)
  obtain ⟨w2, ew2⟩ : ∃ w2, w2 = (w1.alloc (.cells #[.int .u64 1, .int .u64 2] 27)).alloc (.cells #[.slice (some ⟨w1.heap.size, 0, none⟩) 2 2] 33) := ⟨_, rfl⟩
  obtain ⟨g1, eg1⟩ : ∃ g1, g1 = w1.heap.size + 1 := ⟨_, rfl⟩
  rw [← ew2, ← eg1] at hns
  rw [← ew2] at b2
  rw [← ew2, ← eg1]
  clear ew2 eg1
  have B2 := b1.trans (b2.mono b1.size)
  have hA : Xm w2 (.agg #[.int .i64 1, .int .i64 1, .slice (some ⟨g1, 0, none⟩) 1 1]) (1 : Nat) (1 : Nat) [[1, 2]] := ⟨_, rfl, hns⟩
  have hD : ∀ j, j < 1 * 1 → (([[1, 2]] : List (List Nat)).getD j []).length ≤ 2 := fun j hj => by
    obtain rfl : j = 0 := by omega
    exact Nat.le_refl 2
  refine (xm_Det p 1 2 _ [[1, 2]] w2 HP.out HT.out hA (by decide) rfl (fun j hj => hD j hj) (by decide) (by decide)).mono ?_; rintro e w3 ⟨a3, c3, zs, rfl, o3, n3, v3, l3, b3⟩
  obtain rfl : zs = [1, 2] := pl_inj HP.out.pos n3 HN3.out (by
    rw [v3]
    show (0 : Pol (Zp p)) + sg 0 (aT p 1 [[1, 2]] 0 0 * 1) = _
    rw [sg_zero, CR.mul_one, CR.zero_add]; rfl)
  have B3 := B2.trans (b3.mono B2.size)
  clear hA hns b1 b2 b3 B2 n3 v3 l3
  have l7 := own_lit2 w3 1 2
  have b7 := (Below.refl w3.heap.size w3).alloc (Nat.le_refl _) (.cells #[.int .u64 1, .int .u64 2] 27)
  go_wp2_with fail
  refine (ref9_Same _ _ [1, 2] [1, 2] true _ (o3.next b7).sl l7.sl (by simp) (by simp) (decide_eq_true rfl).symm).mono ?_; rintro e w8 ⟨rfl, q8⟩
  have b8 := q8.below (w3.alloc (.cells #[.int .u64 1, .int .u64 2] 27)).heap.size
  clear o3 l7
  go_wp2
  go_ret
  exact ⟨rfl, (B3.trans (b7.mono B3.size)).trans (b8.mono (B3.trans (b7.mono B3.size)).size)⟩

open Go.ChangeShapes Go.WideShapes Go.ChangeAt Go.RowKit Go.Deep Go.Joins
section
variable {H : Type} {enc : TypeId × Value → H} {w : World} {base : Nat} {spare : Nat → Bool} {held : Bool}
set_option maxRecDepth 100000 in
theorem open_xm {r : Reach} {b0 : Nat} {v : Value} {d : DataW H} {p : List MemPlace} (hv : Value.okWide Try.prog w r b0 24 v) (h : DataW.Trod enc Try.prog w base spare held 24 v d p) :
    ∃ (R C : Int) (qs : List (List Nat)), Xm w v R C qs ∧ (-9223372036854775808 ≤ R ∧ R ≤ 9223372036854775807) ∧ (-9223372036854775808 ≤ C ∧ C ≤ 9223372036854775807) := by
  obtain ⟨v0, v1, v2, y0, y1, y2, n, rfl, -, -, h0, h1, h2⟩ := open_agg3 Try.underlying24 (by kernel_rfl) (by kernel_rfl) hv h
  obtain ⟨R, e0, -, w0⟩ := DataW.trod_int Try.underlying3 h0
  obtain ⟨C, e1, -, w1⟩ := DataW.trod_int Try.underlying3 h1
  obtain ⟨qs, hq⟩ := trod_ns Try.underlying22 Try.underlying33 Try.underlying27 (by kernel_rfl) (by kernel_rfl) h2
  simp at e0 e1; subst e0 e1
  exact ⟨R, C, qs, ⟨v2, rfl, hq⟩, wf_i64_bounds w0, wf_i64_bounds w1⟩
end

end Go.Proofs.Ythghdjpjbngllaa
