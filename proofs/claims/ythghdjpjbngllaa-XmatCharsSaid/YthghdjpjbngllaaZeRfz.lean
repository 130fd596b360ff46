/- The reference of chapter 21: places, forms. -/
import Derived.ChangeSame
import Derived.Lib.SmallJoins
import Derived.Test.YthghdjpjbngllaaZeOpen
import Derived.Test.YthghdjpjbngllaaZeFm
import Derived.Test.YthghdjpjbngllaaZeQz
import Derived.Test.YthghdjpjbngllaaZeHz
namespace Go.Proofs.Ythghdjpjbngllaa
open Go.RowKit

theorem rf21_At (v : Value) (R : Int) (c i k p : Nat) (xs : List Nat) (w : World) (hp : 0 < p) (hm : Fm w v R c xs) (hi : i ≤ 1000) (hc : c ≤ 1000) (hk : k ≤ 1000) (hj : i * c + k < xs.length) (x : Nat) (hx : x = xs.getD (i * c + k) 0 % p) :
    Calls Try.prog 67 #[v, .int .i64 i, .int .i64 k, .int .u64 p] w (RetW w (.int .u64 (x : Nat))) := by
  obtain ⟨u, rfl, ao, b, off, cap, rfl, hcap, hz⟩ := hm
  have ha := hz.ao (by intro h; subst h; simp at hj)
  subst ha
  obtain ⟨wb, ew, KA, B0, hsz⟩ := boxes1 w 42 [.int .i64 R, .int .i64 c, .slice (some ⟨b, off, none⟩) xs.length cap]
  clear hsz
  have hw : i * c ≤ 1000 * 1000 := Nat.mul_le_mul hi hc
  obtain ⟨lo, elo⟩ : ∃ lo, lo = i * c := ⟨_, rfl⟩
  obtain ⟨ix, eix⟩ : ∃ ix, ix = lo + k := ⟨_, rfl⟩
  have h1 : IntKind.i64.wrap ((i : Int) * (c : Int)) = (lo : Int) := by rw [elo, ← Int.natCast_mul]; exact IntWalk.i64_in _ ⟨by omega, by omega⟩
  have h2 : IntKind.i64.wrap ((lo : Int) + (k : Int)) = (ix : Int) := by rw [eix, ← Int.natCast_add]; exact IntWalk.i64_in _ ⟨by omega, by omega⟩
  rw [← elo, ← eix] at hj hx
  have q1 := (hz.below B0 (Nat.le_refl _)).cell _ hj
  obtain ⟨y, ey⟩ : ∃ y, y = xs.getD ix 0 := ⟨_, rfl⟩
  rw [← ey] at hx q1
  have hz0 : ((p : Int) == 0) = false := by simpa using (show p ≠ 0 by omega)
  have hz1 : ¬ p = 0 := by omega
  have hr : (y : Int).tmod (p : Int) = (x : Int) := by rw [hx]; rfl
  have hr2 : (y : Int) % (p : Int) = (x : Int) := by rw [hx]; rfl
  clear hx ey elo eix hw hp
  go_enter Try.func67, Try.ntmps67
  go_upto_region 1 with (fail)
  rw [← ew]
  clear ew
  have c1 := KA.cell 1; have c2 := KA.cell 2
  clear KA
  go_wp2
  go_ret
  exact ⟨rfl, B0⟩

theorem rf21_Formed (v : Value) (R C : Int) (xs : List Nat) (w : World) (hm : Fm w v R C xs) (b : Bool) (hb : b = decide (Fd R C xs.length)) :
    Calls Try.prog 59 #[v] w (RetW w (.bool b)) := by
  obtain ⟨ao, ca, rfl⟩ := hm.agg
  obtain ⟨wb, ew, KA, B0, hsz⟩ := boxes1 w 42 [.int .i64 R, .int .i64 C, .slice ao xs.length ca]
  clear hsz hm
  by_cases h0 : R ≥ 0
  rotate_left
  · obtain rfl : b = false := by rw [hb]; exact decide_eq_false (fun h => h0 h.1.1)
    clear hb
    have d0 : decide (R ≥ 0) = false := decide_eq_false (by omega)
    go_enter Try.func59, Try.ntmps59
    go_upto_region 1 with (fail)
    rw [← ew]
    clear ew
    have c0 := KA.cell 0; have c1 := KA.cell 1; have c2 := KA.cell 2
    go_wp2
    go_ret
    exact ⟨rfl, B0⟩
  by_cases h1 : R ≤ 64
  rotate_left
  · obtain rfl : b = false := by rw [hb]; exact decide_eq_false (fun h => h1 h.1.2)
    clear hb
    have d0 : decide (R ≥ 0) = true := decide_eq_true (by omega)
    have d1 : decide (R ≤ 64) = false := decide_eq_false (by omega)
    go_enter Try.func59, Try.ntmps59
    go_upto_region 1 with (fail)
    rw [← ew]
    clear ew
    have c0 := KA.cell 0; have c1 := KA.cell 1; have c2 := KA.cell 2
    go_wp2
    go_ret
    exact ⟨rfl, B0⟩
  by_cases h2 : C ≥ 0
  rotate_left
  · obtain rfl : b = false := by rw [hb]; exact decide_eq_false (fun h => h2 h.2.1.1)
    clear hb
    have d0 : decide (R ≥ 0) = true := decide_eq_true (by omega)
    have d1 : decide (R ≤ 64) = true := decide_eq_true (by omega)
    have d2 : decide (C ≥ 0) = false := decide_eq_false (by omega)
    go_enter Try.func59, Try.ntmps59
    go_upto_region 1 with (fail)
    rw [← ew]
    clear ew
    have c0 := KA.cell 0; have c1 := KA.cell 1; have c2 := KA.cell 2
    go_wp2
    go_ret
    exact ⟨rfl, B0⟩
  by_cases h3 : C ≤ 64
  rotate_left
  · obtain rfl : b = false := by rw [hb]; exact decide_eq_false (fun h => h3 h.2.1.2)
    clear hb
    have d0 : decide (R ≥ 0) = true := decide_eq_true (by omega)
    have d1 : decide (R ≤ 64) = true := decide_eq_true (by omega)
    have d2 : decide (C ≥ 0) = true := decide_eq_true (by omega)
    have d3 : decide (C ≤ 64) = false := decide_eq_false (by omega)
    go_enter Try.func59, Try.ntmps59
    go_upto_region 1 with (fail)
    rw [← ew]
    clear ew
    have c0 := KA.cell 0; have c1 := KA.cell 1; have c2 := KA.cell 2
    go_wp2
    go_ret
    exact ⟨rfl, B0⟩
  by_cases h4 : (xs.length : Int) = R * C
  rotate_left
  · obtain rfl : b = false := by rw [hb]; exact decide_eq_false (fun h => h4 h.2.2)
    clear hb
    have d0 : decide (R ≥ 0) = true := decide_eq_true (by omega)
    have d1 : decide (R ≤ 64) = true := decide_eq_true (by omega)
    have d2 : decide (C ≥ 0) = true := decide_eq_true (by omega)
    have d3 : decide (C ≤ 64) = true := decide_eq_true (by omega); have hw : IntKind.i64.wrap (R * C) = R * C := Sd.mul ⟨h0, h1⟩ ⟨h2, h3⟩
    have d4 : ((xs.length : Int) == R * C) = false := by simp [h4]
    go_enter Try.func59, Try.ntmps59
    go_upto_region 1 with (fail)
    rw [← ew]
    clear ew
    have c0 := KA.cell 0; have c1 := KA.cell 1; have c2 := KA.cell 2
    go_wp2
    go_ret
    exact ⟨rfl, B0⟩
  obtain rfl : b = true := by rw [hb]; exact decide_eq_true ⟨⟨h0, h1⟩, ⟨h2, h3⟩, h4⟩
  clear hb
  have d0 : decide (R ≥ 0) = true := decide_eq_true (by omega)
  have d1 : decide (R ≤ 64) = true := decide_eq_true (by omega)
  have d2 : decide (C ≥ 0) = true := decide_eq_true (by omega)
  have d3 : decide (C ≤ 64) = true := decide_eq_true (by omega); have hw : IntKind.i64.wrap (R * C) = R * C := Sd.mul ⟨h0, h1⟩ ⟨h2, h3⟩
  have d4 : ((xs.length : Int) == R * C) = true := by simp [h4]
  go_enter Try.func59, Try.ntmps59
  go_upto_region 1 with (fail)
  rw [← ew]
  clear ew
  have c0 := KA.cell 0; have c1 := KA.cell 1; have c2 := KA.cell 2
  go_wp2
  go_ret
  exact ⟨rfl, B0⟩

theorem rf21_Few (v : Value) (R C s : Int) (xs : List Nat) (w : World) (hm : Fm w v R C xs) (b : Bool) (hb : b = decide (R ≤ s ∧ C ≤ s ∧ xs.length ≤ 100)) :
    Calls Try.prog 24 #[v, .int .i64 s] w (RetW w (.bool b)) := by
  obtain ⟨ao, ca, rfl⟩ := hm.agg
  obtain ⟨wb, ew, KA, B0, hsz⟩ := boxes1 w 42 [.int .i64 R, .int .i64 C, .slice ao xs.length ca]
  clear hsz hm
  by_cases h0 : R ≤ s
  rotate_left
  · obtain rfl : b = false := by rw [hb]; exact decide_eq_false (fun h => h0 h.1)
    clear hb
    have d0 : decide (R ≤ s) = false := decide_eq_false (by omega)
    go_enter Try.func24, Try.ntmps24
    go_upto_region 1 with (fail)
    rw [← ew]
    clear ew
    have c0 := KA.cell 0; have c1 := KA.cell 1; have c2 := KA.cell 2
    go_wp2
    go_ret
    exact ⟨rfl, B0⟩
  by_cases h1 : C ≤ s
  rotate_left
  · obtain rfl : b = false := by rw [hb]; exact decide_eq_false (fun h => h1 h.2.1)
    clear hb
    have d0 : decide (R ≤ s) = true := decide_eq_true (by omega)
    have d1 : decide (C ≤ s) = false := decide_eq_false (by omega)
    go_enter Try.func24, Try.ntmps24
    go_upto_region 1 with (fail)
    rw [← ew]
    clear ew
    have c0 := KA.cell 0; have c1 := KA.cell 1; have c2 := KA.cell 2
    go_wp2
    go_ret
    exact ⟨rfl, B0⟩
  by_cases h2 : xs.length ≤ 100
  rotate_left
  · obtain rfl : b = false := by rw [hb]; exact decide_eq_false (fun h => h2 h.2.2)
    clear hb
    have d0 : decide (R ≤ s) = true := decide_eq_true (by omega)
    have d1 : decide (C ≤ s) = true := decide_eq_true (by omega)
    have d2 : decide (((xs.length : Nat) : Int) ≤ 100) = false := decide_eq_false (by omega)
    go_enter Try.func24, Try.ntmps24
    go_upto_region 1 with (fail)
    rw [← ew]
    clear ew
    have c0 := KA.cell 0; have c1 := KA.cell 1; have c2 := KA.cell 2
    go_wp2
    go_ret
    exact ⟨rfl, B0⟩
  obtain rfl : b = true := by rw [hb]; exact decide_eq_true ⟨h0, h1, h2⟩
  clear hb
  have d0 : decide (R ≤ s) = true := decide_eq_true (by omega)
  have d1 : decide (C ≤ s) = true := decide_eq_true (by omega)
  have d2 : decide (((xs.length : Nat) : Int) ≤ 100) = true := decide_eq_true (by omega)
  go_enter Try.func24, Try.ntmps24
  go_upto_region 1 with (fail)
  rw [← ew]
  clear ew
  have c0 := KA.cell 0; have c1 := KA.cell 1; have c2 := KA.cell 2
  go_wp2
  go_ret
  exact ⟨rfl, B0⟩

theorem rf21_Normal (v : Value) (R C : Int) (p : Nat) (xs : List Nat) (w : World) (hm : Fm w v R C xs) (hF : Fd R C xs.length) (hx : wf p xs) (hl : xs.length ≤ 1000000) :
    Calls Try.prog 30 #[v, .int .u64 p] w (RetW w (.bool true)) := by
  have hm0 := hm
  obtain ⟨u, rfl, ao, b, off, cap, rfl, hcap, hz⟩ := hm
  obtain ⟨wb, ew, KA, B0, hsz⟩ := boxes1 w 42 [.int .i64 R, .int .i64 C, .slice ao xs.length cap]
  clear hsz
  have hA := hm0.next B0
  replace hz := hz.below B0 (Nat.le_refl _)
  have HF := Lib.hid hF; have HX := Lib.hid hx; clear hF hx hm0
  have c0 := KA.cell 0; have c1 := KA.cell 1; have c2 := KA.cell 2
  go_enter Try.func30, Try.ntmps30
  go_upto_region 1 with (fail)
  rw [← ew]
  clear ew
  go_wp2
  go_loop [5] (fun iv => ∃ i : Nat, i ≤ xs.length ∧ iv = .int .i64 i) (fun iv => xs.length - (intOf iv).toNat)
  case atStart => exact ⟨0, by omega, rfl⟩
  case round =>
    obtain ⟨i, hi, rfl⟩ := hrel
    by_cases hil : i < xs.length
    · obtain rfl := hz.ao (by intro h; subst h; simp at hil)
      have q1 := hz.cell _ hil
      obtain ⟨x, ex⟩ : ∃ x, x = xs.getD i 0 := ⟨_, rfl⟩
      rw [← ex] at q1
      have hlt : ¬ ((x : Int) ≥ (p : Int)) := by
        have : x < p := by rw [ex]; exact HX.out _ (by
          simp only [List.getD, List.getElem?_eq_getElem hil, Option.getD_some]; exact List.getElem_mem hil)
        omega
      clear ex
      go_wp2
      go_round
      case rel => exact ⟨i + 1, by omega, by go_num⟩
      case measure => simp [intOf] <;> omega
    · obtain rfl : i = xs.length := by omega
      go_wp2_with fail
      refine (rf21_Formed _ R C xs _ hA true (decide_eq_true HF.out).symm).mono ?_; rintro e w2 ⟨rfl, b2⟩
      go_wp2
      go_ret
      exact ⟨rfl, B0.trans (b2.mono B0.size)⟩

end Go.Proofs.Ythghdjpjbngllaa
/- The reference of chapter 21: matrices of one reading; Hessenberg's form. -/
namespace Go.Proofs.Ythghdjpjbngllaa
open Go.RowKit

theorem Fm.open {w : World} {v : Value} {R C : Int} {xs : List Nat} (h : Fm w v R C xs) : ∃ ao b off cap, v = .agg #[.int .i64 R, .int .i64 C, .slice ao xs.length cap] ∧ xs.length ≤ cap ∧ Cs .u64 w ao b off xs := by
  obtain ⟨u, rfl, ao, b, off, cap, rfl, hcap, hz⟩ := h
  exact ⟨ao, b, off, cap, rfl, hcap, hz⟩
set_option maxHeartbeats 1000000 in
theorem rf21_Same (a b : Value) (R C : Int) (p : Nat) (xs ys : List Nat) (w : World) (hp : 0 < p) (hA : Fm w a R C xs) (hB : Fm w b R C ys) (hl : xs.length = ys.length) (hs : ∀ i, i < xs.length → xs.getD i 0 % p = ys.getD i 0 % p) (hm : xs.length ≤ 1000000) :
    Calls Try.prog 33 #[a, b, .int .u64 p] w (RetW w (.bool true)) := by
  obtain ⟨aA, bA, oA, cA, rfl, hcA, zA⟩ := hA.open
  obtain ⟨aB, bB, oB, cB, rfl, hcB, zB⟩ := hB.open
  obtain ⟨wb, ew, KA, KB, B0, hsz⟩ := boxes2 w 42 42 [.int .i64 R, .int .i64 C, .slice aA xs.length cA] [.int .i64 R, .int .i64 C, .slice aB ys.length cB]
  clear hsz
  replace zA := zA.below B0 (Nat.le_refl _); replace zB := zB.below B0 (Nat.le_refl _)
  have HS := Lib.hid hs; clear hs
  have hz0 : ((p : Int) == 0) = false := by simpa using (show p ≠ 0 by omega)
  have hz1 : ¬ p = 0 := by omega
  have hz2 : ¬ (p : Int) = 0 := by omega
  rw [← hl] at KB hcB ew ⊢
  obtain ⟨n, en⟩ : ∃ n, n = xs.length := ⟨_, rfl⟩
  rw [← en] at KA KB hcA hcB hm ew ⊢
  have HL := Lib.hid (And.intro en hl); clear en hl hp hA hB
  obtain ⟨g, eg⟩ : ∃ g, g = w.heap.size := ⟨_, rfl⟩
  rw [← eg] at KA KB
  have hRR : (R != R) = false := by simp
  have hCC : (C != C) = false := by simp
  have hNN : ((n : Int) != (n : Int)) = false := by simp
  have c0 := KA.cell 0; have c1 := KA.cell 1; have c2 := KA.cell 2
  have d0 := KB.cell 0; have d1 := KB.cell 1; have d2 := KB.cell 2
  have hzA := Lib.hid zA; have hzB := Lib.hid zB
  clear zA zB
  go_enter Try.func33, Try.ntmps33
  go_upto_region 1 with (fail)
  rw [← ew, ← eg]
  clear ew eg
  have st : Below w.heap.size w wb := B0
  go_wp2
  clear c0 c1 c2 d0 d1 d2
  go_loopw [7] (fun iv wr => ∃ i : Nat, i ≤ n ∧ iv = .int .i64 i ∧ Below wb.heap.size wb wr) (fun iv _ => n - (intOf iv).toNat)
  case atStart => exact ⟨0, by omega, rfl, Below.refl _ _⟩
  case round =>
    obtain ⟨i, hi, rfl, B1⟩ := hrel
    have KA1 := KA.next B1; have KB1 := KB.next B1
    have c2 := KA1.cell 2
    by_cases hin : i < n
    · have zA := hzA.out.below B1 (Nat.le_refl _); have zB := hzB.out.below B1 (Nat.le_refl _)
      have hiA : i < xs.length := by have := HL.out.1; omega
      have hiB : i < ys.length := by have := HL.out.1; have := HL.out.2; omega
      obtain rfl := zA.ao (by intro h; subst h; simp at hiA)
      obtain rfl := zB.ao (by intro h; subst h; simp at hiB)
      have q1 := zA.cell _ hiA; have q2 := zB.cell _ hiB
      have l1 : bA < wr.heap.size := zA.lt (by intro h; subst h; simp at hiA)
      have l2 : bB < wr.heap.size := zB.lt (by intro h; subst h; simp at hiB)
      obtain ⟨x, ex⟩ : ∃ x, x = xs.getD i 0 := ⟨_, rfl⟩
      obtain ⟨y, ey⟩ : ∃ y, y = ys.getD i 0 := ⟨_, rfl⟩
      obtain ⟨z, ez⟩ : ∃ z, z = x % p := ⟨_, rfl⟩
      have ez2 : z = y % p := by rw [ez, ex, ey]; exact HS.out i hiA
      rw [← ex] at q1; rw [← ey] at q2
      have r1 : (x : Int).tmod (p : Int) = (z : Int) := by rw [ez]; rfl
      have r1' : (x : Int) % (p : Int) = (z : Int) := by rw [ez]; rfl
      have r2 : (y : Int).tmod (p : Int) = (z : Int) := by rw [ez2]; rfl
      have r2' : (y : Int) % (p : Int) = (z : Int) := by rw [ez2]; rfl
      clear ex ey ez ez2 zA zB hiA hiB
      go_upto_region 6 with (fail)
      clear c2
      have bd := Drawn.below (w' := wr.drew) ⟨1, rfl⟩ wr.heap.size
      replace KA1 := KA1.next bd; replace KB1 := KB1.next bd
      have q1 : wr.drew.cell? ⟨bA, oA + i, none⟩ = some (.int .u64 x) := (bd.cell (p := ⟨bA, oA + i, none⟩) l1).trans q1
      have q2 : wr.drew.cell? ⟨bB, oB + i, none⟩ = some (.int .u64 y) := (bd.cell (p := ⟨bB, oB + i, none⟩) l2).trans q2
      have l1 : bA < wr.drew.heap.size := l1
      have l2 : bB < wr.drew.heap.size := l2
      replace B1 := B1.trans (bd.mono B1.size)
      clear bd
      refine startL (S := (fun w' => Below (wr.drew).heap.size (wr.drew) w')) (by kernel_rfl) (Below.refl _ _) (fun hHeld => ?_)
      refine takeL 0 (v := ?_) rfl (by kernel_rfl) (by kernel_rfl) (by kernel_rfl) (fun _ _ _ h => h) ⟨by rfl, ?_⟩ (by assumption) ?_
      rotate_left
      · intro w hS; go_simp <;> with_reducible rfl
      simp only [Act.put, List.setIfInBounds_toArray, List.set_cons_zero, List.set_cons_succ]
      refine takeL 1 (v := ?_) rfl (by kernel_rfl) (by kernel_rfl) (by kernel_rfl) (fun _ _ _ h => h) ⟨by rfl, ?_⟩ (by assumption) ?_
      rotate_left
      · intro w hS; have f1 := (KA1.at hS) 2; have f2 := (KB1.at hS) 2; have f3 := (hS.cell (p := ⟨bA, oA + i, none⟩) l1).trans q1; have f4 := (hS.cell (p := ⟨bB, oB + i, none⟩) l2).trans q2; go_simp <;> with_reducible rfl
      simp only [Act.put, List.setIfInBounds_toArray, List.set_cons_zero, List.set_cons_succ]
      refine takeL 2 (v := ?_) rfl (by kernel_rfl) (by kernel_rfl) (by kernel_rfl) (fun _ _ _ h => h) ⟨by rfl, ?_⟩ (by assumption) ?_
      rotate_left
      · intro w hS; go_simp <;> with_reducible rfl
      simp only [Act.put, List.setIfInBounds_toArray, List.set_cons_zero, List.set_cons_succ]
      refine takeL 3 (v := ?_) rfl (by kernel_rfl) (by kernel_rfl) (by kernel_rfl) (fun _ _ _ h => h) ⟨by rfl, ?_⟩ (by assumption) ?_
      rotate_left
      · intro w hS; go_simp <;> with_reducible rfl
      simp only [Act.put, List.setIfInBounds_toArray, List.set_cons_zero, List.set_cons_succ]
      refine takeL 4 (v := ?_) rfl (by kernel_rfl) (by kernel_rfl) (by kernel_rfl) (fun _ _ _ h => h) ⟨by rfl, ?_⟩ (by assumption) ?_
      rotate_left
      · intro w hS; have f1 := (KA1.at hS) 2; have f2 := (KB1.at hS) 2; have f3 := (hS.cell (p := ⟨bA, oA + i, none⟩) l1).trans q1; have f4 := (hS.cell (p := ⟨bB, oB + i, none⟩) l2).trans q2; go_simp <;> with_reducible rfl
      simp only [Act.put, List.setIfInBounds_toArray, List.set_cons_zero, List.set_cons_succ]
      refine takeL 5 (v := ?_) rfl (by kernel_rfl) (by kernel_rfl) (by kernel_rfl) (fun _ _ _ h => h) ⟨by rfl, ?_⟩ (by assumption) ?_
      rotate_left
      · intro w hS; go_simp <;> with_reducible rfl
      simp only [Act.put, List.setIfInBounds_toArray, List.set_cons_zero, List.set_cons_succ]
      refine takeL 6 (v := ?_) rfl (by kernel_rfl) (by kernel_rfl) (by kernel_rfl) (fun _ _ _ h => h) ⟨by rfl, ?_⟩ (by assumption) ?_
      rotate_left
      · intro w hS; go_simp <;> with_reducible rfl
      simp only [Act.put, List.setIfInBounds_toArray, List.set_cons_zero, List.set_cons_succ]
      refine takeL 7 (v := ?_) rfl (by kernel_rfl) (by kernel_rfl) (by kernel_rfl) (fun _ _ _ h => h) ⟨by rfl, ?_⟩ (by assumption) ?_
      rotate_left
      · intro w hS; go_simp <;> with_reducible rfl
      simp only [Act.put, List.setIfInBounds_toArray, List.set_cons_zero, List.set_cons_succ]
      refine takeL 8 (v := ?_) rfl (by kernel_rfl) (by kernel_rfl) (by kernel_rfl) (fun _ _ _ h => h) ⟨by rfl, ?_⟩ (by assumption) ?_
      rotate_left
      · intro w hS; have f1 := (KA1.at hS) 2; have f2 := (KB1.at hS) 2; have f3 := (hS.cell (p := ⟨bA, oA + i, none⟩) l1).trans q1; have f4 := (hS.cell (p := ⟨bB, oB + i, none⟩) l2).trans q2; go_simp <;> with_reducible rfl
      simp only [Act.put, List.setIfInBounds_toArray, List.set_cons_zero, List.set_cons_succ]
      refine takeL 9 (v := ?_) rfl (by kernel_rfl) (by kernel_rfl) (by kernel_rfl) (fun _ _ _ h => h) ⟨by rfl, ?_⟩ (by assumption) ?_
      rotate_left
      · intro w hS; go_simp <;> with_reducible rfl
      simp only [Act.put, List.setIfInBounds_toArray, List.set_cons_zero, List.set_cons_succ]
      refine takeL 10 (v := ?_) rfl (by kernel_rfl) (by kernel_rfl) (by kernel_rfl) (fun _ _ _ h => h) ⟨by rfl, ?_⟩ (by assumption) ?_
      rotate_left
      · intro w hS; go_simp <;> with_reducible rfl
      simp only [Act.put, List.setIfInBounds_toArray, List.set_cons_zero, List.set_cons_succ]
      refine takeL 11 (v := ?_) rfl (by kernel_rfl) (by kernel_rfl) (by kernel_rfl) (fun _ _ _ h => h) ⟨by rfl, ?_⟩ (by assumption) ?_
      rotate_left
      · intro w hS; have f1 := (KA1.at hS) 2; have f2 := (KB1.at hS) 2; have f3 := (hS.cell (p := ⟨bA, oA + i, none⟩) l1).trans q1; have f4 := (hS.cell (p := ⟨bB, oB + i, none⟩) l2).trans q2; go_simp <;> with_reducible rfl
      simp only [Act.put, List.setIfInBounds_toArray, List.set_cons_zero, List.set_cons_succ]
      refine takeL 12 (v := ?_) rfl (by kernel_rfl) (by kernel_rfl) (by kernel_rfl) (fun _ _ _ h => h) ⟨by rfl, ?_⟩ (by assumption) ?_
      rotate_left
      · intro w hS; go_simp <;> with_reducible rfl
      simp only [Act.put, List.setIfInBounds_toArray, List.set_cons_zero, List.set_cons_succ]
      refine takeL 13 (v := ?_) rfl (by kernel_rfl) (by kernel_rfl) (by kernel_rfl) (fun _ _ _ h => h) ⟨by rfl, ?_⟩ (by assumption) ?_
      rotate_left
      · intro w hS; go_simp <;> with_reducible rfl
      simp only [Act.put, List.setIfInBounds_toArray, List.set_cons_zero, List.set_cons_succ]
      refine takeL 14 (v := ?_) rfl (by kernel_rfl) (by kernel_rfl) (by kernel_rfl) (fun _ _ _ h => h) ⟨by rfl, ?_⟩ (by assumption) ?_
      rotate_left
      · intro w hS; go_simp <;> with_reducible rfl
      simp only [Act.put, List.setIfInBounds_toArray, List.set_cons_zero, List.set_cons_succ]
      refine doneL (by kernel_rfl) ?_ _
      replace B1 := B1
      clear q1 q2 KA1 KB1 hHeld
      go_wp2
      go_roundw
      case rel => exact ⟨i + 1, by omega, by go_num, B1⟩
      case measure => simp [intOf] <;> omega
    · obtain rfl : i = n := by omega
      go_wp2
      go_ret
      exact ⟨rfl, B0.trans (B1.mono B0.size)⟩

theorem rf21_Is (a b : Value) (R C : Int) (p : Nat) (xs ys : List Nat) (w : World) (hp : 0 < p) (hA : Fm w a R C xs) (hB : Fm w b R C ys) (hF : Fd R C xs.length) (hw : wf p xs) (hl : xs.length = ys.length) (hs : ∀ i, i < xs.length → xs.getD i 0 % p = ys.getD i 0 % p) (hm : xs.length ≤ 1000000) :
    Calls Try.prog 39 #[a, b, .int .u64 p] w (RetW w (.bool true)) := by
  obtain ⟨aA, cA, rfl⟩ := hA.agg
  obtain ⟨aB, cB, rfl⟩ := hB.agg
  obtain ⟨wb, ew, KA, KB, B0, hsz⟩ := boxes2 w 42 42 [.int .i64 R, .int .i64 C, .slice aA xs.length cA] [.int .i64 R, .int .i64 C, .slice aB ys.length cB]
  clear hsz
  replace hA := hA.next B0; replace hB := hB.next B0
  have HS := Lib.hid hs; have HW := Lib.hid hw; have HF := Lib.hid hF; have HL := Lib.hid hl; clear hs hw hF hl
  have c0 := KA.cell 0; have c1 := KA.cell 1; have c2 := KA.cell 2
  go_enter Try.func39, Try.ntmps39
  go_upto_region 1 with (fail)
  rw [← ew]
  clear ew
  go_wp2_with fail
  refine (rf21_Normal _ R C p xs _ hA HF.out HW.out hm).mono ?_; rintro e w2 ⟨rfl, b2⟩
  replace hA := hA.next b2; replace hB := hB.next b2
  replace KA := KA.next b2; replace KB := KB.next b2
  clear c0 c1 c2
  have c0 := KA.cell 0; have c1 := KA.cell 1; have c2 := KA.cell 2
  have d0 := KB.cell 0; have d1 := KB.cell 1; have d2 := KB.cell 2
  go_wp2_with fail
  refine (rf21_Same _ _ R C p xs ys _ hp hA hB HL.out HS.out hm).mono ?_; rintro e w3 ⟨rfl, b3⟩
  go_wp2
  go_ret
  exact ⟨rfl, (B0.trans (b2.mono B0.size)).trans (b3.mono (B0.trans (b2.mono B0.size)).size)⟩

end Go.Proofs.Ythghdjpjbngllaa
/- The reference of chapter 21: products. -/
namespace Go.Proofs.Ythghdjpjbngllaa
open Go.RowKit

end Go.Proofs.Ythghdjpjbngllaa
/- The reference of chapter 21: determinants. -/
namespace Go.Proofs.Ythghdjpjbngllaa
open Go.RowKit

end Go.Proofs.Ythghdjpjbngllaa
/- What comes in: matrices of words, opened. -/
namespace Go.Proofs.Ythghdjpjbngllaa
open Go.ChangeShapes Go.WideShapes Go.ChangeAt Go.RowKit Go.Deep Go.Joins

section
variable {H : Type} {enc : TypeId × Value → H} {P : Program} {w : World} {base : Nat} {spare : Nat → Bool} {held : Bool}
/-- A cell that holds a slice of words, opened. -/
theorem trod_words {t e : TypeId} {fuel : Nat} {v : Value} {x : DataW H × List MemPlace} (ht : P.underlying t = some (.slice e)) (he : P.underlying e = some (.int .u64)) (hc : P.cellsOf e = 1)
    (hf : DataW.trod enc P w base spare held fuel t [v] = some x) : ∃ xs, Sl .u64 w v xs ∧ wf W64 xs := by
  rcases open_ints ht he hc hf with ⟨hcs, _⟩ | ⟨x, l, c, zs, hcs, _, hl, hm, hz, _, hcell, hwz⟩
  · simp at hcs
    subst hcs
    exact ⟨[], Sl.nil _ _, wf_nil _⟩
  · simp at hcs
    subst hcs
    have hlz : l ≤ zs.length := by rw [hz]; split <;> omega
    have hlen : ((zs.take l).map Int.toNat).length = l := by simp; omega
    have hget : ∀ j, j < l → ((zs.take l).map Int.toNat).getD j 0 = (zs.getD j 0).toNat := by
      intro j hj
      simp [List.getD, hj]
      cases zs[j]? <;> rfl
    refine ⟨(zs.take l).map Int.toNat, ⟨some x, x.block, x.off, c, by rw [hlen], by rw [hlen]; exact hl, ?_, ?_⟩, ?_⟩
    · intro hne
      have h0 : 0 < zs.length := by
        by_cases h : zs = []
        · subst h; simp at hne
        · exact List.length_pos_iff.2 h
      have := World.cell?_spot (hcell 0 h0)
      simp [Addr.add] at this
      obtain ⟨b, o, s⟩ := x
      simp at this; rw [this]
    · intro j hj
      rw [hlen] at hj
      have hjz : j < zs.length := by omega
      have h1 := hcell j hjz
      have hwj := wf_u64_bounds (hwz (zs.getD j 0) (by simp [List.getD, List.getElem?_eq_getElem hjz]))
      rw [hget j hj]
      have e1 : (((zs.getD j 0).toNat : Nat) : Int) = zs.getD j 0 := by omega
      rw [e1, ← h1]
      congr 1
      have h0 : 0 < zs.length := by omega
      have := World.cell?_spot (hcell 0 h0)
      simp [Addr.add] at this
      obtain ⟨b, o, s⟩ := x
      simp at this; subst this
      unfold Addr.add; split
      · rename_i h; subst h; rfl
      · rfl
    · intro y hy
      simp only [List.mem_map] at hy
      obtain ⟨z, hz1, rfl⟩ := hy
      have := wf_u64_bounds (hwz z (List.mem_of_mem_take hz1))
      unfold W64; omega
end

section
variable {H : Type} {enc : TypeId × Value → H} {w : World} {base : Nat} {spare : Nat → Bool} {held : Bool}
set_option maxRecDepth 100000 in
theorem open_fm {r : Reach} {b0 : Nat} {v : Value} {d : DataW H} {p : List MemPlace} (hv : Value.okWide Try.prog w r b0 42 v) (h : DataW.Trod enc Try.prog w base spare held 42 v d p) :
    ∃ (R C : Int) (xs : List Nat), Fm w v R C xs ∧ (-9223372036854775808 ≤ R ∧ R ≤ 9223372036854775807) ∧ (-9223372036854775808 ≤ C ∧ C ≤ 9223372036854775807) := by
  obtain ⟨v0, v1, v2, y0, y1, y2, n, rfl, -, -, h0, h1, h2⟩ := open_agg3 Try.underlying42 (by kernel_rfl) (by kernel_rfl) hv h
  obtain ⟨R, e0, -, w0⟩ := DataW.trod_int Try.underlying3 h0
  obtain ⟨C, e1, -, w1⟩ := DataW.trod_int Try.underlying3 h1
  obtain ⟨xs, hxs, -⟩ := trod_words Try.underlying32 Try.underlying27 (by kernel_rfl) h2
  simp at e0 e1; subst e0 e1
  exact ⟨R, C, xs, ⟨v2, rfl, hxs⟩, wf_i64_bounds w0, wf_i64_bounds w1⟩
end

end Go.Proofs.Ythghdjpjbngllaa
