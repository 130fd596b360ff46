/- The reference of chapter 21: the identity. fmat.Det. -/
import Derived.Test.YthghdjpjbngllaaZeReduced
import Derived.Test.YthghdjpjbngllaaZeRxz
namespace Go.Proofs.Ythghdjpjbngllaa
open Go.RowKit

set_option maxHeartbeats 1000000 in
theorem rf21_One (v : Value) (n p : Nat) (xs : List Nat) (w : World) (hp : 2 ≤ p) (hA : Fm w v n n xs) (hn : n ≤ 64) (hx : xs.length = n * n) (h : ∀ i k, i < n → k < n → xs.getD (i * n + k) 0 % p = if i = k then 1 else 0) :
    Calls Try.prog 40 #[v, .int .u64 p] w (RetW w (.bool true)) := by
  obtain ⟨ao, ca, rfl⟩ := hA.agg
  obtain ⟨wb, ew, KA, B0, hsz⟩ := boxes1 w 42 [.int .i64 n, .int .i64 n, .slice ao xs.length ca]
  clear hsz
  replace hA := hA.next B0
  have HX := Lib.hid hx; have HH := Lib.hid h; have HA := Lib.hid hA; clear hx h hA
  have HB := Lib.hid B0
  have hz0 : ((p : Int) == 0) = false := by simpa using (show p ≠ 0 by omega)
  have hz1 : ¬ p = 0 := by omega
  have hz2 : ¬ (p : Int) = 0 := by omega
  have hr1 : (1 : Int).tmod (p : Int) = 1 := by
    have : ((1 % p : Nat) : Int) = 1 := by rw [Nat.mod_eq_of_lt (by omega)]; rfl
    exact this
  have hr2 : (1 : Int) % (p : Int) = 1 := by
    have : ((1 % p : Nat) : Int) = 1 := by rw [Nat.mod_eq_of_lt (by omega)]; rfl
    exact this
  obtain ⟨g, eg⟩ : ∃ g, g = w.heap.size := ⟨_, rfl⟩
  rw [← eg] at KA
  go_enter Try.func40, Try.ntmps40
  go_upto_region 1 with (fail)
  rw [← ew, ← eg]
  clear ew eg B0
  go_wp2
  go_loopw [5] (fun iv wr => ∃ i : Nat, i ≤ n ∧ iv = .int .i64 i ∧ Below wb.heap.size wb wr) (fun iv _ => n - (intOf iv).toNat)
  case atStart => exact ⟨0, by omega, rfl, Below.refl _ _⟩
  case round =>
    obtain ⟨i, hi, rfl, B1⟩ := hrel
    have K1 := KA.next B1
    have c0 := K1.cell 0
    by_cases hin : i < n
    · go_wp2
      clear c0 K1
      go_loopw [6] (fun jv wr => ∃ j : Nat, j ≤ n ∧ jv = .int .i64 j ∧ Below wb.heap.size wb wr) (fun jv _ => n - (intOf jv).toNat)
      case atStart => exact ⟨0, by omega, rfl, B1⟩
      case round =>
        clear B1
        obtain ⟨j, hj, rfl, B1⟩ := hrel
        have K1 := KA.next B1
        have c1 := K1.cell 1
        by_cases hjn : j < n
        · have hlt : i * n + j < xs.length := at_lt HX.out hin hjn
          by_cases hij : i = j
          · have hat := Lib.hid (fun w' (hb : Below wb.heap.size wb w') => rf21_At _ n n i j p xs w' (by omega) (HA.out.next hb) (by omega) (by omega) (by omega) hlt 1 (by rw [HH.out i j hin hjn, if_pos hij]))
            have he : ((i : Int) == (j : Int)) = true := by simp [hij]
            have hne : ((i : Int) != (j : Int)) = false := by simp [hij]
            clear hij
            go_upto_region 7 with (fail)
            clear c1
            have bd := Drawn.below (w' := wr.drew) ⟨1, rfl⟩ wr.heap.size
            replace K1 := K1.next bd
            replace B1 := B1.trans (bd.mono B1.size)
            clear bd
            refine startL (S := (fun w' => Below (wr.drew).heap.size (wr.drew) w')) (by kernel_rfl) (Below.refl _ _) (fun hHeld => ?_)
            refine takeL 0 (v := ?_) rfl (by kernel_rfl) (by kernel_rfl) (by kernel_rfl) (fun _ _ _ h => h) ⟨by rfl, ?_⟩ (by assumption) ?_
            rotate_left
            · intro w hS; go_simp <;> with_reducible rfl
            simp only [Act.put, List.setIfInBounds_toArray, List.set_cons_zero, List.set_cons_succ]
            refine takeL 1 (v := ?_) rfl (by kernel_rfl) (by kernel_rfl) (by kernel_rfl) (fun _ _ _ h => h) ⟨by rfl, ?_⟩ (by assumption) ?_
            rotate_left
            · intro w hS; go_simp <;> with_reducible rfl
            simp only [Act.put, List.setIfInBounds_toArray, List.set_cons_zero, List.set_cons_succ]
            refine takeL 2 (v := ?_) rfl (by kernel_rfl) (by kernel_rfl) (by kernel_rfl) (fun _ _ _ h => h) ⟨by rfl, ?_⟩ (by assumption) ?_
            rotate_left
            · intro w hS; go_simp <;> with_reducible rfl
            simp only [Act.put, List.setIfInBounds_toArray, List.set_cons_zero, List.set_cons_succ]
            refine takeL 3 (v := ?_) rfl (by kernel_rfl) (by kernel_rfl) (by kernel_rfl) (fun _ _ _ h => h) ⟨by rfl, ?_⟩ (by assumption) ?_
            rotate_left
            · intro w hS; go_simp <;> with_reducible rfl
            simp only [Act.put, List.setIfInBounds_toArray, List.set_cons_zero, List.set_cons_succ]
            refine takeL 4 (v := ?_) rfl (by kernel_rfl) (by kernel_rfl) (by kernel_rfl) (fun _ _ _ h => h) ⟨by rfl, ?_⟩ (by assumption) ?_
            rotate_left
            · intro w hS; have fa := K1.at hS; have f1 := fa 0; have f2 := fa 1; have f3 := fa 2; clear fa; go_simp <;> with_reducible rfl
            simp only [Act.put, List.setIfInBounds_toArray, List.set_cons_zero, List.set_cons_succ]
            refine takeL 5 (v := ?_) rfl (by kernel_rfl) (by kernel_rfl) (by kernel_rfl) (fun _ _ _ h => h) ⟨by rfl, ?_⟩ (by assumption) ?_
            rotate_left
            · intro w hS; go_simp <;> with_reducible rfl
            simp only [Act.put, List.setIfInBounds_toArray, List.set_cons_zero, List.set_cons_succ]
            refine takeL 6 (v := ?_) rfl (by kernel_rfl) (by kernel_rfl) (by kernel_rfl) (fun _ _ _ h => h) ⟨by rfl, ?_⟩ (by assumption) ?_
            rotate_left
            · intro w hS; go_simp <;> with_reducible rfl
            simp only [Act.put, List.setIfInBounds_toArray, List.set_cons_zero, List.set_cons_succ]
            refine takeL 7 (v := ?_) rfl (by kernel_rfl) (by kernel_rfl) (by kernel_rfl) (fun _ _ _ h => h) ⟨by rfl, ?_⟩ (by assumption) ?_
            rotate_left
            · intro w hS; go_simp <;> with_reducible rfl
            simp only [Act.put, List.setIfInBounds_toArray, List.set_cons_zero, List.set_cons_succ]
            refine takeL 9 (v := ?_) rfl (by kernel_rfl) (by kernel_rfl) (by kernel_rfl) (fun _ _ _ h => h) ⟨by rfl, ?_⟩ (by assumption) ?_
            rotate_left
            · intro w hS; go_simp <;> with_reducible rfl
            simp only [Act.put, List.setIfInBounds_toArray, List.set_cons_zero, List.set_cons_succ]
            refine takeL 10 (v := ?_) rfl (by kernel_rfl) (by kernel_rfl) (by kernel_rfl) (fun _ _ _ h => h) ⟨by rfl, ?_⟩ (by assumption) ?_
            rotate_left
            · intro w hS; go_simp <;> with_reducible rfl
            simp only [Act.put, List.setIfInBounds_toArray, List.set_cons_zero, List.set_cons_succ]
            refine oneL 8 rfl (by kernel_rfl) (by rfl) (fun K hK => ?_)
            go_simp
            go_at_call 67
            (refine (hat.out _ (B1.trans (hHeld.mono B1.size))).mono ?_); rintro e w5 ⟨rfl, b5⟩
            refine hK.out _ _ (hHeld.trans (b5.mono hHeld.size)) (fun hHeld => ?_)
            clear hK K
            try simp only [Act.put, List.setIfInBounds_toArray, List.set_cons_zero, List.set_cons_succ]
            refine takeL 11 (v := ?_) rfl (by kernel_rfl) (by kernel_rfl) (by kernel_rfl) (fun _ _ _ h => h) ⟨by rfl, ?_⟩ (by assumption) ?_
            rotate_left
            · intro w hS; go_simp <;> with_reducible rfl
            simp only [Act.put, List.setIfInBounds_toArray, List.set_cons_zero, List.set_cons_succ]
            refine takeL 12 (v := ?_) rfl (by kernel_rfl) (by kernel_rfl) (by kernel_rfl) (fun _ _ _ h => h) ⟨by rfl, ?_⟩ (by assumption) ?_
            rotate_left
            · intro w hS; go_simp <;> with_reducible rfl
            simp only [Act.put, List.setIfInBounds_toArray, List.set_cons_zero, List.set_cons_succ]
            refine takeL 13 (v := ?_) rfl (by kernel_rfl) (by kernel_rfl) (by kernel_rfl) (fun _ _ _ h => h) ⟨by rfl, ?_⟩ (by assumption) ?_
            rotate_left
            · intro w hS; go_simp <;> with_reducible rfl
            simp only [Act.put, List.setIfInBounds_toArray, List.set_cons_zero, List.set_cons_succ]
            refine takeL 14 (v := ?_) rfl (by kernel_rfl) (by kernel_rfl) (by kernel_rfl) (fun _ _ _ h => h) ⟨by rfl, ?_⟩ (by assumption) ?_
            rotate_left
            · intro w hS; go_simp <;> with_reducible rfl
            simp only [Act.put, List.setIfInBounds_toArray, List.set_cons_zero, List.set_cons_succ]
            refine takeL 15 (v := ?_) rfl (by kernel_rfl) (by kernel_rfl) (by kernel_rfl) (fun _ _ _ h => h) ⟨by rfl, ?_⟩ (by assumption) ?_
            rotate_left
            · intro w hS; go_simp <;> with_reducible rfl
            simp only [Act.put, List.setIfInBounds_toArray, List.set_cons_zero, List.set_cons_succ]
            refine takeL 16 (v := ?_) rfl (by kernel_rfl) (by kernel_rfl) (by kernel_rfl) (fun _ _ _ h => h) ⟨by rfl, ?_⟩ (by assumption) ?_
            rotate_left
            · intro w hS; go_simp <;> with_reducible rfl
            simp only [Act.put, List.setIfInBounds_toArray, List.set_cons_zero, List.set_cons_succ]
            refine takeL 17 (v := ?_) rfl (by kernel_rfl) (by kernel_rfl) (by kernel_rfl) (fun _ _ _ h => h) ⟨by rfl, ?_⟩ (by assumption) ?_
            rotate_left
            · intro w hS; go_simp <;> with_reducible rfl
            simp only [Act.put, List.setIfInBounds_toArray, List.set_cons_zero, List.set_cons_succ]
            refine skipL 18 rfl (by kernel_rfl) (by kernel_rfl) (by kernel_rfl) (fun _ _ _ h => h) (by rfl) (by assumption) ?_
            simp only [Act.put, List.setIfInBounds_toArray, List.set_cons_zero, List.set_cons_succ]
            refine skipL 19 rfl (by kernel_rfl) (by kernel_rfl) (by kernel_rfl) (fun _ _ _ h => h) (by rfl) (by assumption) ?_
            simp only [Act.put, List.setIfInBounds_toArray, List.set_cons_zero, List.set_cons_succ]
            refine skipL 20 rfl (by kernel_rfl) (by kernel_rfl) (by kernel_rfl) (fun _ _ _ h => h) (by rfl) (by assumption) ?_
            simp only [Act.put, List.setIfInBounds_toArray, List.set_cons_zero, List.set_cons_succ]
            refine skipL 21 rfl (by kernel_rfl) (by kernel_rfl) (by kernel_rfl) (fun _ _ _ h => h) (by rfl) (by assumption) ?_
            simp only [Act.put, List.setIfInBounds_toArray, List.set_cons_zero, List.set_cons_succ]
            refine skipL 22 rfl (by kernel_rfl) (by kernel_rfl) (by kernel_rfl) (fun _ _ _ h => h) (by rfl) (by assumption) ?_
            simp only [Act.put, List.setIfInBounds_toArray, List.set_cons_zero, List.set_cons_succ]
            refine skipL 23 rfl (by kernel_rfl) (by kernel_rfl) (by kernel_rfl) (fun _ _ _ h => h) (by rfl) (by assumption) ?_
            simp only [Act.put, List.setIfInBounds_toArray, List.set_cons_zero, List.set_cons_succ]
            refine takeL 24 (v := ?_) rfl (by kernel_rfl) (by kernel_rfl) (by kernel_rfl) (fun _ _ _ h => h) ⟨by rfl, ?_⟩ (by assumption) ?_
            rotate_left
            · intro w hS; go_simp <;> with_reducible rfl
            simp only [Act.put, List.setIfInBounds_toArray, List.set_cons_zero, List.set_cons_succ]
            refine takeL 25 (v := ?_) rfl (by kernel_rfl) (by kernel_rfl) (by kernel_rfl) (fun _ _ _ h => h) ⟨by rfl, ?_⟩ (by assumption) ?_
            rotate_left
            · intro w hS; go_simp <;> with_reducible rfl
            simp only [Act.put, List.setIfInBounds_toArray, List.set_cons_zero, List.set_cons_succ]
            refine doneL (by kernel_rfl) ?_ _
            replace B1 := B1.trans (hHeld.mono B1.size)
            clear hHeld K1 hat b5
            go_wp2
            go_roundw
            case rel => exact ⟨j + 1, by omega, by go_num, B1⟩
            case measure => simp [intOf] <;> omega
          · have hat := Lib.hid (fun w' (hb : Below wb.heap.size wb w') => rf21_At _ n n i j p xs w' (by omega) (HA.out.next hb) (by omega) (by omega) (by omega) hlt 0 (by rw [HH.out i j hin hjn, if_neg hij]))
            have he : ((i : Int) == (j : Int)) = false := by simp; omega
            have hne : ((i : Int) != (j : Int)) = true := by simp; omega
            clear hij
            go_upto_region 7 with (fail)
            clear c1
            have bd := Drawn.below (w' := wr.drew) ⟨1, rfl⟩ wr.heap.size
            replace K1 := K1.next bd
            replace B1 := B1.trans (bd.mono B1.size)
            clear bd
            refine startL (S := (fun w' => Below (wr.drew).heap.size (wr.drew) w')) (by kernel_rfl) (Below.refl _ _) (fun hHeld => ?_)
            refine takeL 0 (v := ?_) rfl (by kernel_rfl) (by kernel_rfl) (by kernel_rfl) (fun _ _ _ h => h) ⟨by rfl, ?_⟩ (by assumption) ?_
            rotate_left
            · intro w hS; go_simp <;> with_reducible rfl
            simp only [Act.put, List.setIfInBounds_toArray, List.set_cons_zero, List.set_cons_succ]
            refine takeL 1 (v := ?_) rfl (by kernel_rfl) (by kernel_rfl) (by kernel_rfl) (fun _ _ _ h => h) ⟨by rfl, ?_⟩ (by assumption) ?_
            rotate_left
            · intro w hS; go_simp <;> with_reducible rfl
            simp only [Act.put, List.setIfInBounds_toArray, List.set_cons_zero, List.set_cons_succ]
            refine takeL 2 (v := ?_) rfl (by kernel_rfl) (by kernel_rfl) (by kernel_rfl) (fun _ _ _ h => h) ⟨by rfl, ?_⟩ (by assumption) ?_
            rotate_left
            · intro w hS; go_simp <;> with_reducible rfl
            simp only [Act.put, List.setIfInBounds_toArray, List.set_cons_zero, List.set_cons_succ]
            refine takeL 3 (v := ?_) rfl (by kernel_rfl) (by kernel_rfl) (by kernel_rfl) (fun _ _ _ h => h) ⟨by rfl, ?_⟩ (by assumption) ?_
            rotate_left
            · intro w hS; go_simp <;> with_reducible rfl
            simp only [Act.put, List.setIfInBounds_toArray, List.set_cons_zero, List.set_cons_succ]
            refine skipL 4 rfl (by kernel_rfl) (by kernel_rfl) (by kernel_rfl) (fun _ _ _ h => h) (by rfl) (by assumption) ?_
            simp only [Act.put, List.setIfInBounds_toArray, List.set_cons_zero, List.set_cons_succ]
            refine skipL 5 rfl (by kernel_rfl) (by kernel_rfl) (by kernel_rfl) (fun _ _ _ h => h) (by rfl) (by assumption) ?_
            simp only [Act.put, List.setIfInBounds_toArray, List.set_cons_zero, List.set_cons_succ]
            refine skipL 6 rfl (by kernel_rfl) (by kernel_rfl) (by kernel_rfl) (fun _ _ _ h => h) (by rfl) (by assumption) ?_
            simp only [Act.put, List.setIfInBounds_toArray, List.set_cons_zero, List.set_cons_succ]
            refine skipL 7 rfl (by kernel_rfl) (by kernel_rfl) (by kernel_rfl) (fun _ _ _ h => h) (by rfl) (by assumption) ?_
            simp only [Act.put, List.setIfInBounds_toArray, List.set_cons_zero, List.set_cons_succ]
            refine skipL 8 rfl (by kernel_rfl) (by kernel_rfl) (by kernel_rfl) (fun _ _ _ h => h) (by rfl) (by assumption) ?_
            simp only [Act.put, List.setIfInBounds_toArray, List.set_cons_zero, List.set_cons_succ]
            refine skipL 9 rfl (by kernel_rfl) (by kernel_rfl) (by kernel_rfl) (fun _ _ _ h => h) (by rfl) (by assumption) ?_
            simp only [Act.put, List.setIfInBounds_toArray, List.set_cons_zero, List.set_cons_succ]
            refine skipL 10 rfl (by kernel_rfl) (by kernel_rfl) (by kernel_rfl) (fun _ _ _ h => h) (by rfl) (by assumption) ?_
            simp only [Act.put, List.setIfInBounds_toArray, List.set_cons_zero, List.set_cons_succ]
            refine skipL 11 rfl (by kernel_rfl) (by kernel_rfl) (by kernel_rfl) (fun _ _ _ h => h) (by rfl) (by assumption) ?_
            simp only [Act.put, List.setIfInBounds_toArray, List.set_cons_zero, List.set_cons_succ]
            refine takeL 12 (v := ?_) rfl (by kernel_rfl) (by kernel_rfl) (by kernel_rfl) (fun _ _ _ h => h) ⟨by rfl, ?_⟩ (by assumption) ?_
            rotate_left
            · intro w hS; go_simp <;> with_reducible rfl
            simp only [Act.put, List.setIfInBounds_toArray, List.set_cons_zero, List.set_cons_succ]
            refine takeL 13 (v := ?_) rfl (by kernel_rfl) (by kernel_rfl) (by kernel_rfl) (fun _ _ _ h => h) ⟨by rfl, ?_⟩ (by assumption) ?_
            rotate_left
            · intro w hS; go_simp <;> with_reducible rfl
            simp only [Act.put, List.setIfInBounds_toArray, List.set_cons_zero, List.set_cons_succ]
            refine takeL 14 (v := ?_) rfl (by kernel_rfl) (by kernel_rfl) (by kernel_rfl) (fun _ _ _ h => h) ⟨by rfl, ?_⟩ (by assumption) ?_
            rotate_left
            · intro w hS; go_simp <;> with_reducible rfl
            simp only [Act.put, List.setIfInBounds_toArray, List.set_cons_zero, List.set_cons_succ]
            refine takeL 15 (v := ?_) rfl (by kernel_rfl) (by kernel_rfl) (by kernel_rfl) (fun _ _ _ h => h) ⟨by rfl, ?_⟩ (by assumption) ?_
            rotate_left
            · intro w hS; go_simp <;> with_reducible rfl
            simp only [Act.put, List.setIfInBounds_toArray, List.set_cons_zero, List.set_cons_succ]
            refine takeL 16 (v := ?_) rfl (by kernel_rfl) (by kernel_rfl) (by kernel_rfl) (fun _ _ _ h => h) ⟨by rfl, ?_⟩ (by assumption) ?_
            rotate_left
            · intro w hS; go_simp <;> with_reducible rfl
            simp only [Act.put, List.setIfInBounds_toArray, List.set_cons_zero, List.set_cons_succ]
            refine takeL 17 (v := ?_) rfl (by kernel_rfl) (by kernel_rfl) (by kernel_rfl) (fun _ _ _ h => h) ⟨by rfl, ?_⟩ (by assumption) ?_
            rotate_left
            · intro w hS; go_simp <;> with_reducible rfl
            simp only [Act.put, List.setIfInBounds_toArray, List.set_cons_zero, List.set_cons_succ]
            refine takeL 18 (v := ?_) rfl (by kernel_rfl) (by kernel_rfl) (by kernel_rfl) (fun _ _ _ h => h) ⟨by rfl, ?_⟩ (by assumption) ?_
            rotate_left
            · intro w hS; have fa := K1.at hS; have f1 := fa 0; have f2 := fa 1; have f3 := fa 2; clear fa; go_simp <;> with_reducible rfl
            simp only [Act.put, List.setIfInBounds_toArray, List.set_cons_zero, List.set_cons_succ]
            refine takeL 19 (v := ?_) rfl (by kernel_rfl) (by kernel_rfl) (by kernel_rfl) (fun _ _ _ h => h) ⟨by rfl, ?_⟩ (by assumption) ?_
            rotate_left
            · intro w hS; go_simp <;> with_reducible rfl
            simp only [Act.put, List.setIfInBounds_toArray, List.set_cons_zero, List.set_cons_succ]
            refine takeL 20 (v := ?_) rfl (by kernel_rfl) (by kernel_rfl) (by kernel_rfl) (fun _ _ _ h => h) ⟨by rfl, ?_⟩ (by assumption) ?_
            rotate_left
            · intro w hS; go_simp <;> with_reducible rfl
            simp only [Act.put, List.setIfInBounds_toArray, List.set_cons_zero, List.set_cons_succ]
            refine takeL 21 (v := ?_) rfl (by kernel_rfl) (by kernel_rfl) (by kernel_rfl) (fun _ _ _ h => h) ⟨by rfl, ?_⟩ (by assumption) ?_
            rotate_left
            · intro w hS; go_simp <;> with_reducible rfl
            simp only [Act.put, List.setIfInBounds_toArray, List.set_cons_zero, List.set_cons_succ]
            refine oneL 22 rfl (by kernel_rfl) (by rfl) (fun K hK => ?_)
            go_simp
            go_at_call 67
            (refine (hat.out _ (B1.trans (hHeld.mono B1.size))).mono ?_); rintro e w5 ⟨rfl, b5⟩
            refine hK.out _ _ (hHeld.trans (b5.mono hHeld.size)) (fun hHeld => ?_)
            clear hK K
            try simp only [Act.put, List.setIfInBounds_toArray, List.set_cons_zero, List.set_cons_succ]
            refine takeL 23 (v := ?_) rfl (by kernel_rfl) (by kernel_rfl) (by kernel_rfl) (fun _ _ _ h => h) ⟨by rfl, ?_⟩ (by assumption) ?_
            rotate_left
            · intro w hS; go_simp <;> with_reducible rfl
            simp only [Act.put, List.setIfInBounds_toArray, List.set_cons_zero, List.set_cons_succ]
            refine takeL 24 (v := ?_) rfl (by kernel_rfl) (by kernel_rfl) (by kernel_rfl) (fun _ _ _ h => h) ⟨by rfl, ?_⟩ (by assumption) ?_
            rotate_left
            · intro w hS; go_simp <;> with_reducible rfl
            simp only [Act.put, List.setIfInBounds_toArray, List.set_cons_zero, List.set_cons_succ]
            refine takeL 25 (v := ?_) rfl (by kernel_rfl) (by kernel_rfl) (by kernel_rfl) (fun _ _ _ h => h) ⟨by rfl, ?_⟩ (by assumption) ?_
            rotate_left
            · intro w hS; go_simp <;> with_reducible rfl
            simp only [Act.put, List.setIfInBounds_toArray, List.set_cons_zero, List.set_cons_succ]
            refine doneL (by kernel_rfl) ?_ _
            replace B1 := B1.trans (hHeld.mono B1.size)
            clear hHeld K1 hat b5
            go_wp2
            go_roundw
            case rel => exact ⟨j + 1, by omega, by go_num, B1⟩
            case measure => simp [intOf] <;> omega
        · obtain rfl : j = n := by omega
          go_wp2
          go_roundw
          case rel => exact ⟨i + 1, by omega, by go_num, B1⟩
          case measure => simp [intOf] <;> omega
    · obtain rfl : i = n := by omega
      have c1 := K1.cell 1
      have hnn : ((i : Int) == (i : Int)) = true := by simp
      have BF := HB.out.trans (B1.mono HB.out.size)
      clear B1 K1
      go_wp2
      go_ret
      exact ⟨rfl, BF⟩

set_option maxHeartbeats 1000000 in
theorem fm_Det (p : Nat) (a : Value) (n : Nat) (xs : List Nat) (w : World) (hp : FP p) (ht : Trial p) (hA : Fm w a n n xs) (hn : n ≤ 64) (hx : xs.length = n * n) (z : Nat) (hz : z = (dn n (mx p n n xs).e).val) :
    Calls Try.prog 55 #[.agg #[.int .u64 p], a] w (RetW w (.tuple #[.int .u64 (z : Nat), .int .i64 0])) := by
  obtain ⟨aA, cA, rfl⟩ := hA.agg
  obtain ⟨wb, ew, KF, KA, B0, hsz⟩ := boxes2 w 29 42 [.int .u64 p] [.int .i64 n, .int .i64 n, .slice aA xs.length cA]
  clear hsz
  replace hA := hA.next B0
  have HX := Lib.hid hx; have HP := Lib.hid hp; have HTR := Lib.hid ht; have HZ := Lib.hid hz; clear hx hp ht hz
  have hnn : ((n : Int) != (n : Int)) = false := by simp
  go_enter Try.func55, Try.ntmps55
  go_upto_region 1 with (fail)
  rw [← ew]
  obtain ⟨g, eg⟩ : ∃ g, g = w.heap.size := ⟨_, rfl⟩
  rw [← eg] at KF KA ⊢
  clear ew eg
  have q0 := KA.cell 0; have q1 := KA.cell 1; have q2 := KA.cell 2
  go_wp2_with fail
  refine (fm_Formed_yes _ n n xs _ hA (Fd.of hn hn HX.out)).mono ?_; rintro e w2 ⟨rfl, b2⟩
  replace hA := hA.next b2; replace KF := KF.next b2; replace KA := KA.next b2
  replace B0 := B0.trans (b2.mono B0.size)
  clear b2
  clear q0 q1 q2
  have q0 := KA.cell 0; have q1 := KA.cell 1; have q2 := KA.cell 2; have q3 := KF.cell 0
  have hB : Fm w2 (.agg #[.int .i64 n, .int .i64 0, .slice none 0 0]) n (0 : Nat) [] := ⟨_, rfl, Sl.nil _ _⟩
  go_wp2_with fail
  refine (fw_reduced p _ _ n n 0 xs [] _ HP.out HTR.out hA hB hn hn (by omega) HX.out (by simp)).mono ?_; rintro e w3 ⟨gW, W, P, d, rv, pv, vs, rfl, h, hr, b3⟩
  replace KA := KA.next b3
  replace B0 := B0.trans (b3.mono B0.size)
  clear q0 q1 q2 q3 b3 KF hA hB
  obtain ⟨pa, pc, epv⟩ := h.piv.sliced
  subst epv
  obtain ⟨m, em⟩ : ∃ m, m = P.length := ⟨_, rfl⟩
  have hml : m ≤ n := by rw [em]; exact hr.len
  have hblk := h.blk
  rw [← em] at hblk
  have hd0 : dn n (beside n (mx p n n xs).e (mx p n 0 []).e) = dn n (mx p n n xs).e := dn_congr n fun i k _ hk => beside_l hk
  have hD : m = n → z = d.val := fun hm => by rw [HZ.out, ← hd0, hr.dfull (by omega)]
  have hN : m ≠ n → z = 0 := fun hm => by rw [HZ.out, ← hd0, hr.dless (by omega), Zp.zero_val]
  have HD := Lib.hid hD; have HN := Lib.hid hN
  clear em hr hd0 h hD hN
  go_upto_region 4 with (fail)
  have bd := Drawn.below (w' := w3.drew) ⟨1, rfl⟩ w3.heap.size
  replace KA := KA.next bd; replace hblk := hblk.next bd
  replace B0 := B0.trans (bd.mono B0.size)
  clear bd
  refine startL (S := (fun w' => Below (w3.drew).heap.size (w3.drew) w')) (by kernel_rfl) (Below.refl _ _) (fun hHeld => ?_)
  refine takeL 0 (v := ?_) rfl (by kernel_rfl) (by kernel_rfl) (by kernel_rfl) (fun _ _ _ h => h) ⟨by rfl, ?_⟩ (by assumption) ?_
  rotate_left
  · intro w hS; go_simp <;> with_reducible rfl
  simp only [Act.put, List.setIfInBounds_toArray, List.set_cons_zero, List.set_cons_succ]
  refine takeL 1 (v := ?_) rfl (by kernel_rfl) (by kernel_rfl) (by kernel_rfl) (fun _ _ _ h => h) ⟨by rfl, ?_⟩ (by assumption) ?_
  rotate_left
  · intro w hS; go_simp <;> with_reducible rfl
  simp only [Act.put, List.setIfInBounds_toArray, List.set_cons_zero, List.set_cons_succ]
  refine takeL 2 (v := ?_) rfl (by kernel_rfl) (by kernel_rfl) (by kernel_rfl) (fun _ _ _ h => h) ⟨by rfl, ?_⟩ (by assumption) ?_
  rotate_left
  · intro w hS; go_simp <;> with_reducible rfl
  simp only [Act.put, List.setIfInBounds_toArray, List.set_cons_zero, List.set_cons_succ]
  refine takeL 3 (v := ?_) rfl (by kernel_rfl) (by kernel_rfl) (by kernel_rfl) (fun _ _ _ h => h) ⟨by rfl, ?_⟩ (by assumption) ?_
  rotate_left
  · intro w hS; have fa := KA.at hS; have fb := hblk.at hS; have f1 := fa 0; have f2 := fb 2; clear fa fb; go_simp <;> with_reducible rfl
  simp only [Act.put, List.setIfInBounds_toArray, List.set_cons_zero, List.set_cons_succ]
  refine takeL 4 (v := ?_) rfl (by kernel_rfl) (by kernel_rfl) (by kernel_rfl) (fun _ _ _ h => h) ⟨by rfl, ?_⟩ (by assumption) ?_
  rotate_left
  · intro w hS; go_simp <;> with_reducible rfl
  simp only [Act.put, List.setIfInBounds_toArray, List.set_cons_zero, List.set_cons_succ]
  refine takeL 5 (v := ?_) rfl (by kernel_rfl) (by kernel_rfl) (by kernel_rfl) (fun _ _ _ h => h) ⟨by rfl, ?_⟩ (by assumption) ?_
  rotate_left
  · intro w hS; go_simp <;> with_reducible rfl
  simp only [Act.put, List.setIfInBounds_toArray, List.set_cons_zero, List.set_cons_succ]
  refine takeL 6 (v := ?_) rfl (by kernel_rfl) (by kernel_rfl) (by kernel_rfl) (fun _ _ _ h => h) ⟨by rfl, ?_⟩ (by assumption) ?_
  rotate_left
  · intro w hS; have fa := KA.at hS; have fb := hblk.at hS; have f1 := fa 0; have f2 := fb 2; clear fa fb; go_simp <;> with_reducible rfl
  simp only [Act.put, List.setIfInBounds_toArray, List.set_cons_zero, List.set_cons_succ]
  refine takeL 7 (v := ?_) rfl (by kernel_rfl) (by kernel_rfl) (by kernel_rfl) (fun _ _ _ h => h) ⟨by rfl, ?_⟩ (by assumption) ?_
  rotate_left
  · intro w hS; go_simp <;> with_reducible rfl
  simp only [Act.put, List.setIfInBounds_toArray, List.set_cons_zero, List.set_cons_succ]
  refine doneL (by kernel_rfl) ?_ _
  replace B0 := B0.trans (hHeld.mono B0.size)
  replace hblk := hblk.next hHeld
  clear hHeld KA
  by_cases hmn : m = n
  · obtain rfl : z = d.val := HD.out hmn
    have hlt : ¬ m < n := by omega
    have f3 := hblk.cell 3
    clear hblk hmn HD HN
    go_wp2
    exact bodyPost_ret (v := .tuple #[.int .u64 (d.val : Nat), .int .i64 0]) (by simp [results, Try.results55, go_sem]) rfl ⟨rfl, B0⟩
  · obtain rfl : z = 0 := HN.out hmn
    have hlt : m < n := by omega
    clear hblk hmn HD HN
    go_wp2
    exact bodyPost_ret (v := .tuple #[.int .u64 0, .int .i64 0]) (by simp [results, Try.results55, go_sem]) rfl ⟨rfl, B0⟩

end Go.Proofs.Ythghdjpjbngllaa
