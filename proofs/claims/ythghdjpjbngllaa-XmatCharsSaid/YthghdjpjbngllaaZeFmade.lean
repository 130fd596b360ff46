/- fmat.made: a matrix, place by place. -/
import Derived.Shelf.Abstract
import Derived.Test.YthghdjpjbngllaaZeFm
import Derived.Test.YthghdjpjbngllaaZePeel
import Derived.Test.YthghdjpjbngllaaZeQz
namespace Go.Proofs.Ythghdjpjbngllaa
open Go.RowKit

/-- A matrix is returned, made anew. -/
def RetFm (p : Nat) (w : World) (r c : Nat) (M : MT (Zp p) r c) (e : Ending) (w' : World) : Prop :=
  ∃ ao k, e = .returned (.agg #[.int .i64 r, .int .i64 c, .slice ao (tbv M).length k]) ∧ Own .u64 27 w' w.heap.size (.slice ao (tbv M).length k) (tbv M) ∧ Below w.heap.size w w'

theorem Own.sliced {k : IntKind} {e : TypeId} {w : World} {base : Nat} {v : Value} {xs : List Nat} (h : Own k e w base v xs) : ∃ ao c, v = .slice ao xs.length c := by
  rcases h.shape with ⟨rfl, rfl⟩ | ⟨g, cap, rfl, -⟩
  · exact ⟨none, 0, rfl⟩
  · exact ⟨_, _, rfl⟩

/-- Where the loops of made stand. -/
def MdR (p : Nat) (w wr : World) (r c : Nat) (T : Nat → Nat → Nat) (g n : Nat) : Prop := ∃ ao m k, Blk 42 wr (g + 1 + 1) [.int .i64 r, .int .i64 c, .slice ao m k] ∧ Blk 42 wr (g + 1) [.int .i64 0, .int .i64 0, .slice none 0 0] ∧
  Blk 29 wr g [.int .u64 p] ∧ Own .u64 27 wr (g + 1 + 1 + 1) (.slice ao m k) (ftab c (fun i k => T i k % p) n) ∧ Below w.heap.size w wr

set_option maxRecDepth 20000 in
set_option maxHeartbeats 1000000 in
theorem fm_made (p r c : Nat) (hp : FP p) (hr : r ≤ 128) (hc : c ≤ 128) (fn : Nat) (hE : Enters Try.prog fn) (caps : List Value) (T : Nat → Nat → Nat) (w : World)
    (hf : ∀ (i k : Nat) (w' : World), i < r → k < c → Below w.heap.size w w' → Calls Try.prog fn (.int .i64 i :: .int .i64 k :: caps).toArray w' (RetW w' (.int .u64 (T i k)))) :
    Calls Try.prog 93 #[.agg #[.int .u64 p], .int .i64 r, .int .i64 c, .func (.func fn) #[] caps.toArray] w (RetFm p w r c (MT.of r c fun i k => Zp.of p (T i k))) := by
  have hT : ∀ n, n = r * c → ftab c (fun i k => T i k % p) n = tbv (MT.of r c fun i k => Zp.of p (T i k)) := fun n hn => by
    rw [hn]; exact tbv_of _ _ fun i k _ _ => Zp.mod_is hp _ rfl
  obtain ⟨M, eM⟩ : ∃ M, M = MT.of r c fun i k => Zp.of p (T i k) := ⟨_, rfl⟩
  rw [← eM] at hT ⊢
  have HT := Lib.hid hT; clear hT eM
  have HF := Lib.hid hf; clear hf
  have HP := Lib.hid hp; clear hp
  obtain ⟨wb, ew, K0, K1, K2, B0, hsz⟩ := boxes3 w 29 42 42 [.int .u64 p] [.int .i64 0, .int .i64 0, .slice none 0 0] [.int .i64 r, .int .i64 c, .slice none 0 0]
  clear hsz
  go_enter Try.func93, Try.ntmps93
  go_upto_region 2 with (fail)
  rw [← ew]
  obtain ⟨g, eg⟩ : ∃ g, g = w.heap.size := ⟨_, rfl⟩
  rw [← eg] at K0 K1 K2 ⊢
  have hgw : w.heap.size ≤ g := by omega
  clear eg ew
  have st : MdR p w wb r c T g 0 := ⟨_, _, _, K2, K1, K0, Own.nil _ _ _ _, B0⟩
  clear K0 K1 K2 B0
  go_wp2
  go_loopw [16] (fun iv wr => ∃ i : Nat, i ≤ r ∧ iv = .int .i64 i ∧ MdR p w wr r c T g (i * c)) (fun iv _ => r - (intOf iv).toNat)
  case atStart => exact ⟨0, by omega, rfl, by rw [Nat.zero_mul]; exact st⟩
  case round =>
    clear st wb
    obtain ⟨i, hi, rfl, st⟩ := hrel
    by_cases hir : i < r
    · obtain ⟨wo, rfl⟩ : ∃ wo : World, wo = wr := ⟨_, rfl⟩
      go_wp2
      go_loopw [20] (fun kv wr => ∃ k : Nat, k ≤ c ∧ kv = .int .i64 k ∧ MdR p w wr r c T g (i * c + k)) (fun kv _ => c - (intOf kv).toNat)
      case atStart => exact ⟨0, by omega, rfl, by rw [Nat.add_zero]; exact st⟩
      case round =>
        clear st
        obtain ⟨k, hk, rfl, st⟩ := hrel
        by_cases hkc : k < c
        · obtain ⟨ao, m, kc, K2, K1, K0, ho, B0⟩ := st
          go_upto_region 8 with (fail)
          have bd := Drawn.below (w' := wr.drew) ⟨1, rfl⟩ wr.heap.size
          replace K2 := K2.next bd; replace K1 := K1.next bd; replace K0 := K0.next bd; replace ho := ho.next bd
          replace B0 := B0.trans (bd.mono B0.size)
          have hgx : g + 1 + 1 + 1 ≤ wr.drew.heap.size := by have := K2.lt; omega
          have hik : i * c ≤ 128 * 128 := Nat.mul_le_mul (by omega) hc
          have HA := Lib.hid (ftab_at (i := i) (k := k) (fun i k => T i k % p) hkc)
          have hgw3 : w.heap.size ≤ g + 1 + 1 + 1 := by omega
          clear bd
          refine startP (S := (fun w' => Below (g + 1 + 1 + 1) wr.drew w')) (by kernel_rfl) _ rfl rfl rfl (by kernel_rfl) (Below.refl _ _) (fun hHeld => ?_)
          refine takeL 0 (v := ?_) rfl (by kernel_rfl) (by kernel_rfl) (by kernel_rfl) (fun _ _ _ h => h) ⟨by rfl, ?_⟩ (by assumption) ?_
          rotate_left
          · intro w hS; go_simp <;> with_reducible rfl
          simp only [Act.put, List.setIfInBounds_toArray, List.set_cons_zero, List.set_cons_succ]
          refine takeL 1 (v := ?_) rfl (by kernel_rfl) (by kernel_rfl) (by kernel_rfl) (fun _ _ _ h => h) ⟨by rfl, ?_⟩ (by assumption) ?_
          rotate_left
          · intro w hS; have fa := (K2.below hS (Nat.lt_succ_self _)).cell; have fb := (K0.below hS (by omega)).cell; have f1 := fa 2; have f2 := fb 0; clear fa fb; go_simp <;> with_reducible rfl
          simp only [Act.put, List.setIfInBounds_toArray, List.set_cons_zero, List.set_cons_succ]
          refine takeL 2 (v := ?_) rfl (by kernel_rfl) (by kernel_rfl) (by kernel_rfl) (fun _ _ _ h => h) ⟨by rfl, ?_⟩ (by assumption) ?_
          rotate_left
          · intro w hS; have fa := (K2.below hS (Nat.lt_succ_self _)).cell; have fb := (K0.below hS (by omega)).cell; have f1 := fa 2; have f2 := fb 0; clear fa fb; go_simp <;> with_reducible rfl
          simp only [Act.put, List.setIfInBounds_toArray, List.set_cons_zero, List.set_cons_succ]
          refine takeL 3 (v := ?_) rfl (by kernel_rfl) (by kernel_rfl) (by kernel_rfl) (fun _ _ _ h => h) ⟨by rfl, ?_⟩ (by assumption) ?_
          rotate_left
          · intro w hS; go_simp <;> with_reducible rfl
          simp only [Act.put, List.setIfInBounds_toArray, List.set_cons_zero, List.set_cons_succ]
          refine takeL 4 (v := ?_) rfl (by kernel_rfl) (by kernel_rfl) (by kernel_rfl) (fun _ _ _ h => h) ⟨by rfl, ?_⟩ (by assumption) ?_
          rotate_left
          · intro w hS; go_simp <;> with_reducible rfl
          simp only [Act.put, List.setIfInBounds_toArray, List.set_cons_zero, List.set_cons_succ]
          refine takeL 5 (v := ?_) rfl (by kernel_rfl) (by kernel_rfl) (by kernel_rfl) (fun _ _ _ h => h) ⟨by rfl, ?_⟩ (by assumption) ?_
          rotate_left
          · intro w hS; go_simp <;> with_reducible rfl
          simp only [Act.put, List.setIfInBounds_toArray, List.set_cons_zero, List.set_cons_succ]
          refine oneL 6 rfl (by kernel_rfl) (by rfl) (fun K hK => ?_)
          go_simp
          rw [hE]
          refine (HF.out i k _ hir hkc B0).mono ?_; rintro e w1 ⟨rfl, b1⟩
          refine hK.out _ _ (hHeld.trans (b1.mono (Nat.le_trans hgx hHeld.size))) (fun hHeld => ?_)
          clear hK K
          try simp only [Act.put, List.setIfInBounds_toArray, List.set_cons_zero, List.set_cons_succ]
          refine oneL 7 rfl (by kernel_rfl) (by rfl) (fun K hK => ?_)
          go_simp
          go_at_call 124
          (with_reducible refine (gfp_Norm p _ _ HP.out).mono ?_); rintro e w2 ⟨rfl, b2⟩
          refine hK.out _ _ (hHeld.trans (b2.mono (Nat.le_trans hgx hHeld.size))) (fun hHeld => ?_)
          clear hK K
          try simp only [Act.put, List.setIfInBounds_toArray, List.set_cons_zero, List.set_cons_succ]
          refine oneL 8 rfl (by kernel_rfl) (by rfl) (fun K hK => ?_)
          go_simp
          have hd := hHeld
          refine hK.out _ _ (hHeld.alloc (Nat.le_trans hgx hHeld.size) _) (fun hHeld => ?_)
          clear hK K
          try simp only [Act.put, List.setIfInBounds_toArray, List.set_cons_zero, List.set_cons_succ]
          refine oneL 9 rfl (by kernel_rfl) (by rfl) (fun K hK => ?_)
          refine ap2 (ops := #[]) .u64 32 27 8 Try.underlying32 (by kernel_rfl) (by decide) rfl _ _ rfl w2 (g + 1 + 1 + 1) (.slice ao m kc) (ftab c (fun i k => T i k % p) (i * c + k)) (T i k % p) _ (by rfl) ((ho.next b1).next b2) (by rw [ftab_length]; omega) (Nat.le_trans hgx hd.size) rfl rfl ?_
          intro gg cap1 w5 hown' hbel'
          refine hK.out _ _ (hd.trans hbel') (fun hHeld => ?_)
          clear hK K
          try simp only [Act.put, List.setIfInBounds_toArray, List.set_cons_zero, List.set_cons_succ]
          refine takeL 10 (v := ?_) rfl (by kernel_rfl) (by kernel_rfl) (by kernel_rfl) (fun _ _ _ h => h) ⟨by rfl, ?_⟩ (by assumption) ?_
          rotate_left
          · intro w hS; go_simp <;> with_reducible rfl
          simp only [Act.put, List.setIfInBounds_toArray, List.set_cons_zero, List.set_cons_succ]
          refine doneL (by kernel_rfl) ?_ _
          refine lastL rfl (by rfl) ?_
          clear ho hd hbel'
          have K2 := K2.below hHeld (Nat.lt_succ_self _)
          have K1 := K1.below hHeld (by omega)
          have K0 := K0.below hHeld (by omega)
          have B0 := B0.trans (hHeld.mono (by omega))
          have f2 := K2.free 2
          have c2 := K2.cell 2
          have hl2 := ftab_length c (fun i k => T i k % p) (i * c + k)
          have K2' := K2.set 2 (.slice (some ⟨gg, 0, none⟩) ((ftab c (fun i k => T i k % p) (i * c + k)).length + 1) cap1)
          have K1' := K1.far (a := ⟨g + 1 + 1, 2, none⟩) (by simp) (.slice (some ⟨gg, 0, none⟩) ((ftab c (fun i k => T i k % p) (i * c + k)).length + 1) cap1)
          have K0' := K0.far (a := ⟨g + 1 + 1, 2, none⟩) (by simp; omega) (.slice (some ⟨gg, 0, none⟩) ((ftab c (fun i k => T i k % p) (i * c + k)).length + 1) cap1)
          have ho' := hown'.low (a := ⟨g + 1 + 1, 2, none⟩) (Nat.lt_succ_self _) (.slice (some ⟨gg, 0, none⟩) ((ftab c (fun i k => T i k % p) (i * c + k)).length + 1) cap1)
          have B0' := B0.setCell (p := ⟨g + 1 + 1, 2, none⟩) (show w.heap.size ≤ g + 1 + 1 by omega) (.slice (some ⟨gg, 0, none⟩) ((ftab c (fun i k => T i k % p) (i * c + k)).length + 1) cap1)
          rw [← HA.out] at ho'
          clear K2 K1 K0 hown' B0 hHeld hl2
          have K2' := Lib.hid K2'
          have K1' := Lib.hid K1'
          have K0' := Lib.hid K0'
          have ho' := Lib.hid ho'
          have B0' := Lib.hid B0'
          go_wp2
          go_roundw
          case rel => exact ⟨k + 1, by omega, by go_num, _, _, _, K2'.out, K1'.out, K0'.out, ho'.out, B0'.out⟩
          case measure => simp [intOf] <;> omega
        · obtain rfl : k = c := by omega
          go_wp2
          go_roundw
          case rel => exact ⟨i + 1, by omega, by go_num, by rw [Nat.succ_mul]; exact st⟩
          case measure => simp [intOf] <;> omega
    · obtain rfl : i = r := by omega
      obtain ⟨ao, m, kc, K2, K1, K0, ho, B0⟩ := st
      rw [HT.out _ rfl] at ho
      obtain ⟨ao', c', e'⟩ := ho.sliced
      simp only [Value.slice.injEq] at e'
      obtain ⟨rfl, rfl, rfl⟩ := e'
      have c0 := K2.cell 0; have c1 := K2.cell 1; have c2 := K2.cell 2
      have e0 := K1.cell 0; have e1 := K1.cell 1; have e2 := K1.cell 2
      have f0 := K1.free 0; have f1 := K1.free 1; have f2 := K1.free 2
      have KF := ((K1.set 0 (.int .i64 i)).set 1 (.int .i64 c)).set 2 (.slice ao (tbv M).length kc)
      have d0 := KF.cell 0; have d1 := KF.cell 1; have d2 := KF.cell 2
      have hlt : g + 1 < g + 1 + 1 + 1 := by omega
      have hof := ((ho.low (a := ⟨g + 1, 0, none⟩) hlt (.int .i64 i)).low (a := ⟨g + 1, 1, none⟩) hlt (.int .i64 c)).low (a := ⟨g + 1, 2, none⟩) hlt (.slice ao (tbv M).length kc)
      have hgw2 : w.heap.size ≤ g + 1 := by omega
      have BF := ((B0.setCell (p := ⟨g + 1, 0, none⟩) hgw2 (.int .i64 i)).setCell (p := ⟨g + 1, 1, none⟩) hgw2 (.int .i64 c)).setCell (p := ⟨g + 1, 2, none⟩) hgw2 (.slice ao (tbv M).length kc)
      have FR := Lib.hid (show RetFm p w i c M (.returned (.agg #[.int .i64 i, .int .i64 c, .slice ao (tbv M).length kc])) (((wr.setCell ⟨g + 1, 0, none⟩ (.int .i64 i)).setCell ⟨g + 1, 1, none⟩ (.int .i64 c)).setCell ⟨g + 1, 2, none⟩ (.slice ao (tbv M).length kc)) from ⟨_, _, rfl, hof.mono (by omega), BF⟩)
      clear KF K1 K2 K0 hof BF ho B0
      go_wp2
      exact bodyPost_ret (v := .agg #[.int .i64 i, .int .i64 c, .slice ao (tbv M).length kc]) (by simp [results, Try.results93, go_sem, d0, d1, d2]) rfl FR.out

set_option maxRecDepth 20000 in
set_option maxHeartbeats 1000000 in
theorem fm_madeB (p r c : Nat) (hp : FP p) (hr : r ≤ 128) (hc : c ≤ 128) (fn : Nat) (hE : Enters Try.prog fn) (b : Value) (T : Nat → Nat → Nat) (w : World)
    (hf : ∀ (i k : Nat) (w' : World), i < r → k < c → Below w.heap.size w w' → Calls Try.prog fn #[b, .int .i64 i, .int .i64 k] w' (RetW w' (.int .u64 (T i k)))) :
    Calls Try.prog 93 #[.agg #[.int .u64 p], .int .i64 r, .int .i64 c, .func (.func fn) #[b] #[]] w (RetFm p w r c (MT.of r c fun i k => Zp.of p (T i k))) := by
  have hT : ∀ n, n = r * c → ftab c (fun i k => T i k % p) n = tbv (MT.of r c fun i k => Zp.of p (T i k)) := fun n hn => by
    rw [hn]; exact tbv_of _ _ fun i k _ _ => Zp.mod_is hp _ rfl
  obtain ⟨M, eM⟩ : ∃ M, M = MT.of r c fun i k => Zp.of p (T i k) := ⟨_, rfl⟩
  rw [← eM] at hT ⊢
  have HT := Lib.hid hT; clear hT eM
  have HF := Lib.hid hf; clear hf
  have HP := Lib.hid hp; clear hp
  obtain ⟨wb, ew, K0, K1, K2, B0, hsz⟩ := boxes3 w 29 42 42 [.int .u64 p] [.int .i64 0, .int .i64 0, .slice none 0 0] [.int .i64 r, .int .i64 c, .slice none 0 0]
  clear hsz
  go_enter Try.func93, Try.ntmps93
  go_upto_region 2 with (fail)
  rw [← ew]
  obtain ⟨g, eg⟩ : ∃ g, g = w.heap.size := ⟨_, rfl⟩
  rw [← eg] at K0 K1 K2 ⊢
  have hgw : w.heap.size ≤ g := by omega
  clear eg ew
  have st : MdR p w wb r c T g 0 := ⟨_, _, _, K2, K1, K0, Own.nil _ _ _ _, B0⟩
  clear K0 K1 K2 B0
  go_wp2
  go_loopw [16] (fun iv wr => ∃ i : Nat, i ≤ r ∧ iv = .int .i64 i ∧ MdR p w wr r c T g (i * c)) (fun iv _ => r - (intOf iv).toNat)
  case atStart => exact ⟨0, by omega, rfl, by rw [Nat.zero_mul]; exact st⟩
  case round =>
    clear st wb
    obtain ⟨i, hi, rfl, st⟩ := hrel
    by_cases hir : i < r
    · obtain ⟨wo, rfl⟩ : ∃ wo : World, wo = wr := ⟨_, rfl⟩
      go_wp2
      go_loopw [20] (fun kv wr => ∃ k : Nat, k ≤ c ∧ kv = .int .i64 k ∧ MdR p w wr r c T g (i * c + k)) (fun kv _ => c - (intOf kv).toNat)
      case atStart => exact ⟨0, by omega, rfl, by rw [Nat.add_zero]; exact st⟩
      case round =>
        clear st
        obtain ⟨k, hk, rfl, st⟩ := hrel
        by_cases hkc : k < c
        · obtain ⟨ao, m, kc, K2, K1, K0, ho, B0⟩ := st
          go_upto_region 8 with (fail)
          have bd := Drawn.below (w' := wr.drew) ⟨1, rfl⟩ wr.heap.size
          replace K2 := K2.next bd; replace K1 := K1.next bd; replace K0 := K0.next bd; replace ho := ho.next bd
          replace B0 := B0.trans (bd.mono B0.size)
          have hgx : g + 1 + 1 + 1 ≤ wr.drew.heap.size := by have := K2.lt; omega
          have hik : i * c ≤ 128 * 128 := Nat.mul_le_mul (by omega) hc
          have HA := Lib.hid (ftab_at (i := i) (k := k) (fun i k => T i k % p) hkc)
          have hgw3 : w.heap.size ≤ g + 1 + 1 + 1 := by omega
          clear bd
          refine startP (S := (fun w' => Below (g + 1 + 1 + 1) wr.drew w')) (by kernel_rfl) _ rfl rfl rfl (by kernel_rfl) (Below.refl _ _) (fun hHeld => ?_)
          refine takeL 0 (v := ?_) rfl (by kernel_rfl) (by kernel_rfl) (by kernel_rfl) (fun _ _ _ h => h) ⟨by rfl, ?_⟩ (by assumption) ?_
          rotate_left
          · intro w hS; go_simp <;> with_reducible rfl
          simp only [Act.put, List.setIfInBounds_toArray, List.set_cons_zero, List.set_cons_succ]
          refine takeL 1 (v := ?_) rfl (by kernel_rfl) (by kernel_rfl) (by kernel_rfl) (fun _ _ _ h => h) ⟨by rfl, ?_⟩ (by assumption) ?_
          rotate_left
          · intro w hS; have fa := (K2.below hS (Nat.lt_succ_self _)).cell; have fb := (K0.below hS (by omega)).cell; have f1 := fa 2; have f2 := fb 0; clear fa fb; go_simp <;> with_reducible rfl
          simp only [Act.put, List.setIfInBounds_toArray, List.set_cons_zero, List.set_cons_succ]
          refine takeL 2 (v := ?_) rfl (by kernel_rfl) (by kernel_rfl) (by kernel_rfl) (fun _ _ _ h => h) ⟨by rfl, ?_⟩ (by assumption) ?_
          rotate_left
          · intro w hS; have fa := (K2.below hS (Nat.lt_succ_self _)).cell; have fb := (K0.below hS (by omega)).cell; have f1 := fa 2; have f2 := fb 0; clear fa fb; go_simp <;> with_reducible rfl
          simp only [Act.put, List.setIfInBounds_toArray, List.set_cons_zero, List.set_cons_succ]
          refine takeL 3 (v := ?_) rfl (by kernel_rfl) (by kernel_rfl) (by kernel_rfl) (fun _ _ _ h => h) ⟨by rfl, ?_⟩ (by assumption) ?_
          rotate_left
          · intro w hS; go_simp <;> with_reducible rfl
          simp only [Act.put, List.setIfInBounds_toArray, List.set_cons_zero, List.set_cons_succ]
          refine takeL 4 (v := ?_) rfl (by kernel_rfl) (by kernel_rfl) (by kernel_rfl) (fun _ _ _ h => h) ⟨by rfl, ?_⟩ (by assumption) ?_
          rotate_left
          · intro w hS; go_simp <;> with_reducible rfl
          simp only [Act.put, List.setIfInBounds_toArray, List.set_cons_zero, List.set_cons_succ]
          refine takeL 5 (v := ?_) rfl (by kernel_rfl) (by kernel_rfl) (by kernel_rfl) (fun _ _ _ h => h) ⟨by rfl, ?_⟩ (by assumption) ?_
          rotate_left
          · intro w hS; go_simp <;> with_reducible rfl
          simp only [Act.put, List.setIfInBounds_toArray, List.set_cons_zero, List.set_cons_succ]
          refine oneL 6 rfl (by kernel_rfl) (by rfl) (fun K hK => ?_)
          go_simp
          rw [hE]
          refine (HF.out i k _ hir hkc B0).mono ?_; rintro e w1 ⟨rfl, b1⟩
          refine hK.out _ _ (hHeld.trans (b1.mono (Nat.le_trans hgx hHeld.size))) (fun hHeld => ?_)
          clear hK K
          try simp only [Act.put, List.setIfInBounds_toArray, List.set_cons_zero, List.set_cons_succ]
          refine oneL 7 rfl (by kernel_rfl) (by rfl) (fun K hK => ?_)
          go_simp
          go_at_call 124
          (with_reducible refine (gfp_Norm p _ _ HP.out).mono ?_); rintro e w2 ⟨rfl, b2⟩
          refine hK.out _ _ (hHeld.trans (b2.mono (Nat.le_trans hgx hHeld.size))) (fun hHeld => ?_)
          clear hK K
          try simp only [Act.put, List.setIfInBounds_toArray, List.set_cons_zero, List.set_cons_succ]
          refine oneL 8 rfl (by kernel_rfl) (by rfl) (fun K hK => ?_)
          go_simp
          have hd := hHeld
          refine hK.out _ _ (hHeld.alloc (Nat.le_trans hgx hHeld.size) _) (fun hHeld => ?_)
          clear hK K
          try simp only [Act.put, List.setIfInBounds_toArray, List.set_cons_zero, List.set_cons_succ]
          refine oneL 9 rfl (by kernel_rfl) (by rfl) (fun K hK => ?_)
          refine ap2 (ops := #[]) .u64 32 27 8 Try.underlying32 (by kernel_rfl) (by decide) rfl _ _ rfl w2 (g + 1 + 1 + 1) (.slice ao m kc) (ftab c (fun i k => T i k % p) (i * c + k)) (T i k % p) _ (by rfl) ((ho.next b1).next b2) (by rw [ftab_length]; omega) (Nat.le_trans hgx hd.size) rfl rfl ?_
          intro gg cap1 w5 hown' hbel'
          refine hK.out _ _ (hd.trans hbel') (fun hHeld => ?_)
          clear hK K
          try simp only [Act.put, List.setIfInBounds_toArray, List.set_cons_zero, List.set_cons_succ]
          refine takeL 10 (v := ?_) rfl (by kernel_rfl) (by kernel_rfl) (by kernel_rfl) (fun _ _ _ h => h) ⟨by rfl, ?_⟩ (by assumption) ?_
          rotate_left
          · intro w hS; go_simp <;> with_reducible rfl
          simp only [Act.put, List.setIfInBounds_toArray, List.set_cons_zero, List.set_cons_succ]
          refine doneL (by kernel_rfl) ?_ _
          refine lastL rfl (by rfl) ?_
          clear ho hd hbel'
          have K2 := K2.below hHeld (Nat.lt_succ_self _)
          have K1 := K1.below hHeld (by omega)
          have K0 := K0.below hHeld (by omega)
          have B0 := B0.trans (hHeld.mono (by omega))
          have f2 := K2.free 2
          have c2 := K2.cell 2
          have hl2 := ftab_length c (fun i k => T i k % p) (i * c + k)
          have K2' := K2.set 2 (.slice (some ⟨gg, 0, none⟩) ((ftab c (fun i k => T i k % p) (i * c + k)).length + 1) cap1)
          have K1' := K1.far (a := ⟨g + 1 + 1, 2, none⟩) (by simp) (.slice (some ⟨gg, 0, none⟩) ((ftab c (fun i k => T i k % p) (i * c + k)).length + 1) cap1)
          have K0' := K0.far (a := ⟨g + 1 + 1, 2, none⟩) (by simp; omega) (.slice (some ⟨gg, 0, none⟩) ((ftab c (fun i k => T i k % p) (i * c + k)).length + 1) cap1)
          have ho' := hown'.low (a := ⟨g + 1 + 1, 2, none⟩) (Nat.lt_succ_self _) (.slice (some ⟨gg, 0, none⟩) ((ftab c (fun i k => T i k % p) (i * c + k)).length + 1) cap1)
          have B0' := B0.setCell (p := ⟨g + 1 + 1, 2, none⟩) (show w.heap.size ≤ g + 1 + 1 by omega) (.slice (some ⟨gg, 0, none⟩) ((ftab c (fun i k => T i k % p) (i * c + k)).length + 1) cap1)
          rw [← HA.out] at ho'
          clear K2 K1 K0 hown' B0 hHeld hl2
          have K2' := Lib.hid K2'
          have K1' := Lib.hid K1'
          have K0' := Lib.hid K0'
          have ho' := Lib.hid ho'
          have B0' := Lib.hid B0'
          go_wp2
          go_roundw
          case rel => exact ⟨k + 1, by omega, by go_num, _, _, _, K2'.out, K1'.out, K0'.out, ho'.out, B0'.out⟩
          case measure => simp [intOf] <;> omega
        · obtain rfl : k = c := by omega
          go_wp2
          go_roundw
          case rel => exact ⟨i + 1, by omega, by go_num, by rw [Nat.succ_mul]; exact st⟩
          case measure => simp [intOf] <;> omega
    · obtain rfl : i = r := by omega
      obtain ⟨ao, m, kc, K2, K1, K0, ho, B0⟩ := st
      rw [HT.out _ rfl] at ho
      obtain ⟨ao', c', e'⟩ := ho.sliced
      simp only [Value.slice.injEq] at e'
      obtain ⟨rfl, rfl, rfl⟩ := e'
      have c0 := K2.cell 0; have c1 := K2.cell 1; have c2 := K2.cell 2
      have e0 := K1.cell 0; have e1 := K1.cell 1; have e2 := K1.cell 2
      have f0 := K1.free 0; have f1 := K1.free 1; have f2 := K1.free 2
      have KF := ((K1.set 0 (.int .i64 i)).set 1 (.int .i64 c)).set 2 (.slice ao (tbv M).length kc)
      have d0 := KF.cell 0; have d1 := KF.cell 1; have d2 := KF.cell 2
      have hlt : g + 1 < g + 1 + 1 + 1 := by omega
      have hof := ((ho.low (a := ⟨g + 1, 0, none⟩) hlt (.int .i64 i)).low (a := ⟨g + 1, 1, none⟩) hlt (.int .i64 c)).low (a := ⟨g + 1, 2, none⟩) hlt (.slice ao (tbv M).length kc)
      have hgw2 : w.heap.size ≤ g + 1 := by omega
      have BF := ((B0.setCell (p := ⟨g + 1, 0, none⟩) hgw2 (.int .i64 i)).setCell (p := ⟨g + 1, 1, none⟩) hgw2 (.int .i64 c)).setCell (p := ⟨g + 1, 2, none⟩) hgw2 (.slice ao (tbv M).length kc)
      have FR := Lib.hid (show RetFm p w i c M (.returned (.agg #[.int .i64 i, .int .i64 c, .slice ao (tbv M).length kc])) (((wr.setCell ⟨g + 1, 0, none⟩ (.int .i64 i)).setCell ⟨g + 1, 1, none⟩ (.int .i64 c)).setCell ⟨g + 1, 2, none⟩ (.slice ao (tbv M).length kc)) from ⟨_, _, rfl, hof.mono (by omega), BF⟩)
      clear KF K1 K2 K0 hof BF ho B0
      go_wp2
      exact bodyPost_ret (v := .agg #[.int .i64 i, .int .i64 c, .slice ao (tbv M).length kc]) (by simp [results, Try.results93, go_sem, d0, d1, d2]) rfl FR.out

end Go.Proofs.Ythghdjpjbngllaa
