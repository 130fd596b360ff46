/- hess.work: a multiple of a row is taken out of another one. -/
import Derived.Test.YthghdjpjbngllaaZeHswap
namespace Go.Proofs.Ythghdjpjbngllaa
open Go.RowKit

set_option maxRecDepth 20000 in
set_option maxHeartbeats 4000000 in
theorem hs_clear (p : Nat) (w : World) (hp : FP p) (base gW n : Nat) (H P : Nat → Nat → Zp p) (hv pv : Value) (hs ps : List Value) (h : Hk p w base gW n H P hv pv hs ps)
    (i k : Nat) (hi : i < n) (hk : k < n) (hik : i ≠ k) (c : Nat) (C : Zp p) (hc : c = C.val) (hn : n ≤ 1000) (hbase : base ≤ w.heap.size) :
    Calls Try.prog 147 #[.pointer (some ⟨gW, 0, none⟩), .int .i64 i, .int .i64 k, .int .u64 c] w (HkPost p w base gW n (hcl H i k C) (rcl P i k C) hv pv) := by
  have HP := Lib.hid hp; clear hp
  have HC := Lib.hid hc; clear hc
  obtain ⟨gh, ch, rfl, hgh, hghl, hnch⟩ : ∃ g cap, hv = .slice (some ⟨g, 0, none⟩) n cap ∧ base ≤ g ∧ g < w.heap.size ∧ n ≤ cap := by
    rcases h.h.shape with ⟨_, h0⟩ | h0
    · omega
    · exact h0
  obtain ⟨gp, cp, rfl, hgp, hgpl, hncp⟩ : ∃ g cap, pv = .slice (some ⟨g, 0, none⟩) n cap ∧ base ≤ g ∧ g < w.heap.size ∧ n ≤ cap := by
    rcases h.p.shape with ⟨_, h0⟩ | h0
    · omega
    · exact h0
  have q1 := h.blk.cell 1
  obtain ⟨vi, hvi⟩ := h.h.hdr hi
  obtain ⟨ai, ci, rfl, -⟩ := (h.h.row i vi hvi).slice
  have qi := h.h.head rfl hi; rw [hvi] at qi
  have st : HkTo p w base gW n (fun a b => if a = i ∧ b < 0 then H a b - C * H k b else H a b) (fun a b => if a = i ∧ b < 0 then P a b - C * P k b else P a b) (.slice (some ⟨gh, 0, none⟩) n ch) (.slice (some ⟨gp, 0, none⟩) n cp) w := ⟨_, _, h.congr (fun a b _ _ => by rw [if_neg (by omega)]) (fun a b _ _ => by rw [if_neg (by omega)]), Below.refl _ _⟩
  clear h hvi
  go_enter Try.func147, Try.ntmps147
  go_wp2
  clear q1 qi
  go_loopw [19] (fun jv wr => ∃ j : Nat, j ≤ n ∧ jv = .int .i64 j ∧ HkTo p w base gW n (fun a b => if a = i ∧ b < j then H a b - C * H k b else H a b) (fun a b => if a = i ∧ b < j then P a b - C * P k b else P a b) (.slice (some ⟨gh, 0, none⟩) n ch) (.slice (some ⟨gp, 0, none⟩) n cp) wr) (fun jv _ => n - (intOf jv).toNat)
  case atStart => exact ⟨0, by omega, rfl, st⟩
  case round =>
    clear st
    obtain ⟨j, hj, rfl, hs2, ps2, h, B0⟩ := hrel
    by_cases hjn : j < n
    · have hbw : base ≤ wr.heap.size := Nat.le_trans hbase B0.size
      obtain ⟨vi, hvi⟩ := h.h.hdr hi
      obtain ⟨vk, hvk⟩ := h.h.hdr hk
      obtain ⟨ai, ci, rfl, -⟩ := (h.h.row i vi hvi).slice
      obtain ⟨ak, ck, rfl, -⟩ := (h.h.row k vk hvk).slice
      obtain ⟨bi, oi, rfl⟩ := h.h.ao hvi (by omega)
      obtain ⟨bk, ok, rfl⟩ := h.h.ao hvk (by omega)
      go_upto_region 3 with (fail)
      have bd := Drawn.below (w' := wr.drew) ⟨1, rfl⟩ wr.heap.size
      replace h := h.next bd
      replace B0 := B0.trans (bd.mono hbw)
      have hbw : base ≤ wr.drew.heap.size := hbw
      clear bd
      have qf := h.blk.cell 0; have qh := h.blk.cell 1
      have qi := h.h.head rfl hi; rw [hvi] at qi
      have qk := h.h.head rfl hk; rw [hvk] at qk
      have hlw := h.blk.lt
      have hlh : gh < wr.drew.heap.size := by
        obtain ⟨cur, hcur⟩ := h.h.cellH rfl
        exact (Array.getElem?_eq_some_iff.1 hcur).1
      obtain ⟨⟨x0, q1, hx⟩, f1, b1, s1⟩ := h.h.at hvi hjn
      obtain ⟨⟨y0, q2, hy⟩, f2, b2, s2⟩ := h.h.at hvk hjn
      have hx : x0 = .int .u64 ((H i j).val : Nat) := by rw [hx, if_neg (by omega)]
      have hy : y0 = .int .u64 ((H k j).val : Nat) := by rw [hy, if_neg (by omega)]
      obtain ⟨x, ex⟩ : ∃ x, x = (H i j).val := ⟨_, rfl⟩
      obtain ⟨y, ey⟩ : ∃ y, y = (H k j).val := ⟨_, rfl⟩
      obtain ⟨z, ez⟩ : ∃ z, z = (Zp.of p c * Zp.of p y).val := ⟨_, rfl⟩
      obtain ⟨z', ez'⟩ : ∃ z', z' = (Zp.of p x - Zp.of p z).val := ⟨_, rfl⟩
      have ez2 : z' = (H i j - C * H k j).val := by rw [ez', ez, ex, ey, HC.out, Zp.of_val, Zp.of_val, Zp.of_val, Zp.of_val]
      rw [hx, ← ex] at q1
      rw [hy, ← ey] at q2
      have EZ := Lib.hid ez; have EZ' := Lib.hid ez'; have EZ2 := Lib.hid ez2
      clear ex ey ez ez' ez2 hx hy f1 f2 b2
      refine startP (S := (fun w' => Below (wr.drew).heap.size (wr.drew) w')) (by kernel_rfl) _ rfl rfl rfl (by kernel_rfl) (Below.refl _ _) (fun hHeld => ?_)
      refine takeL 0 (v := ?_) rfl (by kernel_rfl) (by kernel_rfl) (by kernel_rfl) (fun _ _ _ h => h) ⟨by rfl, ?_⟩ (by assumption) ?_
      rotate_left
      · intro w hS; go_simp <;> with_reducible rfl
      simp only [Act.put, List.setIfInBounds_toArray, List.set_cons_zero, List.set_cons_succ]
      refine takeL 1 (v := ?_) rfl (by kernel_rfl) (by kernel_rfl) (by kernel_rfl) (fun _ _ _ h => h) ⟨by rfl, ?_⟩ (by assumption) ?_
      rotate_left
      · intro w hS; go_simp <;> with_reducible rfl
      simp only [Act.put, List.setIfInBounds_toArray, List.set_cons_zero, List.set_cons_succ]
      refine takeL 2 (v := ?_) rfl (by kernel_rfl) (by kernel_rfl) (by kernel_rfl) (fun _ _ _ h => h) ⟨by rfl, ?_⟩ (by assumption) ?_
      rotate_left
      · intro w hS; go_simp <;> with_reducible rfl
      simp only [Act.put, List.setIfInBounds_toArray, List.set_cons_zero, List.set_cons_succ]
      refine takeL 3 (v := ?_) rfl (by kernel_rfl) (by kernel_rfl) (by kernel_rfl) (fun _ _ _ h => h) ⟨by rfl, ?_⟩ (by assumption) ?_
      rotate_left
      · intro w hS; have f1 := (hS.cell (p := ⟨gW, 0, none⟩) hlw).trans qf; have f2 := (hS.cell (p := ⟨gW, 1, none⟩) hlw).trans qh; have f3 := (hS.cell (p := ⟨gh, i, none⟩) hlh).trans qi; have f4 := (hS.cell (p := ⟨gh, k, none⟩) hlh).trans qk; have f5 := (hS.cell (p := ⟨bi, oi + j, none⟩) s1).trans q1; have f6 := (hS.cell (p := ⟨bk, ok + j, none⟩) s2).trans q2; go_simp <;> with_reducible rfl
      simp only [Act.put, List.setIfInBounds_toArray, List.set_cons_zero, List.set_cons_succ]
      refine takeL 4 (v := ?_) rfl (by kernel_rfl) (by kernel_rfl) (by kernel_rfl) (fun _ _ _ h => h) ⟨by rfl, ?_⟩ (by assumption) ?_
      rotate_left
      · intro w hS; go_simp <;> with_reducible rfl
      simp only [Act.put, List.setIfInBounds_toArray, List.set_cons_zero, List.set_cons_succ]
      refine takeL 5 (v := ?_) rfl (by kernel_rfl) (by kernel_rfl) (by kernel_rfl) (fun _ _ _ h => h) ⟨by rfl, ?_⟩ (by assumption) ?_
      rotate_left
      · intro w hS; go_simp <;> with_reducible rfl
      simp only [Act.put, List.setIfInBounds_toArray, List.set_cons_zero, List.set_cons_succ]
      refine takeL 6 (v := ?_) rfl (by kernel_rfl) (by kernel_rfl) (by kernel_rfl) (fun _ _ _ h => h) ⟨by rfl, ?_⟩ (by assumption) ?_
      rotate_left
      · intro w hS; have f1 := (hS.cell (p := ⟨gW, 0, none⟩) hlw).trans qf; have f2 := (hS.cell (p := ⟨gW, 1, none⟩) hlw).trans qh; have f3 := (hS.cell (p := ⟨gh, i, none⟩) hlh).trans qi; have f4 := (hS.cell (p := ⟨gh, k, none⟩) hlh).trans qk; have f5 := (hS.cell (p := ⟨bi, oi + j, none⟩) s1).trans q1; have f6 := (hS.cell (p := ⟨bk, ok + j, none⟩) s2).trans q2; go_simp <;> with_reducible rfl
      simp only [Act.put, List.setIfInBounds_toArray, List.set_cons_zero, List.set_cons_succ]
      refine takeL 7 (v := ?_) rfl (by kernel_rfl) (by kernel_rfl) (by kernel_rfl) (fun _ _ _ h => h) ⟨by rfl, ?_⟩ (by assumption) ?_
      rotate_left
      · intro w hS; go_simp <;> with_reducible rfl
      simp only [Act.put, List.setIfInBounds_toArray, List.set_cons_zero, List.set_cons_succ]
      refine takeL 8 (v := ?_) rfl (by kernel_rfl) (by kernel_rfl) (by kernel_rfl) (fun _ _ _ h => h) ⟨by rfl, ?_⟩ (by assumption) ?_
      rotate_left
      · intro w hS; go_simp <;> with_reducible rfl
      simp only [Act.put, List.setIfInBounds_toArray, List.set_cons_zero, List.set_cons_succ]
      refine takeL 9 (v := ?_) rfl (by kernel_rfl) (by kernel_rfl) (by kernel_rfl) (fun _ _ _ h => h) ⟨by rfl, ?_⟩ (by assumption) ?_
      rotate_left
      · intro w hS; go_simp <;> with_reducible rfl
      simp only [Act.put, List.setIfInBounds_toArray, List.set_cons_zero, List.set_cons_succ]
      refine takeL 10 (v := ?_) rfl (by kernel_rfl) (by kernel_rfl) (by kernel_rfl) (fun _ _ _ h => h) ⟨by rfl, ?_⟩ (by assumption) ?_
      rotate_left
      · intro w hS; go_simp <;> with_reducible rfl
      simp only [Act.put, List.setIfInBounds_toArray, List.set_cons_zero, List.set_cons_succ]
      refine takeL 11 (v := ?_) rfl (by kernel_rfl) (by kernel_rfl) (by kernel_rfl) (fun _ _ _ h => h) ⟨by rfl, ?_⟩ (by assumption) ?_
      rotate_left
      · intro w hS; have f1 := (hS.cell (p := ⟨gW, 0, none⟩) hlw).trans qf; have f2 := (hS.cell (p := ⟨gW, 1, none⟩) hlw).trans qh; have f3 := (hS.cell (p := ⟨gh, i, none⟩) hlh).trans qi; have f4 := (hS.cell (p := ⟨gh, k, none⟩) hlh).trans qk; have f5 := (hS.cell (p := ⟨bi, oi + j, none⟩) s1).trans q1; have f6 := (hS.cell (p := ⟨bk, ok + j, none⟩) s2).trans q2; go_simp <;> with_reducible rfl
      simp only [Act.put, List.setIfInBounds_toArray, List.set_cons_zero, List.set_cons_succ]
      refine takeL 12 (v := ?_) rfl (by kernel_rfl) (by kernel_rfl) (by kernel_rfl) (fun _ _ _ h => h) ⟨by rfl, ?_⟩ (by assumption) ?_
      rotate_left
      · intro w hS; go_simp <;> with_reducible rfl
      simp only [Act.put, List.setIfInBounds_toArray, List.set_cons_zero, List.set_cons_succ]
      refine takeL 13 (v := ?_) rfl (by kernel_rfl) (by kernel_rfl) (by kernel_rfl) (fun _ _ _ h => h) ⟨by rfl, ?_⟩ (by assumption) ?_
      rotate_left
      · intro w hS; go_simp <;> with_reducible rfl
      simp only [Act.put, List.setIfInBounds_toArray, List.set_cons_zero, List.set_cons_succ]
      refine takeL 14 (v := ?_) rfl (by kernel_rfl) (by kernel_rfl) (by kernel_rfl) (fun _ _ _ h => h) ⟨by rfl, ?_⟩ (by assumption) ?_
      rotate_left
      · intro w hS; go_simp <;> with_reducible rfl
      simp only [Act.put, List.setIfInBounds_toArray, List.set_cons_zero, List.set_cons_succ]
      refine takeL 15 (v := ?_) rfl (by kernel_rfl) (by kernel_rfl) (by kernel_rfl) (fun _ _ _ h => h) ⟨by rfl, ?_⟩ (by assumption) ?_
      rotate_left
      · intro w hS; have f1 := (hS.cell (p := ⟨gW, 0, none⟩) hlw).trans qf; have f2 := (hS.cell (p := ⟨gW, 1, none⟩) hlw).trans qh; have f3 := (hS.cell (p := ⟨gh, i, none⟩) hlh).trans qi; have f4 := (hS.cell (p := ⟨gh, k, none⟩) hlh).trans qk; have f5 := (hS.cell (p := ⟨bi, oi + j, none⟩) s1).trans q1; have f6 := (hS.cell (p := ⟨bk, ok + j, none⟩) s2).trans q2; go_simp <;> with_reducible rfl
      simp only [Act.put, List.setIfInBounds_toArray, List.set_cons_zero, List.set_cons_succ]
      refine takeL 16 (v := ?_) rfl (by kernel_rfl) (by kernel_rfl) (by kernel_rfl) (fun _ _ _ h => h) ⟨by rfl, ?_⟩ (by assumption) ?_
      rotate_left
      · intro w hS; go_simp <;> with_reducible rfl
      simp only [Act.put, List.setIfInBounds_toArray, List.set_cons_zero, List.set_cons_succ]
      refine takeL 17 (v := ?_) rfl (by kernel_rfl) (by kernel_rfl) (by kernel_rfl) (fun _ _ _ h => h) ⟨by rfl, ?_⟩ (by assumption) ?_
      rotate_left
      · intro w hS; go_simp <;> with_reducible rfl
      simp only [Act.put, List.setIfInBounds_toArray, List.set_cons_zero, List.set_cons_succ]
      refine takeL 18 (v := ?_) rfl (by kernel_rfl) (by kernel_rfl) (by kernel_rfl) (fun _ _ _ h => h) ⟨by rfl, ?_⟩ (by assumption) ?_
      rotate_left
      · intro w hS; have f1 := (hS.cell (p := ⟨gW, 0, none⟩) hlw).trans qf; have f2 := (hS.cell (p := ⟨gW, 1, none⟩) hlw).trans qh; have f3 := (hS.cell (p := ⟨gh, i, none⟩) hlh).trans qi; have f4 := (hS.cell (p := ⟨gh, k, none⟩) hlh).trans qk; have f5 := (hS.cell (p := ⟨bi, oi + j, none⟩) s1).trans q1; have f6 := (hS.cell (p := ⟨bk, ok + j, none⟩) s2).trans q2; go_simp <;> with_reducible rfl
      simp only [Act.put, List.setIfInBounds_toArray, List.set_cons_zero, List.set_cons_succ]
      refine takeL 19 (v := ?_) rfl (by kernel_rfl) (by kernel_rfl) (by kernel_rfl) (fun _ _ _ h => h) ⟨by rfl, ?_⟩ (by assumption) ?_
      rotate_left
      · intro w hS; go_simp <;> with_reducible rfl
      simp only [Act.put, List.setIfInBounds_toArray, List.set_cons_zero, List.set_cons_succ]
      refine takeL 20 (v := ?_) rfl (by kernel_rfl) (by kernel_rfl) (by kernel_rfl) (fun _ _ _ h => h) ⟨by rfl, ?_⟩ (by assumption) ?_
      rotate_left
      · intro w hS; go_simp <;> with_reducible rfl
      simp only [Act.put, List.setIfInBounds_toArray, List.set_cons_zero, List.set_cons_succ]
      refine takeL 21 (v := ?_) rfl (by kernel_rfl) (by kernel_rfl) (by kernel_rfl) (fun _ _ _ h => h) ⟨by rfl, ?_⟩ (by assumption) ?_
      rotate_left
      · intro w hS; have f1 := (hS.cell (p := ⟨gW, 0, none⟩) hlw).trans qf; have f2 := (hS.cell (p := ⟨gW, 1, none⟩) hlw).trans qh; have f3 := (hS.cell (p := ⟨gh, i, none⟩) hlh).trans qi; have f4 := (hS.cell (p := ⟨gh, k, none⟩) hlh).trans qk; have f5 := (hS.cell (p := ⟨bi, oi + j, none⟩) s1).trans q1; have f6 := (hS.cell (p := ⟨bk, ok + j, none⟩) s2).trans q2; go_simp <;> with_reducible rfl
      simp only [Act.put, List.setIfInBounds_toArray, List.set_cons_zero, List.set_cons_succ]
      refine takeL 22 (v := ?_) rfl (by kernel_rfl) (by kernel_rfl) (by kernel_rfl) (fun _ _ _ h => h) ⟨by rfl, ?_⟩ (by assumption) ?_
      rotate_left
      · intro w hS; go_simp <;> with_reducible rfl
      simp only [Act.put, List.setIfInBounds_toArray, List.set_cons_zero, List.set_cons_succ]
      refine takeL 23 (v := ?_) rfl (by kernel_rfl) (by kernel_rfl) (by kernel_rfl) (fun _ _ _ h => h) ⟨by rfl, ?_⟩ (by assumption) ?_
      rotate_left
      · intro w hS; go_simp <;> with_reducible rfl
      simp only [Act.put, List.setIfInBounds_toArray, List.set_cons_zero, List.set_cons_succ]
      refine takeL 24 (v := ?_) rfl (by kernel_rfl) (by kernel_rfl) (by kernel_rfl) (fun _ _ _ h => h) ⟨by rfl, ?_⟩ (by assumption) ?_
      rotate_left
      · intro w hS; go_simp <;> with_reducible rfl
      simp only [Act.put, List.setIfInBounds_toArray, List.set_cons_zero, List.set_cons_succ]
      refine takeL 25 (v := ?_) rfl (by kernel_rfl) (by kernel_rfl) (by kernel_rfl) (fun _ _ _ h => h) ⟨by rfl, ?_⟩ (by assumption) ?_
      rotate_left
      · intro w hS; have f1 := (hS.cell (p := ⟨gW, 0, none⟩) hlw).trans qf; have f2 := (hS.cell (p := ⟨gW, 1, none⟩) hlw).trans qh; have f3 := (hS.cell (p := ⟨gh, i, none⟩) hlh).trans qi; have f4 := (hS.cell (p := ⟨gh, k, none⟩) hlh).trans qk; have f5 := (hS.cell (p := ⟨bi, oi + j, none⟩) s1).trans q1; have f6 := (hS.cell (p := ⟨bk, ok + j, none⟩) s2).trans q2; go_simp <;> with_reducible rfl
      simp only [Act.put, List.setIfInBounds_toArray, List.set_cons_zero, List.set_cons_succ]
      refine takeL 26 (v := ?_) rfl (by kernel_rfl) (by kernel_rfl) (by kernel_rfl) (fun _ _ _ h => h) ⟨by rfl, ?_⟩ (by assumption) ?_
      rotate_left
      · intro w hS; go_simp <;> with_reducible rfl
      simp only [Act.put, List.setIfInBounds_toArray, List.set_cons_zero, List.set_cons_succ]
      refine takeL 27 (v := ?_) rfl (by kernel_rfl) (by kernel_rfl) (by kernel_rfl) (fun _ _ _ h => h) ⟨by rfl, ?_⟩ (by assumption) ?_
      rotate_left
      · intro w hS; go_simp <;> with_reducible rfl
      simp only [Act.put, List.setIfInBounds_toArray, List.set_cons_zero, List.set_cons_succ]
      refine takeL 28 (v := ?_) rfl (by kernel_rfl) (by kernel_rfl) (by kernel_rfl) (fun _ _ _ h => h) ⟨by rfl, ?_⟩ (by assumption) ?_
      rotate_left
      · intro w hS; go_simp <;> with_reducible rfl
      simp only [Act.put, List.setIfInBounds_toArray, List.set_cons_zero, List.set_cons_succ]
      refine takeL 29 (v := ?_) rfl (by kernel_rfl) (by kernel_rfl) (by kernel_rfl) (fun _ _ _ h => h) ⟨by rfl, ?_⟩ (by assumption) ?_
      rotate_left
      · intro w hS; go_simp <;> with_reducible rfl
      simp only [Act.put, List.setIfInBounds_toArray, List.set_cons_zero, List.set_cons_succ]
      refine takeL 30 (v := ?_) rfl (by kernel_rfl) (by kernel_rfl) (by kernel_rfl) (fun _ _ _ h => h) ⟨by rfl, ?_⟩ (by assumption) ?_
      rotate_left
      · intro w hS; have f1 := (hS.cell (p := ⟨gW, 0, none⟩) hlw).trans qf; have f2 := (hS.cell (p := ⟨gW, 1, none⟩) hlw).trans qh; have f3 := (hS.cell (p := ⟨gh, i, none⟩) hlh).trans qi; have f4 := (hS.cell (p := ⟨gh, k, none⟩) hlh).trans qk; have f5 := (hS.cell (p := ⟨bi, oi + j, none⟩) s1).trans q1; have f6 := (hS.cell (p := ⟨bk, ok + j, none⟩) s2).trans q2; go_simp <;> with_reducible rfl
      simp only [Act.put, List.setIfInBounds_toArray, List.set_cons_zero, List.set_cons_succ]
      refine takeL 31 (v := ?_) rfl (by kernel_rfl) (by kernel_rfl) (by kernel_rfl) (fun _ _ _ h => h) ⟨by rfl, ?_⟩ (by assumption) ?_
      rotate_left
      · intro w hS; go_simp <;> with_reducible rfl
      simp only [Act.put, List.setIfInBounds_toArray, List.set_cons_zero, List.set_cons_succ]
      refine takeL 32 (v := ?_) rfl (by kernel_rfl) (by kernel_rfl) (by kernel_rfl) (fun _ _ _ h => h) ⟨by rfl, ?_⟩ (by assumption) ?_
      rotate_left
      · intro w hS; go_simp <;> with_reducible rfl
      simp only [Act.put, List.setIfInBounds_toArray, List.set_cons_zero, List.set_cons_succ]
      refine takeL 33 (v := ?_) rfl (by kernel_rfl) (by kernel_rfl) (by kernel_rfl) (fun _ _ _ h => h) ⟨by rfl, ?_⟩ (by assumption) ?_
      rotate_left
      · intro w hS; have f1 := (hS.cell (p := ⟨gW, 0, none⟩) hlw).trans qf; have f2 := (hS.cell (p := ⟨gW, 1, none⟩) hlw).trans qh; have f3 := (hS.cell (p := ⟨gh, i, none⟩) hlh).trans qi; have f4 := (hS.cell (p := ⟨gh, k, none⟩) hlh).trans qk; have f5 := (hS.cell (p := ⟨bi, oi + j, none⟩) s1).trans q1; have f6 := (hS.cell (p := ⟨bk, ok + j, none⟩) s2).trans q2; go_simp <;> with_reducible rfl
      simp only [Act.put, List.setIfInBounds_toArray, List.set_cons_zero, List.set_cons_succ]
      refine takeL 34 (v := ?_) rfl (by kernel_rfl) (by kernel_rfl) (by kernel_rfl) (fun _ _ _ h => h) ⟨by rfl, ?_⟩ (by assumption) ?_
      rotate_left
      · intro w hS; go_simp <;> with_reducible rfl
      simp only [Act.put, List.setIfInBounds_toArray, List.set_cons_zero, List.set_cons_succ]
      refine takeL 35 (v := ?_) rfl (by kernel_rfl) (by kernel_rfl) (by kernel_rfl) (fun _ _ _ h => h) ⟨by rfl, ?_⟩ (by assumption) ?_
      rotate_left
      · intro w hS; go_simp <;> with_reducible rfl
      simp only [Act.put, List.setIfInBounds_toArray, List.set_cons_zero, List.set_cons_succ]
      refine takeL 36 (v := ?_) rfl (by kernel_rfl) (by kernel_rfl) (by kernel_rfl) (fun _ _ _ h => h) ⟨by rfl, ?_⟩ (by assumption) ?_
      rotate_left
      · intro w hS; have f1 := (hS.cell (p := ⟨gW, 0, none⟩) hlw).trans qf; have f2 := (hS.cell (p := ⟨gW, 1, none⟩) hlw).trans qh; have f3 := (hS.cell (p := ⟨gh, i, none⟩) hlh).trans qi; have f4 := (hS.cell (p := ⟨gh, k, none⟩) hlh).trans qk; have f5 := (hS.cell (p := ⟨bi, oi + j, none⟩) s1).trans q1; have f6 := (hS.cell (p := ⟨bk, ok + j, none⟩) s2).trans q2; go_simp <;> with_reducible rfl
      simp only [Act.put, List.setIfInBounds_toArray, List.set_cons_zero, List.set_cons_succ]
      refine oneL 37 rfl (by kernel_rfl) (by rfl) (fun K hK => ?_)
      go_simp
      go_at_call 96
      (with_reducible refine (gfp_Mul p c y z _ HP.out EZ.out).mono ?_); rintro e w2 ⟨rfl, b2⟩
      refine hK.out _ _ (hHeld.trans (b2.mono hHeld.size)) (fun hHeld => ?_)
      clear hK K
      try simp only [Act.put, List.setIfInBounds_toArray, List.set_cons_zero, List.set_cons_succ]
      refine oneL 38 rfl (by kernel_rfl) (by rfl) (fun K hK => ?_)
      go_simp
      go_at_call 119
      (with_reducible refine (gfp_Sub p x z z' _ HP.out EZ'.out).mono ?_); rintro e w3 ⟨rfl, b3⟩
      refine hK.out _ _ (hHeld.trans (b3.mono hHeld.size)) (fun hHeld => ?_)
      clear hK K
      try simp only [Act.put, List.setIfInBounds_toArray, List.set_cons_zero, List.set_cons_succ]
      refine takeL 39 (v := ?_) rfl (by kernel_rfl) (by kernel_rfl) (by kernel_rfl) (fun _ _ _ h => h) ⟨by rfl, ?_⟩ (by assumption) ?_
      rotate_left
      · intro w hS; go_simp <;> with_reducible rfl
      simp only [Act.put, List.setIfInBounds_toArray, List.set_cons_zero, List.set_cons_succ]
      refine doneL (by kernel_rfl) ?_ _
      refine lastL rfl (by rfl) ?_
      have h2 := h.next hHeld
      have B2 := (B0.trans (hHeld.mono hbw)).setCell (p := ⟨bi, oi + j, none⟩) b1 (.int .u64 (z' : Nat))
      have hsz : base ≤ w3.heap.size := Nat.le_trans hbw hHeld.size
      obtain ⟨⟨u, q3, -⟩, f3, -, -⟩ := h2.h.at hvi hjn
      have h3 : Hk p (w3.setCell ⟨bi, oi + j, none⟩ (.int .u64 (z' : Nat))) base gW n (fun a b => if a = i ∧ b < (j + 1) then H a b - C * H k b else H a b) (fun a b => if a = i ∧ b < j then P a b - C * P k b else P a b) (.slice (some ⟨gh, 0, none⟩) n ch) (.slice (some ⟨gp, 0, none⟩) n cp) hs2 ps2 := (h2.storeH hvi hjn (x := H i j - C * H k j) (by rw [EZ2.out])).congr (fun a l _ _ => by
        unfold updE; dsimp only
        by_cases h1 : a = i
        · subst h1
          by_cases h2 : l = j
          · subst h2; rw [if_pos ⟨rfl, rfl⟩, if_pos ⟨rfl, by omega⟩]
          · rw [if_neg (fun h => h2 h.2)]
            by_cases h3 : l < j
            · rw [if_pos ⟨rfl, h3⟩, if_pos ⟨rfl, by omega⟩]
            · rw [if_neg (fun h => h3 h.2), if_neg (by omega)]
        · rw [if_neg (fun h => h1 h.1), if_neg (fun h => h1 h.1), if_neg (fun h => h1 h.1)]) (fun _ _ _ _ => rfl)
      clear h h2 B0 hHeld b2 b3 q1 q2 qf qh qi qk hlw hlh s1 s2 b1 hvi hvk EZ EZ' EZ2 hbw
      go_upto_region 4 with (fail)
      clear q3 f3
      generalize hw : w3.setCell ⟨bi, oi + j, none⟩ (.int .u64 (z' : Nat)) = w1 at *
      have hbw : base ≤ w1.heap.size := by rw [← hw]; simpa using hsz
      have h := h3; have B0 := B2
      clear h3 B2 hw hsz
      obtain ⟨vi, hvi⟩ := h.p.hdr hi
      obtain ⟨vk, hvk⟩ := h.p.hdr hk
      obtain ⟨ai, ci, rfl, -⟩ := (h.p.row i vi hvi).slice
      obtain ⟨ak, ck, rfl, -⟩ := (h.p.row k vk hvk).slice
      obtain ⟨bi, oi, rfl⟩ := h.p.ao hvi (by omega)
      obtain ⟨bk, ok, rfl⟩ := h.p.ao hvk (by omega)
      have bd := Drawn.below (w' := w1.drew) ⟨1, rfl⟩ w1.heap.size
      replace h := h.next bd
      replace B0 := B0.trans (bd.mono hbw)
      have hbw : base ≤ w1.drew.heap.size := hbw
      clear bd
      have qf := h.blk.cell 0; have qh := h.blk.cell 2
      have qi := h.p.head rfl hi; rw [hvi] at qi
      have qk := h.p.head rfl hk; rw [hvk] at qk
      have hlw := h.blk.lt
      have hlh : gp < w1.drew.heap.size := by
        obtain ⟨cur, hcur⟩ := h.p.cellH rfl
        exact (Array.getElem?_eq_some_iff.1 hcur).1
      obtain ⟨⟨x0, q1, hx⟩, f1, b1, s1⟩ := h.p.at hvi hjn
      obtain ⟨⟨y0, q2, hy⟩, f2, b2, s2⟩ := h.p.at hvk hjn
      have hx : x0 = .int .u64 ((P i j).val : Nat) := by rw [hx, if_neg (by omega)]
      have hy : y0 = .int .u64 ((P k j).val : Nat) := by rw [hy, if_neg (by omega)]
      obtain ⟨x, ex⟩ : ∃ x, x = (P i j).val := ⟨_, rfl⟩
      obtain ⟨y, ey⟩ : ∃ y, y = (P k j).val := ⟨_, rfl⟩
      obtain ⟨z, ez⟩ : ∃ z, z = (Zp.of p c * Zp.of p y).val := ⟨_, rfl⟩
      obtain ⟨z', ez'⟩ : ∃ z', z' = (Zp.of p x - Zp.of p z).val := ⟨_, rfl⟩
      have ez2 : z' = (P i j - C * P k j).val := by rw [ez', ez, ex, ey, HC.out, Zp.of_val, Zp.of_val, Zp.of_val, Zp.of_val]
      rw [hx, ← ex] at q1
      rw [hy, ← ey] at q2
      have EZ := Lib.hid ez; have EZ' := Lib.hid ez'; have EZ2 := Lib.hid ez2
      clear ex ey ez ez' ez2 hx hy f1 f2 b2
      refine startP (S := (fun w' => Below (w1.drew).heap.size (w1.drew) w')) (by kernel_rfl) _ rfl rfl rfl (by kernel_rfl) (Below.refl _ _) (fun hHeld => ?_)
      refine takeL 0 (v := ?_) rfl (by kernel_rfl) (by kernel_rfl) (by kernel_rfl) (fun _ _ _ h => h) ⟨by rfl, ?_⟩ (by assumption) ?_
      rotate_left
      · intro w hS; go_simp <;> with_reducible rfl
      simp only [Act.put, List.setIfInBounds_toArray, List.set_cons_zero, List.set_cons_succ]
      refine takeL 1 (v := ?_) rfl (by kernel_rfl) (by kernel_rfl) (by kernel_rfl) (fun _ _ _ h => h) ⟨by rfl, ?_⟩ (by assumption) ?_
      rotate_left
      · intro w hS; go_simp <;> with_reducible rfl
      simp only [Act.put, List.setIfInBounds_toArray, List.set_cons_zero, List.set_cons_succ]
      refine takeL 2 (v := ?_) rfl (by kernel_rfl) (by kernel_rfl) (by kernel_rfl) (fun _ _ _ h => h) ⟨by rfl, ?_⟩ (by assumption) ?_
      rotate_left
      · intro w hS; go_simp <;> with_reducible rfl
      simp only [Act.put, List.setIfInBounds_toArray, List.set_cons_zero, List.set_cons_succ]
      refine takeL 3 (v := ?_) rfl (by kernel_rfl) (by kernel_rfl) (by kernel_rfl) (fun _ _ _ h => h) ⟨by rfl, ?_⟩ (by assumption) ?_
      rotate_left
      · intro w hS; have f1 := (hS.cell (p := ⟨gW, 0, none⟩) hlw).trans qf; have f2 := (hS.cell (p := ⟨gW, 2, none⟩) hlw).trans qh; have f3 := (hS.cell (p := ⟨gp, i, none⟩) hlh).trans qi; have f4 := (hS.cell (p := ⟨gp, k, none⟩) hlh).trans qk; have f5 := (hS.cell (p := ⟨bi, oi + j, none⟩) s1).trans q1; have f6 := (hS.cell (p := ⟨bk, ok + j, none⟩) s2).trans q2; go_simp <;> with_reducible rfl
      simp only [Act.put, List.setIfInBounds_toArray, List.set_cons_zero, List.set_cons_succ]
      refine takeL 4 (v := ?_) rfl (by kernel_rfl) (by kernel_rfl) (by kernel_rfl) (fun _ _ _ h => h) ⟨by rfl, ?_⟩ (by assumption) ?_
      rotate_left
      · intro w hS; go_simp <;> with_reducible rfl
      simp only [Act.put, List.setIfInBounds_toArray, List.set_cons_zero, List.set_cons_succ]
      refine takeL 5 (v := ?_) rfl (by kernel_rfl) (by kernel_rfl) (by kernel_rfl) (fun _ _ _ h => h) ⟨by rfl, ?_⟩ (by assumption) ?_
      rotate_left
      · intro w hS; go_simp <;> with_reducible rfl
      simp only [Act.put, List.setIfInBounds_toArray, List.set_cons_zero, List.set_cons_succ]
      refine takeL 6 (v := ?_) rfl (by kernel_rfl) (by kernel_rfl) (by kernel_rfl) (fun _ _ _ h => h) ⟨by rfl, ?_⟩ (by assumption) ?_
      rotate_left
      · intro w hS; have f1 := (hS.cell (p := ⟨gW, 0, none⟩) hlw).trans qf; have f2 := (hS.cell (p := ⟨gW, 2, none⟩) hlw).trans qh; have f3 := (hS.cell (p := ⟨gp, i, none⟩) hlh).trans qi; have f4 := (hS.cell (p := ⟨gp, k, none⟩) hlh).trans qk; have f5 := (hS.cell (p := ⟨bi, oi + j, none⟩) s1).trans q1; have f6 := (hS.cell (p := ⟨bk, ok + j, none⟩) s2).trans q2; go_simp <;> with_reducible rfl
      simp only [Act.put, List.setIfInBounds_toArray, List.set_cons_zero, List.set_cons_succ]
      refine takeL 7 (v := ?_) rfl (by kernel_rfl) (by kernel_rfl) (by kernel_rfl) (fun _ _ _ h => h) ⟨by rfl, ?_⟩ (by assumption) ?_
      rotate_left
      · intro w hS; go_simp <;> with_reducible rfl
      simp only [Act.put, List.setIfInBounds_toArray, List.set_cons_zero, List.set_cons_succ]
      refine takeL 8 (v := ?_) rfl (by kernel_rfl) (by kernel_rfl) (by kernel_rfl) (fun _ _ _ h => h) ⟨by rfl, ?_⟩ (by assumption) ?_
      rotate_left
      · intro w hS; go_simp <;> with_reducible rfl
      simp only [Act.put, List.setIfInBounds_toArray, List.set_cons_zero, List.set_cons_succ]
      refine takeL 9 (v := ?_) rfl (by kernel_rfl) (by kernel_rfl) (by kernel_rfl) (fun _ _ _ h => h) ⟨by rfl, ?_⟩ (by assumption) ?_
      rotate_left
      · intro w hS; go_simp <;> with_reducible rfl
      simp only [Act.put, List.setIfInBounds_toArray, List.set_cons_zero, List.set_cons_succ]
      refine takeL 10 (v := ?_) rfl (by kernel_rfl) (by kernel_rfl) (by kernel_rfl) (fun _ _ _ h => h) ⟨by rfl, ?_⟩ (by assumption) ?_
      rotate_left
      · intro w hS; go_simp <;> with_reducible rfl
      simp only [Act.put, List.setIfInBounds_toArray, List.set_cons_zero, List.set_cons_succ]
      refine takeL 11 (v := ?_) rfl (by kernel_rfl) (by kernel_rfl) (by kernel_rfl) (fun _ _ _ h => h) ⟨by rfl, ?_⟩ (by assumption) ?_
      rotate_left
      · intro w hS; have f1 := (hS.cell (p := ⟨gW, 0, none⟩) hlw).trans qf; have f2 := (hS.cell (p := ⟨gW, 2, none⟩) hlw).trans qh; have f3 := (hS.cell (p := ⟨gp, i, none⟩) hlh).trans qi; have f4 := (hS.cell (p := ⟨gp, k, none⟩) hlh).trans qk; have f5 := (hS.cell (p := ⟨bi, oi + j, none⟩) s1).trans q1; have f6 := (hS.cell (p := ⟨bk, ok + j, none⟩) s2).trans q2; go_simp <;> with_reducible rfl
      simp only [Act.put, List.setIfInBounds_toArray, List.set_cons_zero, List.set_cons_succ]
      refine takeL 12 (v := ?_) rfl (by kernel_rfl) (by kernel_rfl) (by kernel_rfl) (fun _ _ _ h => h) ⟨by rfl, ?_⟩ (by assumption) ?_
      rotate_left
      · intro w hS; go_simp <;> with_reducible rfl
      simp only [Act.put, List.setIfInBounds_toArray, List.set_cons_zero, List.set_cons_succ]
      refine takeL 13 (v := ?_) rfl (by kernel_rfl) (by kernel_rfl) (by kernel_rfl) (fun _ _ _ h => h) ⟨by rfl, ?_⟩ (by assumption) ?_
      rotate_left
      · intro w hS; go_simp <;> with_reducible rfl
      simp only [Act.put, List.setIfInBounds_toArray, List.set_cons_zero, List.set_cons_succ]
      refine takeL 14 (v := ?_) rfl (by kernel_rfl) (by kernel_rfl) (by kernel_rfl) (fun _ _ _ h => h) ⟨by rfl, ?_⟩ (by assumption) ?_
      rotate_left
      · intro w hS; go_simp <;> with_reducible rfl
      simp only [Act.put, List.setIfInBounds_toArray, List.set_cons_zero, List.set_cons_succ]
      refine takeL 15 (v := ?_) rfl (by kernel_rfl) (by kernel_rfl) (by kernel_rfl) (fun _ _ _ h => h) ⟨by rfl, ?_⟩ (by assumption) ?_
      rotate_left
      · intro w hS; have f1 := (hS.cell (p := ⟨gW, 0, none⟩) hlw).trans qf; have f2 := (hS.cell (p := ⟨gW, 2, none⟩) hlw).trans qh; have f3 := (hS.cell (p := ⟨gp, i, none⟩) hlh).trans qi; have f4 := (hS.cell (p := ⟨gp, k, none⟩) hlh).trans qk; have f5 := (hS.cell (p := ⟨bi, oi + j, none⟩) s1).trans q1; have f6 := (hS.cell (p := ⟨bk, ok + j, none⟩) s2).trans q2; go_simp <;> with_reducible rfl
      simp only [Act.put, List.setIfInBounds_toArray, List.set_cons_zero, List.set_cons_succ]
      refine takeL 16 (v := ?_) rfl (by kernel_rfl) (by kernel_rfl) (by kernel_rfl) (fun _ _ _ h => h) ⟨by rfl, ?_⟩ (by assumption) ?_
      rotate_left
      · intro w hS; go_simp <;> with_reducible rfl
      simp only [Act.put, List.setIfInBounds_toArray, List.set_cons_zero, List.set_cons_succ]
      refine takeL 17 (v := ?_) rfl (by kernel_rfl) (by kernel_rfl) (by kernel_rfl) (fun _ _ _ h => h) ⟨by rfl, ?_⟩ (by assumption) ?_
      rotate_left
      · intro w hS; go_simp <;> with_reducible rfl
      simp only [Act.put, List.setIfInBounds_toArray, List.set_cons_zero, List.set_cons_succ]
      refine takeL 18 (v := ?_) rfl (by kernel_rfl) (by kernel_rfl) (by kernel_rfl) (fun _ _ _ h => h) ⟨by rfl, ?_⟩ (by assumption) ?_
      rotate_left
      · intro w hS; have f1 := (hS.cell (p := ⟨gW, 0, none⟩) hlw).trans qf; have f2 := (hS.cell (p := ⟨gW, 2, none⟩) hlw).trans qh; have f3 := (hS.cell (p := ⟨gp, i, none⟩) hlh).trans qi; have f4 := (hS.cell (p := ⟨gp, k, none⟩) hlh).trans qk; have f5 := (hS.cell (p := ⟨bi, oi + j, none⟩) s1).trans q1; have f6 := (hS.cell (p := ⟨bk, ok + j, none⟩) s2).trans q2; go_simp <;> with_reducible rfl
      simp only [Act.put, List.setIfInBounds_toArray, List.set_cons_zero, List.set_cons_succ]
      refine takeL 19 (v := ?_) rfl (by kernel_rfl) (by kernel_rfl) (by kernel_rfl) (fun _ _ _ h => h) ⟨by rfl, ?_⟩ (by assumption) ?_
      rotate_left
      · intro w hS; go_simp <;> with_reducible rfl
      simp only [Act.put, List.setIfInBounds_toArray, List.set_cons_zero, List.set_cons_succ]
      refine takeL 20 (v := ?_) rfl (by kernel_rfl) (by kernel_rfl) (by kernel_rfl) (fun _ _ _ h => h) ⟨by rfl, ?_⟩ (by assumption) ?_
      rotate_left
      · intro w hS; go_simp <;> with_reducible rfl
      simp only [Act.put, List.setIfInBounds_toArray, List.set_cons_zero, List.set_cons_succ]
      refine takeL 21 (v := ?_) rfl (by kernel_rfl) (by kernel_rfl) (by kernel_rfl) (fun _ _ _ h => h) ⟨by rfl, ?_⟩ (by assumption) ?_
      rotate_left
      · intro w hS; have f1 := (hS.cell (p := ⟨gW, 0, none⟩) hlw).trans qf; have f2 := (hS.cell (p := ⟨gW, 2, none⟩) hlw).trans qh; have f3 := (hS.cell (p := ⟨gp, i, none⟩) hlh).trans qi; have f4 := (hS.cell (p := ⟨gp, k, none⟩) hlh).trans qk; have f5 := (hS.cell (p := ⟨bi, oi + j, none⟩) s1).trans q1; have f6 := (hS.cell (p := ⟨bk, ok + j, none⟩) s2).trans q2; go_simp <;> with_reducible rfl
      simp only [Act.put, List.setIfInBounds_toArray, List.set_cons_zero, List.set_cons_succ]
      refine takeL 22 (v := ?_) rfl (by kernel_rfl) (by kernel_rfl) (by kernel_rfl) (fun _ _ _ h => h) ⟨by rfl, ?_⟩ (by assumption) ?_
      rotate_left
      · intro w hS; go_simp <;> with_reducible rfl
      simp only [Act.put, List.setIfInBounds_toArray, List.set_cons_zero, List.set_cons_succ]
      refine takeL 23 (v := ?_) rfl (by kernel_rfl) (by kernel_rfl) (by kernel_rfl) (fun _ _ _ h => h) ⟨by rfl, ?_⟩ (by assumption) ?_
      rotate_left
      · intro w hS; go_simp <;> with_reducible rfl
      simp only [Act.put, List.setIfInBounds_toArray, List.set_cons_zero, List.set_cons_succ]
      refine takeL 24 (v := ?_) rfl (by kernel_rfl) (by kernel_rfl) (by kernel_rfl) (fun _ _ _ h => h) ⟨by rfl, ?_⟩ (by assumption) ?_
      rotate_left
      · intro w hS; go_simp <;> with_reducible rfl
      simp only [Act.put, List.setIfInBounds_toArray, List.set_cons_zero, List.set_cons_succ]
      refine takeL 25 (v := ?_) rfl (by kernel_rfl) (by kernel_rfl) (by kernel_rfl) (fun _ _ _ h => h) ⟨by rfl, ?_⟩ (by assumption) ?_
      rotate_left
      · intro w hS; have f1 := (hS.cell (p := ⟨gW, 0, none⟩) hlw).trans qf; have f2 := (hS.cell (p := ⟨gW, 2, none⟩) hlw).trans qh; have f3 := (hS.cell (p := ⟨gp, i, none⟩) hlh).trans qi; have f4 := (hS.cell (p := ⟨gp, k, none⟩) hlh).trans qk; have f5 := (hS.cell (p := ⟨bi, oi + j, none⟩) s1).trans q1; have f6 := (hS.cell (p := ⟨bk, ok + j, none⟩) s2).trans q2; go_simp <;> with_reducible rfl
      simp only [Act.put, List.setIfInBounds_toArray, List.set_cons_zero, List.set_cons_succ]
      refine takeL 26 (v := ?_) rfl (by kernel_rfl) (by kernel_rfl) (by kernel_rfl) (fun _ _ _ h => h) ⟨by rfl, ?_⟩ (by assumption) ?_
      rotate_left
      · intro w hS; go_simp <;> with_reducible rfl
      simp only [Act.put, List.setIfInBounds_toArray, List.set_cons_zero, List.set_cons_succ]
      refine takeL 27 (v := ?_) rfl (by kernel_rfl) (by kernel_rfl) (by kernel_rfl) (fun _ _ _ h => h) ⟨by rfl, ?_⟩ (by assumption) ?_
      rotate_left
      · intro w hS; go_simp <;> with_reducible rfl
      simp only [Act.put, List.setIfInBounds_toArray, List.set_cons_zero, List.set_cons_succ]
      refine takeL 28 (v := ?_) rfl (by kernel_rfl) (by kernel_rfl) (by kernel_rfl) (fun _ _ _ h => h) ⟨by rfl, ?_⟩ (by assumption) ?_
      rotate_left
      · intro w hS; go_simp <;> with_reducible rfl
      simp only [Act.put, List.setIfInBounds_toArray, List.set_cons_zero, List.set_cons_succ]
      refine takeL 29 (v := ?_) rfl (by kernel_rfl) (by kernel_rfl) (by kernel_rfl) (fun _ _ _ h => h) ⟨by rfl, ?_⟩ (by assumption) ?_
      rotate_left
      · intro w hS; go_simp <;> with_reducible rfl
      simp only [Act.put, List.setIfInBounds_toArray, List.set_cons_zero, List.set_cons_succ]
      refine takeL 30 (v := ?_) rfl (by kernel_rfl) (by kernel_rfl) (by kernel_rfl) (fun _ _ _ h => h) ⟨by rfl, ?_⟩ (by assumption) ?_
      rotate_left
      · intro w hS; have f1 := (hS.cell (p := ⟨gW, 0, none⟩) hlw).trans qf; have f2 := (hS.cell (p := ⟨gW, 2, none⟩) hlw).trans qh; have f3 := (hS.cell (p := ⟨gp, i, none⟩) hlh).trans qi; have f4 := (hS.cell (p := ⟨gp, k, none⟩) hlh).trans qk; have f5 := (hS.cell (p := ⟨bi, oi + j, none⟩) s1).trans q1; have f6 := (hS.cell (p := ⟨bk, ok + j, none⟩) s2).trans q2; go_simp <;> with_reducible rfl
      simp only [Act.put, List.setIfInBounds_toArray, List.set_cons_zero, List.set_cons_succ]
      refine takeL 31 (v := ?_) rfl (by kernel_rfl) (by kernel_rfl) (by kernel_rfl) (fun _ _ _ h => h) ⟨by rfl, ?_⟩ (by assumption) ?_
      rotate_left
      · intro w hS; go_simp <;> with_reducible rfl
      simp only [Act.put, List.setIfInBounds_toArray, List.set_cons_zero, List.set_cons_succ]
      refine takeL 32 (v := ?_) rfl (by kernel_rfl) (by kernel_rfl) (by kernel_rfl) (fun _ _ _ h => h) ⟨by rfl, ?_⟩ (by assumption) ?_
      rotate_left
      · intro w hS; go_simp <;> with_reducible rfl
      simp only [Act.put, List.setIfInBounds_toArray, List.set_cons_zero, List.set_cons_succ]
      refine takeL 33 (v := ?_) rfl (by kernel_rfl) (by kernel_rfl) (by kernel_rfl) (fun _ _ _ h => h) ⟨by rfl, ?_⟩ (by assumption) ?_
      rotate_left
      · intro w hS; have f1 := (hS.cell (p := ⟨gW, 0, none⟩) hlw).trans qf; have f2 := (hS.cell (p := ⟨gW, 2, none⟩) hlw).trans qh; have f3 := (hS.cell (p := ⟨gp, i, none⟩) hlh).trans qi; have f4 := (hS.cell (p := ⟨gp, k, none⟩) hlh).trans qk; have f5 := (hS.cell (p := ⟨bi, oi + j, none⟩) s1).trans q1; have f6 := (hS.cell (p := ⟨bk, ok + j, none⟩) s2).trans q2; go_simp <;> with_reducible rfl
      simp only [Act.put, List.setIfInBounds_toArray, List.set_cons_zero, List.set_cons_succ]
      refine takeL 34 (v := ?_) rfl (by kernel_rfl) (by kernel_rfl) (by kernel_rfl) (fun _ _ _ h => h) ⟨by rfl, ?_⟩ (by assumption) ?_
      rotate_left
      · intro w hS; go_simp <;> with_reducible rfl
      simp only [Act.put, List.setIfInBounds_toArray, List.set_cons_zero, List.set_cons_succ]
      refine takeL 35 (v := ?_) rfl (by kernel_rfl) (by kernel_rfl) (by kernel_rfl) (fun _ _ _ h => h) ⟨by rfl, ?_⟩ (by assumption) ?_
      rotate_left
      · intro w hS; go_simp <;> with_reducible rfl
      simp only [Act.put, List.setIfInBounds_toArray, List.set_cons_zero, List.set_cons_succ]
      refine takeL 36 (v := ?_) rfl (by kernel_rfl) (by kernel_rfl) (by kernel_rfl) (fun _ _ _ h => h) ⟨by rfl, ?_⟩ (by assumption) ?_
      rotate_left
      · intro w hS; have f1 := (hS.cell (p := ⟨gW, 0, none⟩) hlw).trans qf; have f2 := (hS.cell (p := ⟨gW, 2, none⟩) hlw).trans qh; have f3 := (hS.cell (p := ⟨gp, i, none⟩) hlh).trans qi; have f4 := (hS.cell (p := ⟨gp, k, none⟩) hlh).trans qk; have f5 := (hS.cell (p := ⟨bi, oi + j, none⟩) s1).trans q1; have f6 := (hS.cell (p := ⟨bk, ok + j, none⟩) s2).trans q2; go_simp <;> with_reducible rfl
      simp only [Act.put, List.setIfInBounds_toArray, List.set_cons_zero, List.set_cons_succ]
      refine oneL 37 rfl (by kernel_rfl) (by rfl) (fun K hK => ?_)
      go_simp
      go_at_call 96
      (with_reducible refine (gfp_Mul p c y z _ HP.out EZ.out).mono ?_); rintro e w2 ⟨rfl, b2⟩
      refine hK.out _ _ (hHeld.trans (b2.mono hHeld.size)) (fun hHeld => ?_)
      clear hK K
      try simp only [Act.put, List.setIfInBounds_toArray, List.set_cons_zero, List.set_cons_succ]
      refine oneL 38 rfl (by kernel_rfl) (by rfl) (fun K hK => ?_)
      go_simp
      go_at_call 119
      (with_reducible refine (gfp_Sub p x z z' _ HP.out EZ'.out).mono ?_); rintro e w3 ⟨rfl, b3⟩
      refine hK.out _ _ (hHeld.trans (b3.mono hHeld.size)) (fun hHeld => ?_)
      clear hK K
      try simp only [Act.put, List.setIfInBounds_toArray, List.set_cons_zero, List.set_cons_succ]
      refine takeL 39 (v := ?_) rfl (by kernel_rfl) (by kernel_rfl) (by kernel_rfl) (fun _ _ _ h => h) ⟨by rfl, ?_⟩ (by assumption) ?_
      rotate_left
      · intro w hS; go_simp <;> with_reducible rfl
      simp only [Act.put, List.setIfInBounds_toArray, List.set_cons_zero, List.set_cons_succ]
      refine doneL (by kernel_rfl) ?_ _
      refine lastL rfl (by rfl) ?_
      have h2 := h.next hHeld
      have B2 := (B0.trans (hHeld.mono hbw)).setCell (p := ⟨bi, oi + j, none⟩) b1 (.int .u64 (z' : Nat))
      have hsz : base ≤ w3.heap.size := Nat.le_trans hbw hHeld.size
      obtain ⟨⟨u, q3, -⟩, f3, -, -⟩ := h2.p.at hvi hjn
      have h3 : Hk p (w3.setCell ⟨bi, oi + j, none⟩ (.int .u64 (z' : Nat))) base gW n (fun a b => if a = i ∧ b < (j + 1) then H a b - C * H k b else H a b) (fun a b => if a = i ∧ b < (j + 1) then P a b - C * P k b else P a b) (.slice (some ⟨gh, 0, none⟩) n ch) (.slice (some ⟨gp, 0, none⟩) n cp) hs2 ps2 := (h2.storeP hvi hjn (x := P i j - C * P k j) (by rw [EZ2.out])).congr (fun _ _ _ _ => rfl) (fun a l _ _ => by
        unfold updE; dsimp only
        by_cases h1 : a = i
        · subst h1
          by_cases h2 : l = j
          · subst h2; rw [if_pos ⟨rfl, rfl⟩, if_pos ⟨rfl, by omega⟩]
          · rw [if_neg (fun h => h2 h.2)]
            by_cases h3 : l < j
            · rw [if_pos ⟨rfl, h3⟩, if_pos ⟨rfl, by omega⟩]
            · rw [if_neg (fun h => h3 h.2), if_neg (by omega)]
        · rw [if_neg (fun h => h1 h.1), if_neg (fun h => h1 h.1), if_neg (fun h => h1 h.1)])
      clear h h2 B0 hHeld b2 b3 q1 q2 qf qh qi qk hlw hlh s1 s2 b1 hvi hvk EZ EZ' EZ2 hbw
      have st := Lib.hid (show HkTo p w base gW n (fun a b => if a = i ∧ b < (j + 1) then H a b - C * H k b else H a b) (fun a b => if a = i ∧ b < (j + 1) then P a b - C * P k b else P a b) (.slice (some ⟨gh, 0, none⟩) n ch) (.slice (some ⟨gp, 0, none⟩) n cp) (w3.setCell ⟨bi, oi + j, none⟩ (.int .u64 (z' : Nat))) from ⟨_, _, h3, B2⟩)
      clear h3 B2
      go_wp2
      go_roundw
      case rel => exact ⟨j + 1, by omega, by go_num, st.out⟩
      case measure => simp [intOf] <;> omega
    · obtain rfl : j = n := by omega
      have hbw : base ≤ wr.heap.size := Nat.le_trans hbase B0.size
      obtain ⟨R, eR⟩ : ∃ R, R = rcl H i k C := ⟨_, rfl⟩
      have st : HkTo p w base gW j (fun a b => if a < 0 ∧ b = k then R a k + C * R a i else R a b) (rcl P i k C) (.slice (some ⟨gh, 0, none⟩) j ch) (.slice (some ⟨gp, 0, none⟩) j cp) wr := ⟨_, _, h.congr (fun a b _ hb => by
        rw [if_neg (show ¬ (a < 0 ∧ b = k) by omega), eR]; unfold rcl
        by_cases e : a = i
        · rw [if_pos ⟨e, hb⟩, if_pos e]
        · rw [if_neg (fun h => e h.1), if_neg e]) (fun a b _ hb => by
        unfold rcl
        by_cases e : a = i
        · rw [if_pos ⟨e, hb⟩, if_pos e]
        · rw [if_neg (fun h => e h.1), if_neg e]), B0⟩
      have HR := Lib.hid eR; clear eR
      have q1 := h.blk.cell 1
      clear h B0
      go_wp2
      clear q1
      go_loopw [108] (fun rv wr => ∃ r : Nat, r ≤ j ∧ rv = .int .i64 r ∧ HkTo p w base gW j (fun a b => if a < r ∧ b = k then R a k + C * R a i else R a b) (rcl P i k C) (.slice (some ⟨gh, 0, none⟩) j ch) (.slice (some ⟨gp, 0, none⟩) j cp) wr) (fun rv _ => j - (intOf rv).toNat)
      case atStart => exact ⟨0, by omega, rfl, st⟩
      case round =>
        clear st hbw
        obtain ⟨r, hr, rfl, hs2, ps2, h, B0⟩ := hrel
        by_cases hrn : r < j
        · obtain ⟨v, hv⟩ := h.h.hdr hrn
          have qr := h.h.head rfl hrn; rw [hv] at qr
          obtain ⟨ao, cr, rfl, hcr⟩ := (h.h.row r v hv).slice
          obtain ⟨b, o, rfl⟩ := h.h.ao hv (by omega)
          have hbw : base ≤ wr.heap.size := Nat.le_trans hbase B0.size
          go_upto_region 9 with (fail)
          have bd := Drawn.below (w' := wr.drew) ⟨1, rfl⟩ wr.heap.size
          replace h := h.next bd
          replace B0 := B0.trans (bd.mono hbw)
          have hbw : base ≤ wr.drew.heap.size := hbw
          clear bd
          obtain ⟨⟨x0, q1, hx⟩, f1, b1, s1⟩ := h.h.at hv hk
          obtain ⟨⟨y0, q2, hy⟩, f2, b2, s2⟩ := h.h.at hv hi
          have hx : x0 = .int .u64 ((R r k).val : Nat) := by rw [hx, if_neg (by omega)]
          have hy : y0 = .int .u64 ((R r i).val : Nat) := by rw [hy, if_neg (by omega)]
          obtain ⟨x, ex⟩ : ∃ x, x = (R r k).val := ⟨_, rfl⟩
          obtain ⟨y, ey⟩ : ∃ y, y = (R r i).val := ⟨_, rfl⟩
          obtain ⟨z, ez⟩ : ∃ z, z = (Zp.of p c * Zp.of p y).val := ⟨_, rfl⟩
          obtain ⟨z', ez'⟩ : ∃ z', z' = (Zp.of p x + Zp.of p z).val := ⟨_, rfl⟩
          have ez2 : z' = (R r k + C * R r i).val := by rw [ez', ez, ex, ey, HC.out, Zp.of_val, Zp.of_val, Zp.of_val, Zp.of_val]
          rw [hx, ← ex] at q1
          rw [hy, ← ey] at q2
          have EZ := Lib.hid ez; have EZ' := Lib.hid ez'; have EZ2 := Lib.hid ez2
          clear ex ey ez ez' ez2 hx hy f1 f2 b2
          have qf := h.blk.cell 0
          have hlw := h.blk.lt
          refine startP (S := (fun w' => Below (wr.drew).heap.size (wr.drew) w')) (by kernel_rfl) _ rfl rfl rfl (by kernel_rfl) (Below.refl _ _) (fun hHeld => ?_)
          refine takeL 0 (v := ?_) rfl (by kernel_rfl) (by kernel_rfl) (by kernel_rfl) (fun _ _ _ h => h) ⟨by rfl, ?_⟩ (by assumption) ?_
          rotate_left
          · intro w hS; go_simp <;> with_reducible rfl
          simp only [Act.put, List.setIfInBounds_toArray, List.set_cons_zero, List.set_cons_succ]
          refine takeL 1 (v := ?_) rfl (by kernel_rfl) (by kernel_rfl) (by kernel_rfl) (fun _ _ _ h => h) ⟨by rfl, ?_⟩ (by assumption) ?_
          rotate_left
          · intro w hS; go_simp <;> with_reducible rfl
          simp only [Act.put, List.setIfInBounds_toArray, List.set_cons_zero, List.set_cons_succ]
          refine takeL 2 (v := ?_) rfl (by kernel_rfl) (by kernel_rfl) (by kernel_rfl) (fun _ _ _ h => h) ⟨by rfl, ?_⟩ (by assumption) ?_
          rotate_left
          · intro w hS; go_simp <;> with_reducible rfl
          simp only [Act.put, List.setIfInBounds_toArray, List.set_cons_zero, List.set_cons_succ]
          refine takeL 3 (v := ?_) rfl (by kernel_rfl) (by kernel_rfl) (by kernel_rfl) (fun _ _ _ h => h) ⟨by rfl, ?_⟩ (by assumption) ?_
          rotate_left
          · intro w hS; go_simp <;> with_reducible rfl
          simp only [Act.put, List.setIfInBounds_toArray, List.set_cons_zero, List.set_cons_succ]
          refine takeL 4 (v := ?_) rfl (by kernel_rfl) (by kernel_rfl) (by kernel_rfl) (fun _ _ _ h => h) ⟨by rfl, ?_⟩ (by assumption) ?_
          rotate_left
          · intro w hS; go_simp <;> with_reducible rfl
          simp only [Act.put, List.setIfInBounds_toArray, List.set_cons_zero, List.set_cons_succ]
          refine takeL 5 (v := ?_) rfl (by kernel_rfl) (by kernel_rfl) (by kernel_rfl) (fun _ _ _ h => h) ⟨by rfl, ?_⟩ (by assumption) ?_
          rotate_left
          · intro w hS; have f1 := (hS.cell (p := ⟨gW, 0, none⟩) hlw).trans qf; have f5 := (hS.cell (p := ⟨b, o + k, none⟩) s1).trans q1; have f6 := (hS.cell (p := ⟨b, o + i, none⟩) s2).trans q2; go_simp <;> with_reducible rfl
          simp only [Act.put, List.setIfInBounds_toArray, List.set_cons_zero, List.set_cons_succ]
          refine takeL 6 (v := ?_) rfl (by kernel_rfl) (by kernel_rfl) (by kernel_rfl) (fun _ _ _ h => h) ⟨by rfl, ?_⟩ (by assumption) ?_
          rotate_left
          · intro w hS; go_simp <;> with_reducible rfl
          simp only [Act.put, List.setIfInBounds_toArray, List.set_cons_zero, List.set_cons_succ]
          refine takeL 7 (v := ?_) rfl (by kernel_rfl) (by kernel_rfl) (by kernel_rfl) (fun _ _ _ h => h) ⟨by rfl, ?_⟩ (by assumption) ?_
          rotate_left
          · intro w hS; go_simp <;> with_reducible rfl
          simp only [Act.put, List.setIfInBounds_toArray, List.set_cons_zero, List.set_cons_succ]
          refine takeL 8 (v := ?_) rfl (by kernel_rfl) (by kernel_rfl) (by kernel_rfl) (fun _ _ _ h => h) ⟨by rfl, ?_⟩ (by assumption) ?_
          rotate_left
          · intro w hS; go_simp <;> with_reducible rfl
          simp only [Act.put, List.setIfInBounds_toArray, List.set_cons_zero, List.set_cons_succ]
          refine takeL 9 (v := ?_) rfl (by kernel_rfl) (by kernel_rfl) (by kernel_rfl) (fun _ _ _ h => h) ⟨by rfl, ?_⟩ (by assumption) ?_
          rotate_left
          · intro w hS; have f1 := (hS.cell (p := ⟨gW, 0, none⟩) hlw).trans qf; have f5 := (hS.cell (p := ⟨b, o + k, none⟩) s1).trans q1; have f6 := (hS.cell (p := ⟨b, o + i, none⟩) s2).trans q2; go_simp <;> with_reducible rfl
          simp only [Act.put, List.setIfInBounds_toArray, List.set_cons_zero, List.set_cons_succ]
          refine takeL 10 (v := ?_) rfl (by kernel_rfl) (by kernel_rfl) (by kernel_rfl) (fun _ _ _ h => h) ⟨by rfl, ?_⟩ (by assumption) ?_
          rotate_left
          · intro w hS; go_simp <;> with_reducible rfl
          simp only [Act.put, List.setIfInBounds_toArray, List.set_cons_zero, List.set_cons_succ]
          refine takeL 11 (v := ?_) rfl (by kernel_rfl) (by kernel_rfl) (by kernel_rfl) (fun _ _ _ h => h) ⟨by rfl, ?_⟩ (by assumption) ?_
          rotate_left
          · intro w hS; go_simp <;> with_reducible rfl
          simp only [Act.put, List.setIfInBounds_toArray, List.set_cons_zero, List.set_cons_succ]
          refine takeL 12 (v := ?_) rfl (by kernel_rfl) (by kernel_rfl) (by kernel_rfl) (fun _ _ _ h => h) ⟨by rfl, ?_⟩ (by assumption) ?_
          rotate_left
          · intro w hS; go_simp <;> with_reducible rfl
          simp only [Act.put, List.setIfInBounds_toArray, List.set_cons_zero, List.set_cons_succ]
          refine takeL 13 (v := ?_) rfl (by kernel_rfl) (by kernel_rfl) (by kernel_rfl) (fun _ _ _ h => h) ⟨by rfl, ?_⟩ (by assumption) ?_
          rotate_left
          · intro w hS; have f1 := (hS.cell (p := ⟨gW, 0, none⟩) hlw).trans qf; have f5 := (hS.cell (p := ⟨b, o + k, none⟩) s1).trans q1; have f6 := (hS.cell (p := ⟨b, o + i, none⟩) s2).trans q2; go_simp <;> with_reducible rfl
          simp only [Act.put, List.setIfInBounds_toArray, List.set_cons_zero, List.set_cons_succ]
          refine takeL 14 (v := ?_) rfl (by kernel_rfl) (by kernel_rfl) (by kernel_rfl) (fun _ _ _ h => h) ⟨by rfl, ?_⟩ (by assumption) ?_
          rotate_left
          · intro w hS; go_simp <;> with_reducible rfl
          simp only [Act.put, List.setIfInBounds_toArray, List.set_cons_zero, List.set_cons_succ]
          refine takeL 15 (v := ?_) rfl (by kernel_rfl) (by kernel_rfl) (by kernel_rfl) (fun _ _ _ h => h) ⟨by rfl, ?_⟩ (by assumption) ?_
          rotate_left
          · intro w hS; go_simp <;> with_reducible rfl
          simp only [Act.put, List.setIfInBounds_toArray, List.set_cons_zero, List.set_cons_succ]
          refine takeL 16 (v := ?_) rfl (by kernel_rfl) (by kernel_rfl) (by kernel_rfl) (fun _ _ _ h => h) ⟨by rfl, ?_⟩ (by assumption) ?_
          rotate_left
          · intro w hS; go_simp <;> with_reducible rfl
          simp only [Act.put, List.setIfInBounds_toArray, List.set_cons_zero, List.set_cons_succ]
          refine takeL 17 (v := ?_) rfl (by kernel_rfl) (by kernel_rfl) (by kernel_rfl) (fun _ _ _ h => h) ⟨by rfl, ?_⟩ (by assumption) ?_
          rotate_left
          · intro w hS; go_simp <;> with_reducible rfl
          simp only [Act.put, List.setIfInBounds_toArray, List.set_cons_zero, List.set_cons_succ]
          refine takeL 18 (v := ?_) rfl (by kernel_rfl) (by kernel_rfl) (by kernel_rfl) (fun _ _ _ h => h) ⟨by rfl, ?_⟩ (by assumption) ?_
          rotate_left
          · intro w hS; have f1 := (hS.cell (p := ⟨gW, 0, none⟩) hlw).trans qf; have f5 := (hS.cell (p := ⟨b, o + k, none⟩) s1).trans q1; have f6 := (hS.cell (p := ⟨b, o + i, none⟩) s2).trans q2; go_simp <;> with_reducible rfl
          simp only [Act.put, List.setIfInBounds_toArray, List.set_cons_zero, List.set_cons_succ]
          refine oneL 19 rfl (by kernel_rfl) (by rfl) (fun K hK => ?_)
          go_simp
          go_at_call 96
          (with_reducible refine (gfp_Mul p c y z _ HP.out EZ.out).mono ?_); rintro e w2 ⟨rfl, b2⟩
          refine hK.out _ _ (hHeld.trans (b2.mono hHeld.size)) (fun hHeld => ?_)
          clear hK K
          try simp only [Act.put, List.setIfInBounds_toArray, List.set_cons_zero, List.set_cons_succ]
          refine oneL 20 rfl (by kernel_rfl) (by rfl) (fun K hK => ?_)
          go_simp
          go_at_call 95
          (with_reducible refine (gfp_Add p x z z' _ HP.out EZ'.out).mono ?_); rintro e w3 ⟨rfl, b3⟩
          refine hK.out _ _ (hHeld.trans (b3.mono hHeld.size)) (fun hHeld => ?_)
          clear hK K
          try simp only [Act.put, List.setIfInBounds_toArray, List.set_cons_zero, List.set_cons_succ]
          refine takeL 21 (v := ?_) rfl (by kernel_rfl) (by kernel_rfl) (by kernel_rfl) (fun _ _ _ h => h) ⟨by rfl, ?_⟩ (by assumption) ?_
          rotate_left
          · intro w hS; go_simp <;> with_reducible rfl
          simp only [Act.put, List.setIfInBounds_toArray, List.set_cons_zero, List.set_cons_succ]
          refine doneL (by kernel_rfl) ?_ _
          refine lastL rfl (by rfl) ?_
          have h2 := h.next hHeld
          have B2 := (B0.trans (hHeld.mono hbw)).setCell (p := ⟨b, o + k, none⟩) b1 (.int .u64 (z' : Nat))
          obtain ⟨⟨u, q3, -⟩, f3, -, -⟩ := h2.h.at hv hk
          have st := Lib.hid (show HkTo p w base gW j (fun a b => if a < r + 1 ∧ b = k then R a k + C * R a i else R a b) (rcl P i k C) (.slice (some ⟨gh, 0, none⟩) j ch) (.slice (some ⟨gp, 0, none⟩) j cp) (w3.setCell ⟨b, o + k, none⟩ (.int .u64 (z' : Nat))) from ⟨_, _, (h2.storeH hv hk (x := R r k + C * R r i) (by rw [EZ2.out])).congr (fun a l _ _ => by
            unfold updE; dsimp only
            by_cases h1 : a = r
            · subst h1
              by_cases h2 : l = k
              · subst h2; rw [if_pos ⟨rfl, rfl⟩, if_pos ⟨by omega, rfl⟩]
              · rw [if_neg (fun h => h2 h.2), if_neg (fun h => h2 h.2), if_neg (fun h => h2 h.2)]
            · rw [if_neg (fun h => h1 h.1)]
              by_cases h3 : a < r ∧ l = k
              · rw [if_pos h3, if_pos ⟨by omega, h3.2⟩]
              · rw [if_neg h3, if_neg (fun h => h3 ⟨by omega, h.2⟩)]) (fun _ _ _ _ => rfl), B2⟩)
          clear h h2 B0 B2 hHeld b2 b3 q1 q2 qf s1 s2 b1 hv
          go_wp2
          go_roundw
          case rel => exact ⟨r + 1, by omega, by go_num, st.out⟩
          case measure => simp [intOf] <;> omega
        · obtain rfl : r = j := by omega
          go_wp2
          go_end0
          exact ⟨rfl, _, _, h.congr (fun a b ha _ => by
            unfold hcl
            rw [← HR.out]
            by_cases e : b = k
            · subst e; rw [if_pos ⟨ha, rfl⟩, if_pos rfl]
            · rw [if_neg (fun h => e h.2), if_neg e]) (fun _ _ _ _ => rfl), B0⟩

end Go.Proofs.Ythghdjpjbngllaa
