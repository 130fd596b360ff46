/- hess.work: a multiple of a row is taken out of another one. -/
import Derived.Test.YtkmfhabgempjiaaQfM8
namespace Go.Proofs.Ytkmfhabgempjiaa
set_option maxHeartbeats 4000000
open Go.RowKit
set_option maxRecDepth 20000 in
theorem hs_clear (p : Nat) (w : World) (hp : FP p) (base gW n : Nat) (H P : Nat → Nat → Zp p) (hv pv : Value) (hs ps : List Value) (h : Hk p w base gW n H P hv pv hs ps)
  (i k : Nat) (hi : i < n) (hk : k < n) (hik : i ≠ k) (c : Nat) (C : Zp p) (hc : c = C.val) (hn : n ≤ 1000) (hbase : base ≤ w.heap.size) :
  Calls Try.prog 175 #[.pointer (some ⟨gW, 0, none⟩), .int .i64 i, .int .i64 k, .int .u64 c] w (HkPost p w base gW n (hcl H i k C) (rcl P i k C) hv pv) := by
 have HP := Lib.hid hp; clear hp
 have HC := Lib.hid hc; clear hc
 obtain ⟨gh, ch, rfl, hgh, hghl, hnch⟩ : ∃ g cap, hv = .slice (some ⟨g, 0, none⟩) n cap ∧ base ≤ g ∧ g < w.heap.size ∧ n ≤ cap := by
  rcases h.h.shape with ⟨_, h0⟩ | h0
  ·omega
  ·exact h0
 obtain ⟨gp, cp, rfl, hgp, hgpl, hncp⟩ : ∃ g cap, pv = .slice (some ⟨g, 0, none⟩) n cap ∧ base ≤ g ∧ g < w.heap.size ∧ n ≤ cap := by
  rcases h.p.shape with ⟨_, h0⟩ | h0
  ·omega
  ·exact h0
 have q1 := h.blk.cell 1
 obtain ⟨vi, hvi⟩ := h.h.hdr hi
 obtain ⟨ai, ci, rfl, -⟩ := (h.h.row i vi hvi).slice
 have qi := h.h.head rfl hi; rw [hvi] at qi
 have st : HkTo p w base gW n (fun a b => if a = i ∧ b < 0 then H a b - C * H k b else H a b) (fun a b => if a = i ∧ b < 0 then P a b - C * P k b else P a b) (.slice (some ⟨gh, 0, none⟩) n ch) (.slice (some ⟨gp, 0, none⟩) n cp) w := ⟨_, _, h.congr (fun a b _ _ => by rw [if_neg (by omega)]) (fun a b _ _ => by rw [if_neg (by omega)]), Below.refl _ _⟩
 clear h hvi
 go_enter Try.func175, Try.ntmps175
 go_wp2
 clear q1 qi
 go_loopw [19] (fun jv wr => ∃ j : Nat, j ≤ n ∧ jv = .int .i64 j ∧ HkTo p w base gW n (fun a b => if a = i ∧ b < j then H a b - C * H k b else H a b) (fun a b => if a = i ∧ b < j then P a b - C * P k b else P a b) (.slice (some ⟨gh, 0, none⟩) n ch) (.slice (some ⟨gp, 0, none⟩) n cp) wr) (fun jv _ => n - (intOf jv).toNat)
 case atStart => exact ⟨0, by omega, rfl, st⟩
 case round =>
  clear st
  obtain ⟨j, hj, rfl, hs2, ps2, h, B0⟩ := hrel
  by_cases hjn : j < n
  ·have hbw : base ≤ wr.heap.size := Nat.le_trans hbase B0.size
   obtain ⟨vi, hvi⟩ := h.h.hdr hi
   obtain ⟨vk, hvk⟩ := h.h.hdr hk
   obtain ⟨ai, ci, rfl, -⟩ := (h.h.row i vi hvi).slice
   obtain ⟨ak, ck, rfl, -⟩ := (h.h.row k vk hvk).slice
   obtain ⟨bi, oi, rfl⟩ := h.h.ao hvi (by omega)
   obtain ⟨bk, ok, rfl⟩ := h.h.ao hvk (by omega)
   go_upto_region 3 with (fail)
   have bd := dw wr
   replace h := h.next bd
   replace B0 := B0.trans (bd.mono hbw)
   have hbw : base ≤ wr.drew.heap.size := hbw
   clear bd
   have qf := h.blk.cell 0; have qh := h.blk.cell 1
   have qi := h.h.head rfl hi; rw [hvi] at qi
   have qk := h.h.head rfl hk; rw [hvk] at qk
   have hlw := h.blk.lt
   have hlh : gh < wr.drew.heap.size := by
    obtain ⟨cur, hcur⟩ := h.h.cellH rfl
    exact (Array.getElem?_eq_some_iff.1 hcur).1
   obtain ⟨⟨x0, q1, hx⟩, f1, b1, s1⟩ := h.h.at hvi hjn
   obtain ⟨⟨y0, q2, hy⟩, f2, b2, s2⟩ := h.h.at hvk hjn
   have hx : x0 = .int .u64 ((H i j).val : Nat) := by rw [hx, if_neg (by omega)]
   have hy : y0 = .int .u64 ((H k j).val : Nat) := by rw [hy, if_neg (by omega)]
   obtain ⟨x, ex⟩ : ∃ x, x = (H i j).val := ⟨_, rfl⟩
   obtain ⟨y, ey⟩ : ∃ y, y = (H k j).val := ⟨_, rfl⟩
   obtain ⟨z, ez⟩ : ∃ z, z = (Zp.of p c * Zp.of p y).val := ⟨_, rfl⟩
   obtain ⟨z', ez'⟩ : ∃ z', z' = (Zp.of p x - Zp.of p z).val := ⟨_, rfl⟩
   have ez2 : z' = (H i j - C * H k j).val := by rw [ez', ez, ex, ey, HC.out, Zp.of_val, Zp.of_val, Zp.of_val, Zp.of_val]
   rw [hx, ← ex] at q1
   rw [hy, ← ey] at q2
   have EZ := Lib.hid ez; have EZ' := Lib.hid ez'; have EZ2 := Lib.hid ez2
   clear ex ey ez ez' ez2 hx hy f1 f2 b2
   have z0 := Lib.hid fun (w : World) (hS : Below (wr.drew).heap.size (wr.drew) w) => And.intro ((hS.cell (p := ⟨gW, 0, none⟩) hlw).trans qf) (And.intro ((hS.cell (p := ⟨gW, 1, none⟩) hlw).trans qh) (And.intro ((hS.cell (p := ⟨gh, i, none⟩) hlh).trans qi) (And.intro ((hS.cell (p := ⟨gh, k, none⟩) hlh).trans qk) (And.intro ((hS.cell (p := ⟨bi, oi + j, none⟩) s1).trans q1) ((hS.cell (p := ⟨bk, ok + j, none⟩) s2).trans q2)))))
   refine startP (S := (fun w' => Below (wr.drew).heap.size (wr.drew) w')) (by kernel_rfl) _ rfl rfl rfl (by kernel_rfl) (Below.refl _ _) (fun hHeld => ?_)
   refine tk 0 ?_
   refine tk 1 ?_
   refine tk 2 ?_
   refine tf 3 z0.out ?_
   refine tk 4 ?_
   refine tk 5 ?_
   refine tf 6 z0.out ?_
   refine tk 7 ?_
   refine tk 8 ?_
   refine tk 9 ?_
   refine tk 10 ?_
   refine tf 11 z0.out ?_
   refine tk 12 ?_
   refine tk 13 ?_
   refine tk 14 ?_
   refine tf 15 z0.out ?_
   refine tk 16 ?_
   refine tk 17 ?_
   refine tf 18 z0.out ?_
   refine tk 19 ?_
   refine tk 20 ?_
   refine tf 21 z0.out ?_
   refine tk 22 ?_
   refine tk 23 ?_
   refine tk 24 ?_
   refine tf 25 z0.out ?_
   refine tk 26 ?_
   refine tk 27 ?_
   refine tk 28 ?_
   refine tk 29 ?_
   refine tf 30 z0.out ?_
   refine tk 31 ?_
   refine tk 32 ?_
   refine tf 33 z0.out ?_
   refine tk 34 ?_
   refine tk 35 ?_
   refine tf 36 z0.out ?_
   refine on 37 fun K hK => ?_
   go_simp
   go_at_call 118
   (with_reducible refine (gfp_Mul p c y z _ HP.out EZ.out).mono ?_); rintro e w2 ⟨rfl, b2⟩
   refine hK.out _ _ (hHeld.trans (b2.mono hHeld.size)) (fun hHeld => ?_)
   clear hK K
   try simp only [Act.put, zq1, zq2, zq3]
   refine on 38 fun K hK => ?_
   go_simp
   go_at_call 136
   (with_reducible refine (gfp_Sub p x z z' _ HP.out EZ'.out).mono ?_); rintro e w3 ⟨rfl, b3⟩
   refine hK.out _ _ (hHeld.trans (b3.mono hHeld.size)) (fun hHeld => ?_)
   clear hK K
   try simp only [Act.put, zq1, zq2, zq3]
   refine tk 39 ?_
   clear z0; refine doneL (by kernel_rfl) ?_ _
   refine lastL rfl (by rfl) ?_
   have h2 := h.next hHeld
   have B2 := (B0.trans (hHeld.mono hbw)).setCell (p := ⟨bi, oi + j, none⟩) b1 (.int .u64 (z' : Nat))
   have hsz : base ≤ w3.heap.size := Nat.le_trans hbw hHeld.size
   obtain ⟨⟨u, q3, -⟩, f3, -, -⟩ := h2.h.at hvi hjn
   have h3 : Hk p (w3.setCell ⟨bi, oi + j, none⟩ (.int .u64 (z' : Nat))) base gW n (fun a b => if a = i ∧ b < (j + 1) then H a b - C * H k b else H a b) (fun a b => if a = i ∧ b < j then P a b - C * P k b else P a b) (.slice (some ⟨gh, 0, none⟩) n ch) (.slice (some ⟨gp, 0, none⟩) n cp) hs2 ps2 := (h2.storeH hvi hjn (x := H i j - C * H k j) (by rw [EZ2.out])).congr (fun a l _ _ => by
    unfold updE; dsimp only
    by_cases h1 : a = i
    ·subst h1
     by_cases h2 : l = j
     ·subst h2; rw [if_pos ⟨rfl, rfl⟩, if_pos ⟨rfl, by omega⟩]
     ·rw [if_neg (fun h => h2 h.2)]
      by_cases h3 : l < j
      ·rw [if_pos ⟨rfl, h3⟩, if_pos ⟨rfl, by omega⟩]
      ·rw [if_neg (fun h => h3 h.2), if_neg (by omega)]
    ·rw [if_neg (fun h => h1 h.1), if_neg (fun h => h1 h.1), if_neg (fun h => h1 h.1)]) (fun _ _ _ _ => rfl)
   clear h h2 B0 hHeld b2 b3 q1 q2 qf qh qi qk hlw hlh s1 s2 b1 hvi hvk EZ EZ' EZ2 hbw
   go_upto_region 4 with (fail)
   clear q3 f3
   generalize hw : w3.setCell ⟨bi, oi + j, none⟩ (.int .u64 (z' : Nat)) = w1 at *
   have hbw : base ≤ w1.heap.size := by rw [← hw]; simpa using hsz
   have h := h3; have B0 := B2
   clear h3 B2 hw hsz
   obtain ⟨vi, hvi⟩ := h.p.hdr hi
   obtain ⟨vk, hvk⟩ := h.p.hdr hk
   obtain ⟨ai, ci, rfl, -⟩ := (h.p.row i vi hvi).slice
   obtain ⟨ak, ck, rfl, -⟩ := (h.p.row k vk hvk).slice
   obtain ⟨bi, oi, rfl⟩ := h.p.ao hvi (by omega)
   obtain ⟨bk, ok, rfl⟩ := h.p.ao hvk (by omega)
   have bd := dw w1
   replace h := h.next bd
   replace B0 := B0.trans (bd.mono hbw)
   have hbw : base ≤ w1.drew.heap.size := hbw
   clear bd
   have qf := h.blk.cell 0; have qh := h.blk.cell 2
   have qi := h.p.head rfl hi; rw [hvi] at qi
   have qk := h.p.head rfl hk; rw [hvk] at qk
   have hlw := h.blk.lt
   have hlh : gp < w1.drew.heap.size := by
    obtain ⟨cur, hcur⟩ := h.p.cellH rfl
    exact (Array.getElem?_eq_some_iff.1 hcur).1
   obtain ⟨⟨x0, q1, hx⟩, f1, b1, s1⟩ := h.p.at hvi hjn
   obtain ⟨⟨y0, q2, hy⟩, f2, b2, s2⟩ := h.p.at hvk hjn
   have hx : x0 = .int .u64 ((P i j).val : Nat) := by rw [hx, if_neg (by omega)]
   have hy : y0 = .int .u64 ((P k j).val : Nat) := by rw [hy, if_neg (by omega)]
   obtain ⟨x, ex⟩ : ∃ x, x = (P i j).val := ⟨_, rfl⟩
   obtain ⟨y, ey⟩ : ∃ y, y = (P k j).val := ⟨_, rfl⟩
   obtain ⟨z, ez⟩ : ∃ z, z = (Zp.of p c * Zp.of p y).val := ⟨_, rfl⟩
   obtain ⟨z', ez'⟩ : ∃ z', z' = (Zp.of p x - Zp.of p z).val := ⟨_, rfl⟩
   have ez2 : z' = (P i j - C * P k j).val := by rw [ez', ez, ex, ey, HC.out, Zp.of_val, Zp.of_val, Zp.of_val, Zp.of_val]
   rw [hx, ← ex] at q1
   rw [hy, ← ey] at q2
   have EZ := Lib.hid ez; have EZ' := Lib.hid ez'; have EZ2 := Lib.hid ez2
   clear ex ey ez ez' ez2 hx hy f1 f2 b2
   have z0 := Lib.hid fun (w : World) (hS : Below (w1.drew).heap.size (w1.drew) w) => And.intro ((hS.cell (p := ⟨gW, 0, none⟩) hlw).trans qf) (And.intro ((hS.cell (p := ⟨gW, 2, none⟩) hlw).trans qh) (And.intro ((hS.cell (p := ⟨gp, i, none⟩) hlh).trans qi) (And.intro ((hS.cell (p := ⟨gp, k, none⟩) hlh).trans qk) (And.intro ((hS.cell (p := ⟨bi, oi + j, none⟩) s1).trans q1) ((hS.cell (p := ⟨bk, ok + j, none⟩) s2).trans q2)))))
   refine startP (S := (fun w' => Below (w1.drew).heap.size (w1.drew) w')) (by kernel_rfl) _ rfl rfl rfl (by kernel_rfl) (Below.refl _ _) (fun hHeld => ?_)
   refine tk 0 ?_
   refine tk 1 ?_
   refine tk 2 ?_
   refine tf 3 z0.out ?_
   refine tk 4 ?_
   refine tk 5 ?_
   refine tf 6 z0.out ?_
   refine tk 7 ?_
   refine tk 8 ?_
   refine tk 9 ?_
   refine tk 10 ?_
   refine tf 11 z0.out ?_
   refine tk 12 ?_
   refine tk 13 ?_
   refine tk 14 ?_
   refine tf 15 z0.out ?_
   refine tk 16 ?_
   refine tk 17 ?_
   refine tf 18 z0.out ?_
   refine tk 19 ?_
   refine tk 20 ?_
   refine tf 21 z0.out ?_
   refine tk 22 ?_
   refine tk 23 ?_
   refine tk 24 ?_
   refine tf 25 z0.out ?_
   refine tk 26 ?_
   refine tk 27 ?_
   refine tk 28 ?_
   refine tk 29 ?_
   refine tf 30 z0.out ?_
   refine tk 31 ?_
   refine tk 32 ?_
   refine tf 33 z0.out ?_
   refine tk 34 ?_
   refine tk 35 ?_
   refine tf 36 z0.out ?_
   refine on 37 fun K hK => ?_
   go_simp
   go_at_call 118
   (with_reducible refine (gfp_Mul p c y z _ HP.out EZ.out).mono ?_); rintro e w2 ⟨rfl, b2⟩
   refine hK.out _ _ (hHeld.trans (b2.mono hHeld.size)) (fun hHeld => ?_)
   clear hK K
   try simp only [Act.put, zq1, zq2, zq3]
   refine on 38 fun K hK => ?_
   go_simp
   go_at_call 136
   (with_reducible refine (gfp_Sub p x z z' _ HP.out EZ'.out).mono ?_); rintro e w3 ⟨rfl, b3⟩
   refine hK.out _ _ (hHeld.trans (b3.mono hHeld.size)) (fun hHeld => ?_)
   clear hK K
   try simp only [Act.put, zq1, zq2, zq3]
   refine tk 39 ?_
   clear z0; refine doneL (by kernel_rfl) ?_ _
   refine lastL rfl (by rfl) ?_
   have h2 := h.next hHeld
   have B2 := (B0.trans (hHeld.mono hbw)).setCell (p := ⟨bi, oi + j, none⟩) b1 (.int .u64 (z' : Nat))
   have hsz : base ≤ w3.heap.size := Nat.le_trans hbw hHeld.size
   obtain ⟨⟨u, q3, -⟩, f3, -, -⟩ := h2.p.at hvi hjn
   have h3 : Hk p (w3.setCell ⟨bi, oi + j, none⟩ (.int .u64 (z' : Nat))) base gW n (fun a b => if a = i ∧ b < (j + 1) then H a b - C * H k b else H a b) (fun a b => if a = i ∧ b < (j + 1) then P a b - C * P k b else P a b) (.slice (some ⟨gh, 0, none⟩) n ch) (.slice (some ⟨gp, 0, none⟩) n cp) hs2 ps2 := (h2.storeP hvi hjn (x := P i j - C * P k j) (by rw [EZ2.out])).congr (fun _ _ _ _ => rfl) (fun a l _ _ => by
    unfold updE; dsimp only
    by_cases h1 : a = i
    ·subst h1
     by_cases h2 : l = j
     ·subst h2; rw [if_pos ⟨rfl, rfl⟩, if_pos ⟨rfl, by omega⟩]
     ·rw [if_neg (fun h => h2 h.2)]
      by_cases h3 : l < j
      ·rw [if_pos ⟨rfl, h3⟩, if_pos ⟨rfl, by omega⟩]
      ·rw [if_neg (fun h => h3 h.2), if_neg (by omega)]
    ·rw [if_neg (fun h => h1 h.1), if_neg (fun h => h1 h.1), if_neg (fun h => h1 h.1)])
   clear h h2 B0 hHeld b2 b3 q1 q2 qf qh qi qk hlw hlh s1 s2 b1 hvi hvk EZ EZ' EZ2 hbw
   have st := Lib.hid (show HkTo p w base gW n (fun a b => if a = i ∧ b < (j + 1) then H a b - C * H k b else H a b) (fun a b => if a = i ∧ b < (j + 1) then P a b - C * P k b else P a b) (.slice (some ⟨gh, 0, none⟩) n ch) (.slice (some ⟨gp, 0, none⟩) n cp) (w3.setCell ⟨bi, oi + j, none⟩ (.int .u64 (z' : Nat))) from ⟨_, _, h3, B2⟩)
   clear h3 B2
   go_wp2
   go_roundw
   case rel => exact ⟨j + 1, by omega, by go_num, st.out⟩
   case measure => simp [intOf] <;> omega
  ·obtain rfl : j = n := by omega
   have hbw : base ≤ wr.heap.size := Nat.le_trans hbase B0.size
   obtain ⟨R, eR⟩ : ∃ R, R = rcl H i k C := ⟨_, rfl⟩
   have st : HkTo p w base gW j (fun a b => if a < 0 ∧ b = k then R a k + C * R a i else R a b) (rcl P i k C) (.slice (some ⟨gh, 0, none⟩) j ch) (.slice (some ⟨gp, 0, none⟩) j cp) wr := ⟨_, _, h.congr (fun a b _ hb => by
    rw [if_neg (show ¬ (a < 0 ∧ b = k) by omega), eR]; unfold rcl
    by_cases e : a = i
    ·rw [if_pos ⟨e, hb⟩, if_pos e]
    ·rw [if_neg (fun h => e h.1), if_neg e]) (fun a b _ hb => by
    unfold rcl
    by_cases e : a = i
    ·rw [if_pos ⟨e, hb⟩, if_pos e]
    ·rw [if_neg (fun h => e h.1), if_neg e]), B0⟩
   have HR := Lib.hid eR; clear eR
   have q1 := h.blk.cell 1
   clear h B0
   go_wp2
   clear q1
   go_loopw [108] (fun rv wr => ∃ r : Nat, r ≤ j ∧ rv = .int .i64 r ∧ HkTo p w base gW j (fun a b => if a < r ∧ b = k then R a k + C * R a i else R a b) (rcl P i k C) (.slice (some ⟨gh, 0, none⟩) j ch) (.slice (some ⟨gp, 0, none⟩) j cp) wr) (fun rv _ => j - (intOf rv).toNat)
   case atStart => exact ⟨0, by omega, rfl, st⟩
   case round =>
    clear st hbw
    obtain ⟨r, hr, rfl, hs2, ps2, h, B0⟩ := hrel
    by_cases hrn : r < j
    ·obtain ⟨v, hv⟩ := h.h.hdr hrn
     have qr := h.h.head rfl hrn; rw [hv] at qr
     obtain ⟨ao, cr, rfl, hcr⟩ := (h.h.row r v hv).slice
     obtain ⟨b, o, rfl⟩ := h.h.ao hv (by omega)
     have hbw : base ≤ wr.heap.size := Nat.le_trans hbase B0.size
     go_upto_region 9 with (fail)
     have bd := dw wr
     replace h := h.next bd
     replace B0 := B0.trans (bd.mono hbw)
     have hbw : base ≤ wr.drew.heap.size := hbw
     clear bd
     obtain ⟨⟨x0, q1, hx⟩, f1, b1, s1⟩ := h.h.at hv hk
     obtain ⟨⟨y0, q2, hy⟩, f2, b2, s2⟩ := h.h.at hv hi
     have hx : x0 = .int .u64 ((R r k).val : Nat) := by rw [hx, if_neg (by omega)]
     have hy : y0 = .int .u64 ((R r i).val : Nat) := by rw [hy, if_neg (by omega)]
     obtain ⟨x, ex⟩ : ∃ x, x = (R r k).val := ⟨_, rfl⟩
     obtain ⟨y, ey⟩ : ∃ y, y = (R r i).val := ⟨_, rfl⟩
     obtain ⟨z, ez⟩ : ∃ z, z = (Zp.of p c * Zp.of p y).val := ⟨_, rfl⟩
     obtain ⟨z', ez'⟩ : ∃ z', z' = (Zp.of p x + Zp.of p z).val := ⟨_, rfl⟩
     have ez2 : z' = (R r k + C * R r i).val := by rw [ez', ez, ex, ey, HC.out, Zp.of_val, Zp.of_val, Zp.of_val, Zp.of_val]
     rw [hx, ← ex] at q1
     rw [hy, ← ey] at q2
     have EZ := Lib.hid ez; have EZ' := Lib.hid ez'; have EZ2 := Lib.hid ez2
     clear ex ey ez ez' ez2 hx hy f1 f2 b2
     have qf := h.blk.cell 0
     have hlw := h.blk.lt
     have z0 := Lib.hid fun (w : World) (hS : Below (wr.drew).heap.size (wr.drew) w) => And.intro ((hS.cell (p := ⟨gW, 0, none⟩) hlw).trans qf) (And.intro ((hS.cell (p := ⟨b, o + k, none⟩) s1).trans q1) ((hS.cell (p := ⟨b, o + i, none⟩) s2).trans q2))
     refine startP (S := (fun w' => Below (wr.drew).heap.size (wr.drew) w')) (by kernel_rfl) _ rfl rfl rfl (by kernel_rfl) (Below.refl _ _) (fun hHeld => ?_)
     refine tk 0 ?_
     refine tk 1 ?_
     refine tk 2 ?_
     refine tk 3 ?_
     refine tk 4 ?_
     refine tf 5 z0.out ?_
     refine tk 6 ?_
     refine tk 7 ?_
     refine tk 8 ?_
     refine tf 9 z0.out ?_
     refine tk 10 ?_
     refine tk 11 ?_
     refine tk 12 ?_
     refine tf 13 z0.out ?_
     refine tk 14 ?_
     refine tk 15 ?_
     refine tk 16 ?_
     refine tk 17 ?_
     refine tf 18 z0.out ?_
     refine on 19 fun K hK => ?_
     go_simp
     go_at_call 118
     (with_reducible refine (gfp_Mul p c y z _ HP.out EZ.out).mono ?_); rintro e w2 ⟨rfl, b2⟩
     refine hK.out _ _ (hHeld.trans (b2.mono hHeld.size)) (fun hHeld => ?_)
     clear hK K
     try simp only [Act.put, zq1, zq2, zq3]
     refine on 20 fun K hK => ?_
     go_simp
     go_at_call 117
     (with_reducible refine (gfp_Add p x z z' _ HP.out EZ'.out).mono ?_); rintro e w3 ⟨rfl, b3⟩
     refine hK.out _ _ (hHeld.trans (b3.mono hHeld.size)) (fun hHeld => ?_)
     clear hK K
     try simp only [Act.put, zq1, zq2, zq3]
     refine tk 21 ?_
     clear z0; refine doneL (by kernel_rfl) ?_ _
     refine lastL rfl (by rfl) ?_
     have h2 := h.next hHeld
     have B2 := (B0.trans (hHeld.mono hbw)).setCell (p := ⟨b, o + k, none⟩) b1 (.int .u64 (z' : Nat))
     obtain ⟨⟨u, q3, -⟩, f3, -, -⟩ := h2.h.at hv hk
     have st := Lib.hid (show HkTo p w base gW j (fun a b => if a < r + 1 ∧ b = k then R a k + C * R a i else R a b) (rcl P i k C) (.slice (some ⟨gh, 0, none⟩) j ch) (.slice (some ⟨gp, 0, none⟩) j cp) (w3.setCell ⟨b, o + k, none⟩ (.int .u64 (z' : Nat))) from ⟨_, _, (h2.storeH hv hk (x := R r k + C * R r i) (by rw [EZ2.out])).congr (fun a l _ _ => by
      unfold updE; dsimp only
      by_cases h1 : a = r
      ·subst h1
       by_cases h2 : l = k
       ·subst h2; rw [if_pos ⟨rfl, rfl⟩, if_pos ⟨by omega, rfl⟩]
       ·rw [if_neg (fun h => h2 h.2), if_neg (fun h => h2 h.2), if_neg (fun h => h2 h.2)]
      ·rw [if_neg (fun h => h1 h.1)]
       by_cases h3 : a < r ∧ l = k
       ·rw [if_pos h3, if_pos ⟨by omega, h3.2⟩]
       ·rw [if_neg h3, if_neg (fun h => h3 ⟨by omega, h.2⟩)]) (fun _ _ _ _ => rfl), B2⟩)
     clear h h2 B0 B2 hHeld b2 b3 q1 q2 qf s1 s2 b1 hv
     go_wp2
     go_roundw
     case rel => exact ⟨r + 1, by omega, by go_num, st.out⟩
     case measure => simp [intOf] <;> omega
    ·obtain rfl : r = j := by omega
     go_wp2
     go_end0
     exact ⟨rfl, _, _, h.congr (fun a b ha _ => by
      unfold hcl
      rw [← HR.out]
      by_cases e : b = k
      ·subst e; rw [if_pos ⟨ha, rfl⟩, if_pos rfl]
      ·rw [if_neg (fun h => e h.2), if_neg e]) (fun _ _ _ _ => rfl), B0⟩
end Go.Proofs.Ytkmfhabgempjiaa
/- hess.work: a column; the form. -/
namespace Go.Proofs.Ytkmfhabgempjiaa
set_option maxHeartbeats 4000000
open Go.RowKit
def HesC {R : Type} [CR R] (n m : Nat) (H : Nat → Nat → R) : Prop := ∀ i c, c + 1 < i → i < n → c + 1 < m → H i c = 0
section
variable {R : Type} [CR R] {n l : Nat} {H : Nat → Nat → R}
open CR
def HesL (n l i : Nat) (x : R) (H : Nat → Nat → R) : Prop := HesC n (l + 1) H ∧ H (l + 1) l = x ∧ ∀ a, l + 1 < a → a < i → H a l = 0
end
def HkC (p : Nat) (w : World) (base gW n : Nat) (H P : Nat → Nat → Zp p) (m : Nat) (hv pv : Value) (e : Ending) (w' : World) : Prop :=
 e = .returned (.tuple #[]) ∧ ∃ H' P', HkTo p w base gW n H' P' hv pv w' ∧ (∀ A : MT (Zp p) n n, Sim A H P → Sim A H' P') ∧ HesC n (m + 1) H'
def HcR (p : Nat) (w : World) (base gW n : Nat) (H P : Nat → Nat → Zp p) (l i : Nat) (x : Zp p) (hv pv : Value) (w' : World) : Prop :=
 ∃ H' P', HkTo p w base gW n H' P' hv pv w' ∧ (∀ A : MT (Zp p) n n, Sim A H P → Sim A H' P') ∧ HesL n l i x H'
set_option maxRecDepth 20000 in
theorem hs_column (p : Nat) (w : World) (hp : FP p) (ht : Trial p) (base gW n : Nat) (H P : Nat → Nat → Zp p) (hv pv : Value) (hs ps : List Value) (h : Hk p w base gW n H P hv pv hs ps)
  (m l : Nat) (hm : m = l + 1) (hmn : m < n) (hH : HesC n m H) (hn : n ≤ 1000) (hbase : base ≤ w.heap.size) :
  Calls Try.prog 153 #[.pointer (some ⟨gW, 0, none⟩), .int .i64 m] w (HkC p w base gW n H P m hv pv) := by
 have HP := Lib.hid hp; clear hp
 have HTR := Lib.hid ht; clear ht
 have HH := Lib.hid hH; clear hH
 obtain ⟨gh, ch, rfl, hgh, hghl, hnch⟩ : ∃ g cap, hv = .slice (some ⟨g, 0, none⟩) n cap ∧ base ≤ g ∧ g < w.heap.size ∧ n ≤ cap := by
  rcases h.h.shape with ⟨_, h0⟩ | h0
  ·omega
  ·exact h0
 obtain ⟨gp, cp, rfl, hgp, hgpl, hncp⟩ : ∃ g cap, pv = .slice (some ⟨g, 0, none⟩) n cap ∧ base ≤ g ∧ g < w.heap.size ∧ n ≤ cap := by
  rcases h.p.shape with ⟨_, h0⟩ | h0
  ·omega
  ·exact h0
 have s1 : IntKind.i64.wrap ((m : Int) - 1) = (l : Int) := by rw [IntWalk.i64_in _ ⟨by omega, by omega⟩]; omega
 have qh := h.blk.cell 1
 have HK := Lib.hid h; clear h
 have HM := Lib.hid hm
 have hlm : l < m := by omega
 have hml : l + 1 ≤ m := by omega
 clear hm
 go_enter Try.func153, Try.ntmps153
 go_wp2
 go_loop [4] (fun iv => ∃ i : Nat, m ≤ i ∧ i ≤ n ∧ iv = .int .i64 i ∧ ∀ a, m ≤ a → a < i → H a l = 0) (fun iv => n - (intOf iv).toNat)
 case atStart => exact ⟨m, by omega, by omega, rfl, fun a _ _ => by omega⟩
 case round =>
  obtain ⟨i, hmi, hin, rfl, h0⟩ := hrel
  have HZ := Lib.hid h0; clear h0
  by_cases hi : i < n
  ·obtain ⟨v, hv⟩ := HK.out.h.hdr hi
   have qi := HK.out.h.head rfl hi; rw [hv] at qi
   obtain ⟨ao, cr, rfl, hcr⟩ := (HK.out.h.row i v hv).slice
   obtain ⟨b, o, rfl⟩ := HK.out.h.ao hv (by omega)
   obtain ⟨⟨u, q1, hu⟩, -, -, -⟩ := HK.out.h.at hv (show l < n by omega)
   by_cases hx : (H i l).val = 0
   ·rw [hu, hx] at q1
    have HZ2 := Lib.hid (show ∀ a, m ≤ a → a < i + 1 → H a l = 0 from fun a h1 h2 => by
     by_cases e : a = i
     ·rw [e]; exact zp0 hx
     ·exact HZ.out a h1 (by omega))
    clear hu hx hv
    go_wp2
    go_round
    case rel => exact ⟨i + 1, by omega, by omega, by go_num, HZ2.out⟩
    case measure => simp [intOf] <;> omega
   ·obtain ⟨x, ex⟩ : ∃ x, x = (H i l).val := ⟨_, rfl⟩
    rw [hu, ← ex] at q1
    rw [← ex] at hx
    have hx2 : ((x : Int) == 0) = false := by simpa using hx
    have EX := Lib.hid ex; clear hu ex hv
    obtain ⟨X, eX⟩ : ∃ X, X = H i l := ⟨_, rfl⟩
    have hXv : x = X.val := by rw [EX.out, eX]
    have HX := Lib.hid eX; have HXV := Lib.hid hXv; clear eX hXv
    obtain ⟨j, ej⟩ : ∃ j, j = m + 1 := ⟨_, rfl⟩
    have HJ := Lib.hid ej; clear ej
    go_upto_if 40 with (fail)
    clear q1 qi hx2
    go_cut [] (fun wx => HcR p w base gW n H P l (m + 1) X (.slice (some ⟨gh, 0, none⟩) n ch) (.slice (some ⟨gp, 0, none⟩) n cp) wx)
    case first =>
     by_cases him : i = m
     ·have hng : ¬ (i : Int) > (m : Int) := by omega
      have st := Lib.hid (show HcR p w base gW n H P l (m + 1) X (.slice (some ⟨gh, 0, none⟩) n ch) (.slice (some ⟨gp, 0, none⟩) n cp) w from
       ⟨H, P, ⟨_, _, HK.out, Below.refl _ _⟩, fun _ h => h, by have := HH.out; rw [HM.out] at this; exact this, by rw [HX.out, him, HM.out], fun a h1 h2 => by have := HM.out; omega⟩)
      clear him
      go_wp2
      go_meet
      exact st.out
     ·have hgt : (i : Int) > (m : Int) := by omega
      have hgt2 : m < i := by omega
      go_wp2_with fail
      refine (hs_swap p w base gW n H P _ _ hs ps HK.out i m hi hmn hn hbase).mono ?_; rintro e w2 ⟨rfl, h2⟩
      have st := Lib.hid (show HcR p w base gW n H P l (m + 1) X (.slice (some ⟨gh, 0, none⟩) n ch) (.slice (some ⟨gp, 0, none⟩) n cp) w2 from
       ⟨_, _, h2, fun _ h => h.swap hi hmn, by have := HH.out; rw [HM.out] at this ⊢; exact this.swap (by have := HM.out; omega) hi, by
        show H (tsp i m (l + 1)) (tsp i m l) = X
        rw [show tsp i m l = l by unfold tsp; rw [if_neg (by omega), if_neg (by omega)], show tsp i m (l + 1) = i by unfold tsp; rw [if_neg (by have := HM.out; omega), if_pos HM.out.symm], HX.out], fun a h1 h2 => by have := HM.out; omega⟩)
      clear h2
      go_wp2
      go_meet
      exact st.out
    case rest =>
     obtain ⟨H1, P1, ⟨hs1, ps1, h, B0⟩, hS1, hL1⟩ := hcut
     clear qh HK HZ
     have HS1 := Lib.hid hS1; have HL1 := Lib.hid hL1; clear hS1 hL1
     have hbw : base ≤ wc.heap.size := Nat.le_trans hbase B0.size
     obtain ⟨v, hv⟩ := h.h.hdr hmn
     obtain ⟨ao', cr', rfl, hcr'⟩ := (h.h.row m v hv).slice
     obtain ⟨b', o', rfl⟩ := h.h.ao hv (by omega)
     go_upto_region 6 with (fail)
     have bd := dw wc
     replace h := h.next bd
     replace B0 := B0.trans (bd.mono hbw)
     have hbw : base ≤ wc.drew.heap.size := hbw
     clear bd
     have hlw := h.blk.lt
     have q0 := h.blk.cell 0; have q1 := h.blk.cell 1
     have qm := h.h.head rfl hmn; rw [hv] at qm
     have hlh : gh < wc.drew.heap.size := by
      obtain ⟨cur, hcur⟩ := h.h.cellH rfl
      exact (Array.getElem?_eq_some_iff.1 hcur).1
     obtain ⟨⟨u, qx, hu⟩, -, -, hl2⟩ := h.h.at hv (show l < n by omega)
     have hu : u = .int .u64 (x : Nat) := by rw [hu, HXV.out, ← HL1.out.2.1, HM.out]
     subst hu
     have hln : (l : Int) < (n : Int) := by omega
     obtain ⟨c, ec⟩ : ∃ c, c = (Zp.of p x).iv.val := ⟨_, rfl⟩
     obtain ⟨C, eC⟩ : ∃ C, C = X.iv := ⟨_, rfl⟩
     have hcC : c = C.val := by rw [ec, eC, HXV.out, Zp.of_val]
     have hCi : X * C = 1 := by
      rw [eC, CR.mul_comm]; exact Zp.iv_mul HTR.out (fun e => hx (by rw [HXV.out, e, Zp.zero_val]))
     have EC := Lib.hid ec; have ECC := Lib.hid hcC; have HCI := Lib.hid hCi
     clear ec eC hcC hCi
     have z0 := Lib.hid fun (w : World) (hS : Below (wc.drew).heap.size (wc.drew) w) => And.intro ((hS.cell (p := ⟨gW, 0, none⟩) hlw).trans q0) (And.intro ((hS.cell (p := ⟨gW, 1, none⟩) hlw).trans q1) (And.intro ((hS.cell (p := ⟨gh, m, none⟩) hlh).trans qm) ((hS.cell (p := ⟨b', o' + l, none⟩) hl2).trans qx)))
     refine startL (S := (fun w' => Below (wc.drew).heap.size (wc.drew) w')) (by kernel_rfl) (Below.refl _ _) (fun hHeld => ?_)
     refine tk 0 ?_
     refine tk 1 ?_
     refine tk 2 ?_
     refine tf 3 z0.out ?_
     refine tk 4 ?_
     refine tk 5 ?_
     refine tk 6 ?_
     refine tf 7 z0.out ?_
     refine tk 8 ?_
     refine tk 9 ?_
     refine tf 10 z0.out ?_
     refine tk 11 ?_
     refine tk 12 ?_
     refine tk 13 ?_
     refine tf 14 z0.out ?_
     refine on 15 fun K hK => ?_
     go_simp
     go_at_call 131
     (with_reducible refine (gfp_Inv p x c _ HP.out EC.out).mono ?_); rintro e w6 ⟨rfl, b6⟩
     refine hK.out _ _ (hHeld.trans (b6.mono hHeld.size)) (fun hHeld => ?_)
     clear hK K
     try simp only [Act.put, zq1, zq2, zq3]
     refine tk 16 ?_
     clear z0; refine doneL (by kernel_rfl) ?_ _
     replace h := h.next hHeld
     replace B0 := B0.trans (hHeld.mono hbw)
     have st : HcR p w base gW n H P l (m + 1) X (.slice (some ⟨gh, 0, none⟩) n ch) (.slice (some ⟨gp, 0, none⟩) n cp) w6 := ⟨_, _, ⟨_, _, h, B0⟩, HS1.out, HL1.out⟩
     clear h B0 hHeld b6 q0 q1 qm qx hlw hlh hl2 hv hbw HS1 HL1
     go_wp2
     go_loopw [6] (fun iv wr => ∃ i : Nat, m + 1 ≤ i ∧ i ≤ n ∧ iv = .int .i64 i ∧ HcR p w base gW n H P l i X (.slice (some ⟨gh, 0, none⟩) n ch) (.slice (some ⟨gp, 0, none⟩) n cp) wr) (fun iv _ => n - (intOf iv).toNat)
     case atStart => exact ⟨m + 1, by omega, by omega, by go_num, st⟩
     case round =>
      clear st
      obtain ⟨r, hmr, hrn, rfl, H2, P2, ⟨hs2, ps2, h, B0⟩, hS2, hL2⟩ := hrel
      have hbw : base ≤ wr.heap.size := Nat.le_trans hbase B0.size
      have HS2 := Lib.hid hS2; have HL2 := Lib.hid hL2; clear hS2 hL2
      have qh := h.blk.cell 1
      by_cases hrl : r < n
      ·obtain ⟨v, hv⟩ := h.h.hdr hrl
       have qi := h.h.head rfl hrl; rw [hv] at qi
       obtain ⟨aq, cq, rfl, hcq⟩ := (h.h.row r v hv).slice
       obtain ⟨bq, oq, rfl⟩ := h.h.ao hv (by omega)
       obtain ⟨⟨u, q1, hu⟩, -, -, hl2⟩ := h.h.at hv (show l < n by omega)
       obtain ⟨y, ey⟩ : ∃ y, y = (H2 r l).val := ⟨_, rfl⟩
       rw [hu, ← ey] at q1
       clear hu
       by_cases hy : y = 0
       ·have st := Lib.hid (show HcR p w base gW n H P l (r + 1) X (.slice (some ⟨gh, 0, none⟩) n ch) (.slice (some ⟨gp, 0, none⟩) n cp) wr from ⟨H2, P2, ⟨_, _, h, B0⟩, HS2.out, HL2.out.keep (zp0 (by rw [← ey, hy]))⟩)
        subst hy
        clear h B0 ey hv hl2
        go_wp2
        go_roundw
        case rel => exact ⟨r + 1, by omega, by omega, by go_num, st.out⟩
        case measure => simp [intOf] <;> omega
       ·have hy2 : ((y : Int) != 0) = true := by simpa using hy
        go_upto_region 11 with (fail)
        clear qh qi q1 hy2
        have bd := dw wr
        replace h := h.next bd
        replace B0 := B0.trans (bd.mono hbw)
        have hbw : base ≤ wr.drew.heap.size := hbw
        clear bd hl2
        have hlw := h.blk.lt
        have q0 := h.blk.cell 0; have q1 := h.blk.cell 1
        have qi := h.h.head rfl hrl; rw [hv] at qi
        have hlh : gh < wr.drew.heap.size := by
         obtain ⟨cur, hcur⟩ := h.h.cellH rfl
         exact (Array.getElem?_eq_some_iff.1 hcur).1
        obtain ⟨⟨u, qx, hu⟩, -, -, hl2⟩ := h.h.at hv (show l < n by omega)
        have hu : u = .int .u64 (y : Nat) := by rw [ey]; exact hu
        subst hu
        obtain ⟨z, ez⟩ : ∃ z, z = (Zp.of p y * Zp.of p c).val := ⟨_, rfl⟩
        have hz2 : z = (H2 r l * C).val := by rw [ez, ey, ECC.out, Zp.of_val, Zp.of_val]
        have EZ := Lib.hid ez; have EZ2 := Lib.hid hz2
        clear ez hz2 ey
        have z0 := Lib.hid fun (w : World) (hS : Below (wr.drew).heap.size (wr.drew) w) => And.intro ((hS.cell (p := ⟨gW, 0, none⟩) hlw).trans q0) (And.intro ((hS.cell (p := ⟨gW, 1, none⟩) hlw).trans q1) (And.intro ((hS.cell (p := ⟨gh, r, none⟩) hlh).trans qi) ((hS.cell (p := ⟨bq, oq + l, none⟩) hl2).trans qx)))
        refine startP (S := (fun w' => Below (wr.drew).heap.size (wr.drew) w')) (by kernel_rfl) _ rfl rfl rfl (by kernel_rfl) (Below.refl _ _) (fun hHeld => ?_)
        refine tk 0 ?_
        refine tk 1 ?_
        refine tk 2 ?_
        refine tk 3 ?_
        refine tk 4 ?_
        refine tk 5 ?_
        refine tf 6 z0.out ?_
        refine tk 7 ?_
        refine tk 8 ?_
        refine tk 9 ?_
        refine tf 10 z0.out ?_
        refine tk 11 ?_
        refine tk 12 ?_
        refine tf 13 z0.out ?_
        refine tk 14 ?_
        refine tk 15 ?_
        refine tk 16 ?_
        refine tf 17 z0.out ?_
        refine tk 18 ?_
        refine on 19 fun K hK => ?_
        go_simp
        go_at_call 118
        (with_reducible refine (gfp_Mul p y c z _ HP.out EZ.out).mono ?_); rintro e w11 ⟨rfl, b11⟩
        refine hK.out _ _ (hHeld.trans (b11.mono hHeld.size)) (fun hHeld => ?_)
        clear hK K
        try simp only [Act.put, zq1, zq2, zq3]
        clear z0; refine doneL (by kernel_rfl) ?_ _
        refine lastL rfl (by rfl) ?_
        replace h := h.next hHeld
        replace B0 := B0.trans (hHeld.mono hbw)
        have hbz : base ≤ w11.heap.size := Nat.le_trans hbw hHeld.size
        clear hHeld b11 q0 q1 qi qx hlw hlh hl2
        go_wp2_with fail
        refine (hs_clear p w11 HP.out base gW n H2 P2 _ _ hs2 ps2 h r m hrl hmn (by omega) z (H2 r l * C) EZ2.out hn hbz).mono ?_; rintro e w12 ⟨rfl, hs3, ps3, h3, B3⟩
        have st := Lib.hid (show HcR p w base gW n H P l (r + 1) X (.slice (some ⟨gh, 0, none⟩) n ch) (.slice (some ⟨gp, 0, none⟩) n cp) w12 from
         ⟨_, _, ⟨_, _, h3, B0.trans B3⟩, fun A hA => (HS2.out A hA).clear hrl hmn (by omega) _, by
          have := HL2.out.clear (by have := HM.out; omega) hrl HCI.out
          rw [← HM.out] at this; exact this⟩)
        clear h B0 B3 h3 hv hbw hbz
        go_wp2
        go_roundw
        case rel => exact ⟨r + 1, by omega, by omega, by go_num, st.out⟩
        case measure => simp [intOf] <;> omega
      ·obtain rfl : r = n := by omega
       go_wp2
       go_end0
       exact ⟨rfl, H2, P2, ⟨_, _, h, B0⟩, HS2.out, by rw [HM.out]; exact HL2.out.last⟩
  ·obtain rfl : i = n := by omega
   go_wp2
   go_end0
   exact ⟨rfl, H, P, ⟨_, _, HK.out, Below.refl _ _⟩, fun _ h => h, by
    have := HH.out; rw [HM.out] at this ⊢
    exact this.skip (fun a h1 h2 => HZ.out a (by have := HM.out; omega) h2)⟩
end Go.Proofs.Ytkmfhabgempjiaa
/- hess: the form; Hessenberg. -/
namespace Go.Proofs.Ytkmfhabgempjiaa
set_option maxHeartbeats 4000000
open Go.RowKit
theorem Sim.start {R : Type} [CR R] {n : Nat} (A : MT R n n) : Sim A A.e (MT.one n : MT R n n).e := by
 refine ⟨⟨MT.one n, ?_⟩, ?_⟩
 ·rw [MT.of_self]; exact Inv.one
 ·rw [MT.of_self, MT.of_self, MT.one_mul, MT.mul_one]
def FoR (p : Nat) (wb wr : World) (gW n g : Nat) (mat : List Value) (A : MT (Zp p) n n) (hv pv : Value) (m : Nat) : Prop :=
 ∃ H P, HkTo p wb wb.heap.size gW n H P hv pv wr ∧ Sim A H P ∧ HesC n m H ∧ Blk 63 wr g mat ∧ g < wb.heap.size
set_option maxRecDepth 20000 in
theorem hs_formed (p : Nat) (a : Value) (n : Nat) (xs : List Nat) (w : World) (hp : FP p) (ht : Trial p) (hA : Fm w a n n xs) (hn : n ≤ 64) (hx : xs.length = n * n) :
  Calls Try.prog 120 #[.agg #[.int .u64 p], a] w (RetHk p w n (fun H P => Sim (mx p n n xs) H P ∧ Hes n H)) := by
 obtain ⟨aA, cA, rfl⟩ := hA.agg
 obtain ⟨wb, ew, KF, KA, B0, hsz⟩ := boxes2 w 29 63 [.int .u64 p] [.int .i64 n, .int .i64 n, .slice aA xs.length cA]
 clear hsz
 have HP := Lib.hid hp; clear hp
 have HTR := Lib.hid ht; clear ht
 replace hA := hA.next B0
 have HX := Lib.hid hx; clear hx
 obtain ⟨A, eA⟩ : ∃ A, A = mx p n n xs := ⟨_, rfl⟩
 rw [← eA]
 have EA := Lib.hid eA; clear eA
 go_enter Try.func120, Try.ntmps120
 go_upto_region 1 with (fail)
 rw [← ew]
 obtain ⟨g0, eg0⟩ : ∃ g, g = w.heap.size := ⟨_, rfl⟩
 rw [← eg0] at KF KA ⊢
 have hgw : w.heap.size ≤ g0 := by omega
 clear ew eg0
 have f0 := KF.cell 0; have f1 := KA.cell 0; have f2 := KA.cell 1; have f3 := KA.cell 2
 go_wp2_with fail
 refine (hs_begun p _ n xs _ HP.out hA hn HX.out).mono ?_; rintro e w2 ⟨gW, H, P, hv, pv, hs, ps, rfl, h1, ⟨eH, eP⟩, b2⟩
 subst eH eP
 obtain ⟨ah, ch, rfl⟩ := h1.h.slice_of
 obtain ⟨ap, cp, rfl⟩ := h1.p.slice_of
 have st : FoR p wb w2 gW n (g0 + 1) [.int .i64 n, .int .i64 n, .slice aA xs.length cA] A (.slice ah n ch) (.slice ap n cp) 1 := ⟨_, _, ⟨_, _, h1, b2⟩, by rw [EA.out]; exact Sim.start _, fun i c _ _ h => by omega, KA.next b2, KA.lt⟩
 clear h1 b2 KF KA hA f0 f1 f2 f3
 have hBs := B0.size
 have HB0 := Lib.hid B0; clear B0
 go_wp2
 go_loopw [6] (fun kv wr => ∃ m : Nat, 1 ≤ m ∧ m ≤ 64 ∧ kv = .int .i64 m ∧ FoR p wb wr gW n (g0 + 1) [.int .i64 n, .int .i64 n, .slice aA xs.length cA] A (.slice ah n ch) (.slice ap n cp) m) (fun kv _ => n - (intOf kv).toNat)
 case atStart => exact ⟨1, by omega, by omega, rfl, st⟩
 case round =>
  clear st
  obtain ⟨m, hm1, hm64, rfl, H, P, ⟨hs, ps, h, B1⟩, hS, hH, KA, hg⟩ := hrel
  have HS := Lib.hid hS; have HH := Lib.hid hH; clear hS hH
  have hbw := B1.size
  have f1 := KA.cell 0
  by_cases hmn : m + 1 < n
  ·have hmn2 : (m : Int) + 1 < (n : Int) := by omega
   have hb2 : w.heap.size ≤ wr.heap.size := by omega
   go_wp2_with fail
   refine (hs_column p _ HP.out HTR.out wb.heap.size gW n H P _ _ hs ps h m (m - 1) (by omega) (by omega) HH.out (by omega) hbw).mono ?_; rintro e w5 ⟨rfl, H', P', ⟨hs', ps', h2, B2⟩, hS2, hH2⟩
   have st := Lib.hid (show FoR p wb w5 gW n (g0 + 1) [.int .i64 n, .int .i64 n, .slice aA xs.length cA] A (.slice ah n ch) (.slice ap n cp) (m + 1) from ⟨H', P', ⟨_, _, h2, B1.trans B2⟩, hS2 A HS.out, hH2, KA.below B2 hg, hg⟩)
   clear h h2 B1 B2 KA hS2 hH2
   go_wp2
   go_roundw
   case rel => exact ⟨m + 1, by omega, by omega, by go_num, st.out⟩
   case measure => simp [intOf] <;> omega
  ·have FR := Lib.hid (show RetHk p w n (fun H P => Sim A H P ∧ Hes n H) (.returned (.pointer (some ⟨gW, 0, none⟩))) wr from
    ⟨gW, H, P, _, _, hs, ps, rfl, h.mono hBs, ⟨HS.out, fun i c h1 h2 => HH.out i c h1 h2 (by omega)⟩, HB0.out.trans (B1.mono hBs)⟩)
   have hmn2 : ¬ (m : Int) + 1 < (n : Int) := by omega
   clear h B1 KA
   go_wp2
   go_ret
   exact FR.out
theorem hs_square (a : Value) (R C : Int) (xs : List Nat) (w : World) (hA : Fm w a R C xs) (b : Bool) (hb : b = decide (Fd R C xs.length ∧ R = C)) :
  Calls Try.prog 119 #[a] w (RetW w (.bool b)) := by
 obtain ⟨aA, cA, rfl⟩ := hA.agg
 obtain ⟨wb, ew, KA, B0, hsz⟩ := boxes1 w 63 [.int .i64 R, .int .i64 C, .slice aA xs.length cA]
 clear hsz
 replace hA := hA.next B0
 have f0 := KA.cell 0; have f1 := KA.cell 1; have f2 := KA.cell 2
 by_cases hF : Fd R C xs.length
 ·by_cases hRC : R = C
  ·subst hRC
   obtain rfl : b = true := by rw [hb]; exact decide_eq_true ⟨hF, rfl⟩
   clear hb
   go_enter Try.func119, Try.ntmps119
   go_upto_region 1 with (fail)
   rw [← ew]
   clear ew
   go_wp2_with fail
   refine (fm_Formed_yes _ R R xs _ hA hF).mono ?_; rintro e w2 ⟨rfl, b2⟩
   have KA2 := KA.next b2
   clear f0 f1 f2 KA
   have f0 := KA2.cell 0; have f1 := KA2.cell 1
   go_wp2
   go_ret
   exact ⟨rfl, B0.trans (b2.mono B0.size)⟩
  ·obtain rfl : b = false := by rw [hb]; exact decide_eq_false (fun h => hRC h.2)
   clear hb
   have h2 : (R == C) = false := by simpa using hRC
   go_enter Try.func119, Try.ntmps119
   go_upto_region 1 with (fail)
   rw [← ew]
   clear ew
   go_wp2_with fail
   refine (fm_Formed_yes _ R C xs _ hA hF).mono ?_; rintro e w2 ⟨rfl, b2⟩
   have KA2 := KA.next b2
   clear f0 f1 f2 KA
   have f0 := KA2.cell 0; have f1 := KA2.cell 1
   go_wp2
   go_ret
   exact ⟨rfl, B0.trans (b2.mono B0.size)⟩
 ·obtain rfl : b = false := by rw [hb]; exact decide_eq_false (fun h => hF h.1)
  clear hb
  go_enter Try.func119, Try.ntmps119
  go_upto_region 1 with (fail)
  rw [← ew]
  clear ew
  go_wp2_with fail
  refine (fm_Formed_no _ R C xs _ hA hF).mono ?_; rintro e w2 ⟨rfl, b2⟩
  have KA2 := KA.next b2
  clear f0 f1 f2 KA
  have f0 := KA2.cell 0; have f1 := KA2.cell 1
  go_wp2
  go_ret
  exact ⟨rfl, B0.trans (b2.mono B0.size)⟩
theorem hs_square_yes (a : Value) (n : Nat) (xs : List Nat) (w : World) (hA : Fm w a n n xs) (hn : n ≤ 64) (hx : xs.length = n * n) : Calls Try.prog 119 #[a] w (RetW w (.bool true)) :=
 hs_square a n n xs w hA true (decide_eq_true ⟨⟨⟨by omega, by omega⟩, ⟨by omega, by omega⟩, by rw [hx]; exact Int.natCast_mul n n⟩, rfl⟩).symm
end Go.Proofs.Ytkmfhabgempjiaa
