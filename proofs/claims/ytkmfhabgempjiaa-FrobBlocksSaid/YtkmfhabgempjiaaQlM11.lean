/- xform: a multiple of a column is added to another one; two columns change places. -/
import Derived.Test.YtkmfhabgempjiaaQlM10
namespace Go.Proofs.Ytkmfhabgempjiaa
set_option maxHeartbeats 4000000
open Go.RowKit
set_option maxRecDepth 20000 in
theorem xf_addCol (p : Nat) (w : World) (gS lo hi L : Nat) (vs : List Value) (rv vc : Value) (n M : Nat) (U : Nat → Value) (W : Nat → Nat → Pol (Zp p)) (i k : Nat) (Z : List Nat) (hp : FP p) (hS : Blk 101 w gS (.int .u64 p :: vs)) (hg : gS < lo ∨ hi ≤ gS) (h : Rw p w lo hi rv n M U W) (hi' : i < M) (hkM : k < M) (hZ : Own .u64 27 w hi vc Z) (hZl : Z.length ≤ 400000000000) (hL : L ≤ 400000000000) (hn : n ≤ 1000) (hM : M ≤ 1000) (hb : ∀ r j, r < n → j < M → (W r j).dlt L) :
  Calls Try.prog 159 #[.pointer (some ⟨gS, 0, none⟩), rv, .int .i64 i, .int .i64 k, vc] w (RetRw p w lo hi rv n M U (fun a j => if j = i then W a i + pl p Z * W a k else W a j)) := by
 obtain ⟨W', eW'⟩ : ∃ W' : Nat → Nat → Nat → Pol (Zp p), W' = fun t a j => if a < t ∧ j = i then W a i + pl p Z * W a k else W a j := ⟨_, rfl⟩
 have st : Rw p w lo hi rv n M U (W' 0) := h.congr fun a j _ _ => by rw [eW']; exact if_neg (by omega)
 have HP := Lib.hid hp; have HB := Lib.hid hb
 obtain ⟨PQ, ePQ⟩ : ∃ PQ : Ending → World → Prop, PQ = RetRw p w lo hi rv n M U (fun a j => if j = i then W a i + pl p Z * W a k else W a j) := ⟨_, rfl⟩
 rw [← ePQ]
 have EPQ := Lib.hid ePQ; have EW := Lib.hid eW'; have ST := Lib.hid st
 obtain ⟨arv, crv, rfl⟩ := h.choose_spec.1.slc
 clear hp hb ePQ eW' st h
 go_enter Try.func159, Try.ntmps159
 go_wp2
 go_loopw [14] (fun jv wr => ∃ j : Nat, j ≤ n ∧ jv = .int .i64 j ∧ Rw p wr lo hi (.slice arv n crv) n M U (W' j) ∧ Ch lo hi w wr) (fun jv _ => n - (intOf jv).toNat)
 case atStart => exact ⟨0, Nat.zero_le _, rfl, ST.out, Ch.refl _ _ _⟩
 case round =>
  clear ST
  obtain ⟨j, hj, rfl, R, C⟩ := hrel
  by_cases hjn : j < n
  ·obtain ⟨E, X, hXb, hXs⟩ := id R
   obtain ⟨gh, cap, e1, -⟩ := X.hdr hjn
   simp only [Value.slice.injEq, true_and] at e1
   obtain ⟨rfl, rfl⟩ := e1
   obtain ⟨bI, cI, eI, hI1, hI2, -, -, hIc, -⟩ := X.at hjn (by omega)
   obtain ⟨aX, nX, cX, zX, eX, lX, oX, mX, vX⟩ := Vn.open (X.el j i hjn hi')
   obtain ⟨aY, nY, cY, zY, eY, lY, oY, mY, vY⟩ := Vn.open (X.el j k hjn hkM)
   have qi := hIc i hi'; have qk := hIc k hkM
   rw [eX] at qi; rw [eY] at qk
   obtain ⟨q1, lg, -⟩ := X.cellU hjn
   rw [eI] at q1
   have vX' : pl p zX = W j i := by rw [vX, EW.out]; exact if_neg (by omega)
   have vY' : pl p zY = W j k := by rw [vY, EW.out]; exact if_neg (by omega)
   have hzX : zX.length ≤ L := nrm_len HP.out.pos mX (by rw [vX']; exact HB.out j i hjn hi')
   have hzY : zY.length ≤ L := nrm_len HP.out.pos mY (by rw [vY']; exact HB.out j k hjn hkM)
   have tX := oX.sl; have tY := oY.sl
   have KS := hS.ch C hg
   have tZ := (hZ.ch C).sl
   obtain rfl : nX = zX.length := lX.symm
   obtain rfl : nY = zY.length := lY.symm
   have VX := Lib.hid vX'; have VY := Lib.hid vY'; have EI := Lib.hid eI
   clear X hXb hIc vX vY vX' vY' oX oY mX mY lX lY eX eY eI
   go_upto_region 3 with (fail)
   clear q1 lg
   have bd := dw wr
   replace KS := KS.next bd; replace tX := tX.next bd; replace tY := tY.next bd; replace tZ := tZ.next bd
   have R3 := R.next bd
   have C3 := C.trans (Ch.of bd)
   have qi' : wr.drew.cell? ⟨bI, i, none⟩ = some (.slice aX zX.length cX) := qi
   have qk' : wr.drew.cell? ⟨bI, k, none⟩ = some (.slice aY zY.length cY) := qk
   have l2' : bI < wr.drew.heap.size := hI2
   have hhw' : hi ≤ wr.drew.heap.size := hXs
   clear bd qi qk hI2 hXs C R
   have z0 := Lib.hid fun (w : World) (hS : Below (wr.drew).heap.size (wr.drew) w) => And.intro ((KS.at hS) 0) (And.intro ((hS.cell (p := ⟨bI, i, none⟩) l2').trans qi') ((hS.cell (p := ⟨bI, k, none⟩) l2').trans qk'))
   refine startP (S := (fun w' => Below (wr.drew).heap.size (wr.drew) w')) (by kernel_rfl) _ rfl rfl rfl (by kernel_rfl) (Below.refl _ _) (fun hHeld => ?_)
   refine tk 0 ?_
   refine tk 1 ?_
   refine tk 2 ?_
   refine tk 3 ?_
   refine tk 4 ?_
   refine tf 5 z0.out ?_
   refine tk 6 ?_
   refine tk 7 ?_
   refine tk 8 ?_
   refine tf 9 z0.out ?_
   refine tk 10 ?_
   refine tk 11 ?_
   refine tk 12 ?_
   refine tf 13 z0.out ?_
   refine tk 14 ?_
   refine tk 15 ?_
   refine tk 16 ?_
   refine tk 17 ?_
   refine tf 18 z0.out ?_
   refine on 19 fun K hK => ?_
   go_simp
   go_at_call 65
   (with_reducible refine (fp_Mul p vc _ Z zY _ HP.out (tZ.next hHeld) (tY.next hHeld) (by omega) (by omega)).mono ?_); rintro e w4 ⟨r4, z4, rfl, o4, n4, v4, l4, b4⟩
   have t4 := o4.sl; clear o4 n4
   refine hK.out _ _ (hHeld.trans (b4.mono hHeld.size)) (fun hHeld => ?_)
   clear hK K
   try simp only [Act.put, zq1, zq2, zq3]
   refine on 20 fun K hK => ?_
   go_simp
   go_at_call 90
   (with_reducible refine (fp_Add p _ r4 zX z4 _ HP.out (tX.next hHeld) t4 (by omega) (by omega)).mono ?_); rintro e w5 ⟨r5, z5, rfl, o5, n5, v5, l5, b5⟩
   refine hK.out _ _ (hHeld.trans (b5.mono hHeld.size)) (fun hHeld => ?_)
   clear hK K
   try simp only [Act.put, zq1, zq2, zq3]
   refine tk 21 ?_
   clear z0; refine doneL (by kernel_rfl) ?_ _
   refine lastL rfl (by rfl) ?_
   obtain ⟨a5, c5, e5⟩ := o5.sliced
   subst e5
   have R5 := R3.next hHeld
   have c9 := (hHeld.cell (p := ⟨bI, i, none⟩) l2').trans qi'
   have fz9 : w5.frozen? ⟨bI, i, none⟩ = false := by
    obtain ⟨E5, X5, -, -⟩ := R5
    obtain ⟨b5', c5', e5', -, -, -, -, -, hf5⟩ := X5.at hjn (by omega)
    rw [EI.out] at e5'
    simp only [Value.slice.injEq, Option.some.injEq, Addr.mk.injEq, and_true, true_and] at e5'
    rw [e5'.1]; exact hf5 i
   obtain ⟨R6, C6⟩ := R5.set hjn hi' EI.out (y := .slice a5 z5.length c5) (f := W j i + pl p Z * W j k) ⟨z5, o5.mono (by have := b4.size; have := hI1; omega), n5, by rw [v5, v4, VX.out, VY.out]⟩
   have F1 := Lib.hid (R6.congr (V := W' (j + 1)) fun a t _ _ => by
    rw [EW.out]
    show (if a < j + 1 ∧ t = i then _ else _) = if a = j ∧ t = i then _ else if a < j ∧ t = i then _ else _
    by_cases h2 : t = i
    ·by_cases h1 : a = j
     ·rw [if_pos ⟨by omega, h2⟩, if_pos ⟨h1, h2⟩, h1]
     ·by_cases h3 : a < j
      ·rw [if_pos ⟨by omega, h2⟩, if_neg (fun h => h1 h.1), if_pos ⟨h3, h2⟩]
      ·rw [if_neg (fun h => by have := h.1; omega), if_neg (fun h => h1 h.1), if_neg (fun h => h3 h.1)]
    ·rw [if_neg (fun h => h2 h.2), if_neg (fun h => h2 h.2), if_neg (fun h => h2 h.2)])
   have F2 := Lib.hid ((C3.trans (Ch.of hHeld)).trans C6)
   clear R3 R5 R6 C3 C6 o5 n5 v5 v4 hHeld KS tX tY tZ qi' qk' b4 b5
   go_wp2
   go_roundw
   case rel => exact ⟨j + 1, by omega, by go_num, F1.out, F2.out⟩
   case measure => simp [intOf] <;> omega
  ·obtain rfl : j = n := by omega
   have FIN := Lib.hid (show PQ (.returned (.tuple #[])) wr by
    rw [EPQ.out]
    exact ⟨rfl, R.congr fun a t ha _ => by
     rw [EW.out]
     show (if t = i then _ else _) = if a < j ∧ t = i then _ else _
     by_cases h1 : t = i
     ·rw [if_pos h1, if_pos ⟨ha, h1⟩]
     ·rw [if_neg h1, if_neg (fun h => h1 h.2)], C⟩)
   clear R C
   go_wp2
   go_end0
   exact FIN.out
set_option maxRecDepth 20000 in
theorem xf_swapCols (p : Nat) (w : World) (lo hi : Nat) (rv : Value) (n M : Nat) (U : Nat → Value) (W : Nat → Nat → Pol (Zp p)) (i k : Nat) (h : Rw p w lo hi rv n M U W) (hi' : i < M) (hkM : k < M) (hn : n ≤ 1000) (hM : M ≤ 1000) :
  Calls Try.prog 157 #[rv, .int .i64 i, .int .i64 k] w (RetRw p w lo hi rv n M U (fun a j => if j = k then W a i else if j = i then W a k else W a j)) := by
 obtain ⟨W', eW'⟩ : ∃ W' : Nat → Nat → Nat → Pol (Zp p), W' = fun t a j => if a < t then (if j = k then W a i else if j = i then W a k else W a j) else W a j := ⟨_, rfl⟩
 have st : Rw p w lo hi rv n M U (W' 0) := h.congr fun a j _ _ => by rw [eW']; exact if_neg (by omega)
 obtain ⟨PQ, ePQ⟩ : ∃ PQ : Ending → World → Prop, PQ = RetRw p w lo hi rv n M U (fun a j => if j = k then W a i else if j = i then W a k else W a j) := ⟨_, rfl⟩
 rw [← ePQ]
 have EPQ := Lib.hid ePQ; have EW := Lib.hid eW'; have ST := Lib.hid st
 obtain ⟨arv, crv, rfl⟩ := h.choose_spec.1.slc
 clear ePQ eW' st h
 go_enter Try.func157, Try.ntmps157
 go_wp2
 go_loopw [10] (fun jv wr => ∃ j : Nat, j ≤ n ∧ jv = .int .i64 j ∧ Rw p wr lo hi (.slice arv n crv) n M U (W' j) ∧ Ch lo hi w wr) (fun jv _ => n - (intOf jv).toNat)
 case atStart => exact ⟨0, Nat.zero_le _, rfl, ST.out, Ch.refl _ _ _⟩
 case round =>
  clear ST
  obtain ⟨j, hj, rfl, R, C⟩ := hrel
  by_cases hjn : j < n
  ·obtain ⟨E, X, hXb, hXs⟩ := id R
   obtain ⟨gh, cap, e1, -⟩ := X.hdr hjn
   simp only [Value.slice.injEq, true_and] at e1
   obtain ⟨rfl, rfl⟩ := e1
   obtain ⟨bI, cI, eI, -, hI2, -, -, hIc, hIf⟩ := X.at hjn (by omega)
   have vi := X.el j i hjn hi'; have vk := X.el j k hjn hkM
   obtain ⟨q1, lg, -⟩ := X.cellU hjn
   rw [eI] at q1
   obtain ⟨xi, exi⟩ : ∃ x, x = E j i := ⟨_, rfl⟩
   obtain ⟨xk, exk⟩ : ∃ x, x = E j k := ⟨_, rfl⟩
   have qi := hIc i hi'; have qk := hIc k hkM
   rw [← exi] at qi vi; rw [← exk] at qk vk
   obtain ⟨aI', nI', cI', zI', rfl, -⟩ := vi.open
   obtain ⟨aK', nK', cK', zK', rfl, -⟩ := vk.open
   have fi := hIf i; have fk := hIf k
   have EI := Lib.hid eI
   clear X hXb hIc eI exi exk hIf
   go_upto_region 3 with (fail)
   clear q1 lg
   have bd := dw wr
   have R3 := R.next bd
   have C3 := C.trans (Ch.of bd)
   have vi3 := vi.next bd; have vk3 := vk.next bd
   have qi' : wr.drew.cell? ⟨bI, i, none⟩ = some (.slice aI' nI' cI') := qi
   have qk' : wr.drew.cell? ⟨bI, k, none⟩ = some (.slice aK' nK' cK') := qk
   have l2' : bI < wr.drew.heap.size := hI2
   have fi' : wr.drew.frozen? ⟨bI, i, none⟩ = false := fi
   have fk' : wr.drew.frozen? ⟨bI, k, none⟩ = false := fk
   clear bd qi qk hI2 hXs C R vi vk fi fk
   refine startD (S := (fun w' => Below (wr.drew).heap.size (wr.drew) w')) 13 (by kernel_rfl) (Below.refl _ _) (fun hHeld => ?_)
   generalize wr.drew = wd at *
   refine takeDA 0 (v := ?_) rfl (by kernel_rfl) (by kernel_rfl) (by kernel_rfl) (fun _ _ _ h => h) (by decide) ⟨by rfl, ?_⟩ (by assumption) ?_
   rotate_left
   ·intro w; go_simp <;> with_reducible rfl
   simp only [Act.put, zq1, zq2, zq3]
   refine takeDA 1 (v := ?_) rfl (by kernel_rfl) (by kernel_rfl) (by kernel_rfl) (fun _ _ _ h => h) (by decide) ⟨by rfl, ?_⟩ (by assumption) ?_
   rotate_left
   ·intro w; go_simp <;> with_reducible rfl
   simp only [Act.put, zq1, zq2, zq3]
   refine takeDA 2 (v := ?_) rfl (by kernel_rfl) (by kernel_rfl) (by kernel_rfl) (fun _ _ _ h => h) (by decide) ⟨by rfl, ?_⟩ (by assumption) ?_
   rotate_left
   ·intro w; go_simp <;> with_reducible rfl
   simp only [Act.put, zq1, zq2, zq3]
   refine takeDA 3 (v := ?_) rfl (by kernel_rfl) (by kernel_rfl) (by kernel_rfl) (fun _ _ _ h => h) (by decide) ⟨by rfl, ?_⟩ (by assumption) ?_
   rotate_left
   ·intro w; go_simp <;> with_reducible rfl
   simp only [Act.put, zq1, zq2, zq3]
   refine takeDA 4 (v := ?_) rfl (by kernel_rfl) (by kernel_rfl) (by kernel_rfl) (fun _ _ _ h => h) (by decide) ⟨by rfl, ?_⟩ (by assumption) ?_
   rotate_left
   ·intro w; go_simp <;> with_reducible rfl
   simp only [Act.put, zq1, zq2, zq3]
   refine takeDA 5 (v := ?_) rfl (by kernel_rfl) (by kernel_rfl) (by kernel_rfl) (fun _ _ _ h => h) (by decide) ⟨by rfl, ?_⟩ (by assumption) ?_
   rotate_left
   ·intro w; go_simp <;> with_reducible rfl
   simp only [Act.put, zq1, zq2, zq3]
   refine takeDA 6 (v := ?_) rfl (by kernel_rfl) (by kernel_rfl) (by kernel_rfl) (fun _ _ _ h => h) (by decide) ⟨by rfl, ?_⟩ (by assumption) ?_
   rotate_left
   ·intro w; go_simp <;> with_reducible rfl
   simp only [Act.put, zq1, zq2, zq3]
   refine takeD0 7 (v := ?_) rfl (by kernel_rfl) (by kernel_rfl) (by kernel_rfl) (fun _ _ _ h => h) (by decide) (by kernel_rfl) (by kernel_rfl) ⟨by rfl, ?_⟩ (by assumption) ?_
   rotate_left
   ·intro w hS; have f3 := (hS.cell (p := ⟨bI, i, none⟩) l2').trans qi'; have f4 := (hS.cell (p := ⟨bI, k, none⟩) l2').trans qk'; go_simp <;> with_reducible rfl
   simp only [Act.put, zq1, zq2, zq3]
   refine takeDA 8 (v := ?_) rfl (by kernel_rfl) (by kernel_rfl) (by kernel_rfl) (fun _ _ _ h => h) (by decide) ⟨by rfl, ?_⟩ (by assumption) ?_
   rotate_left
   ·intro w; go_simp <;> with_reducible rfl
   simp only [Act.put, zq1, zq2, zq3]
   refine takeDA 9 (v := ?_) rfl (by kernel_rfl) (by kernel_rfl) (by kernel_rfl) (fun _ _ _ h => h) (by decide) ⟨by rfl, ?_⟩ (by assumption) ?_
   rotate_left
   ·intro w; go_simp <;> with_reducible rfl
   simp only [Act.put, zq1, zq2, zq3]
   refine takeDA 10 (v := ?_) rfl (by kernel_rfl) (by kernel_rfl) (by kernel_rfl) (fun _ _ _ h => h) (by decide) ⟨by rfl, ?_⟩ (by assumption) ?_
   rotate_left
   ·intro w; go_simp <;> with_reducible rfl
   simp only [Act.put, zq1, zq2, zq3]
   refine takeD0 11 (v := ?_) rfl (by kernel_rfl) (by kernel_rfl) (by kernel_rfl) (fun _ _ _ h => h) (by decide) (by kernel_rfl) (by kernel_rfl) ⟨by rfl, ?_⟩ (by assumption) ?_
   rotate_left
   ·intro w hS; have f3 := (hS.cell (p := ⟨bI, i, none⟩) l2').trans qi'; have f4 := (hS.cell (p := ⟨bI, k, none⟩) l2').trans qk'; go_simp <;> with_reducible rfl
   simp only [Act.put, zq1, zq2, zq3]
   refine takeDA 12 (v := ?_) rfl (by kernel_rfl) (by kernel_rfl) (by kernel_rfl) (fun _ _ _ h => h) (by decide) ⟨by rfl, ?_⟩ (by assumption) ?_
   rotate_left
   ·intro w; go_simp <;> with_reducible rfl
   simp only [Act.put, zq1, zq2, zq3]
   obtain ⟨zz, qz⟩ := cell_set_some (p := ⟨bI, i, none⟩) (x := .slice aK' nK' cK') qk'
   refine oneM rfl (by kernel_rfl) (of_decide_eq_true (by kernel_rfl)) (by rfl) (fun K hK => ?_)
   go_simp
   refine hK.out _ _ ?_
   clear hK K
   try simp only [Act.put, zq1, zq2, zq3]
   clear hHeld
   refine takeL 14 (v := ?_) rfl (by kernel_rfl) (by kernel_rfl) (by kernel_rfl) (fun _ _ _ h => h) ⟨by rfl, ?_⟩ trivial ?_
   rotate_left
   ·intro w _; go_simp <;> with_reducible rfl
   simp only [Act.put, zq1, zq2, zq3]
   refine on 15 fun K hK => ?_
   go_simp
   refine hK.out _ _ trivial (fun _ => ?_)
   clear hK K
   try simp only [Act.put, zq1, zq2, zq3]
   refine doneL (by kernel_rfl) ?_ _
   obtain ⟨R6, C6⟩ := R3.set hjn hi' EI.out vk3
   have vi6 : Vn p (wd.setCell ⟨bI, i, none⟩ (.slice aK' nK' cK')) lo (.slice aI' nI' cI') (W' j j i) := by
    obtain ⟨zs, k1, k2⟩ := vi3
    exact ⟨zs, k1.ch C6, k2⟩
   obtain ⟨R7, C7⟩ := R6.set hjn hkM EI.out vi6
   have F1 := Lib.hid (R7.congr (V := W' (j + 1)) fun a t _ _ => by
    rw [EW.out]
    show (if a < j + 1 then (if t = k then W a i else if t = i then W a k else W a t) else W a t) = if a = j ∧ t = k then (if j < j then _ else W j i) else if a = j ∧ t = i then (if j < j then _ else W j k) else if a < j then (if t = k then W a i else if t = i then W a k else W a t) else W a t
    by_cases h1 : a = j
    ·subst h1
     by_cases h2 : t = k
     ·simp [h2]
     ·by_cases h3 : t = i
      ·subst h3; simp [h2]
      ·simp [h2, h3]
    ·by_cases h4 : a < j
     ·have h5 : a < j + 1 := by omega
      simp [h1, h4, h5]
     ·have h5 : ¬ a < j + 1 := by omega
      simp [h1, h4, h5])
   have F2 := Lib.hid ((C3.trans C6).trans C7)
   clear R3 R6 R7 C3 C6 C7 vi3 vk3 vi6 qi' qk' fi' fk'
   go_wp2
   go_roundw
   case rel => exact ⟨j + 1, by omega, by go_num, F1.out, F2.out⟩
   case measure => simp [intOf] <;> omega
  ·obtain rfl : j = n := by omega
   have FIN := Lib.hid (show PQ (.returned (.tuple #[])) wr by
    rw [EPQ.out]
    exact ⟨rfl, R.congr fun a t ha _ => by
     rw [EW.out]
     exact (if_pos ha).symm, C⟩)
   clear R C
   go_wp2
   go_end0
   exact FIN.out
end Go.Proofs.Ytkmfhabgempjiaa
/- xform: the state of a smith. -/
namespace Go.Proofs.Ytkmfhabgempjiaa
set_option maxHeartbeats 4000000
open Go.RowKit
open CR
theorem Rw.swp {p : Nat} {w : World} {lo hi n M : Nat} {rv : Value} {U : Nat → Value} {W : Nat → Nat → Pol (Zp p)} (h : Rw p w lo hi rv n M U W) {g cap : Nat} (hrv : rv = .slice (some ⟨g, 0, none⟩) n cap) {i j : Nat} (hi' : i < n) (hj : j < n) :
  Rw p ((w.setCell ⟨g, i, none⟩ (U j)).setCell ⟨g, j, none⟩ (U i)) lo hi rv n M (fun a => if a = j then U i else if a = i then U j else U a) (swR W i j) ∧ Ch lo hi w ((w.setCell ⟨g, i, none⟩ (U j)).setCell ⟨g, j, none⟩ (U i)) := by
 obtain ⟨E, X, h2, h3⟩ := h
 have ho := X.own
 rw [hrv] at ho
 have hgt : Tyb w 22 g := (rowOwn_tyb ho rfl).1
 have hc : Chg w ((w.setCell ⟨g, i, none⟩ (U j)).setCell ⟨g, j, none⟩ (U i)) (fun b => b = g) := (Chg.setCell w ⟨g, i, none⟩ (U j)).trans (Chg.setCell _ ⟨g, j, none⟩ (U i))
 have hxg : Xbl rv n U g := .inl (by rw [hrv]; rfl)
 have keep : ∀ {u : Value} {q : Pol (Zp p)}, Vn p w lo u q → Vn p ((w.setCell ⟨g, i, none⟩ (U j)).setCell ⟨g, j, none⟩ (U i)) lo u q := fun hu => hu.chg hc (e := 22) (fun c _ hcb => by rw [hcb]; exact hgt) (by decide)
 have keepR : ∀ {v : Value} {m : Nat} {xs : List Value}, w.ownsRow lo 43 1 v m xs → ((w.setCell ⟨g, i, none⟩ (U j)).setCell ⟨g, j, none⟩ (U i)).ownsRow lo 43 1 v m xs := fun hv => rowOwn_chgT hv hc (e' := 22) (fun c _ hcb => by rw [hcb]; exact hgt) (by decide)
 -- the permutation
 obtain ⟨s, es⟩ : ∃ s : Nat → Nat, s = fun a => if a = j then i else if a = i then j else a := ⟨_, rfl⟩
 have hs : ∀ a, a < n → s a < n := fun a ha => by rw [es]; show (if a = j then i else if a = i then j else a) < n; split <;> (try split) <;> assumption
 have hinj : ∀ a b, a ≠ b → s a ≠ s b := fun a b hab => by
  rw [es]
  show (if a = j then i else if a = i then j else a) ≠ if b = j then i else if b = i then j else b
  by_cases h1 : a = j
  ·by_cases h2 : b = j
   ·omega
   ·by_cases h3 : b = i
    ·rw [if_pos h1, if_neg h2, if_pos h3]; omega
    ·rw [if_pos h1, if_neg h2, if_neg h3]; omega
  ·by_cases h4 : a = i
   ·by_cases h2 : b = j
    ·rw [if_neg h1, if_pos h4, if_pos h2]; omega
    ·by_cases h3 : b = i
     ·omega
     ·rw [if_neg h1, if_pos h4, if_neg h2, if_neg h3]; omega
   ·by_cases h2 : b = j
    ·rw [if_neg h1, if_neg h4, if_pos h2]; omega
    ·by_cases h3 : b = i
     ·rw [if_neg h1, if_neg h4, if_neg h2, if_pos h3]; omega
     ·rw [if_neg h1, if_neg h4, if_neg h2, if_neg h3]; exact hab
 have eU : ∀ a, (if a = j then U i else if a = i then U j else U a) = U (s a) := fun a => by
  rw [es]
  show _ = U (if a = j then i else if a = i then j else a)
  by_cases h1 : a = j
  ·rw [if_pos h1, if_pos h1]
  ·rw [if_neg h1, if_neg h1]
   by_cases h2 : a = i
   ·rw [if_pos h2, if_pos h2]
   ·rw [if_neg h2, if_neg h2]
 have eW : ∀ a, swR W i j a = W (s a) := fun a => by
  funext c
  rw [es]
  unfold swR
  show _ = W (if a = j then i else if a = i then j else a) c
  by_cases h1 : a = j
  ·by_cases h2 : a = i
   ·rw [if_pos h2, if_pos h1]; rw [← h1, ← h2]
   ·rw [if_neg h2, if_pos h1, if_pos h1]
  ·rw [if_neg h1, if_neg h1]
   by_cases h2 : a = i
   ·rw [if_pos h2, if_pos h2]
   ·rw [if_neg h2, if_neg h2]
 refine ⟨⟨fun a => E (s a), ⟨?_, fun a ha => ?_, fun a b ha hb hne c hac => ?_, fun a c ha hc' => ?_⟩, fun b hb => ?_, by simpa [World.setCell] using h3⟩, hc.mono fun b _ hb => ?_⟩
 ·have o1 := (World.ownsRow.stored ho i (U j)).1
  rw [rowL_set] at o1
  have o2 := (World.ownsRow.stored o1 j (U i)).1
  rw [rowL_set] at o2
  rw [hrv]; exact o2
 ·show World.ownsRow _ _ _ _ (if a = j then U i else if a = i then U j else U a) _ _
  rw [eU]; exact keepR (X.row (s a) (hs a ha))
 ·replace hac : (if a = j then U i else if a = i then U j else U a).ownBlock = some c := hac
  show (if b = j then U i else if b = i then U j else U b).ownBlock ≠ some c
  rw [eU] at hac ⊢
  exact X.sep (s a) (s b) (hs a ha) (hs b hb) (hinj a b hne) c hac
 ·show Vn p _ lo (E (s a) c) (swR W i j a c)
  rw [eW]; exact keep (X.el (s a) c (hs a ha) hc')
 ·rcases hb with hb | ⟨a, ha, hb⟩
  ·exact h2 b (.inl hb)
  ·replace hb : (if a = j then U i else if a = i then U j else U a).ownBlock = some b := hb
   rw [eU] at hb
   exact h2 b (.inr ⟨s a, hs a ha, hb⟩)
 ·subst hb
  exact ⟨(X.blk hxg).1, h2 _ hxg, fun ht => hgt.ne ht (by decide) rfl⟩
structure Sst (p : Nat) (w : World) (l0 l1 l2 l3 gS : Nat) (vA vU vV : Value) (n m : Nat) (WA WU WV : Nat → Nat → Pol (Zp p)) : Prop where
 blk : Blk 101 w gS [.int .u64 p, vA, vU, vV, .int .i64 m]
 o1 : l0 ≤ l1
 o2 : l1 ≤ l2
 o3 : l2 ≤ l3
 gs : l3 ≤ gS
 a : ∃ U, Rw p w l0 l1 vA n m U WA
 u : ∃ U, Rw p w l1 l2 vU n n U WU
 v : ∃ U, Rw p w l2 l3 vV m m U WV
section
variable {p : Nat} {w w' : World} {l0 l1 l2 l3 gS : Nat} {vA vU vV : Value} {n m : Nat} {WA WU WV : Nat → Nat → Pol (Zp p)}
theorem Sst.next (h : Sst p w l0 l1 l2 l3 gS vA vU vV n m WA WU WV) (hb : Below w.heap.size w w') : Sst p w' l0 l1 l2 l3 gS vA vU vV n m WA WU WV :=
 ⟨h.blk.next hb, h.o1, h.o2, h.o3, h.gs, h.a.imp fun _ k => k.next hb, h.u.imp fun _ k => k.next hb, h.v.imp fun _ k => k.next hb⟩
theorem Sst.setA (h : Sst p w l0 l1 l2 l3 gS vA vU vV n m WA WU WV) {U : Nat → Value} {W : Nat → Nat → Pol (Zp p)} (hr : Rw p w' l0 l1 vA n m U W) (hc : Ch l0 l1 w w') : Sst p w' l0 l1 l2 l3 gS vA vU vV n m W WU WV :=
 ⟨h.blk.ch hc (.inr (by have := h.gs; have := h.o2; have := h.o3; omega)), h.o1, h.o2, h.o3, h.gs, ⟨U, hr⟩, h.u.imp fun _ k => k.ch hc (.inr (Nat.le_refl _)), h.v.imp fun _ k => k.ch hc (.inr h.o2)⟩
theorem Sst.setU (h : Sst p w l0 l1 l2 l3 gS vA vU vV n m WA WU WV) {U : Nat → Value} {W : Nat → Nat → Pol (Zp p)} (hr : Rw p w' l1 l2 vU n n U W) (hc : Ch l1 l2 w w') : Sst p w' l0 l1 l2 l3 gS vA vU vV n m WA W WV :=
 ⟨h.blk.ch hc (.inr (by have := h.gs; have := h.o3; omega)), h.o1, h.o2, h.o3, h.gs, h.a.imp fun _ k => k.ch hc (.inl (Nat.le_refl _)), ⟨U, hr⟩, h.v.imp fun _ k => k.ch hc (.inr (Nat.le_refl _))⟩
theorem Sst.setV (h : Sst p w l0 l1 l2 l3 gS vA vU vV n m WA WU WV) {U : Nat → Value} {W : Nat → Nat → Pol (Zp p)} (hr : Rw p w' l2 l3 vV m m U W) (hc : Ch l2 l3 w w') : Sst p w' l0 l1 l2 l3 gS vA vU vV n m WA WU W :=
 ⟨h.blk.ch hc (.inr h.gs), h.o1, h.o2, h.o3, h.gs, h.a.imp fun _ k => k.ch hc (.inl h.o2), h.u.imp fun _ k => k.ch hc (.inl (Nat.le_refl _)), ⟨U, hr⟩⟩
theorem Sst.wA (h : Sst p w l0 l1 l2 l3 gS vA vU vV n m WA WU WV) {a b : World} (hc : Ch l0 l1 a b) : Ch l0 l3 a b := hc.wide (Nat.le_refl _) (Nat.le_trans h.o2 h.o3)
theorem Sst.wU (h : Sst p w l0 l1 l2 l3 gS vA vU vV n m WA WU WV) {a b : World} (hc : Ch l1 l2 a b) : Ch l0 l3 a b := hc.wide h.o1 h.o3
theorem Sst.wV (h : Sst p w l0 l1 l2 l3 gS vA vU vV n m WA WU WV) {a b : World} (hc : Ch l2 l3 a b) : Ch l0 l3 a b := hc.wide (Nat.le_trans h.o1 h.o2) (Nat.le_refl _)
theorem Sst.size (h : Sst p w l0 l1 l2 l3 gS vA vU vV n m WA WU WV) : l3 ≤ w.heap.size := by have := h.blk.lt; have := h.gs; omega
end
theorem swC_alt {R : Type} (W : Nat → Nat → R) (i k a j : Nat) : (if j = k then W a i else if j = i then W a k else W a j) = swC W i k a j := by
 unfold swC
 by_cases h1 : j = k
 ·by_cases h2 : j = i
  ·rw [if_pos h1, if_pos h2, ← h1, h2]
  ·rw [if_pos h1, if_neg h2, if_pos h1]
 ·by_cases h2 : j = i
  ·rw [if_neg h1, if_pos h2, if_pos h2]
  ·rw [if_neg h1, if_neg h2, if_neg h2, if_neg h1]
noncomputable def pln {p : Nat} (f : Pol (Zp p)) : Nat := (Ln.exists f).choose
theorem pln_ln {p : Nat} (f : Pol (Zp p)) : Ln f (pln f) := (Ln.exists f).choose_spec
theorem pln_eq {p : Nat} {f : Pol (Zp p)} {a : Nat} (h : Ln f a) : pln f = a := (pln_ln f).unique h
theorem pln_nrm {p : Nat} (hp : 0 < p) {zs : List Nat} {f : Pol (Zp p)} (h : Nrm p zs) (e : pl p zs = f) : pln f = zs.length := pln_eq (by rw [← e]; exact nrm_ln hp h)
theorem pln_zero {p : Nat} {f : Pol (Zp p)} : pln f = 0 ↔ f = 0 := ⟨fun h => by have := pln_ln f; rw [h] at this; exact this.nil, fun h => pln_eq (by rw [h]; exact Ln.zero)⟩
def Bf (i k r c : Nat) : Prop := r < i ∨ (r = i ∧ c < k)
def Scn {p : Nat} (W : Nat → Nat → Pol (Zp p)) (t m i k : Nat) (x y : Int) : Prop :=
 (x = -1 ∧ y = -1 ∧ ∀ r c, t ≤ r → t ≤ c → c < m → Bf i k r c → W r c = 0) ∨
 ∃ a b : Nat, x = a ∧ y = b ∧ t ≤ a ∧ t ≤ b ∧ b < m ∧ Bf i k a b ∧ W a b ≠ 0 ∧ ∀ r c, t ≤ r → t ≤ c → c < m → Bf i k r c → W r c ≠ 0 → pln (W a b) ≤ pln (W r c) ∧ (Bf a b r c → pln (W a b) < pln (W r c))
section
variable {p : Nat} {W : Nat → Nat → Pol (Zp p)} {t m i k : Nat} {x y : Int}
theorem bf_succ {i k r c : Nat} : Bf i (k + 1) r c ↔ Bf i k r c ∨ (r = i ∧ c = k) := by unfold Bf; omega
theorem Scn.start (W : Nat → Nat → Pol (Zp p)) (t m : Nat) : Scn W t m t t (-1) (-1) := .inl ⟨rfl, rfl, fun r c h1 h2 _ h => by unfold Bf at h; omega⟩
theorem Scn.row (h : Scn W t m i m x y) : Scn W t m (i + 1) t x y := by
 have e : ∀ r c, t ≤ c → c < m → (Bf (i + 1) t r c → Bf i m r c) := fun r c h1 h2 h => by unfold Bf at h ⊢; omega
 rcases h with ⟨h1, h2, h3⟩ | ⟨a, b, h1, h2, h3, h4, h5, h6, h7, h8⟩
 ·exact .inl ⟨h1, h2, fun r c a1 a2 a3 a4 => h3 r c a1 a2 a3 (e r c a2 a3 a4)⟩
 ·exact .inr ⟨a, b, h1, h2, h3, h4, h5, by unfold Bf at h6 ⊢; omega, h7, fun r c a1 a2 a3 a4 => h8 r c a1 a2 a3 (e r c a2 a3 a4)⟩
theorem Scn.keep0 (h : Scn W t m i k x y) (h0 : W i k = 0) : Scn W t m i (k + 1) x y := by
 rcases h with ⟨h1, h2, h3⟩ | ⟨a, b, h1, h2, h3, h4, h5, h6, h7, h8⟩
 ·exact .inl ⟨h1, h2, fun r c a1 a2 a3 a4 => (bf_succ.1 a4).elim (h3 r c a1 a2 a3) fun e => by rw [e.1, e.2]; exact h0⟩
 ·exact .inr ⟨a, b, h1, h2, h3, h4, h5, bf_succ.2 (.inl h6), h7, fun r c a1 a2 a3 a4 => (bf_succ.1 a4).elim (h8 r c a1 a2 a3) fun e hn => absurd (by rw [e.1, e.2]; exact h0) hn⟩
theorem Scn.keep {a b : Nat} (h : Scn W t m i k a b) (hl : pln (W a b) ≤ pln (W i k)) : Scn W t m i (k + 1) a b := by
 rcases h with ⟨h1, _, _⟩ | ⟨a', b', h1, h2, h3, h4, h5, h6, h7, h8⟩
 ·omega
 ·obtain rfl : a = a' := by omega
  obtain rfl : b = b' := by omega
  exact .inr ⟨a, b, rfl, rfl, h3, h4, h5, bf_succ.2 (.inl h6), h7, fun r c a1 a2 a3 a4 => (bf_succ.1 a4).elim (h8 r c a1 a2 a3) fun e _ => by rw [e.1, e.2]; exact ⟨hl, fun hb => by unfold Bf at hb h6; omega⟩⟩
theorem Scn.take (h : Scn W t m i k x y) (hi : t ≤ i) (hk : t ≤ k) (hkm : k < m) (hn : W i k ≠ 0) (hl : x < 0 ∨ ∃ a b : Nat, x = a ∧ y = b ∧ pln (W i k) < pln (W a b)) : Scn W t m i (k + 1) i k := by
 refine .inr ⟨i, k, rfl, rfl, hi, hk, hkm, bf_succ.2 (.inr ⟨rfl, rfl⟩), hn, fun r c a1 a2 a3 a4 hne => ?_⟩
 rcases bf_succ.1 a4 with a5 | ⟨rfl, rfl⟩
 ·rcases h with ⟨_, _, h3⟩ | ⟨a, b, h1, h2, _, _, _, _, _, h8⟩
  ·exact absurd (h3 r c a1 a2 a3 a5) hne
  ·rcases hl with hl | ⟨a', b', e1, e2, hl⟩
   ·omega
   ·obtain rfl : a = a' := by omega
    obtain rfl : b = b' := by omega
    have := (h8 r c a1 a2 a3 a5 hne).1
    exact ⟨by omega, fun _ => by omega⟩
 ·exact ⟨Nat.le_refl _, fun hb => by unfold Bf at hb; omega⟩
end
end Go.Proofs.Ytkmfhabgempjiaa
/- xform: the least is brought to the diagonal. -/
namespace Go.Proofs.Ytkmfhabgempjiaa
set_option maxHeartbeats 4000000
open Go.RowKit
theorem Rw.swpV {p : Nat} {w : World} {lo hi n M : Nat} {rv : Value} {U : Nat → Value} {W : Nat → Nat → Pol (Zp p)} (h : Rw p w lo hi rv n M U W) {g cap : Nat} (hrv : rv = .slice (some ⟨g, 0, none⟩) n cap) {i j : Nat} (hi' : i < n) (hj : j < n) {x y : Value} (ex : U i = x) (ey : U j = y) :
  ∃ U', Rw p ((w.setCell ⟨g, i, none⟩ y).setCell ⟨g, j, none⟩ x) lo hi rv n M U' (swR W i j) ∧ Ch lo hi w ((w.setCell ⟨g, i, none⟩ y).setCell ⟨g, j, none⟩ x) := by
 subst ex ey; exact ⟨_, h.swp hrv hi' hj⟩
def RetLe (p : Nat) (w : World) (l0 l1 l2 l3 gS : Nat) (vA vU vV : Value) (n m : Nat) (WA WU WV : Nat → Nat → Pol (Zp p)) (t : Nat) (e : Ending) (w' : World) : Prop :=
 (e = .returned (.bool false) ∧ (∀ r c, t ≤ r → r < n → t ≤ c → c < m → WA r c = 0) ∧ Sst p w' l0 l1 l2 l3 gS vA vU vV n m WA WU WV ∧ Ch l0 l3 w w') ∨
 (e = .returned (.bool true) ∧ ∃ a b, t ≤ a ∧ a < n ∧ t ≤ b ∧ b < m ∧ WA a b ≠ 0 ∧ (∀ r c, t ≤ r → r < n → t ≤ c → c < m → WA r c ≠ 0 → pln (WA a b) ≤ pln (WA r c) ∧ (Bf a b r c → pln (WA a b) < pln (WA r c))) ∧ Sst p w' l0 l1 l2 l3 gS vA vU vV n m (swC (swR WA t a) t b) (swR WU t a) (swC WV t b) ∧ Ch l0 l3 w w')
set_option maxRecDepth 20000 in
theorem xf_least (p : Nat) (w : World) (l0 l1 l2 l3 gS : Nat) (vA vU vV : Value) (n m : Nat) (WA WU WV : Nat → Nat → Pol (Zp p)) (t : Nat) (hp : 0 < p) (h : Sst p w l0 l1 l2 l3 gS vA vU vV n m WA WU WV) (htn : t < n) (htm : t < m) (hn : n ≤ 1000) (hm : m ≤ 1000) :
  Calls Try.prog 127 #[.pointer (some ⟨gS, 0, none⟩), .int .i64 t] w (RetLe p w l0 l1 l2 l3 gS vA vU vV n m WA WU WV t) := by
 obtain ⟨PQ, ePQ⟩ : ∃ PQ : Ending → World → Prop, PQ = RetLe p w l0 l1 l2 l3 gS vA vU vV n m WA WU WV t := ⟨_, rfl⟩
 rw [← ePQ]
 have EPQ := Lib.hid ePQ; have HP := Lib.hid hp
 obtain ⟨UA, RA⟩ := h.a
 obtain ⟨EA, XA, -, -⟩ := id RA
 obtain ⟨gA, capA, rfl, -⟩ := XA.hdr htn
 have H := Lib.hid h
 have KS := h.blk
 clear ePQ hp h
 go_enter Try.func127, Try.ntmps127
 go_wp2
 go_loopw [5, 6, 7] (fun xv yv iv wr => ∃ (i : Nat) (x y : Int), t ≤ i ∧ i ≤ n ∧ iv = .int .i64 i ∧ xv = .int .i64 x ∧ yv = .int .i64 y ∧ Scn WA t m i t x y ∧ wr = w) (fun _ _ iv _ => n - (intOf iv).toNat)
 case atStart => exact ⟨t, -1, -1, Nat.le_refl _, by omega, rfl, rfl, rfl, Scn.start _ _ _, rfl⟩
 case round =>
  obtain ⟨i, x, y, hti, hi, rfl, rfl, rfl, HS, rfl⟩ := hrel
  have c1 := KS.cell 1
  by_cases hin : i < n
  ·have SC := Lib.hid HS; clear HS
   go_wp2
   clear c1
   go_loopw [5, 6, 8] (fun xv yv kv wr' => ∃ (k : Nat) (x y : Int), t ≤ k ∧ k ≤ m ∧ kv = .int .i64 k ∧ xv = .int .i64 x ∧ yv = .int .i64 y ∧ Scn WA t m i k x y ∧ wr' = wr) (fun _ _ kv _ => m - (intOf kv).toNat)
   case atStart => exact ⟨t, x, y, Nat.le_refl _, by omega, rfl, rfl, rfl, SC.out, rfl⟩
   case round =>
    clear SC
    obtain ⟨k, x, y, htk, hk, rfl, rfl, rfl, HS, rfl⟩ := hrel
    have c1 := KS.cell 1; have c4 := KS.cell 4
    by_cases hkm : k < m
    ·obtain ⟨bI, cI, eI, -, -, -, -, hIc, -⟩ := XA.at hin (by omega)
     have q1 := (XA.cellU hin).1
     rw [eI] at q1
     obtain ⟨aX, nX, cX, zX, eX, lX, oX, mX, vX⟩ := Vn.open (XA.el i k hin hkm)
     have q2 := hIc k hkm
     rw [eX] at q2
     have hpl : pln (WA i k) = nX := (pln_nrm HP.out mX vX).trans lX
     by_cases hn0 : nX = 0
     ·have h0 : WA i k = 0 := pln_zero.1 (hpl.trans hn0)
      have hn1 : decide ((0 : Int) < (nX : Int)) = false := decide_eq_false (by omega)
      have F1 := Lib.hid (HS.keep0 h0)
      clear HS hIc eX oX mX vX lX hpl h0
      go_wp2
      go_roundw
      case rel => exact ⟨k + 1, x, y, by omega, by omega, by go_num, by trivial, by trivial, F1.out, by trivial⟩
      case measure => simp [intOf] <;> omega
     ·have hne : WA i k ≠ 0 := fun e => hn0 (hpl.symm.trans (pln_zero.2 e))
      have hn1 : decide ((0 : Int) < (nX : Int)) = true := decide_eq_true (by omega)
      have HS0 := HS
      rcases HS with ⟨rfl, rfl, h3⟩ | ⟨a, b, rfl, rfl, h3, h4, h5, h6, h7, h8⟩
      ·have F1 := Lib.hid (HS0.take hti htk hkm hne (.inl (by decide)))
       clear HS0 h3 hIc eX oX mX vX lX hpl
       go_wp2
       go_roundw
       case rel => exact ⟨k + 1, i, k, by omega, by omega, by go_num, rfl, rfl, F1.out, by trivial⟩
       case measure => simp [intOf] <;> omega
      ·have han : a < n := by unfold Bf at h6; omega
       obtain ⟨bJ, cJ, eJ, -, -, -, -, hJc, -⟩ := XA.at han (by omega)
       have q3 := (XA.cellU han).1
       rw [eJ] at q3
       obtain ⟨aY, nY, cY, zY, eY, lY, oY, mY, vY⟩ := Vn.open (XA.el a b han h5)
       have q4 := hJc b h5
       rw [eY] at q4
       have hpl2 : pln (WA a b) = nY := (pln_nrm HP.out mY vY).trans lY
       have ha0 : decide ((a : Int) < 0) = false := decide_eq_false (by omega)
       by_cases hc : nX < nY
       ·have hc1 : decide ((nX : Int) < (nY : Int)) = true := decide_eq_true (by omega)
        have F1 := Lib.hid (HS0.take hti htk hkm hne (.inr ⟨a, b, rfl, rfl, by omega⟩))
        clear HS0 h8 hIc hJc eX oX mX vX lX hpl eY oY mY vY lY hpl2
        go_wp2
        go_roundw
        case rel => exact ⟨k + 1, i, k, by omega, by omega, by go_num, rfl, rfl, F1.out, by trivial⟩
        case measure => simp [intOf] <;> omega
       ·have hc1 : decide ((nX : Int) < (nY : Int)) = false := decide_eq_false (by omega)
        have F1 := Lib.hid (HS0.keep (by omega))
        clear HS0 h8 hIc hJc eX oX mX vX lX hpl eY oY mY vY lY hpl2
        go_wp2
        go_roundw
        case rel => exact ⟨k + 1, a, b, by omega, by omega, by go_num, rfl, rfl, F1.out, by trivial⟩
        case measure => simp [intOf] <;> omega
    ·obtain rfl : k = m := by omega
     have F1 := Lib.hid HS.row
     clear HS
     go_wp2
     go_roundw
     case rel => exact ⟨i + 1, x, y, by omega, by omega, by go_num, by trivial, by trivial, F1.out, by trivial⟩
     case measure => simp [intOf] <;> omega
  ·obtain rfl : i = n := by omega
   rcases HS with ⟨rfl, rfl, h3⟩ | ⟨a, b, rfl, rfl, h3, h4, h5, h6, h7, h8⟩
   ·have FIN := Lib.hid (show PQ (.returned (.bool false)) wr by
     rw [EPQ.out]
     exact .inl ⟨rfl, fun r c a1 a2 a3 a4 => h3 r c a1 a3 a4 (.inl a2), H.out, Ch.refl _ _ _⟩)
    clear h3
    go_wp2
    exact FIN.out
   ·have han : a < i := by unfold Bf at h6; omega
    have ha0 : decide ((a : Int) < 0) = false := decide_eq_false (by omega)
    have HL := Lib.hid (show WA a b ≠ 0 ∧ ∀ r c, t ≤ r → r < i → t ≤ c → c < m → WA r c ≠ 0 → pln (WA a b) ≤ pln (WA r c) ∧ (Bf a b r c → pln (WA a b) < pln (WA r c)) from ⟨h7, fun r c a1 a2 a3 a4 => h8 r c a1 a3 a4 (.inl a2)⟩)
    clear h7 h8 XA RA EA
    have h := H.out
    obtain ⟨UA, RA⟩ := h.a
    obtain ⟨EA, XA, -, -⟩ := id RA
    obtain ⟨bT, cT, eT, -, -, -, -, -, -⟩ := XA.at htn (by omega)
    obtain ⟨bB, cB, eB, -, -, -, -, -, -⟩ := XA.at han (by omega)
    obtain ⟨qt, lg, hfz⟩ := XA.cellU htn
    have qb := (XA.cellU han).1
    rw [eT] at qt; rw [eB] at qb
    have fzt := hfz t; have fzb := hfz a
    clear XA EA hfz
    go_upto_region 13 with (fail)
    have bd := dw wr
    have H13 := h.next bd
    have R13 := RA.next bd
    have C13 : Ch l0 l3 wr wr.drew := Ch.of bd
    have KS13 := KS.next bd
    have qt' : wr.drew.cell? ⟨gA, t, none⟩ = some (.slice (some ⟨bT, 0, none⟩) m cT) := qt
    have qb' : wr.drew.cell? ⟨gA, a, none⟩ = some (.slice (some ⟨bB, 0, none⟩) m cB) := qb
    have lg' : gA < wr.drew.heap.size := lg
    have fzt' : wr.drew.frozen? ⟨gA, t, none⟩ = false := fzt
    have fzb' : wr.drew.frozen? ⟨gA, a, none⟩ = false := fzb
    clear bd h RA qt qb lg fzt fzb c1
    refine startD (S := (fun w' => Below (wr.drew).heap.size (wr.drew) w')) 25 (by kernel_rfl) (Below.refl _ _) (fun hHeld => ?_)
    generalize wr.drew = wd at *
    refine takeDA 0 (v := ?_) rfl (by kernel_rfl) (by kernel_rfl) (by kernel_rfl) (fun _ _ _ h => h) (by decide) ⟨by rfl, ?_⟩ (by assumption) ?_
    rotate_left
    ·intro w; go_simp <;> with_reducible rfl
    simp only [Act.put, zq1, zq2, zq3]
    refine takeDA 1 (v := ?_) rfl (by kernel_rfl) (by kernel_rfl) (by kernel_rfl) (fun _ _ _ h => h) (by decide) ⟨by rfl, ?_⟩ (by assumption) ?_
    rotate_left
    ·intro w; go_simp <;> with_reducible rfl
    simp only [Act.put, zq1, zq2, zq3]
    refine takeDA 2 (v := ?_) rfl (by kernel_rfl) (by kernel_rfl) (by kernel_rfl) (fun _ _ _ h => h) (by decide) ⟨by rfl, ?_⟩ (by assumption) ?_
    rotate_left
    ·intro w; go_simp <;> with_reducible rfl
    simp only [Act.put, zq1, zq2, zq3]
    refine takeD0 3 (v := ?_) rfl (by kernel_rfl) (by kernel_rfl) (by kernel_rfl) (fun _ _ _ h => h) (by decide) (by kernel_rfl) (by kernel_rfl) ⟨by rfl, ?_⟩ (by assumption) ?_
    rotate_left
    ·intro w hS; have fa := KS13.at hS; have f1 := fa 1; clear fa; have f3 := (hS.cell (p := ⟨gA, t, none⟩) lg').trans qt'; have f4 := (hS.cell (p := ⟨gA, a, none⟩) lg').trans qb'; go_simp <;> with_reducible rfl
    simp only [Act.put, zq1, zq2, zq3]
    refine takeDA 4 (v := ?_) rfl (by kernel_rfl) (by kernel_rfl) (by kernel_rfl) (fun _ _ _ h => h) (by decide) ⟨by rfl, ?_⟩ (by assumption) ?_
    rotate_left
    ·intro w; go_simp <;> with_reducible rfl
    simp only [Act.put, zq1, zq2, zq3]
    refine takeDA 5 (v := ?_) rfl (by kernel_rfl) (by kernel_rfl) (by kernel_rfl) (fun _ _ _ h => h) (by decide) ⟨by rfl, ?_⟩ (by assumption) ?_
    rotate_left
    ·intro w; go_simp <;> with_reducible rfl
    simp only [Act.put, zq1, zq2, zq3]
    refine takeDA 6 (v := ?_) rfl (by kernel_rfl) (by kernel_rfl) (by kernel_rfl) (fun _ _ _ h => h) (by decide) ⟨by rfl, ?_⟩ (by assumption) ?_
    rotate_left
    ·intro w; go_simp <;> with_reducible rfl
    simp only [Act.put, zq1, zq2, zq3]
    refine takeDA 7 (v := ?_) rfl (by kernel_rfl) (by kernel_rfl) (by kernel_rfl) (fun _ _ _ h => h) (by decide) ⟨by rfl, ?_⟩ (by assumption) ?_
    rotate_left
    ·intro w; go_simp <;> with_reducible rfl
    simp only [Act.put, zq1, zq2, zq3]
    refine takeD0 8 (v := ?_) rfl (by kernel_rfl) (by kernel_rfl) (by kernel_rfl) (fun _ _ _ h => h) (by decide) (by kernel_rfl) (by kernel_rfl) ⟨by rfl, ?_⟩ (by assumption) ?_
    rotate_left
    ·intro w hS; have fa := KS13.at hS; have f1 := fa 1; clear fa; have f3 := (hS.cell (p := ⟨gA, t, none⟩) lg').trans qt'; have f4 := (hS.cell (p := ⟨gA, a, none⟩) lg').trans qb'; go_simp <;> with_reducible rfl
    simp only [Act.put, zq1, zq2, zq3]
    refine takeDA 9 (v := ?_) rfl (by kernel_rfl) (by kernel_rfl) (by kernel_rfl) (fun _ _ _ h => h) (by decide) ⟨by rfl, ?_⟩ (by assumption) ?_
    rotate_left
    ·intro w; go_simp <;> with_reducible rfl
    simp only [Act.put, zq1, zq2, zq3]
    refine takeDA 10 (v := ?_) rfl (by kernel_rfl) (by kernel_rfl) (by kernel_rfl) (fun _ _ _ h => h) (by decide) ⟨by rfl, ?_⟩ (by assumption) ?_
    rotate_left
    ·intro w; go_simp <;> with_reducible rfl
    simp only [Act.put, zq1, zq2, zq3]
    refine takeDA 11 (v := ?_) rfl (by kernel_rfl) (by kernel_rfl) (by kernel_rfl) (fun _ _ _ h => h) (by decide) ⟨by rfl, ?_⟩ (by assumption) ?_
    rotate_left
    ·intro w; go_simp <;> with_reducible rfl
    simp only [Act.put, zq1, zq2, zq3]
    refine takeDA 12 (v := ?_) rfl (by kernel_rfl) (by kernel_rfl) (by kernel_rfl) (fun _ _ _ h => h) (by decide) ⟨by rfl, ?_⟩ (by assumption) ?_
    rotate_left
    ·intro w; go_simp <;> with_reducible rfl
    simp only [Act.put, zq1, zq2, zq3]
    refine takeD0 13 (v := ?_) rfl (by kernel_rfl) (by kernel_rfl) (by kernel_rfl) (fun _ _ _ h => h) (by decide) (by kernel_rfl) (by kernel_rfl) ⟨by rfl, ?_⟩ (by assumption) ?_
    rotate_left
    ·intro w hS; have fa := KS13.at hS; have f1 := fa 1; clear fa; have f3 := (hS.cell (p := ⟨gA, t, none⟩) lg').trans qt'; have f4 := (hS.cell (p := ⟨gA, a, none⟩) lg').trans qb'; go_simp <;> with_reducible rfl
    simp only [Act.put, zq1, zq2, zq3]
    refine takeDA 14 (v := ?_) rfl (by kernel_rfl) (by kernel_rfl) (by kernel_rfl) (fun _ _ _ h => h) (by decide) ⟨by rfl, ?_⟩ (by assumption) ?_
    rotate_left
    ·intro w; go_simp <;> with_reducible rfl
    simp only [Act.put, zq1, zq2, zq3]
    refine takeDA 15 (v := ?_) rfl (by kernel_rfl) (by kernel_rfl) (by kernel_rfl) (fun _ _ _ h => h) (by decide) ⟨by rfl, ?_⟩ (by assumption) ?_
    rotate_left
    ·intro w; go_simp <;> with_reducible rfl
    simp only [Act.put, zq1, zq2, zq3]
    refine takeD0 16 (v := ?_) rfl (by kernel_rfl) (by kernel_rfl) (by kernel_rfl) (fun _ _ _ h => h) (by decide) (by kernel_rfl) (by kernel_rfl) ⟨by rfl, ?_⟩ (by assumption) ?_
    rotate_left
    ·intro w hS; have fa := KS13.at hS; have f1 := fa 1; clear fa; have f3 := (hS.cell (p := ⟨gA, t, none⟩) lg').trans qt'; have f4 := (hS.cell (p := ⟨gA, a, none⟩) lg').trans qb'; go_simp <;> with_reducible rfl
    simp only [Act.put, zq1, zq2, zq3]
    refine takeDA 17 (v := ?_) rfl (by kernel_rfl) (by kernel_rfl) (by kernel_rfl) (fun _ _ _ h => h) (by decide) ⟨by rfl, ?_⟩ (by assumption) ?_
    rotate_left
    ·intro w; go_simp <;> with_reducible rfl
    simp only [Act.put, zq1, zq2, zq3]
    refine takeDA 18 (v := ?_) rfl (by kernel_rfl) (by kernel_rfl) (by kernel_rfl) (fun _ _ _ h => h) (by decide) ⟨by rfl, ?_⟩ (by assumption) ?_
    rotate_left
    ·intro w; go_simp <;> with_reducible rfl
    simp only [Act.put, zq1, zq2, zq3]
    refine takeDA 19 (v := ?_) rfl (by kernel_rfl) (by kernel_rfl) (by kernel_rfl) (fun _ _ _ h => h) (by decide) ⟨by rfl, ?_⟩ (by assumption) ?_
    rotate_left
    ·intro w; go_simp <;> with_reducible rfl
    simp only [Act.put, zq1, zq2, zq3]
    refine takeD0 20 (v := ?_) rfl (by kernel_rfl) (by kernel_rfl) (by kernel_rfl) (fun _ _ _ h => h) (by decide) (by kernel_rfl) (by kernel_rfl) ⟨by rfl, ?_⟩ (by assumption) ?_
    rotate_left
    ·intro w hS; have fa := KS13.at hS; have f1 := fa 1; clear fa; have f3 := (hS.cell (p := ⟨gA, t, none⟩) lg').trans qt'; have f4 := (hS.cell (p := ⟨gA, a, none⟩) lg').trans qb'; go_simp <;> with_reducible rfl
    simp only [Act.put, zq1, zq2, zq3]
    refine takeDA 21 (v := ?_) rfl (by kernel_rfl) (by kernel_rfl) (by kernel_rfl) (fun _ _ _ h => h) (by decide) ⟨by rfl, ?_⟩ (by assumption) ?_
    rotate_left
    ·intro w; go_simp <;> with_reducible rfl
    simp only [Act.put, zq1, zq2, zq3]
    refine takeDA 22 (v := ?_) rfl (by kernel_rfl) (by kernel_rfl) (by kernel_rfl) (fun _ _ _ h => h) (by decide) ⟨by rfl, ?_⟩ (by assumption) ?_
    rotate_left
    ·intro w; go_simp <;> with_reducible rfl
    simp only [Act.put, zq1, zq2, zq3]
    refine takeD0 23 (v := ?_) rfl (by kernel_rfl) (by kernel_rfl) (by kernel_rfl) (fun _ _ _ h => h) (by decide) (by kernel_rfl) (by kernel_rfl) ⟨by rfl, ?_⟩ (by assumption) ?_
    rotate_left
    ·intro w hS; have fa := KS13.at hS; have f1 := fa 1; clear fa; have f3 := (hS.cell (p := ⟨gA, t, none⟩) lg').trans qt'; have f4 := (hS.cell (p := ⟨gA, a, none⟩) lg').trans qb'; go_simp <;> with_reducible rfl
    simp only [Act.put, zq1, zq2, zq3]
    refine takeDA 24 (v := ?_) rfl (by kernel_rfl) (by kernel_rfl) (by kernel_rfl) (fun _ _ _ h => h) (by decide) ⟨by rfl, ?_⟩ (by assumption) ?_
    rotate_left
    ·intro w; go_simp <;> with_reducible rfl
    simp only [Act.put, zq1, zq2, zq3]
    obtain ⟨zz, qz⟩ := cell_set_some (p := ⟨gA, t, none⟩) (x := .slice (some ⟨bB, 0, none⟩) m cB) qb'
    refine oneM rfl (by kernel_rfl) (of_decide_eq_true (by kernel_rfl)) (by rfl) (fun K hK => ?_)
    go_simp
    refine hK.out _ _ ?_
    clear hK K
    try simp only [Act.put, zq1, zq2, zq3]
    clear hHeld
    refine takeL 26 (v := ?_) rfl (by kernel_rfl) (by kernel_rfl) (by kernel_rfl) (fun _ _ _ h => h) ⟨by rfl, ?_⟩ trivial ?_
    rotate_left
    ·intro w _; go_simp <;> with_reducible rfl
    simp only [Act.put, zq1, zq2, zq3]
    refine on 27 fun K hK => ?_
    go_simp
    refine hK.out _ _ trivial (fun _ => ?_)
    clear hK K
    try simp only [Act.put, zq1, zq2, zq3]
    refine doneL (by kernel_rfl) ?_ _
    obtain ⟨U', R14, C14⟩ := R13.swpV rfl htn han eT eB
    have H14 := H13.setA R14 C14
    have C15 := C13.trans (H13.wA C14)
    clear H13 R13 R14 C14 C13 KS13 qt' qb' fzt' fzb'
    go_upto_region 14 with (fail)
    generalize (wd.setCell ⟨gA, t, none⟩ (.slice (some ⟨bB, 0, none⟩) m cB)).setCell ⟨gA, a, none⟩ (.slice (some ⟨bT, 0, none⟩) m cT) = w14 at *
    obtain ⟨UU, RU⟩ := H14.u
    obtain ⟨EU, XU, -, -⟩ := id RU
    obtain ⟨gU, capU, eU, -⟩ := XU.hdr htn
    subst eU
    obtain ⟨bT', cT', eT', -, -, -, -, -, -⟩ := XU.at htn (by omega)
    obtain ⟨bB', cB', eB', -, -, -, -, -, -⟩ := XU.at han (by omega)
    obtain ⟨qt, lg, hfz⟩ := XU.cellU htn
    have qb := (XU.cellU han).1
    rw [eT'] at qt; rw [eB'] at qb
    have fzt := hfz t; have fzb := hfz a
    clear XU EU hfz
    have bd := dw w14
    have H15 := H14.next bd
    have R15 := RU.next bd
    have C16 : Ch l0 l3 wr w14.drew := C15.trans (Ch.of bd)
    have KS15 := H15.blk
    have qt' : w14.drew.cell? ⟨gU, t, none⟩ = some (.slice (some ⟨bT', 0, none⟩) i cT') := qt
    have qb' : w14.drew.cell? ⟨gU, a, none⟩ = some (.slice (some ⟨bB', 0, none⟩) i cB') := qb
    have lg'' : gU < w14.drew.heap.size := lg
    have fzt' : w14.drew.frozen? ⟨gU, t, none⟩ = false := fzt
    have fzb' : w14.drew.frozen? ⟨gU, a, none⟩ = false := fzb
    clear bd RU qt qb lg fzt fzb H14 C15
    refine startD (S := (fun w' => Below (w14.drew).heap.size (w14.drew) w')) 25 (by kernel_rfl) (Below.refl _ _) (fun hHeld => ?_)
    generalize w14.drew = wd at *
    refine takeDA 0 (v := ?_) rfl (by kernel_rfl) (by kernel_rfl) (by kernel_rfl) (fun _ _ _ h => h) (by decide) ⟨by rfl, ?_⟩ (by assumption) ?_
    rotate_left
    ·intro w; go_simp <;> with_reducible rfl
    simp only [Act.put, zq1, zq2, zq3]
    refine takeDA 1 (v := ?_) rfl (by kernel_rfl) (by kernel_rfl) (by kernel_rfl) (fun _ _ _ h => h) (by decide) ⟨by rfl, ?_⟩ (by assumption) ?_
    rotate_left
    ·intro w; go_simp <;> with_reducible rfl
    simp only [Act.put, zq1, zq2, zq3]
    refine takeDA 2 (v := ?_) rfl (by kernel_rfl) (by kernel_rfl) (by kernel_rfl) (fun _ _ _ h => h) (by decide) ⟨by rfl, ?_⟩ (by assumption) ?_
    rotate_left
    ·intro w; go_simp <;> with_reducible rfl
    simp only [Act.put, zq1, zq2, zq3]
    refine takeD0 3 (v := ?_) rfl (by kernel_rfl) (by kernel_rfl) (by kernel_rfl) (fun _ _ _ h => h) (by decide) (by kernel_rfl) (by kernel_rfl) ⟨by rfl, ?_⟩ (by assumption) ?_
    rotate_left
    ·intro w hS; have fa := KS15.at hS; have f1 := fa 2; clear fa; have f3 := (hS.cell (p := ⟨gU, t, none⟩) lg'').trans qt'; have f4 := (hS.cell (p := ⟨gU, a, none⟩) lg'').trans qb'; go_simp <;> with_reducible rfl
    simp only [Act.put, zq1, zq2, zq3]
    refine takeDA 4 (v := ?_) rfl (by kernel_rfl) (by kernel_rfl) (by kernel_rfl) (fun _ _ _ h => h) (by decide) ⟨by rfl, ?_⟩ (by assumption) ?_
    rotate_left
    ·intro w; go_simp <;> with_reducible rfl
    simp only [Act.put, zq1, zq2, zq3]
    refine takeDA 5 (v := ?_) rfl (by kernel_rfl) (by kernel_rfl) (by kernel_rfl) (fun _ _ _ h => h) (by decide) ⟨by rfl, ?_⟩ (by assumption) ?_
    rotate_left
    ·intro w; go_simp <;> with_reducible rfl
    simp only [Act.put, zq1, zq2, zq3]
    refine takeDA 6 (v := ?_) rfl (by kernel_rfl) (by kernel_rfl) (by kernel_rfl) (fun _ _ _ h => h) (by decide) ⟨by rfl, ?_⟩ (by assumption) ?_
    rotate_left
    ·intro w; go_simp <;> with_reducible rfl
    simp only [Act.put, zq1, zq2, zq3]
    refine takeDA 7 (v := ?_) rfl (by kernel_rfl) (by kernel_rfl) (by kernel_rfl) (fun _ _ _ h => h) (by decide) ⟨by rfl, ?_⟩ (by assumption) ?_
    rotate_left
    ·intro w; go_simp <;> with_reducible rfl
    simp only [Act.put, zq1, zq2, zq3]
    refine takeD0 8 (v := ?_) rfl (by kernel_rfl) (by kernel_rfl) (by kernel_rfl) (fun _ _ _ h => h) (by decide) (by kernel_rfl) (by kernel_rfl) ⟨by rfl, ?_⟩ (by assumption) ?_
    rotate_left
    ·intro w hS; have fa := KS15.at hS; have f1 := fa 2; clear fa; have f3 := (hS.cell (p := ⟨gU, t, none⟩) lg'').trans qt'; have f4 := (hS.cell (p := ⟨gU, a, none⟩) lg'').trans qb'; go_simp <;> with_reducible rfl
    simp only [Act.put, zq1, zq2, zq3]
    refine takeDA 9 (v := ?_) rfl (by kernel_rfl) (by kernel_rfl) (by kernel_rfl) (fun _ _ _ h => h) (by decide) ⟨by rfl, ?_⟩ (by assumption) ?_
    rotate_left
    ·intro w; go_simp <;> with_reducible rfl
    simp only [Act.put, zq1, zq2, zq3]
    refine takeDA 10 (v := ?_) rfl (by kernel_rfl) (by kernel_rfl) (by kernel_rfl) (fun _ _ _ h => h) (by decide) ⟨by rfl, ?_⟩ (by assumption) ?_
    rotate_left
    ·intro w; go_simp <;> with_reducible rfl
    simp only [Act.put, zq1, zq2, zq3]
    refine takeDA 11 (v := ?_) rfl (by kernel_rfl) (by kernel_rfl) (by kernel_rfl) (fun _ _ _ h => h) (by decide) ⟨by rfl, ?_⟩ (by assumption) ?_
    rotate_left
    ·intro w; go_simp <;> with_reducible rfl
    simp only [Act.put, zq1, zq2, zq3]
    refine takeDA 12 (v := ?_) rfl (by kernel_rfl) (by kernel_rfl) (by kernel_rfl) (fun _ _ _ h => h) (by decide) ⟨by rfl, ?_⟩ (by assumption) ?_
    rotate_left
    ·intro w; go_simp <;> with_reducible rfl
    simp only [Act.put, zq1, zq2, zq3]
    refine takeD0 13 (v := ?_) rfl (by kernel_rfl) (by kernel_rfl) (by kernel_rfl) (fun _ _ _ h => h) (by decide) (by kernel_rfl) (by kernel_rfl) ⟨by rfl, ?_⟩ (by assumption) ?_
    rotate_left
    ·intro w hS; have fa := KS15.at hS; have f1 := fa 2; clear fa; have f3 := (hS.cell (p := ⟨gU, t, none⟩) lg'').trans qt'; have f4 := (hS.cell (p := ⟨gU, a, none⟩) lg'').trans qb'; go_simp <;> with_reducible rfl
    simp only [Act.put, zq1, zq2, zq3]
    refine takeDA 14 (v := ?_) rfl (by kernel_rfl) (by kernel_rfl) (by kernel_rfl) (fun _ _ _ h => h) (by decide) ⟨by rfl, ?_⟩ (by assumption) ?_
    rotate_left
    ·intro w; go_simp <;> with_reducible rfl
    simp only [Act.put, zq1, zq2, zq3]
    refine takeDA 15 (v := ?_) rfl (by kernel_rfl) (by kernel_rfl) (by kernel_rfl) (fun _ _ _ h => h) (by decide) ⟨by rfl, ?_⟩ (by assumption) ?_
    rotate_left
    ·intro w; go_simp <;> with_reducible rfl
    simp only [Act.put, zq1, zq2, zq3]
    refine takeD0 16 (v := ?_) rfl (by kernel_rfl) (by kernel_rfl) (by kernel_rfl) (fun _ _ _ h => h) (by decide) (by kernel_rfl) (by kernel_rfl) ⟨by rfl, ?_⟩ (by assumption) ?_
    rotate_left
    ·intro w hS; have fa := KS15.at hS; have f1 := fa 2; clear fa; have f3 := (hS.cell (p := ⟨gU, t, none⟩) lg'').trans qt'; have f4 := (hS.cell (p := ⟨gU, a, none⟩) lg'').trans qb'; go_simp <;> with_reducible rfl
    simp only [Act.put, zq1, zq2, zq3]
    refine takeDA 17 (v := ?_) rfl (by kernel_rfl) (by kernel_rfl) (by kernel_rfl) (fun _ _ _ h => h) (by decide) ⟨by rfl, ?_⟩ (by assumption) ?_
    rotate_left
    ·intro w; go_simp <;> with_reducible rfl
    simp only [Act.put, zq1, zq2, zq3]
    refine takeDA 18 (v := ?_) rfl (by kernel_rfl) (by kernel_rfl) (by kernel_rfl) (fun _ _ _ h => h) (by decide) ⟨by rfl, ?_⟩ (by assumption) ?_
    rotate_left
    ·intro w; go_simp <;> with_reducible rfl
    simp only [Act.put, zq1, zq2, zq3]
    refine takeDA 19 (v := ?_) rfl (by kernel_rfl) (by kernel_rfl) (by kernel_rfl) (fun _ _ _ h => h) (by decide) ⟨by rfl, ?_⟩ (by assumption) ?_
    rotate_left
    ·intro w; go_simp <;> with_reducible rfl
    simp only [Act.put, zq1, zq2, zq3]
    refine takeD0 20 (v := ?_) rfl (by kernel_rfl) (by kernel_rfl) (by kernel_rfl) (fun _ _ _ h => h) (by decide) (by kernel_rfl) (by kernel_rfl) ⟨by rfl, ?_⟩ (by assumption) ?_
    rotate_left
    ·intro w hS; have fa := KS15.at hS; have f1 := fa 2; clear fa; have f3 := (hS.cell (p := ⟨gU, t, none⟩) lg'').trans qt'; have f4 := (hS.cell (p := ⟨gU, a, none⟩) lg'').trans qb'; go_simp <;> with_reducible rfl
    simp only [Act.put, zq1, zq2, zq3]
    refine takeDA 21 (v := ?_) rfl (by kernel_rfl) (by kernel_rfl) (by kernel_rfl) (fun _ _ _ h => h) (by decide) ⟨by rfl, ?_⟩ (by assumption) ?_
    rotate_left
    ·intro w; go_simp <;> with_reducible rfl
    simp only [Act.put, zq1, zq2, zq3]
    refine takeDA 22 (v := ?_) rfl (by kernel_rfl) (by kernel_rfl) (by kernel_rfl) (fun _ _ _ h => h) (by decide) ⟨by rfl, ?_⟩ (by assumption) ?_
    rotate_left
    ·intro w; go_simp <;> with_reducible rfl
    simp only [Act.put, zq1, zq2, zq3]
    refine takeD0 23 (v := ?_) rfl (by kernel_rfl) (by kernel_rfl) (by kernel_rfl) (fun _ _ _ h => h) (by decide) (by kernel_rfl) (by kernel_rfl) ⟨by rfl, ?_⟩ (by assumption) ?_
    rotate_left
    ·intro w hS; have fa := KS15.at hS; have f1 := fa 2; clear fa; have f3 := (hS.cell (p := ⟨gU, t, none⟩) lg'').trans qt'; have f4 := (hS.cell (p := ⟨gU, a, none⟩) lg'').trans qb'; go_simp <;> with_reducible rfl
    simp only [Act.put, zq1, zq2, zq3]
    refine takeDA 24 (v := ?_) rfl (by kernel_rfl) (by kernel_rfl) (by kernel_rfl) (fun _ _ _ h => h) (by decide) ⟨by rfl, ?_⟩ (by assumption) ?_
    rotate_left
    ·intro w; go_simp <;> with_reducible rfl
    simp only [Act.put, zq1, zq2, zq3]
    obtain ⟨zz, qz⟩ := cell_set_some (p := ⟨gU, t, none⟩) (x := .slice (some ⟨bB', 0, none⟩) i cB') qb'
    refine oneM rfl (by kernel_rfl) (of_decide_eq_true (by kernel_rfl)) (by rfl) (fun K hK => ?_)
    go_simp
    refine hK.out _ _ ?_
    clear hK K
    try simp only [Act.put, zq1, zq2, zq3]
    clear hHeld
    refine takeL 26 (v := ?_) rfl (by kernel_rfl) (by kernel_rfl) (by kernel_rfl) (fun _ _ _ h => h) ⟨by rfl, ?_⟩ trivial ?_
    rotate_left
    ·intro w _; go_simp <;> with_reducible rfl
    simp only [Act.put, zq1, zq2, zq3]
    refine on 27 fun K hK => ?_
    go_simp
    refine hK.out _ _ trivial (fun _ => ?_)
    clear hK K
    try simp only [Act.put, zq1, zq2, zq3]
    refine doneL (by kernel_rfl) ?_ _
    obtain ⟨U16, R16, C17⟩ := R15.swpV rfl htn han eT' eB'
    have H17 := H15.setU R16 C17
    have C18 := C16.trans (H15.wU C17)
    clear H15 R15 R16 C17 C16 KS15 qt' qb' fzt' fzb'
    go_upto_region 15 with (fail)
    generalize (wd.setCell ⟨gU, t, none⟩ (.slice (some ⟨bB', 0, none⟩) i cB')).setCell ⟨gU, a, none⟩ (.slice (some ⟨bT', 0, none⟩) i cT') = w17 at *
    have k1 := H17.blk.cell 1
    obtain ⟨U18, R18⟩ := H17.a
    go_wp2_with fail
    refine (xf_swapCols p w17 l0 l1 _ i m U18 _ t b R18 htm h5 hn hm).mono ?_; rintro e w18 ⟨rfl, R19, C19⟩
    have H19 := H17.setA (R19.congr (V := swC (swR WA t a) t b) fun a j _ _ => (swC_alt _ t b a j).symm) C19
    have C20 := C18.trans (H17.wA C19)
    clear k1 R18 R19 C19 H17 C18
    have k3 := H19.blk.cell 3
    obtain ⟨U20, R20⟩ := H19.v
    go_wp2_with fail
    refine (xf_swapCols p w18 l2 l3 _ m m U20 _ t b R20 htm h5 hm hm).mono ?_; rintro e w19 ⟨rfl, R21, C21⟩
    have H21 := H19.setV (R21.congr (V := swC WV t b) fun a j _ _ => (swC_alt _ t b a j).symm) C21
    have FIN := Lib.hid (show PQ (.returned (.bool true)) w19 by
     rw [EPQ.out]
     exact .inr ⟨rfl, a, b, h3, han, h4, h5, HL.out.1, HL.out.2, H21, C20.trans (H19.wV C21)⟩)
    clear k3 R20 R21 C21 H19 H21 C20
    go_wp2
    exact FIN.out
end Go.Proofs.Ytkmfhabgempjiaa
/- xform: a row with what is not divided. -/
namespace Go.Proofs.Ytkmfhabgempjiaa
set_option maxHeartbeats 4000000
open Go.RowKit
theorem xs_minus (p gW : Nat) (vs : List Value) (v : Value) (xs : List Nat) (w : World) (hp : FP p) (KW : Blk 101 w gW (.int .u64 p :: vs)) (hv : Sl .u64 w v xs) (hm : xs.length ≤ 1000000000000) :
  Calls Try.prog 158 #[.pointer (some ⟨gW, 0, none⟩), v] w (RetP p w xs.length (-pl p xs)) := by
 have HP := Lib.hid hp; clear hp
 have c0 : w.cell? ⟨gW, 0, none⟩ = some (.int .u64 p) := KW.cell 0
 go_enter Try.func158, Try.ntmps158
 go_wp2_with fail
 refine (fp_Sub p _ v [] xs w HP.out (Sl.nil _ _) hv (by simp) hm).mono ?_; rintro e w2 ⟨r2, z2, rfl, o2, n2, v2, l2, b2⟩
 have FIN := Lib.hid (show RetP p w xs.length (-pl p xs) (.returned r2) w2 from ⟨r2, z2, rfl, o2, n2, by rw [v2, pl_nil, CR.zero_sub], by simpa using l2, b2⟩)
 clear o2 n2 v2 l2 b2 c0
 go_wp2
 go_ret
 exact FIN.out
theorem dv_r {p : Nat} (hp : 0 < p) (tr : Trial p) {a g q : Pol (Zp p)} {zg zr : List Nat} (eg : pl p zg = g) (h : a = q * g + pl p zr) (nr : Nrm p zr) (hl : zr.length < (nl p zg).length) : Dv g a ↔ zr.length = 0 := by
 obtain ⟨n, hn⟩ : ∃ n, (nl p zg).length = n + 1 := ⟨(nl p zg).length - 1, by omega⟩
 have hy : Ln g (n + 1) := by rw [← hn, ← eg, ← nl_pl p zg]; exact nrm_ln hp (nl_nrm hp zg)
 rw [dv_rem tr hy (r := pl p zr) (fun i hi => pl_dlt p zr i (by omega)) h]
 constructor
 ·intro e
  rw [pl_inj hp nr (nrm_nil p) (by rw [e, pl_nil])]; rfl
 ·intro e
  rw [List.length_eq_zero_iff.1 e, pl_nil]
def RetOd (p : Nat) (w : World) (n m : Nat) (WA : Nat → Nat → Pol (Zp p)) (t : Nat) (e : Ending) (w' : World) : Prop :=
 Below w.heap.size w w' ∧ ((∃ i k : Nat, e = .returned (.int .i64 i) ∧ t < i ∧ i < n ∧ t < k ∧ k < m ∧ ¬ Dv (WA t t) (WA i k)) ∨
 (e = .returned (.int .i64 (-1)) ∧ ∀ i k, t < i → i < n → t < k → k < m → Dv (WA t t) (WA i k)))
set_option maxRecDepth 20000 in
theorem xf_odd (p : Nat) (w : World) (l0 l1 l2 l3 gS : Nat) (vA vU vV : Value) (n m : Nat) (WA WU WV : Nat → Nat → Pol (Zp p)) (t L : Nat) (hp : FP p) (ht : Trial p) (h : Sst p w l0 l1 l2 l3 gS vA vU vV n m WA WU WV) (htn : t < n) (htm : t < m) (hn : n ≤ 1000) (hm : m ≤ 1000) (hL : L ≤ 400000000000) (hb : ∀ i k, i < n → k < m → (WA i k).dlt L) (h0 : WA t t ≠ 0) :
  Calls Try.prog 129 #[.pointer (some ⟨gS, 0, none⟩), .int .i64 t] w (RetOd p w n m WA t) := by
 obtain ⟨PQ, ePQ⟩ : ∃ PQ : Ending → World → Prop, PQ = RetOd p w n m WA t := ⟨_, rfl⟩
 rw [← ePQ]
 have EPQ := Lib.hid ePQ; have HP := Lib.hid hp; have HTR := Lib.hid ht; have HB := Lib.hid hb; have H0 := Lib.hid h0
 obtain ⟨UA, RA⟩ := h.a
 obtain ⟨gA, capA, rfl, -⟩ := RA.choose_spec.1.hdr htn
 have H := Lib.hid h
 clear ePQ hp ht hb h0 h RA UA
 go_enter Try.func129, Try.ntmps129
 go_wp2
 go_loopw [5] (fun iv wr => ∃ i : Nat, t < i ∧ i ≤ n ∧ iv = .int .i64 i ∧ (∀ r c, t < r → r < i → t < c → c < m → Dv (WA t t) (WA r c)) ∧ Below w.heap.size w wr) (fun iv _ => n - (intOf iv).toNat)
 case atStart => exact ⟨t + 1, by omega, by omega, by go_num, fun r c h1 h2 => by omega, Below.refl _ _⟩
 case round =>
  obtain ⟨i, hti, hi, rfl, hd, B1⟩ := hrel
  have h1 := H.out.next B1
  have c1 := h1.blk.cell 1
  by_cases hin : i < n
  ·have HD := Lib.hid hd
   clear hd
   go_wp2
   clear c1
   go_loopw [6] (fun kv wr => ∃ k : Nat, t < k ∧ k ≤ m ∧ kv = .int .i64 k ∧ (∀ c, t < c → c < k → Dv (WA t t) (WA i c)) ∧ Below w.heap.size w wr) (fun kv _ => m - (intOf kv).toNat)
   case atStart => exact ⟨t + 1, by omega, by omega, by go_num, fun c h1 h2 => by omega, B1⟩
   case round =>
    clear B1 h1
    obtain ⟨k, htk, hk, rfl, hd, B2⟩ := hrel
    have h2 := H.out.next B2
    have c4 := h2.blk.cell 4
    by_cases hkm : k < m
    ·obtain ⟨UA, EA, X, -, -⟩ := h2.a
     obtain ⟨bI, cI, eI, -, hI2, -, -, hIc, -⟩ := X.at hin (by omega)
     obtain ⟨bT, cT, eT, -, hT2, -, -, hTc, -⟩ := X.at htn (by omega)
     obtain ⟨q1, lg, -⟩ := X.cellU hin
     have q2 := (X.cellU htn).1
     rw [eI] at q1; rw [eT] at q2
     obtain ⟨aX, nX, cX, zX, eX, lX, oX, mX, vX⟩ := Vn.open (X.el i k hin hkm)
     obtain ⟨aY, nY, cY, zY, eY, lY, oY, mY, vY⟩ := Vn.open (X.el t t htn htm)
     have q3 := hIc k hkm; have q4 := hTc t htm
     rw [eX] at q3; rw [eY] at q4
     have hzX : zX.length ≤ L := nrm_len HP.out.pos mX (by rw [vX]; exact HB.out i k hin hkm)
     have hzY : zY.length ≤ L := nrm_len HP.out.pos mY (by rw [vY]; exact HB.out t t htn htm)
     have HY0 := Lib.hid (show nl p zY ≠ [] from fun e => H0.out (by rw [← vY]; exact (nl_nil HP.out.pos).1 e))
     have VX := Lib.hid vX; have VY := Lib.hid vY
     have tX := oX.sl; have tY := oY.sl
     obtain rfl : nX = zX.length := lX.symm
     obtain rfl : nY = zY.length := lY.symm
     clear X EA UA hIc hTc eI eT eX eY oX oY mX mY vX vY lX lY
     go_upto_region 7 with (fail)
     have bd := dw wr
     have KS := (h2.next bd).blk
     replace tX := tX.next bd; replace tY := tY.next bd
     have B3 := B2.trans (bd.mono B2.size)
     have q1' : wr.drew.cell? ⟨gA, i, none⟩ = some (.slice (some ⟨bI, 0, none⟩) m cI) := q1
     have q2' : wr.drew.cell? ⟨gA, t, none⟩ = some (.slice (some ⟨bT, 0, none⟩) m cT) := q2
     have q3' : wr.drew.cell? ⟨bI, k, none⟩ = some (.slice aX zX.length cX) := q3
     have q4' : wr.drew.cell? ⟨bT, t, none⟩ = some (.slice aY zY.length cY) := q4
     have l1' : gA < wr.drew.heap.size := lg
     have l2' : bI < wr.drew.heap.size := hI2
     have l3' : bT < wr.drew.heap.size := hT2
     clear bd q1 q2 q3 q4 lg hI2 hT2 B2 h2 c4
     have z0 := Lib.hid fun (w : World) (hS : Below (wr.drew).heap.size (wr.drew) w) => And.intro ((KS.at hS) 0) (And.intro ((KS.at hS) 1) (And.intro ((hS.cell (p := ⟨gA, i, none⟩) l1').trans q1') (And.intro ((hS.cell (p := ⟨gA, t, none⟩) l1').trans q2') (And.intro ((hS.cell (p := ⟨bI, k, none⟩) l2').trans q3') ((hS.cell (p := ⟨bT, t, none⟩) l3').trans q4')))))
     refine startL (S := (fun w' => Below (wr.drew).heap.size (wr.drew) w')) (by kernel_rfl) (Below.refl _ _) (fun hHeld => ?_)
     refine tk 0 ?_
     refine tk 1 ?_
     refine tk 2 ?_
     refine tf 3 z0.out ?_
     refine tk 4 ?_
     refine tk 5 ?_
     refine tk 6 ?_
     refine tf 7 z0.out ?_
     refine tk 8 ?_
     refine tk 9 ?_
     refine tf 10 z0.out ?_
     refine tk 11 ?_
     refine tk 12 ?_
     refine tf 13 z0.out ?_
     refine tk 14 ?_
     refine tk 15 ?_
     refine tk 16 ?_
     refine tf 17 z0.out ?_
     refine tk 18 ?_
     refine tk 19 ?_
     refine tf 20 z0.out ?_
     refine tk 21 ?_
     refine tk 22 ?_
     refine tf 23 z0.out ?_
     refine on 24 fun K hK => ?_
     go_simp
     go_at_call 88
     (with_reducible refine (fp_DivMod p _ _ zX zY _ HP.out HTR.out (tX.next hHeld) (tY.next hHeld) (by omega) (by omega) HY0.out).mono ?_); rintro e w8 ⟨rq, rr, zq, zr, rfl, o8, p8, m8, n8, v8, d8, l8, k8, b8⟩
     have HDV := Lib.hid (show Dv (WA t t) (WA i k) ↔ zr.length = 0 from dv_r HP.out.pos HTR.out VY.out (by rw [← VX.out, ← VY.out]; exact v8) n8 d8)
     obtain ⟨ar, cr, er⟩ := p8.sliced
     subst er
     clear o8 p8 m8 n8 v8 d8 l8 k8
     refine hK.out _ _ (hHeld.trans (b8.mono hHeld.size)) (fun hHeld => ?_)
     clear hK K
     try simp only [Act.put, zq1, zq2, zq3]
     refine tk 25 ?_
     refine tk 26 ?_
     refine tk 27 ?_
     refine tk 28 ?_
     refine tk 29 ?_
     refine tk 30 ?_
     refine tk 31 ?_
     clear z0; refine doneL (by kernel_rfl) ?_ _
     have B4 := B3.trans (hHeld.mono B3.size)
     have HD2 := Lib.hid hd
     clear KS q1' q2' q3' q4' l1' l2' l3' tX tY b8 B3 hHeld hd
     by_cases hr0 : zr.length = 0
     ·have hr1 : decide ((0 : Int) < (zr.length : Int)) = false := decide_eq_false (by omega)
      have F1 := Lib.hid (show ∀ c, t < c → c < k + 1 → Dv (WA t t) (WA i c) from fun c h1 h2 => by
       by_cases e : c = k
       ·rw [e]; exact HDV.out.2 hr0
       ·exact HD2.out c h1 (by omega))
      have F2 := Lib.hid B4
      clear B4
      go_wp2
      go_roundw
      case rel => exact ⟨k + 1, by omega, by omega, by go_num, F1.out, F2.out⟩
      case measure => simp [intOf] <;> omega
     ·have hr1 : decide ((0 : Int) < (zr.length : Int)) = true := decide_eq_true (by omega)
      have FIN := Lib.hid (show PQ (.returned (.int .i64 i)) w8 by
       rw [EPQ.out]
       exact ⟨B4, .inl ⟨i, k, rfl, hti, hin, htk, hkm, fun hdv => hr0 (HDV.out.1 hdv)⟩⟩)
      clear B4
      go_wp2
      exact FIN.out
    ·obtain rfl : k = m := by omega
     have F1 := Lib.hid (show ∀ r c, t < r → r < i + 1 → t < c → c < k → Dv (WA t t) (WA r c) from fun r c h1 h2 h3 h4 => by
      by_cases e : r = i
      ·rw [e]; exact hd c h3 h4
      ·exact HD.out r c h1 (by omega) h3 h4)
     have F2 := Lib.hid B2
     clear B2 hd h2
     go_wp2
     go_roundw
     case rel => exact ⟨i + 1, by omega, by omega, by go_num, F1.out, F2.out⟩
     case measure => simp [intOf] <;> omega
  ·obtain rfl : i = n := by omega
   have FIN := Lib.hid (show PQ (.returned (.int .i64 (-1))) wr by
    rw [EPQ.out]
    exact ⟨B1, .inr ⟨rfl, fun r c a1 a2 a3 a4 => hd r c a1 a2 a3 a4⟩⟩)
   clear B1 hd h1
   go_wp2
   exact FIN.out
end Go.Proofs.Ytkmfhabgempjiaa
