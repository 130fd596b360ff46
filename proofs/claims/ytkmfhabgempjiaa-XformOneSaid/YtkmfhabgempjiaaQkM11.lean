/- xform: the least is brought to the diagonal. -/
import Derived.Test.YtkmfhabgempjiaaQkM10
namespace Go.Proofs.Ytkmfhabgempjiaa
set_option maxHeartbeats 4000000
open Go.RowKit
theorem Rw.swpV {p : Nat} {w : World} {lo hi n M : Nat} {rv : Value} {U : Nat → Value} {W : Nat → Nat → Pol (Zp p)} (h : Rw p w lo hi rv n M U W) {g cap : Nat} (hrv : rv = .slice (some ⟨g, 0, none⟩) n cap) {i j : Nat} (hi' : i < n) (hj : j < n) {x y : Value} (ex : U i = x) (ey : U j = y) :
  ∃ U', Rw p ((w.setCell ⟨g, i, none⟩ y).setCell ⟨g, j, none⟩ x) lo hi rv n M U' (swR W i j) ∧ Ch lo hi w ((w.setCell ⟨g, i, none⟩ y).setCell ⟨g, j, none⟩ x) := by
 subst ex ey; exact ⟨_, h.swp hrv hi' hj⟩
def RetLe (p : Nat) (w : World) (l0 l1 l2 l3 gS : Nat) (vA vU vV : Value) (n m : Nat) (WA WU WV : Nat → Nat → Pol (Zp p)) (t : Nat) (e : Ending) (w' : World) : Prop :=
 (e = .returned (.bool false) ∧ (∀ r c, t ≤ r → r < n → t ≤ c → c < m → WA r c = 0) ∧ Sst p w' l0 l1 l2 l3 gS vA vU vV n m WA WU WV ∧ Ch l0 l3 w w') ∨
 (e = .returned (.bool true) ∧ ∃ a b, t ≤ a ∧ a < n ∧ t ≤ b ∧ b < m ∧ WA a b ≠ 0 ∧ (∀ r c, t ≤ r → r < n → t ≤ c → c < m → WA r c ≠ 0 → pln (WA a b) ≤ pln (WA r c)) ∧ Sst p w' l0 l1 l2 l3 gS vA vU vV n m (swC (swR WA t a) t b) (swR WU t a) (swC WV t b) ∧ Ch l0 l3 w w')
set_option maxRecDepth 20000 in
theorem xf_least (p : Nat) (w : World) (l0 l1 l2 l3 gS : Nat) (vA vU vV : Value) (n m : Nat) (WA WU WV : Nat → Nat → Pol (Zp p)) (t : Nat) (hp : 0 < p) (h : Sst p w l0 l1 l2 l3 gS vA vU vV n m WA WU WV) (htn : t < n) (htm : t < m) (hn : n ≤ 1000) (hm : m ≤ 1000) :
  Calls Try.prog 127 #[.pointer (some ⟨gS, 0, none⟩), .int .i64 t] w (RetLe p w l0 l1 l2 l3 gS vA vU vV n m WA WU WV t) := by
 obtain ⟨PQ, ePQ⟩ : ∃ PQ : Ending → World → Prop, PQ = RetLe p w l0 l1 l2 l3 gS vA vU vV n m WA WU WV t := ⟨_, rfl⟩
 rw [← ePQ]
 have EPQ := Lib.hid ePQ; have HP := Lib.hid hp
 obtain ⟨UA, RA⟩ := h.a
 obtain ⟨EA, XA, -, -⟩ := id RA
 obtain ⟨gA, capA, rfl, -⟩ := XA.hdr htn
 have H := Lib.hid h
 have KS := h.blk
 clear ePQ hp h
 go_enter Try.func127, Try.ntmps127
 go_wp2
 go_loopw [5, 6, 7] (fun xv yv iv wr => ∃ (i : Nat) (x y : Int), t ≤ i ∧ i ≤ n ∧ iv = .int .i64 i ∧ xv = .int .i64 x ∧ yv = .int .i64 y ∧ Scn WA t m i t x y ∧ wr = w) (fun _ _ iv _ => n - (intOf iv).toNat)
 case atStart => exact ⟨t, -1, -1, Nat.le_refl _, by omega, rfl, rfl, rfl, Scn.start _ _ _, rfl⟩
 case round =>
  obtain ⟨i, x, y, hti, hi, rfl, rfl, rfl, HS, rfl⟩ := hrel
  have c1 := KS.cell 1
  by_cases hin : i < n
  ·have SC := Lib.hid HS; clear HS
   go_wp2
   clear c1
   go_loopw [5, 6, 8] (fun xv yv kv wr' => ∃ (k : Nat) (x y : Int), t ≤ k ∧ k ≤ m ∧ kv = .int .i64 k ∧ xv = .int .i64 x ∧ yv = .int .i64 y ∧ Scn WA t m i k x y ∧ wr' = wr) (fun _ _ kv _ => m - (intOf kv).toNat)
   case atStart => exact ⟨t, x, y, Nat.le_refl _, by omega, rfl, rfl, rfl, SC.out, rfl⟩
   case round =>
    clear SC
    obtain ⟨k, x, y, htk, hk, rfl, rfl, rfl, HS, rfl⟩ := hrel
    have c1 := KS.cell 1; have c4 := KS.cell 4
    by_cases hkm : k < m
    ·obtain ⟨bI, cI, eI, -, -, -, -, hIc, -⟩ := XA.at hin (by omega)
     have q1 := (XA.cellU hin).1
     rw [eI] at q1
     obtain ⟨aX, nX, cX, zX, eX, lX, oX, mX, vX⟩ := Vn.open (XA.el i k hin hkm)
     have q2 := hIc k hkm
     rw [eX] at q2
     have hpl : pln (WA i k) = nX := (pln_nrm HP.out mX vX).trans lX
     by_cases hn0 : nX = 0
     ·have h0 : WA i k = 0 := pln_zero.1 (hpl.trans hn0)
      have hn1 : decide ((0 : Int) < (nX : Int)) = false := decide_eq_false (by omega)
      have F1 := Lib.hid (HS.keep0 h0)
      clear HS hIc eX oX mX vX lX hpl h0
      go_wp2
      go_roundw
      case rel => exact ⟨k + 1, x, y, by omega, by omega, by go_num, by trivial, by trivial, F1.out, by trivial⟩
      case measure => simp [intOf] <;> omega
     ·have hne : WA i k ≠ 0 := fun e => hn0 (hpl.symm.trans (pln_zero.2 e))
      have hn1 : decide ((0 : Int) < (nX : Int)) = true := decide_eq_true (by omega)
      have HS0 := HS
      rcases HS with ⟨rfl, rfl, h3⟩ | ⟨a, b, rfl, rfl, h3, h4, h5, h6, h7, h8⟩
      ·have F1 := Lib.hid (HS0.take hti htk hkm hne (.inl (by decide)))
       clear HS0 h3 hIc eX oX mX vX lX hpl
       go_wp2
       go_roundw
       case rel => exact ⟨k + 1, i, k, by omega, by omega, by go_num, rfl, rfl, F1.out, by trivial⟩
       case measure => simp [intOf] <;> omega
      ·have han : a < n := by unfold Bf at h6; omega
       obtain ⟨bJ, cJ, eJ, -, -, -, -, hJc, -⟩ := XA.at han (by omega)
       have q3 := (XA.cellU han).1
       rw [eJ] at q3
       obtain ⟨aY, nY, cY, zY, eY, lY, oY, mY, vY⟩ := Vn.open (XA.el a b han h5)
       have q4 := hJc b h5
       rw [eY] at q4
       have hpl2 : pln (WA a b) = nY := (pln_nrm HP.out mY vY).trans lY
       have ha0 : decide ((a : Int) < 0) = false := decide_eq_false (by omega)
       by_cases hc : nX < nY
       ·have hc1 : decide ((nX : Int) < (nY : Int)) = true := decide_eq_true (by omega)
        have F1 := Lib.hid (HS0.take hti htk hkm hne (.inr ⟨a, b, rfl, rfl, by omega⟩))
        clear HS0 h8 hIc hJc eX oX mX vX lX hpl eY oY mY vY lY hpl2
        go_wp2
        go_roundw
        case rel => exact ⟨k + 1, i, k, by omega, by omega, by go_num, rfl, rfl, F1.out, by trivial⟩
        case measure => simp [intOf] <;> omega
       ·have hc1 : decide ((nX : Int) < (nY : Int)) = false := decide_eq_false (by omega)
        have F1 := Lib.hid (HS0.keep (by omega))
        clear HS0 h8 hIc hJc eX oX mX vX lX hpl eY oY mY vY lY hpl2
        go_wp2
        go_roundw
        case rel => exact ⟨k + 1, a, b, by omega, by omega, by go_num, rfl, rfl, F1.out, by trivial⟩
        case measure => simp [intOf] <;> omega
    ·obtain rfl : k = m := by omega
     have F1 := Lib.hid HS.row
     clear HS
     go_wp2
     go_roundw
     case rel => exact ⟨i + 1, x, y, by omega, by omega, by go_num, by trivial, by trivial, F1.out, by trivial⟩
     case measure => simp [intOf] <;> omega
  ·obtain rfl : i = n := by omega
   rcases HS with ⟨rfl, rfl, h3⟩ | ⟨a, b, rfl, rfl, h3, h4, h5, h6, h7, h8⟩
   ·have FIN := Lib.hid (show PQ (.returned (.bool false)) wr by
     rw [EPQ.out]
     exact .inl ⟨rfl, fun r c a1 a2 a3 a4 => h3 r c a1 a3 a4 (.inl a2), H.out, Ch.refl _ _ _⟩)
    clear h3
    go_wp2
    exact FIN.out
   ·have han : a < i := by unfold Bf at h6; omega
    have ha0 : decide ((a : Int) < 0) = false := decide_eq_false (by omega)
    have HL := Lib.hid (show WA a b ≠ 0 ∧ ∀ r c, t ≤ r → r < i → t ≤ c → c < m → WA r c ≠ 0 → pln (WA a b) ≤ pln (WA r c) from ⟨h7, fun r c a1 a2 a3 a4 => h8 r c a1 a3 a4 (.inl a2)⟩)
    clear h7 h8 XA RA EA
    have h := H.out
    obtain ⟨UA, RA⟩ := h.a
    obtain ⟨EA, XA, -, -⟩ := id RA
    obtain ⟨bT, cT, eT, -, -, -, -, -, -⟩ := XA.at htn (by omega)
    obtain ⟨bB, cB, eB, -, -, -, -, -, -⟩ := XA.at han (by omega)
    obtain ⟨qt, lg, hfz⟩ := XA.cellU htn
    have qb := (XA.cellU han).1
    rw [eT] at qt; rw [eB] at qb
    have fzt := hfz t; have fzb := hfz a
    clear XA EA hfz
    go_upto_region 13 with (fail)
    have bd := dw wr
    have H13 := h.next bd
    have R13 := RA.next bd
    have C13 : Ch l0 l3 wr wr.drew := Ch.of bd
    have KS13 := KS.next bd
    have qt' : wr.drew.cell? ⟨gA, t, none⟩ = some (.slice (some ⟨bT, 0, none⟩) m cT) := qt
    have qb' : wr.drew.cell? ⟨gA, a, none⟩ = some (.slice (some ⟨bB, 0, none⟩) m cB) := qb
    have lg' : gA < wr.drew.heap.size := lg
    have fzt' : wr.drew.frozen? ⟨gA, t, none⟩ = false := fzt
    have fzb' : wr.drew.frozen? ⟨gA, a, none⟩ = false := fzb
    clear bd h RA qt qb lg fzt fzb c1
    refine startD (S := (fun w' => Below (wr.drew).heap.size (wr.drew) w')) 25 (by kernel_rfl) (Below.refl _ _) (fun hHeld => ?_)
    generalize wr.drew = wd at *
    refine takeDA 0 (v := ?_) rfl (by kernel_rfl) (by kernel_rfl) (by kernel_rfl) (fun _ _ _ h => h) (by decide) ⟨by rfl, ?_⟩ (by assumption) ?_
    rotate_left
    ·intro w; go_simp <;> with_reducible rfl
    simp only [Act.put, zq1, zq2, zq3]
    refine takeDA 1 (v := ?_) rfl (by kernel_rfl) (by kernel_rfl) (by kernel_rfl) (fun _ _ _ h => h) (by decide) ⟨by rfl, ?_⟩ (by assumption) ?_
    rotate_left
    ·intro w; go_simp <;> with_reducible rfl
    simp only [Act.put, zq1, zq2, zq3]
    refine takeDA 2 (v := ?_) rfl (by kernel_rfl) (by kernel_rfl) (by kernel_rfl) (fun _ _ _ h => h) (by decide) ⟨by rfl, ?_⟩ (by assumption) ?_
    rotate_left
    ·intro w; go_simp <;> with_reducible rfl
    simp only [Act.put, zq1, zq2, zq3]
    refine takeD0 3 (v := ?_) rfl (by kernel_rfl) (by kernel_rfl) (by kernel_rfl) (fun _ _ _ h => h) (by decide) (by kernel_rfl) (by kernel_rfl) ⟨by rfl, ?_⟩ (by assumption) ?_
    rotate_left
    ·intro w hS; have fa := KS13.at hS; have f1 := fa 1; clear fa; have f3 := (hS.cell (p := ⟨gA, t, none⟩) lg').trans qt'; have f4 := (hS.cell (p := ⟨gA, a, none⟩) lg').trans qb'; go_simp <;> with_reducible rfl
    simp only [Act.put, zq1, zq2, zq3]
    refine takeDA 4 (v := ?_) rfl (by kernel_rfl) (by kernel_rfl) (by kernel_rfl) (fun _ _ _ h => h) (by decide) ⟨by rfl, ?_⟩ (by assumption) ?_
    rotate_left
    ·intro w; go_simp <;> with_reducible rfl
    simp only [Act.put, zq1, zq2, zq3]
    refine takeDA 5 (v := ?_) rfl (by kernel_rfl) (by kernel_rfl) (by kernel_rfl) (fun _ _ _ h => h) (by decide) ⟨by rfl, ?_⟩ (by assumption) ?_
    rotate_left
    ·intro w; go_simp <;> with_reducible rfl
    simp only [Act.put, zq1, zq2, zq3]
    refine takeDA 6 (v := ?_) rfl (by kernel_rfl) (by kernel_rfl) (by kernel_rfl) (fun _ _ _ h => h) (by decide) ⟨by rfl, ?_⟩ (by assumption) ?_
    rotate_left
    ·intro w; go_simp <;> with_reducible rfl
    simp only [Act.put, zq1, zq2, zq3]
    refine takeDA 7 (v := ?_) rfl (by kernel_rfl) (by kernel_rfl) (by kernel_rfl) (fun _ _ _ h => h) (by decide) ⟨by rfl, ?_⟩ (by assumption) ?_
    rotate_left
    ·intro w; go_simp <;> with_reducible rfl
    simp only [Act.put, zq1, zq2, zq3]
    refine takeD0 8 (v := ?_) rfl (by kernel_rfl) (by kernel_rfl) (by kernel_rfl) (fun _ _ _ h => h) (by decide) (by kernel_rfl) (by kernel_rfl) ⟨by rfl, ?_⟩ (by assumption) ?_
    rotate_left
    ·intro w hS; have fa := KS13.at hS; have f1 := fa 1; clear fa; have f3 := (hS.cell (p := ⟨gA, t, none⟩) lg').trans qt'; have f4 := (hS.cell (p := ⟨gA, a, none⟩) lg').trans qb'; go_simp <;> with_reducible rfl
    simp only [Act.put, zq1, zq2, zq3]
    refine takeDA 9 (v := ?_) rfl (by kernel_rfl) (by kernel_rfl) (by kernel_rfl) (fun _ _ _ h => h) (by decide) ⟨by rfl, ?_⟩ (by assumption) ?_
    rotate_left
    ·intro w; go_simp <;> with_reducible rfl
    simp only [Act.put, zq1, zq2, zq3]
    refine takeDA 10 (v := ?_) rfl (by kernel_rfl) (by kernel_rfl) (by kernel_rfl) (fun _ _ _ h => h) (by decide) ⟨by rfl, ?_⟩ (by assumption) ?_
    rotate_left
    ·intro w; go_simp <;> with_reducible rfl
    simp only [Act.put, zq1, zq2, zq3]
    refine takeDA 11 (v := ?_) rfl (by kernel_rfl) (by kernel_rfl) (by kernel_rfl) (fun _ _ _ h => h) (by decide) ⟨by rfl, ?_⟩ (by assumption) ?_
    rotate_left
    ·intro w; go_simp <;> with_reducible rfl
    simp only [Act.put, zq1, zq2, zq3]
    refine takeDA 12 (v := ?_) rfl (by kernel_rfl) (by kernel_rfl) (by kernel_rfl) (fun _ _ _ h => h) (by decide) ⟨by rfl, ?_⟩ (by assumption) ?_
    rotate_left
    ·intro w; go_simp <;> with_reducible rfl
    simp only [Act.put, zq1, zq2, zq3]
    refine takeD0 13 (v := ?_) rfl (by kernel_rfl) (by kernel_rfl) (by kernel_rfl) (fun _ _ _ h => h) (by decide) (by kernel_rfl) (by kernel_rfl) ⟨by rfl, ?_⟩ (by assumption) ?_
    rotate_left
    ·intro w hS; have fa := KS13.at hS; have f1 := fa 1; clear fa; have f3 := (hS.cell (p := ⟨gA, t, none⟩) lg').trans qt'; have f4 := (hS.cell (p := ⟨gA, a, none⟩) lg').trans qb'; go_simp <;> with_reducible rfl
    simp only [Act.put, zq1, zq2, zq3]
    refine takeDA 14 (v := ?_) rfl (by kernel_rfl) (by kernel_rfl) (by kernel_rfl) (fun _ _ _ h => h) (by decide) ⟨by rfl, ?_⟩ (by assumption) ?_
    rotate_left
    ·intro w; go_simp <;> with_reducible rfl
    simp only [Act.put, zq1, zq2, zq3]
    refine takeDA 15 (v := ?_) rfl (by kernel_rfl) (by kernel_rfl) (by kernel_rfl) (fun _ _ _ h => h) (by decide) ⟨by rfl, ?_⟩ (by assumption) ?_
    rotate_left
    ·intro w; go_simp <;> with_reducible rfl
    simp only [Act.put, zq1, zq2, zq3]
    refine takeD0 16 (v := ?_) rfl (by kernel_rfl) (by kernel_rfl) (by kernel_rfl) (fun _ _ _ h => h) (by decide) (by kernel_rfl) (by kernel_rfl) ⟨by rfl, ?_⟩ (by assumption) ?_
    rotate_left
    ·intro w hS; have fa := KS13.at hS; have f1 := fa 1; clear fa; have f3 := (hS.cell (p := ⟨gA, t, none⟩) lg').trans qt'; have f4 := (hS.cell (p := ⟨gA, a, none⟩) lg').trans qb'; go_simp <;> with_reducible rfl
    simp only [Act.put, zq1, zq2, zq3]
    refine takeDA 17 (v := ?_) rfl (by kernel_rfl) (by kernel_rfl) (by kernel_rfl) (fun _ _ _ h => h) (by decide) ⟨by rfl, ?_⟩ (by assumption) ?_
    rotate_left
    ·intro w; go_simp <;> with_reducible rfl
    simp only [Act.put, zq1, zq2, zq3]
    refine takeDA 18 (v := ?_) rfl (by kernel_rfl) (by kernel_rfl) (by kernel_rfl) (fun _ _ _ h => h) (by decide) ⟨by rfl, ?_⟩ (by assumption) ?_
    rotate_left
    ·intro w; go_simp <;> with_reducible rfl
    simp only [Act.put, zq1, zq2, zq3]
    refine takeDA 19 (v := ?_) rfl (by kernel_rfl) (by kernel_rfl) (by kernel_rfl) (fun _ _ _ h => h) (by decide) ⟨by rfl, ?_⟩ (by assumption) ?_
    rotate_left
    ·intro w; go_simp <;> with_reducible rfl
    simp only [Act.put, zq1, zq2, zq3]
    refine takeD0 20 (v := ?_) rfl (by kernel_rfl) (by kernel_rfl) (by kernel_rfl) (fun _ _ _ h => h) (by decide) (by kernel_rfl) (by kernel_rfl) ⟨by rfl, ?_⟩ (by assumption) ?_
    rotate_left
    ·intro w hS; have fa := KS13.at hS; have f1 := fa 1; clear fa; have f3 := (hS.cell (p := ⟨gA, t, none⟩) lg').trans qt'; have f4 := (hS.cell (p := ⟨gA, a, none⟩) lg').trans qb'; go_simp <;> with_reducible rfl
    simp only [Act.put, zq1, zq2, zq3]
    refine takeDA 21 (v := ?_) rfl (by kernel_rfl) (by kernel_rfl) (by kernel_rfl) (fun _ _ _ h => h) (by decide) ⟨by rfl, ?_⟩ (by assumption) ?_
    rotate_left
    ·intro w; go_simp <;> with_reducible rfl
    simp only [Act.put, zq1, zq2, zq3]
    refine takeDA 22 (v := ?_) rfl (by kernel_rfl) (by kernel_rfl) (by kernel_rfl) (fun _ _ _ h => h) (by decide) ⟨by rfl, ?_⟩ (by assumption) ?_
    rotate_left
    ·intro w; go_simp <;> with_reducible rfl
    simp only [Act.put, zq1, zq2, zq3]
    refine takeD0 23 (v := ?_) rfl (by kernel_rfl) (by kernel_rfl) (by kernel_rfl) (fun _ _ _ h => h) (by decide) (by kernel_rfl) (by kernel_rfl) ⟨by rfl, ?_⟩ (by assumption) ?_
    rotate_left
    ·intro w hS; have fa := KS13.at hS; have f1 := fa 1; clear fa; have f3 := (hS.cell (p := ⟨gA, t, none⟩) lg').trans qt'; have f4 := (hS.cell (p := ⟨gA, a, none⟩) lg').trans qb'; go_simp <;> with_reducible rfl
    simp only [Act.put, zq1, zq2, zq3]
    refine takeDA 24 (v := ?_) rfl (by kernel_rfl) (by kernel_rfl) (by kernel_rfl) (fun _ _ _ h => h) (by decide) ⟨by rfl, ?_⟩ (by assumption) ?_
    rotate_left
    ·intro w; go_simp <;> with_reducible rfl
    simp only [Act.put, zq1, zq2, zq3]
    obtain ⟨zz, qz⟩ := cell_set_some (p := ⟨gA, t, none⟩) (x := .slice (some ⟨bB, 0, none⟩) m cB) qb'
    refine oneM rfl (by kernel_rfl) (of_decide_eq_true (by kernel_rfl)) (by rfl) (fun K hK => ?_)
    go_simp
    refine hK.out _ _ ?_
    clear hK K
    try simp only [Act.put, zq1, zq2, zq3]
    clear hHeld
    refine takeL 26 (v := ?_) rfl (by kernel_rfl) (by kernel_rfl) (by kernel_rfl) (fun _ _ _ h => h) ⟨by rfl, ?_⟩ trivial ?_
    rotate_left
    ·intro w _; go_simp <;> with_reducible rfl
    simp only [Act.put, zq1, zq2, zq3]
    refine on 27 fun K hK => ?_
    go_simp
    refine hK.out _ _ trivial (fun _ => ?_)
    clear hK K
    try simp only [Act.put, zq1, zq2, zq3]
    refine doneL (by kernel_rfl) ?_ _
    obtain ⟨U', R14, C14⟩ := R13.swpV rfl htn han eT eB
    have H14 := H13.setA R14 C14
    have C15 := C13.trans (H13.wA C14)
    clear H13 R13 R14 C14 C13 KS13 qt' qb' fzt' fzb'
    go_upto_region 14 with (fail)
    generalize (wd.setCell ⟨gA, t, none⟩ (.slice (some ⟨bB, 0, none⟩) m cB)).setCell ⟨gA, a, none⟩ (.slice (some ⟨bT, 0, none⟩) m cT) = w14 at *
    obtain ⟨UU, RU⟩ := H14.u
    obtain ⟨EU, XU, -, -⟩ := id RU
    obtain ⟨gU, capU, eU, -⟩ := XU.hdr htn
    subst eU
    obtain ⟨bT', cT', eT', -, -, -, -, -, -⟩ := XU.at htn (by omega)
    obtain ⟨bB', cB', eB', -, -, -, -, -, -⟩ := XU.at han (by omega)
    obtain ⟨qt, lg, hfz⟩ := XU.cellU htn
    have qb := (XU.cellU han).1
    rw [eT'] at qt; rw [eB'] at qb
    have fzt := hfz t; have fzb := hfz a
    clear XU EU hfz
    have bd := dw w14
    have H15 := H14.next bd
    have R15 := RU.next bd
    have C16 : Ch l0 l3 wr w14.drew := C15.trans (Ch.of bd)
    have KS15 := H15.blk
    have qt' : w14.drew.cell? ⟨gU, t, none⟩ = some (.slice (some ⟨bT', 0, none⟩) i cT') := qt
    have qb' : w14.drew.cell? ⟨gU, a, none⟩ = some (.slice (some ⟨bB', 0, none⟩) i cB') := qb
    have lg'' : gU < w14.drew.heap.size := lg
    have fzt' : w14.drew.frozen? ⟨gU, t, none⟩ = false := fzt
    have fzb' : w14.drew.frozen? ⟨gU, a, none⟩ = false := fzb
    clear bd RU qt qb lg fzt fzb H14 C15
    refine startD (S := (fun w' => Below (w14.drew).heap.size (w14.drew) w')) 25 (by kernel_rfl) (Below.refl _ _) (fun hHeld => ?_)
    generalize w14.drew = wd at *
    refine takeDA 0 (v := ?_) rfl (by kernel_rfl) (by kernel_rfl) (by kernel_rfl) (fun _ _ _ h => h) (by decide) ⟨by rfl, ?_⟩ (by assumption) ?_
    rotate_left
    ·intro w; go_simp <;> with_reducible rfl
    simp only [Act.put, zq1, zq2, zq3]
    refine takeDA 1 (v := ?_) rfl (by kernel_rfl) (by kernel_rfl) (by kernel_rfl) (fun _ _ _ h => h) (by decide) ⟨by rfl, ?_⟩ (by assumption) ?_
    rotate_left
    ·intro w; go_simp <;> with_reducible rfl
    simp only [Act.put, zq1, zq2, zq3]
    refine takeDA 2 (v := ?_) rfl (by kernel_rfl) (by kernel_rfl) (by kernel_rfl) (fun _ _ _ h => h) (by decide) ⟨by rfl, ?_⟩ (by assumption) ?_
    rotate_left
    ·intro w; go_simp <;> with_reducible rfl
    simp only [Act.put, zq1, zq2, zq3]
    refine takeD0 3 (v := ?_) rfl (by kernel_rfl) (by kernel_rfl) (by kernel_rfl) (fun _ _ _ h => h) (by decide) (by kernel_rfl) (by kernel_rfl) ⟨by rfl, ?_⟩ (by assumption) ?_
    rotate_left
    ·intro w hS; have fa := KS15.at hS; have f1 := fa 2; clear fa; have f3 := (hS.cell (p := ⟨gU, t, none⟩) lg'').trans qt'; have f4 := (hS.cell (p := ⟨gU, a, none⟩) lg'').trans qb'; go_simp <;> with_reducible rfl
    simp only [Act.put, zq1, zq2, zq3]
    refine takeDA 4 (v := ?_) rfl (by kernel_rfl) (by kernel_rfl) (by kernel_rfl) (fun _ _ _ h => h) (by decide) ⟨by rfl, ?_⟩ (by assumption) ?_
    rotate_left
    ·intro w; go_simp <;> with_reducible rfl
    simp only [Act.put, zq1, zq2, zq3]
    refine takeDA 5 (v := ?_) rfl (by kernel_rfl) (by kernel_rfl) (by kernel_rfl) (fun _ _ _ h => h) (by decide) ⟨by rfl, ?_⟩ (by assumption) ?_
    rotate_left
    ·intro w; go_simp <;> with_reducible rfl
    simp only [Act.put, zq1, zq2, zq3]
    refine takeDA 6 (v := ?_) rfl (by kernel_rfl) (by kernel_rfl) (by kernel_rfl) (fun _ _ _ h => h) (by decide) ⟨by rfl, ?_⟩ (by assumption) ?_
    rotate_left
    ·intro w; go_simp <;> with_reducible rfl
    simp only [Act.put, zq1, zq2, zq3]
    refine takeDA 7 (v := ?_) rfl (by kernel_rfl) (by kernel_rfl) (by kernel_rfl) (fun _ _ _ h => h) (by decide) ⟨by rfl, ?_⟩ (by assumption) ?_
    rotate_left
    ·intro w; go_simp <;> with_reducible rfl
    simp only [Act.put, zq1, zq2, zq3]
    refine takeD0 8 (v := ?_) rfl (by kernel_rfl) (by kernel_rfl) (by kernel_rfl) (fun _ _ _ h => h) (by decide) (by kernel_rfl) (by kernel_rfl) ⟨by rfl, ?_⟩ (by assumption) ?_
    rotate_left
    ·intro w hS; have fa := KS15.at hS; have f1 := fa 2; clear fa; have f3 := (hS.cell (p := ⟨gU, t, none⟩) lg'').trans qt'; have f4 := (hS.cell (p := ⟨gU, a, none⟩) lg'').trans qb'; go_simp <;> with_reducible rfl
    simp only [Act.put, zq1, zq2, zq3]
    refine takeDA 9 (v := ?_) rfl (by kernel_rfl) (by kernel_rfl) (by kernel_rfl) (fun _ _ _ h => h) (by decide) ⟨by rfl, ?_⟩ (by assumption) ?_
    rotate_left
    ·intro w; go_simp <;> with_reducible rfl
    simp only [Act.put, zq1, zq2, zq3]
    refine takeDA 10 (v := ?_) rfl (by kernel_rfl) (by kernel_rfl) (by kernel_rfl) (fun _ _ _ h => h) (by decide) ⟨by rfl, ?_⟩ (by assumption) ?_
    rotate_left
    ·intro w; go_simp <;> with_reducible rfl
    simp only [Act.put, zq1, zq2, zq3]
    refine takeDA 11 (v := ?_) rfl (by kernel_rfl) (by kernel_rfl) (by kernel_rfl) (fun _ _ _ h => h) (by decide) ⟨by rfl, ?_⟩ (by assumption) ?_
    rotate_left
    ·intro w; go_simp <;> with_reducible rfl
    simp only [Act.put, zq1, zq2, zq3]
    refine takeDA 12 (v := ?_) rfl (by kernel_rfl) (by kernel_rfl) (by kernel_rfl) (fun _ _ _ h => h) (by decide) ⟨by rfl, ?_⟩ (by assumption) ?_
    rotate_left
    ·intro w; go_simp <;> with_reducible rfl
    simp only [Act.put, zq1, zq2, zq3]
    refine takeD0 13 (v := ?_) rfl (by kernel_rfl) (by kernel_rfl) (by kernel_rfl) (fun _ _ _ h => h) (by decide) (by kernel_rfl) (by kernel_rfl) ⟨by rfl, ?_⟩ (by assumption) ?_
    rotate_left
    ·intro w hS; have fa := KS15.at hS; have f1 := fa 2; clear fa; have f3 := (hS.cell (p := ⟨gU, t, none⟩) lg'').trans qt'; have f4 := (hS.cell (p := ⟨gU, a, none⟩) lg'').trans qb'; go_simp <;> with_reducible rfl
    simp only [Act.put, zq1, zq2, zq3]
    refine takeDA 14 (v := ?_) rfl (by kernel_rfl) (by kernel_rfl) (by kernel_rfl) (fun _ _ _ h => h) (by decide) ⟨by rfl, ?_⟩ (by assumption) ?_
    rotate_left
    ·intro w; go_simp <;> with_reducible rfl
    simp only [Act.put, zq1, zq2, zq3]
    refine takeDA 15 (v := ?_) rfl (by kernel_rfl) (by kernel_rfl) (by kernel_rfl) (fun _ _ _ h => h) (by decide) ⟨by rfl, ?_⟩ (by assumption) ?_
    rotate_left
    ·intro w; go_simp <;> with_reducible rfl
    simp only [Act.put, zq1, zq2, zq3]
    refine takeD0 16 (v := ?_) rfl (by kernel_rfl) (by kernel_rfl) (by kernel_rfl) (fun _ _ _ h => h) (by decide) (by kernel_rfl) (by kernel_rfl) ⟨by rfl, ?_⟩ (by assumption) ?_
    rotate_left
    ·intro w hS; have fa := KS15.at hS; have f1 := fa 2; clear fa; have f3 := (hS.cell (p := ⟨gU, t, none⟩) lg'').trans qt'; have f4 := (hS.cell (p := ⟨gU, a, none⟩) lg'').trans qb'; go_simp <;> with_reducible rfl
    simp only [Act.put, zq1, zq2, zq3]
    refine takeDA 17 (v := ?_) rfl (by kernel_rfl) (by kernel_rfl) (by kernel_rfl) (fun _ _ _ h => h) (by decide) ⟨by rfl, ?_⟩ (by assumption) ?_
    rotate_left
    ·intro w; go_simp <;> with_reducible rfl
    simp only [Act.put, zq1, zq2, zq3]
    refine takeDA 18 (v := ?_) rfl (by kernel_rfl) (by kernel_rfl) (by kernel_rfl) (fun _ _ _ h => h) (by decide) ⟨by rfl, ?_⟩ (by assumption) ?_
    rotate_left
    ·intro w; go_simp <;> with_reducible rfl
    simp only [Act.put, zq1, zq2, zq3]
    refine takeDA 19 (v := ?_) rfl (by kernel_rfl) (by kernel_rfl) (by kernel_rfl) (fun _ _ _ h => h) (by decide) ⟨by rfl, ?_⟩ (by assumption) ?_
    rotate_left
    ·intro w; go_simp <;> with_reducible rfl
    simp only [Act.put, zq1, zq2, zq3]
    refine takeD0 20 (v := ?_) rfl (by kernel_rfl) (by kernel_rfl) (by kernel_rfl) (fun _ _ _ h => h) (by decide) (by kernel_rfl) (by kernel_rfl) ⟨by rfl, ?_⟩ (by assumption) ?_
    rotate_left
    ·intro w hS; have fa := KS15.at hS; have f1 := fa 2; clear fa; have f3 := (hS.cell (p := ⟨gU, t, none⟩) lg'').trans qt'; have f4 := (hS.cell (p := ⟨gU, a, none⟩) lg'').trans qb'; go_simp <;> with_reducible rfl
    simp only [Act.put, zq1, zq2, zq3]
    refine takeDA 21 (v := ?_) rfl (by kernel_rfl) (by kernel_rfl) (by kernel_rfl) (fun _ _ _ h => h) (by decide) ⟨by rfl, ?_⟩ (by assumption) ?_
    rotate_left
    ·intro w; go_simp <;> with_reducible rfl
    simp only [Act.put, zq1, zq2, zq3]
    refine takeDA 22 (v := ?_) rfl (by kernel_rfl) (by kernel_rfl) (by kernel_rfl) (fun _ _ _ h => h) (by decide) ⟨by rfl, ?_⟩ (by assumption) ?_
    rotate_left
    ·intro w; go_simp <;> with_reducible rfl
    simp only [Act.put, zq1, zq2, zq3]
    refine takeD0 23 (v := ?_) rfl (by kernel_rfl) (by kernel_rfl) (by kernel_rfl) (fun _ _ _ h => h) (by decide) (by kernel_rfl) (by kernel_rfl) ⟨by rfl, ?_⟩ (by assumption) ?_
    rotate_left
    ·intro w hS; have fa := KS15.at hS; have f1 := fa 2; clear fa; have f3 := (hS.cell (p := ⟨gU, t, none⟩) lg'').trans qt'; have f4 := (hS.cell (p := ⟨gU, a, none⟩) lg'').trans qb'; go_simp <;> with_reducible rfl
    simp only [Act.put, zq1, zq2, zq3]
    refine takeDA 24 (v := ?_) rfl (by kernel_rfl) (by kernel_rfl) (by kernel_rfl) (fun _ _ _ h => h) (by decide) ⟨by rfl, ?_⟩ (by assumption) ?_
    rotate_left
    ·intro w; go_simp <;> with_reducible rfl
    simp only [Act.put, zq1, zq2, zq3]
    obtain ⟨zz, qz⟩ := cell_set_some (p := ⟨gU, t, none⟩) (x := .slice (some ⟨bB', 0, none⟩) i cB') qb'
    refine oneM rfl (by kernel_rfl) (of_decide_eq_true (by kernel_rfl)) (by rfl) (fun K hK => ?_)
    go_simp
    refine hK.out _ _ ?_
    clear hK K
    try simp only [Act.put, zq1, zq2, zq3]
    clear hHeld
    refine takeL 26 (v := ?_) rfl (by kernel_rfl) (by kernel_rfl) (by kernel_rfl) (fun _ _ _ h => h) ⟨by rfl, ?_⟩ trivial ?_
    rotate_left
    ·intro w _; go_simp <;> with_reducible rfl
    simp only [Act.put, zq1, zq2, zq3]
    refine on 27 fun K hK => ?_
    go_simp
    refine hK.out _ _ trivial (fun _ => ?_)
    clear hK K
    try simp only [Act.put, zq1, zq2, zq3]
    refine doneL (by kernel_rfl) ?_ _
    obtain ⟨U16, R16, C17⟩ := R15.swpV rfl htn han eT' eB'
    have H17 := H15.setU R16 C17
    have C18 := C16.trans (H15.wU C17)
    clear H15 R15 R16 C17 C16 KS15 qt' qb' fzt' fzb'
    go_upto_region 15 with (fail)
    generalize (wd.setCell ⟨gU, t, none⟩ (.slice (some ⟨bB', 0, none⟩) i cB')).setCell ⟨gU, a, none⟩ (.slice (some ⟨bT', 0, none⟩) i cT') = w17 at *
    have k1 := H17.blk.cell 1
    obtain ⟨U18, R18⟩ := H17.a
    go_wp2_with fail
    refine (xf_swapCols p w17 l0 l1 _ i m U18 _ t b R18 htm h5 hn hm).mono ?_; rintro e w18 ⟨rfl, R19, C19⟩
    have H19 := H17.setA (R19.congr (V := swC (swR WA t a) t b) fun a j _ _ => (swC_alt _ t b a j).symm) C19
    have C20 := C18.trans (H17.wA C19)
    clear k1 R18 R19 C19 H17 C18
    have k3 := H19.blk.cell 3
    obtain ⟨U20, R20⟩ := H19.v
    go_wp2_with fail
    refine (xf_swapCols p w18 l2 l3 _ m m U20 _ t b R20 htm h5 hm hm).mono ?_; rintro e w19 ⟨rfl, R21, C21⟩
    have H21 := H19.setV (R21.congr (V := swC WV t b) fun a j _ _ => (swC_alt _ t b a j).symm) C21
    have FIN := Lib.hid (show PQ (.returned (.bool true)) w19 by
     rw [EPQ.out]
     exact .inr ⟨rfl, a, b, h3, han, h4, h5, HL.out.1, HL.out.2, H21, C20.trans (H19.wV C21)⟩)
    clear k3 R20 R21 C21 H19 H21 C20
    go_wp2
    exact FIN.out
end Go.Proofs.Ytkmfhabgempjiaa
/- xform: a row with what is not divided. -/
namespace Go.Proofs.Ytkmfhabgempjiaa
set_option maxHeartbeats 4000000
open Go.RowKit
theorem xs_minus (p gW : Nat) (vs : List Value) (v : Value) (xs : List Nat) (w : World) (hp : FP p) (KW : Blk 101 w gW (.int .u64 p :: vs)) (hv : Sl .u64 w v xs) (hm : xs.length ≤ 1000000) :
  Calls Try.prog 158 #[.pointer (some ⟨gW, 0, none⟩), v] w (RetP p w xs.length (-pl p xs)) := by
 have HP := Lib.hid hp; clear hp
 have c0 : w.cell? ⟨gW, 0, none⟩ = some (.int .u64 p) := KW.cell 0
 go_enter Try.func158, Try.ntmps158
 go_wp2_with fail
 refine (fp_Sub p _ v [] xs w HP.out (Sl.nil _ _) hv (by simp) hm).mono ?_; rintro e w2 ⟨r2, z2, rfl, o2, n2, v2, l2, b2⟩
 have FIN := Lib.hid (show RetP p w xs.length (-pl p xs) (.returned r2) w2 from ⟨r2, z2, rfl, o2, n2, by rw [v2, pl_nil, CR.zero_sub], by simpa using l2, b2⟩)
 clear o2 n2 v2 l2 b2 c0
 go_wp2
 go_ret
 exact FIN.out
theorem dv_r {p : Nat} (hp : 0 < p) (tr : Trial p) {a g q : Pol (Zp p)} {zg zr : List Nat} (eg : pl p zg = g) (h : a = q * g + pl p zr) (nr : Nrm p zr) (hl : zr.length < (nl p zg).length) : Dv g a ↔ zr.length = 0 := by
 obtain ⟨n, hn⟩ : ∃ n, (nl p zg).length = n + 1 := ⟨(nl p zg).length - 1, by omega⟩
 have hy : Ln g (n + 1) := by rw [← hn, ← eg, ← nl_pl p zg]; exact nrm_ln hp (nl_nrm hp zg)
 rw [dv_rem tr hy (r := pl p zr) (fun i hi => pl_dlt p zr i (by omega)) h]
 constructor
 ·intro e
  rw [pl_inj hp nr (nrm_nil p) (by rw [e, pl_nil])]; rfl
 ·intro e
  rw [List.length_eq_zero_iff.1 e, pl_nil]
def RetOd (p : Nat) (w : World) (n m : Nat) (WA : Nat → Nat → Pol (Zp p)) (t : Nat) (e : Ending) (w' : World) : Prop :=
 Below w.heap.size w w' ∧ ((∃ i k : Nat, e = .returned (.int .i64 i) ∧ t < i ∧ i < n ∧ t < k ∧ k < m ∧ ¬ Dv (WA t t) (WA i k)) ∨
 (e = .returned (.int .i64 (-1)) ∧ ∀ i k, t < i → i < n → t < k → k < m → Dv (WA t t) (WA i k)))
set_option maxRecDepth 20000 in
theorem xf_odd (p : Nat) (w : World) (l0 l1 l2 l3 gS : Nat) (vA vU vV : Value) (n m : Nat) (WA WU WV : Nat → Nat → Pol (Zp p)) (t L : Nat) (hp : FP p) (ht : Trial p) (h : Sst p w l0 l1 l2 l3 gS vA vU vV n m WA WU WV) (htn : t < n) (htm : t < m) (hn : n ≤ 1000) (hm : m ≤ 1000) (hL : L ≤ 400000) (hb : ∀ i k, i < n → k < m → (WA i k).dlt L) (h0 : WA t t ≠ 0) :
  Calls Try.prog 129 #[.pointer (some ⟨gS, 0, none⟩), .int .i64 t] w (RetOd p w n m WA t) := by
 obtain ⟨PQ, ePQ⟩ : ∃ PQ : Ending → World → Prop, PQ = RetOd p w n m WA t := ⟨_, rfl⟩
 rw [← ePQ]
 have EPQ := Lib.hid ePQ; have HP := Lib.hid hp; have HTR := Lib.hid ht; have HB := Lib.hid hb; have H0 := Lib.hid h0
 obtain ⟨UA, RA⟩ := h.a
 obtain ⟨gA, capA, rfl, -⟩ := RA.choose_spec.1.hdr htn
 have H := Lib.hid h
 clear ePQ hp ht hb h0 h RA UA
 go_enter Try.func129, Try.ntmps129
 go_wp2
 go_loopw [5] (fun iv wr => ∃ i : Nat, t < i ∧ i ≤ n ∧ iv = .int .i64 i ∧ (∀ r c, t < r → r < i → t < c → c < m → Dv (WA t t) (WA r c)) ∧ Below w.heap.size w wr) (fun iv _ => n - (intOf iv).toNat)
 case atStart => exact ⟨t + 1, by omega, by omega, by go_num, fun r c h1 h2 => by omega, Below.refl _ _⟩
 case round =>
  obtain ⟨i, hti, hi, rfl, hd, B1⟩ := hrel
  have h1 := H.out.next B1
  have c1 := h1.blk.cell 1
  by_cases hin : i < n
  ·have HD := Lib.hid hd
   clear hd
   go_wp2
   clear c1
   go_loopw [6] (fun kv wr => ∃ k : Nat, t < k ∧ k ≤ m ∧ kv = .int .i64 k ∧ (∀ c, t < c → c < k → Dv (WA t t) (WA i c)) ∧ Below w.heap.size w wr) (fun kv _ => m - (intOf kv).toNat)
   case atStart => exact ⟨t + 1, by omega, by omega, by go_num, fun c h1 h2 => by omega, B1⟩
   case round =>
    clear B1 h1
    obtain ⟨k, htk, hk, rfl, hd, B2⟩ := hrel
    have h2 := H.out.next B2
    have c4 := h2.blk.cell 4
    by_cases hkm : k < m
    ·obtain ⟨UA, EA, X, -, -⟩ := h2.a
     obtain ⟨bI, cI, eI, -, hI2, -, -, hIc, -⟩ := X.at hin (by omega)
     obtain ⟨bT, cT, eT, -, hT2, -, -, hTc, -⟩ := X.at htn (by omega)
     obtain ⟨q1, lg, -⟩ := X.cellU hin
     have q2 := (X.cellU htn).1
     rw [eI] at q1; rw [eT] at q2
     obtain ⟨aX, nX, cX, zX, eX, lX, oX, mX, vX⟩ := Vn.open (X.el i k hin hkm)
     obtain ⟨aY, nY, cY, zY, eY, lY, oY, mY, vY⟩ := Vn.open (X.el t t htn htm)
     have q3 := hIc k hkm; have q4 := hTc t htm
     rw [eX] at q3; rw [eY] at q4
     have hzX : zX.length ≤ L := nrm_len HP.out.pos mX (by rw [vX]; exact HB.out i k hin hkm)
     have hzY : zY.length ≤ L := nrm_len HP.out.pos mY (by rw [vY]; exact HB.out t t htn htm)
     have HY0 := Lib.hid (show nl p zY ≠ [] from fun e => H0.out (by rw [← vY]; exact (nl_nil HP.out.pos).1 e))
     have VX := Lib.hid vX; have VY := Lib.hid vY
     have tX := oX.sl; have tY := oY.sl
     obtain rfl : nX = zX.length := lX.symm
     obtain rfl : nY = zY.length := lY.symm
     clear X EA UA hIc hTc eI eT eX eY oX oY mX mY vX vY lX lY
     go_upto_region 7 with (fail)
     have bd := dw wr
     have KS := (h2.next bd).blk
     replace tX := tX.next bd; replace tY := tY.next bd
     have B3 := B2.trans (bd.mono B2.size)
     have q1' : wr.drew.cell? ⟨gA, i, none⟩ = some (.slice (some ⟨bI, 0, none⟩) m cI) := q1
     have q2' : wr.drew.cell? ⟨gA, t, none⟩ = some (.slice (some ⟨bT, 0, none⟩) m cT) := q2
     have q3' : wr.drew.cell? ⟨bI, k, none⟩ = some (.slice aX zX.length cX) := q3
     have q4' : wr.drew.cell? ⟨bT, t, none⟩ = some (.slice aY zY.length cY) := q4
     have l1' : gA < wr.drew.heap.size := lg
     have l2' : bI < wr.drew.heap.size := hI2
     have l3' : bT < wr.drew.heap.size := hT2
     clear bd q1 q2 q3 q4 lg hI2 hT2 B2 h2 c4
     have z0 := Lib.hid fun (w : World) (hS : Below (wr.drew).heap.size (wr.drew) w) => And.intro ((KS.at hS) 0) (And.intro ((KS.at hS) 1) (And.intro ((hS.cell (p := ⟨gA, i, none⟩) l1').trans q1') (And.intro ((hS.cell (p := ⟨gA, t, none⟩) l1').trans q2') (And.intro ((hS.cell (p := ⟨bI, k, none⟩) l2').trans q3') ((hS.cell (p := ⟨bT, t, none⟩) l3').trans q4')))))
     refine startL (S := (fun w' => Below (wr.drew).heap.size (wr.drew) w')) (by kernel_rfl) (Below.refl _ _) (fun hHeld => ?_)
     refine tk 0 ?_
     refine tk 1 ?_
     refine tk 2 ?_
     refine tf 3 z0.out ?_
     refine tk 4 ?_
     refine tk 5 ?_
     refine tk 6 ?_
     refine tf 7 z0.out ?_
     refine tk 8 ?_
     refine tk 9 ?_
     refine tf 10 z0.out ?_
     refine tk 11 ?_
     refine tk 12 ?_
     refine tf 13 z0.out ?_
     refine tk 14 ?_
     refine tk 15 ?_
     refine tk 16 ?_
     refine tf 17 z0.out ?_
     refine tk 18 ?_
     refine tk 19 ?_
     refine tf 20 z0.out ?_
     refine tk 21 ?_
     refine tk 22 ?_
     refine tf 23 z0.out ?_
     refine on 24 fun K hK => ?_
     go_simp
     go_at_call 88
     (with_reducible refine (fp_DivMod p _ _ zX zY _ HP.out HTR.out (tX.next hHeld) (tY.next hHeld) (by omega) (by omega) HY0.out).mono ?_); rintro e w8 ⟨rq, rr, zq, zr, rfl, o8, p8, m8, n8, v8, d8, l8, k8, b8⟩
     have HDV := Lib.hid (show Dv (WA t t) (WA i k) ↔ zr.length = 0 from dv_r HP.out.pos HTR.out VY.out (by rw [← VX.out, ← VY.out]; exact v8) n8 d8)
     obtain ⟨ar, cr, er⟩ := p8.sliced
     subst er
     clear o8 p8 m8 n8 v8 d8 l8 k8
     refine hK.out _ _ (hHeld.trans (b8.mono hHeld.size)) (fun hHeld => ?_)
     clear hK K
     try simp only [Act.put, zq1, zq2, zq3]
     refine tk 25 ?_
     refine tk 26 ?_
     refine tk 27 ?_
     refine tk 28 ?_
     refine tk 29 ?_
     refine tk 30 ?_
     refine tk 31 ?_
     clear z0; refine doneL (by kernel_rfl) ?_ _
     have B4 := B3.trans (hHeld.mono B3.size)
     have HD2 := Lib.hid hd
     clear KS q1' q2' q3' q4' l1' l2' l3' tX tY b8 B3 hHeld hd
     by_cases hr0 : zr.length = 0
     ·have hr1 : decide ((0 : Int) < (zr.length : Int)) = false := decide_eq_false (by omega)
      have F1 := Lib.hid (show ∀ c, t < c → c < k + 1 → Dv (WA t t) (WA i c) from fun c h1 h2 => by
       by_cases e : c = k
       ·rw [e]; exact HDV.out.2 hr0
       ·exact HD2.out c h1 (by omega))
      have F2 := Lib.hid B4
      clear B4
      go_wp2
      go_roundw
      case rel => exact ⟨k + 1, by omega, by omega, by go_num, F1.out, F2.out⟩
      case measure => simp [intOf] <;> omega
     ·have hr1 : decide ((0 : Int) < (zr.length : Int)) = true := decide_eq_true (by omega)
      have FIN := Lib.hid (show PQ (.returned (.int .i64 i)) w8 by
       rw [EPQ.out]
       exact ⟨B4, .inl ⟨i, k, rfl, hti, hin, htk, hkm, fun hdv => hr0 (HDV.out.1 hdv)⟩⟩)
      clear B4
      go_wp2
      exact FIN.out
    ·obtain rfl : k = m := by omega
     have F1 := Lib.hid (show ∀ r c, t < r → r < i + 1 → t < c → c < k → Dv (WA t t) (WA r c) from fun r c h1 h2 h3 h4 => by
      by_cases e : r = i
      ·rw [e]; exact hd c h3 h4
      ·exact HD.out r c h1 (by omega) h3 h4)
     have F2 := Lib.hid B2
     clear B2 hd h2
     go_wp2
     go_roundw
     case rel => exact ⟨i + 1, by omega, by omega, by go_num, F1.out, F2.out⟩
     case measure => simp [intOf] <;> omega
  ·obtain rfl : i = n := by omega
   have FIN := Lib.hid (show PQ (.returned (.int .i64 (-1))) wr by
    rw [EPQ.out]
    exact ⟨B1, .inr ⟨rfl, fun r c a1 a2 a3 a4 => hd r c a1 a2 a3 a4⟩⟩)
   clear B1 hd h1
   go_wp2
   exact FIN.out
end Go.Proofs.Ytkmfhabgempjiaa
