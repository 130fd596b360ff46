/- hess.work: a column; the form. -/
import Derived.Test.YthghdjpjbngllaaZeHclear
namespace Go.Proofs.Ythghdjpjbngllaa
open Go.RowKit

/-- The first columns have Hessenberg's form. -/
def HesC {R : Type} [CR R] (n m : Nat) (H : Nat → Nat → R) : Prop := ∀ i c, c + 1 < i → i < n → c + 1 < m → H i c = 0
section
variable {R : Type} [CR R] {n l : Nat} {H : Nat → Nat → R}
open CR
theorem HesC.skip (h : HesC n (l + 1) H) (h0 : ∀ a, l + 1 < a → a < n → H a l = 0) : HesC n (l + 2) H := fun i c h1 h2 h3 => by
  by_cases e : c = l
  · subst e; exact h0 i h1 h2
  · exact h i c h1 h2 (by omega)
theorem HesC.swap (h : HesC n (l + 1) H) {i : Nat} (hi : l + 1 < i) (hn : i < n) : HesC n (l + 1) (hsw H i (l + 1)) := fun a c h1 h2 h3 => by
  show H (tsp i (l + 1) a) (tsp i (l + 1) c) = 0
  have e : tsp i (l + 1) c = c := by unfold tsp; rw [if_neg (by omega), if_neg (by omega)]
  rw [e]
  have : c + 1 < tsp i (l + 1) a ∧ tsp i (l + 1) a < n := by
    unfold tsp; split
    · omega
    · split <;> omega
  exact h _ c this.1 this.2 h3
/-- Where the clearing of a column stands. -/
def HesL (n l i : Nat) (x : R) (H : Nat → Nat → R) : Prop := HesC n (l + 1) H ∧ H (l + 1) l = x ∧ ∀ a, l + 1 < a → a < i → H a l = 0
theorem hcl_low {i k : Nat} {c : R} {a b : Nat} (hb : b ≠ k) : hcl H i k c a b = rcl H i k c a b := by unfold hcl; rw [if_neg hb]
theorem HesL.clear {x y : R} {i : Nat} (h : HesL n l i x H) (hi : l + 1 < i) (hn : i < n) (hxy : x * y = 1) : HesL n l (i + 1) x (hcl H i (l + 1) (H i l * y)) := by
  obtain ⟨h1, h2, h3⟩ := h
  refine ⟨fun a c h4 h5 h6 => ?_, ?_, fun a h4 h5 => ?_⟩
  · rw [hcl_low (by omega)]; unfold rcl
    split
    · rw [h1 a c h4 h5 h6, h1 (l + 1) c (by omega) (by omega) h6, mul_zero, sub_zero]
    · exact h1 a c h4 h5 h6
  · rw [hcl_low (by omega)]; unfold rcl; rw [if_neg (by omega)]; exact h2
  · rw [hcl_low (by omega)]; unfold rcl
    by_cases e : a = i
    · rw [if_pos e, e, h2, mul_assoc, mul_comm y x, hxy, mul_one, sub_self]
    · rw [if_neg e]; exact h3 a h4 (by omega)
theorem HesL.keep {x : R} {i : Nat} (h : HesL n l i x H) (h0 : H i l = 0) : HesL n l (i + 1) x H := ⟨h.1, h.2.1, fun a h4 h5 => by
  by_cases e : a = i
  · rw [e]; exact h0
  · exact h.2.2 a h4 (by omega)⟩
theorem HesL.last {x : R} (h : HesL n l n x H) : HesC n (l + 2) H := h.1.skip h.2.2
end

/-- What a column's step keeps: the matrix's likeness, the form so far. -/
def HkC (p : Nat) (w : World) (base gW n : Nat) (H P : Nat → Nat → Zp p) (m : Nat) (hv pv : Value) (e : Ending) (w' : World) : Prop :=
  e = .returned (.tuple #[]) ∧ ∃ H' P', HkTo p w base gW n H' P' hv pv w' ∧ (∀ A : MT (Zp p) n n, Sim A H P → Sim A H' P') ∧ HesC n (m + 1) H'

/-- Where the clearing of a column stands, with the work. -/
def HcR (p : Nat) (w : World) (base gW n : Nat) (H P : Nat → Nat → Zp p) (l i : Nat) (x : Zp p) (hv pv : Value) (w' : World) : Prop :=
  ∃ H' P', HkTo p w base gW n H' P' hv pv w' ∧ (∀ A : MT (Zp p) n n, Sim A H P → Sim A H' P') ∧ HesL n l i x H'

set_option maxRecDepth 20000 in
set_option maxHeartbeats 4000000 in
theorem hs_column (p : Nat) (w : World) (hp : FP p) (ht : Trial p) (base gW n : Nat) (H P : Nat → Nat → Zp p) (hv pv : Value) (hs ps : List Value) (h : Hk p w base gW n H P hv pv hs ps)
    (m l : Nat) (hm : m = l + 1) (hmn : m < n) (hH : HesC n m H) (hn : n ≤ 1000) (hbase : base ≤ w.heap.size) :
    Calls Try.prog 127 #[.pointer (some ⟨gW, 0, none⟩), .int .i64 m] w (HkC p w base gW n H P m hv pv) := by
  have HP := Lib.hid hp; clear hp
  have HTR := Lib.hid ht; clear ht
  have HH := Lib.hid hH; clear hH
  obtain ⟨gh, ch, rfl, hgh, hghl, hnch⟩ : ∃ g cap, hv = .slice (some ⟨g, 0, none⟩) n cap ∧ base ≤ g ∧ g < w.heap.size ∧ n ≤ cap := by
    rcases h.h.shape with ⟨_, h0⟩ | h0
    · omega
    · exact h0
  obtain ⟨gp, cp, rfl, hgp, hgpl, hncp⟩ : ∃ g cap, pv = .slice (some ⟨g, 0, none⟩) n cap ∧ base ≤ g ∧ g < w.heap.size ∧ n ≤ cap := by
    rcases h.p.shape with ⟨_, h0⟩ | h0
    · omega
    · exact h0
  have s1 : IntKind.i64.wrap ((m : Int) - 1) = (l : Int) := by rw [IntWalk.i64_in _ ⟨by omega, by omega⟩]; omega
  have qh := h.blk.cell 1
  have HK := Lib.hid h; clear h
  have HM := Lib.hid hm
  have hlm : l < m := by omega
  have hml : l + 1 ≤ m := by omega
  clear hm
  go_enter Try.func127, Try.ntmps127
  go_wp2
  go_loop [4] (fun iv => ∃ i : Nat, m ≤ i ∧ i ≤ n ∧ iv = .int .i64 i ∧ ∀ a, m ≤ a → a < i → H a l = 0) (fun iv => n - (intOf iv).toNat)
  case atStart => exact ⟨m, by omega, by omega, rfl, fun a _ _ => by omega⟩
  case round =>
    obtain ⟨i, hmi, hin, rfl, h0⟩ := hrel
    have HZ := Lib.hid h0; clear h0
    by_cases hi : i < n
    · obtain ⟨v, hv⟩ := HK.out.h.hdr hi
      have qi := HK.out.h.head rfl hi; rw [hv] at qi
      obtain ⟨ao, cr, rfl, hcr⟩ := (HK.out.h.row i v hv).slice
      obtain ⟨b, o, rfl⟩ := HK.out.h.ao hv (by omega)
      obtain ⟨⟨u, q1, hu⟩, -, -, -⟩ := HK.out.h.at hv (show l < n by omega)
      by_cases hx : (H i l).val = 0
      · rw [hu, hx] at q1
        have HZ2 := Lib.hid (show ∀ a, m ≤ a → a < i + 1 → H a l = 0 from fun a h1 h2 => by
          by_cases e : a = i
          · rw [e]; exact zp0 hx
          · exact HZ.out a h1 (by omega))
        clear hu hx hv
        go_wp2
        go_round
        case rel => exact ⟨i + 1, by omega, by omega, by go_num, HZ2.out⟩
        case measure => simp [intOf] <;> omega
      · obtain ⟨x, ex⟩ : ∃ x, x = (H i l).val := ⟨_, rfl⟩
        rw [hu, ← ex] at q1
        rw [← ex] at hx
        have hx2 : ((x : Int) == 0) = false := by simpa using hx
        have EX := Lib.hid ex; clear hu ex hv
        obtain ⟨X, eX⟩ : ∃ X, X = H i l := ⟨_, rfl⟩
        have hXv : x = X.val := by rw [EX.out, eX]
        have HX := Lib.hid eX; have HXV := Lib.hid hXv; clear eX hXv
        obtain ⟨j, ej⟩ : ∃ j, j = m + 1 := ⟨_, rfl⟩
        have HJ := Lib.hid ej; clear ej
        go_upto_if 40 with (fail)
        clear q1 qi hx2
        go_cut [] (fun wx => HcR p w base gW n H P l (m + 1) X (.slice (some ⟨gh, 0, none⟩) n ch) (.slice (some ⟨gp, 0, none⟩) n cp) wx)
        case first =>
          by_cases him : i = m
          · have hng : ¬ (i : Int) > (m : Int) := by omega
            have st := Lib.hid (show HcR p w base gW n H P l (m + 1) X (.slice (some ⟨gh, 0, none⟩) n ch) (.slice (some ⟨gp, 0, none⟩) n cp) w from
              ⟨H, P, ⟨_, _, HK.out, Below.refl _ _⟩, fun _ h => h, by have := HH.out; rw [HM.out] at this; exact this, by rw [HX.out, him, HM.out], fun a h1 h2 => by have := HM.out; omega⟩)
            clear him
            go_wp2
            go_meet
            exact st.out
          · have hgt : (i : Int) > (m : Int) := by omega
            have hgt2 : m < i := by omega
            go_wp2_with fail
            refine (hs_swap p w base gW n H P _ _ hs ps HK.out i m hi hmn hn hbase).mono ?_; rintro e w2 ⟨rfl, h2⟩
            have st := Lib.hid (show HcR p w base gW n H P l (m + 1) X (.slice (some ⟨gh, 0, none⟩) n ch) (.slice (some ⟨gp, 0, none⟩) n cp) w2 from
              ⟨_, _, h2, fun _ h => h.swap hi hmn, by have := HH.out; rw [HM.out] at this ⊢; exact this.swap (by have := HM.out; omega) hi, by
                show H (tsp i m (l + 1)) (tsp i m l) = X
                rw [show tsp i m l = l by unfold tsp; rw [if_neg (by omega), if_neg (by omega)], show tsp i m (l + 1) = i by unfold tsp; rw [if_neg (by have := HM.out; omega), if_pos HM.out.symm], HX.out], fun a h1 h2 => by have := HM.out; omega⟩)
            clear h2
            go_wp2
            go_meet
            exact st.out
        case rest =>
          obtain ⟨H1, P1, ⟨hs1, ps1, h, B0⟩, hS1, hL1⟩ := hcut
          clear qh HK HZ
          have HS1 := Lib.hid hS1; have HL1 := Lib.hid hL1; clear hS1 hL1
          have hbw : base ≤ wc.heap.size := Nat.le_trans hbase B0.size
          obtain ⟨v, hv⟩ := h.h.hdr hmn
          obtain ⟨ao', cr', rfl, hcr'⟩ := (h.h.row m v hv).slice
          obtain ⟨b', o', rfl⟩ := h.h.ao hv (by omega)
          go_upto_region 6 with (fail)
          have bd := Drawn.below (w' := wc.drew) ⟨1, rfl⟩ wc.heap.size
          replace h := h.next bd
          replace B0 := B0.trans (bd.mono hbw)
          have hbw : base ≤ wc.drew.heap.size := hbw
          clear bd
          have hlw := h.blk.lt
          have q0 := h.blk.cell 0; have q1 := h.blk.cell 1
          have qm := h.h.head rfl hmn; rw [hv] at qm
          have hlh : gh < wc.drew.heap.size := by
            obtain ⟨cur, hcur⟩ := h.h.cellH rfl
            exact (Array.getElem?_eq_some_iff.1 hcur).1
          obtain ⟨⟨u, qx, hu⟩, -, -, hl2⟩ := h.h.at hv (show l < n by omega)
          have hu : u = .int .u64 (x : Nat) := by rw [hu, HXV.out, ← HL1.out.2.1, HM.out]
          subst hu
          have hln : (l : Int) < (n : Int) := by omega
          obtain ⟨c, ec⟩ : ∃ c, c = (Zp.of p x).iv.val := ⟨_, rfl⟩
          obtain ⟨C, eC⟩ : ∃ C, C = X.iv := ⟨_, rfl⟩
          have hcC : c = C.val := by rw [ec, eC, HXV.out, Zp.of_val]
          have hCi : X * C = 1 := by
            rw [eC, CR.mul_comm]; exact Zp.iv_mul HTR.out (fun e => hx (by rw [HXV.out, e, Zp.zero_val]))
          have EC := Lib.hid ec; have ECC := Lib.hid hcC; have HCI := Lib.hid hCi
          clear ec eC hcC hCi
          refine startL (S := (fun w' => Below (wc.drew).heap.size (wc.drew) w')) (by kernel_rfl) (Below.refl _ _) (fun hHeld => ?_)
          refine takeL 0 (v := ?_) rfl (by kernel_rfl) (by kernel_rfl) (by kernel_rfl) (fun _ _ _ h => h) ⟨by rfl, ?_⟩ (by assumption) ?_
          rotate_left
          · intro w hS; go_simp <;> with_reducible rfl
          simp only [Act.put, List.setIfInBounds_toArray, List.set_cons_zero, List.set_cons_succ]
          refine takeL 1 (v := ?_) rfl (by kernel_rfl) (by kernel_rfl) (by kernel_rfl) (fun _ _ _ h => h) ⟨by rfl, ?_⟩ (by assumption) ?_
          rotate_left
          · intro w hS; go_simp <;> with_reducible rfl
          simp only [Act.put, List.setIfInBounds_toArray, List.set_cons_zero, List.set_cons_succ]
          refine takeL 2 (v := ?_) rfl (by kernel_rfl) (by kernel_rfl) (by kernel_rfl) (fun _ _ _ h => h) ⟨by rfl, ?_⟩ (by assumption) ?_
          rotate_left
          · intro w hS; go_simp <;> with_reducible rfl
          simp only [Act.put, List.setIfInBounds_toArray, List.set_cons_zero, List.set_cons_succ]
          refine takeL 3 (v := ?_) rfl (by kernel_rfl) (by kernel_rfl) (by kernel_rfl) (fun _ _ _ h => h) ⟨by rfl, ?_⟩ (by assumption) ?_
          rotate_left
          · intro w hS; have f1 := (hS.cell (p := ⟨gW, 0, none⟩) hlw).trans q0; have f2 := (hS.cell (p := ⟨gW, 1, none⟩) hlw).trans q1; have f3 := (hS.cell (p := ⟨gh, m, none⟩) hlh).trans qm; have f5 := (hS.cell (p := ⟨b', o' + l, none⟩) hl2).trans qx; go_simp <;> with_reducible rfl
          simp only [Act.put, List.setIfInBounds_toArray, List.set_cons_zero, List.set_cons_succ]
          refine takeL 4 (v := ?_) rfl (by kernel_rfl) (by kernel_rfl) (by kernel_rfl) (fun _ _ _ h => h) ⟨by rfl, ?_⟩ (by assumption) ?_
          rotate_left
          · intro w hS; go_simp <;> with_reducible rfl
          simp only [Act.put, List.setIfInBounds_toArray, List.set_cons_zero, List.set_cons_succ]
          refine takeL 5 (v := ?_) rfl (by kernel_rfl) (by kernel_rfl) (by kernel_rfl) (fun _ _ _ h => h) ⟨by rfl, ?_⟩ (by assumption) ?_
          rotate_left
          · intro w hS; go_simp <;> with_reducible rfl
          simp only [Act.put, List.setIfInBounds_toArray, List.set_cons_zero, List.set_cons_succ]
          refine takeL 6 (v := ?_) rfl (by kernel_rfl) (by kernel_rfl) (by kernel_rfl) (fun _ _ _ h => h) ⟨by rfl, ?_⟩ (by assumption) ?_
          rotate_left
          · intro w hS; go_simp <;> with_reducible rfl
          simp only [Act.put, List.setIfInBounds_toArray, List.set_cons_zero, List.set_cons_succ]
          refine takeL 7 (v := ?_) rfl (by kernel_rfl) (by kernel_rfl) (by kernel_rfl) (fun _ _ _ h => h) ⟨by rfl, ?_⟩ (by assumption) ?_
          rotate_left
          · intro w hS; have f1 := (hS.cell (p := ⟨gW, 0, none⟩) hlw).trans q0; have f2 := (hS.cell (p := ⟨gW, 1, none⟩) hlw).trans q1; have f3 := (hS.cell (p := ⟨gh, m, none⟩) hlh).trans qm; have f5 := (hS.cell (p := ⟨b', o' + l, none⟩) hl2).trans qx; go_simp <;> with_reducible rfl
          simp only [Act.put, List.setIfInBounds_toArray, List.set_cons_zero, List.set_cons_succ]
          refine takeL 8 (v := ?_) rfl (by kernel_rfl) (by kernel_rfl) (by kernel_rfl) (fun _ _ _ h => h) ⟨by rfl, ?_⟩ (by assumption) ?_
          rotate_left
          · intro w hS; go_simp <;> with_reducible rfl
          simp only [Act.put, List.setIfInBounds_toArray, List.set_cons_zero, List.set_cons_succ]
          refine takeL 9 (v := ?_) rfl (by kernel_rfl) (by kernel_rfl) (by kernel_rfl) (fun _ _ _ h => h) ⟨by rfl, ?_⟩ (by assumption) ?_
          rotate_left
          · intro w hS; go_simp <;> with_reducible rfl
          simp only [Act.put, List.setIfInBounds_toArray, List.set_cons_zero, List.set_cons_succ]
          refine takeL 10 (v := ?_) rfl (by kernel_rfl) (by kernel_rfl) (by kernel_rfl) (fun _ _ _ h => h) ⟨by rfl, ?_⟩ (by assumption) ?_
          rotate_left
          · intro w hS; have f1 := (hS.cell (p := ⟨gW, 0, none⟩) hlw).trans q0; have f2 := (hS.cell (p := ⟨gW, 1, none⟩) hlw).trans q1; have f3 := (hS.cell (p := ⟨gh, m, none⟩) hlh).trans qm; have f5 := (hS.cell (p := ⟨b', o' + l, none⟩) hl2).trans qx; go_simp <;> with_reducible rfl
          simp only [Act.put, List.setIfInBounds_toArray, List.set_cons_zero, List.set_cons_succ]
          refine takeL 11 (v := ?_) rfl (by kernel_rfl) (by kernel_rfl) (by kernel_rfl) (fun _ _ _ h => h) ⟨by rfl, ?_⟩ (by assumption) ?_
          rotate_left
          · intro w hS; go_simp <;> with_reducible rfl
          simp only [Act.put, List.setIfInBounds_toArray, List.set_cons_zero, List.set_cons_succ]
          refine takeL 12 (v := ?_) rfl (by kernel_rfl) (by kernel_rfl) (by kernel_rfl) (fun _ _ _ h => h) ⟨by rfl, ?_⟩ (by assumption) ?_
          rotate_left
          · intro w hS; go_simp <;> with_reducible rfl
          simp only [Act.put, List.setIfInBounds_toArray, List.set_cons_zero, List.set_cons_succ]
          refine takeL 13 (v := ?_) rfl (by kernel_rfl) (by kernel_rfl) (by kernel_rfl) (fun _ _ _ h => h) ⟨by rfl, ?_⟩ (by assumption) ?_
          rotate_left
          · intro w hS; go_simp <;> with_reducible rfl
          simp only [Act.put, List.setIfInBounds_toArray, List.set_cons_zero, List.set_cons_succ]
          refine takeL 14 (v := ?_) rfl (by kernel_rfl) (by kernel_rfl) (by kernel_rfl) (fun _ _ _ h => h) ⟨by rfl, ?_⟩ (by assumption) ?_
          rotate_left
          · intro w hS; have f1 := (hS.cell (p := ⟨gW, 0, none⟩) hlw).trans q0; have f2 := (hS.cell (p := ⟨gW, 1, none⟩) hlw).trans q1; have f3 := (hS.cell (p := ⟨gh, m, none⟩) hlh).trans qm; have f5 := (hS.cell (p := ⟨b', o' + l, none⟩) hl2).trans qx; go_simp <;> with_reducible rfl
          simp only [Act.put, List.setIfInBounds_toArray, List.set_cons_zero, List.set_cons_succ]
          refine oneL 15 rfl (by kernel_rfl) (by rfl) (fun K hK => ?_)
          go_simp
          go_at_call 118
          (with_reducible refine (gfp_Inv p x c _ HP.out EC.out).mono ?_); rintro e w6 ⟨rfl, b6⟩
          refine hK.out _ _ (hHeld.trans (b6.mono hHeld.size)) (fun hHeld => ?_)
          clear hK K
          try simp only [Act.put, List.setIfInBounds_toArray, List.set_cons_zero, List.set_cons_succ]
          refine takeL 16 (v := ?_) rfl (by kernel_rfl) (by kernel_rfl) (by kernel_rfl) (fun _ _ _ h => h) ⟨by rfl, ?_⟩ (by assumption) ?_
          rotate_left
          · intro w hS; go_simp <;> with_reducible rfl
          simp only [Act.put, List.setIfInBounds_toArray, List.set_cons_zero, List.set_cons_succ]
          refine doneL (by kernel_rfl) ?_ _
          replace h := h.next hHeld
          replace B0 := B0.trans (hHeld.mono hbw)
          have st : HcR p w base gW n H P l (m + 1) X (.slice (some ⟨gh, 0, none⟩) n ch) (.slice (some ⟨gp, 0, none⟩) n cp) w6 := ⟨_, _, ⟨_, _, h, B0⟩, HS1.out, HL1.out⟩
          clear h B0 hHeld b6 q0 q1 qm qx hlw hlh hl2 hv hbw HS1 HL1
          go_wp2
          go_loopw [6] (fun iv wr => ∃ i : Nat, m + 1 ≤ i ∧ i ≤ n ∧ iv = .int .i64 i ∧ HcR p w base gW n H P l i X (.slice (some ⟨gh, 0, none⟩) n ch) (.slice (some ⟨gp, 0, none⟩) n cp) wr) (fun iv _ => n - (intOf iv).toNat)
          case atStart => exact ⟨m + 1, by omega, by omega, by go_num, st⟩
          case round =>
            clear st
            obtain ⟨r, hmr, hrn, rfl, H2, P2, ⟨hs2, ps2, h, B0⟩, hS2, hL2⟩ := hrel
            have hbw : base ≤ wr.heap.size := Nat.le_trans hbase B0.size
            have HS2 := Lib.hid hS2; have HL2 := Lib.hid hL2; clear hS2 hL2
            have qh := h.blk.cell 1
            by_cases hrl : r < n
            · obtain ⟨v, hv⟩ := h.h.hdr hrl
              have qi := h.h.head rfl hrl; rw [hv] at qi
              obtain ⟨aq, cq, rfl, hcq⟩ := (h.h.row r v hv).slice
              obtain ⟨bq, oq, rfl⟩ := h.h.ao hv (by omega)
              obtain ⟨⟨u, q1, hu⟩, -, -, hl2⟩ := h.h.at hv (show l < n by omega)
              obtain ⟨y, ey⟩ : ∃ y, y = (H2 r l).val := ⟨_, rfl⟩
              rw [hu, ← ey] at q1
              clear hu
              by_cases hy : y = 0
              · have st := Lib.hid (show HcR p w base gW n H P l (r + 1) X (.slice (some ⟨gh, 0, none⟩) n ch) (.slice (some ⟨gp, 0, none⟩) n cp) wr from ⟨H2, P2, ⟨_, _, h, B0⟩, HS2.out, HL2.out.keep (zp0 (by rw [← ey, hy]))⟩)
                subst hy
                clear h B0 ey hv hl2
                go_wp2
                go_roundw
                case rel => exact ⟨r + 1, by omega, by omega, by go_num, st.out⟩
                case measure => simp [intOf] <;> omega
              · have hy2 : ((y : Int) != 0) = true := by simpa using hy
                go_upto_region 11 with (fail)
                clear qh qi q1 hy2
                have bd := Drawn.below (w' := wr.drew) ⟨1, rfl⟩ wr.heap.size
                replace h := h.next bd
                replace B0 := B0.trans (bd.mono hbw)
                have hbw : base ≤ wr.drew.heap.size := hbw
                clear bd hl2
                have hlw := h.blk.lt
                have q0 := h.blk.cell 0; have q1 := h.blk.cell 1
                have qi := h.h.head rfl hrl; rw [hv] at qi
                have hlh : gh < wr.drew.heap.size := by
                  obtain ⟨cur, hcur⟩ := h.h.cellH rfl
                  exact (Array.getElem?_eq_some_iff.1 hcur).1
                obtain ⟨⟨u, qx, hu⟩, -, -, hl2⟩ := h.h.at hv (show l < n by omega)
                have hu : u = .int .u64 (y : Nat) := by rw [ey]; exact hu
                subst hu
                obtain ⟨z, ez⟩ : ∃ z, z = (Zp.of p y * Zp.of p c).val := ⟨_, rfl⟩
                have hz2 : z = (H2 r l * C).val := by rw [ez, ey, ECC.out, Zp.of_val, Zp.of_val]
                have EZ := Lib.hid ez; have EZ2 := Lib.hid hz2
                clear ez hz2 ey
                refine startP (S := (fun w' => Below (wr.drew).heap.size (wr.drew) w')) (by kernel_rfl) _ rfl rfl rfl (by kernel_rfl) (Below.refl _ _) (fun hHeld => ?_)
                refine takeL 0 (v := ?_) rfl (by kernel_rfl) (by kernel_rfl) (by kernel_rfl) (fun _ _ _ h => h) ⟨by rfl, ?_⟩ (by assumption) ?_
                rotate_left
                · intro w hS; go_simp <;> with_reducible rfl
                simp only [Act.put, List.setIfInBounds_toArray, List.set_cons_zero, List.set_cons_succ]
                refine takeL 1 (v := ?_) rfl (by kernel_rfl) (by kernel_rfl) (by kernel_rfl) (fun _ _ _ h => h) ⟨by rfl, ?_⟩ (by assumption) ?_
                rotate_left
                · intro w hS; go_simp <;> with_reducible rfl
                simp only [Act.put, List.setIfInBounds_toArray, List.set_cons_zero, List.set_cons_succ]
                refine takeL 2 (v := ?_) rfl (by kernel_rfl) (by kernel_rfl) (by kernel_rfl) (fun _ _ _ h => h) ⟨by rfl, ?_⟩ (by assumption) ?_
                rotate_left
                · intro w hS; go_simp <;> with_reducible rfl
                simp only [Act.put, List.setIfInBounds_toArray, List.set_cons_zero, List.set_cons_succ]
                refine takeL 3 (v := ?_) rfl (by kernel_rfl) (by kernel_rfl) (by kernel_rfl) (fun _ _ _ h => h) ⟨by rfl, ?_⟩ (by assumption) ?_
                rotate_left
                · intro w hS; go_simp <;> with_reducible rfl
                simp only [Act.put, List.setIfInBounds_toArray, List.set_cons_zero, List.set_cons_succ]
                refine takeL 4 (v := ?_) rfl (by kernel_rfl) (by kernel_rfl) (by kernel_rfl) (fun _ _ _ h => h) ⟨by rfl, ?_⟩ (by assumption) ?_
                rotate_left
                · intro w hS; go_simp <;> with_reducible rfl
                simp only [Act.put, List.setIfInBounds_toArray, List.set_cons_zero, List.set_cons_succ]
                refine takeL 5 (v := ?_) rfl (by kernel_rfl) (by kernel_rfl) (by kernel_rfl) (fun _ _ _ h => h) ⟨by rfl, ?_⟩ (by assumption) ?_
                rotate_left
                · intro w hS; go_simp <;> with_reducible rfl
                simp only [Act.put, List.setIfInBounds_toArray, List.set_cons_zero, List.set_cons_succ]
                refine takeL 6 (v := ?_) rfl (by kernel_rfl) (by kernel_rfl) (by kernel_rfl) (fun _ _ _ h => h) ⟨by rfl, ?_⟩ (by assumption) ?_
                rotate_left
                · intro w hS; have f1 := (hS.cell (p := ⟨gW, 0, none⟩) hlw).trans q0; have f2 := (hS.cell (p := ⟨gW, 1, none⟩) hlw).trans q1; have f3 := (hS.cell (p := ⟨gh, r, none⟩) hlh).trans qi; have f5 := (hS.cell (p := ⟨bq, oq + l, none⟩) hl2).trans qx; go_simp <;> with_reducible rfl
                simp only [Act.put, List.setIfInBounds_toArray, List.set_cons_zero, List.set_cons_succ]
                refine takeL 7 (v := ?_) rfl (by kernel_rfl) (by kernel_rfl) (by kernel_rfl) (fun _ _ _ h => h) ⟨by rfl, ?_⟩ (by assumption) ?_
                rotate_left
                · intro w hS; go_simp <;> with_reducible rfl
                simp only [Act.put, List.setIfInBounds_toArray, List.set_cons_zero, List.set_cons_succ]
                refine takeL 8 (v := ?_) rfl (by kernel_rfl) (by kernel_rfl) (by kernel_rfl) (fun _ _ _ h => h) ⟨by rfl, ?_⟩ (by assumption) ?_
                rotate_left
                · intro w hS; go_simp <;> with_reducible rfl
                simp only [Act.put, List.setIfInBounds_toArray, List.set_cons_zero, List.set_cons_succ]
                refine takeL 9 (v := ?_) rfl (by kernel_rfl) (by kernel_rfl) (by kernel_rfl) (fun _ _ _ h => h) ⟨by rfl, ?_⟩ (by assumption) ?_
                rotate_left
                · intro w hS; go_simp <;> with_reducible rfl
                simp only [Act.put, List.setIfInBounds_toArray, List.set_cons_zero, List.set_cons_succ]
                refine takeL 10 (v := ?_) rfl (by kernel_rfl) (by kernel_rfl) (by kernel_rfl) (fun _ _ _ h => h) ⟨by rfl, ?_⟩ (by assumption) ?_
                rotate_left
                · intro w hS; have f1 := (hS.cell (p := ⟨gW, 0, none⟩) hlw).trans q0; have f2 := (hS.cell (p := ⟨gW, 1, none⟩) hlw).trans q1; have f3 := (hS.cell (p := ⟨gh, r, none⟩) hlh).trans qi; have f5 := (hS.cell (p := ⟨bq, oq + l, none⟩) hl2).trans qx; go_simp <;> with_reducible rfl
                simp only [Act.put, List.setIfInBounds_toArray, List.set_cons_zero, List.set_cons_succ]
                refine takeL 11 (v := ?_) rfl (by kernel_rfl) (by kernel_rfl) (by kernel_rfl) (fun _ _ _ h => h) ⟨by rfl, ?_⟩ (by assumption) ?_
                rotate_left
                · intro w hS; go_simp <;> with_reducible rfl
                simp only [Act.put, List.setIfInBounds_toArray, List.set_cons_zero, List.set_cons_succ]
                refine takeL 12 (v := ?_) rfl (by kernel_rfl) (by kernel_rfl) (by kernel_rfl) (fun _ _ _ h => h) ⟨by rfl, ?_⟩ (by assumption) ?_
                rotate_left
                · intro w hS; go_simp <;> with_reducible rfl
                simp only [Act.put, List.setIfInBounds_toArray, List.set_cons_zero, List.set_cons_succ]
                refine takeL 13 (v := ?_) rfl (by kernel_rfl) (by kernel_rfl) (by kernel_rfl) (fun _ _ _ h => h) ⟨by rfl, ?_⟩ (by assumption) ?_
                rotate_left
                · intro w hS; have f1 := (hS.cell (p := ⟨gW, 0, none⟩) hlw).trans q0; have f2 := (hS.cell (p := ⟨gW, 1, none⟩) hlw).trans q1; have f3 := (hS.cell (p := ⟨gh, r, none⟩) hlh).trans qi; have f5 := (hS.cell (p := ⟨bq, oq + l, none⟩) hl2).trans qx; go_simp <;> with_reducible rfl
                simp only [Act.put, List.setIfInBounds_toArray, List.set_cons_zero, List.set_cons_succ]
                refine takeL 14 (v := ?_) rfl (by kernel_rfl) (by kernel_rfl) (by kernel_rfl) (fun _ _ _ h => h) ⟨by rfl, ?_⟩ (by assumption) ?_
                rotate_left
                · intro w hS; go_simp <;> with_reducible rfl
                simp only [Act.put, List.setIfInBounds_toArray, List.set_cons_zero, List.set_cons_succ]
                refine takeL 15 (v := ?_) rfl (by kernel_rfl) (by kernel_rfl) (by kernel_rfl) (fun _ _ _ h => h) ⟨by rfl, ?_⟩ (by assumption) ?_
                rotate_left
                · intro w hS; go_simp <;> with_reducible rfl
                simp only [Act.put, List.setIfInBounds_toArray, List.set_cons_zero, List.set_cons_succ]
                refine takeL 16 (v := ?_) rfl (by kernel_rfl) (by kernel_rfl) (by kernel_rfl) (fun _ _ _ h => h) ⟨by rfl, ?_⟩ (by assumption) ?_
                rotate_left
                · intro w hS; go_simp <;> with_reducible rfl
                simp only [Act.put, List.setIfInBounds_toArray, List.set_cons_zero, List.set_cons_succ]
                refine takeL 17 (v := ?_) rfl (by kernel_rfl) (by kernel_rfl) (by kernel_rfl) (fun _ _ _ h => h) ⟨by rfl, ?_⟩ (by assumption) ?_
                rotate_left
                · intro w hS; have f1 := (hS.cell (p := ⟨gW, 0, none⟩) hlw).trans q0; have f2 := (hS.cell (p := ⟨gW, 1, none⟩) hlw).trans q1; have f3 := (hS.cell (p := ⟨gh, r, none⟩) hlh).trans qi; have f5 := (hS.cell (p := ⟨bq, oq + l, none⟩) hl2).trans qx; go_simp <;> with_reducible rfl
                simp only [Act.put, List.setIfInBounds_toArray, List.set_cons_zero, List.set_cons_succ]
                refine takeL 18 (v := ?_) rfl (by kernel_rfl) (by kernel_rfl) (by kernel_rfl) (fun _ _ _ h => h) ⟨by rfl, ?_⟩ (by assumption) ?_
                rotate_left
                · intro w hS; go_simp <;> with_reducible rfl
                simp only [Act.put, List.setIfInBounds_toArray, List.set_cons_zero, List.set_cons_succ]
                refine oneL 19 rfl (by kernel_rfl) (by rfl) (fun K hK => ?_)
                go_simp
                go_at_call 96
                (with_reducible refine (gfp_Mul p y c z _ HP.out EZ.out).mono ?_); rintro e w11 ⟨rfl, b11⟩
                refine hK.out _ _ (hHeld.trans (b11.mono hHeld.size)) (fun hHeld => ?_)
                clear hK K
                try simp only [Act.put, List.setIfInBounds_toArray, List.set_cons_zero, List.set_cons_succ]
                refine doneL (by kernel_rfl) ?_ _
                refine lastL rfl (by rfl) ?_
                replace h := h.next hHeld
                replace B0 := B0.trans (hHeld.mono hbw)
                have hbz : base ≤ w11.heap.size := Nat.le_trans hbw hHeld.size
                clear hHeld b11 q0 q1 qi qx hlw hlh hl2
                go_wp2_with fail
                refine (hs_clear p w11 HP.out base gW n H2 P2 _ _ hs2 ps2 h r m hrl hmn (by omega) z (H2 r l * C) EZ2.out hn hbz).mono ?_; rintro e w12 ⟨rfl, hs3, ps3, h3, B3⟩
                have st := Lib.hid (show HcR p w base gW n H P l (r + 1) X (.slice (some ⟨gh, 0, none⟩) n ch) (.slice (some ⟨gp, 0, none⟩) n cp) w12 from
                  ⟨_, _, ⟨_, _, h3, B0.trans B3⟩, fun A hA => (HS2.out A hA).clear hrl hmn (by omega) _, by
                    have := HL2.out.clear (by have := HM.out; omega) hrl HCI.out
                    rw [← HM.out] at this; exact this⟩)
                clear h B0 B3 h3 hv hbw hbz
                go_wp2
                go_roundw
                case rel => exact ⟨r + 1, by omega, by omega, by go_num, st.out⟩
                case measure => simp [intOf] <;> omega
            · obtain rfl : r = n := by omega
              go_wp2
              go_end0
              exact ⟨rfl, H2, P2, ⟨_, _, h, B0⟩, HS2.out, by rw [HM.out]; exact HL2.out.last⟩
    · obtain rfl : i = n := by omega
      go_wp2
      go_end0
      exact ⟨rfl, H, P, ⟨_, _, HK.out, Below.refl _ _⟩, fun _ h => h, by
        have := HH.out; rw [HM.out] at this ⊢
        exact this.skip (fun a h1 h2 => HZ.out a (by have := HM.out; omega) h2)⟩

end Go.Proofs.Ythghdjpjbngllaa
