/- fmat.work: a multiple of one row is taken out of another one. -/
import Derived.Test.YthghdjpjbngllaaZeBegun
namespace Go.Proofs.Ythghdjpjbngllaa
open Go.RowKit

section
variable {α : Type} {V : World → Value → α → Prop} {e er : TypeId} {w : World} {base n N : Nat} {rv : Value} {vs : List Value} {W W' : Nat → Nat → α}
theorem Rws.congr (h : Rws V e er w base rv vs n N W) (hW : ∀ i k, i < n → k < N → W i k = W' i k) : Rws V e er w base rv vs n N W' :=
  ⟨h.len, h.own, fun i v hv => by
    have hi : i < n := by rw [← h.len]; exact (List.getElem?_eq_some_iff.1 hv).1
    obtain ⟨ao, cap, b, o, cur, e1, h1, h2⟩ := h.row i v hv
    refine ⟨ao, cap, b, o, cur, e1, h1, fun hN => ?_⟩
    obtain ⟨h3, h4, h5, h6⟩ := h2 hN
    refine ⟨h3, h4, h5, fun k hk => ?_⟩
    rw [← hW i k hi hk]; exact h6 k hk, h.sep⟩
theorem Rws.ao (h : Rws V e er w base rv vs n N W) {i : Nat} {ao : Option Addr} {cap : Nat} (hv : vs[i]? = some (.slice ao N cap)) (hN : 0 < N) : ∃ b o, ao = some ⟨b, o, none⟩ := by
  obtain ⟨ao', cap', b, o, cur, e1, h1, h2⟩ := h.row i _ hv
  simp only [Value.slice.injEq, true_and] at e1
  exact ⟨b, o, e1.1.trans (h2 hN).1⟩
theorem Rws.at (h : Rws V e er w base rv vs n N W) {i b o cap k : Nat} (hv : vs[i]? = some (.slice (some ⟨b, o, none⟩) N cap)) (hk : k < N) :
    (∃ u, w.cell? ⟨b, o + k, none⟩ = some u ∧ V w u (W i k)) ∧ w.frozen? ⟨b, o + k, none⟩ = false ∧ base ≤ b ∧ b < w.heap.size := by
  obtain ⟨ao', cap', b', o', cur, e1, h1, h2⟩ := h.row i _ hv
  obtain ⟨h3, h4, h5, h6⟩ := h2 (by omega)
  simp only [Value.slice.injEq, true_and] at e1
  rw [h3] at e1
  simp only [Option.some.injEq, Addr.mk.injEq, and_true] at e1
  obtain ⟨⟨rfl, rfl⟩, rfl⟩ := e1
  obtain ⟨u, h7, h8⟩ := h6 k hk
  exact ⟨⟨u, (cell_of_row w b (o + k) cur e (0, 0) h5).trans h7, h8⟩, frozen_of_row w b (o + k) cur e h5, h4, (Array.getElem?_eq_some_iff.1 h5).1⟩
theorem Rws.atc (h : Rws V e er w base rv vs n N W) {i b o cap k : Nat} (hv : vs[i]? = some (.slice (some ⟨b, o, none⟩) N cap)) (hk : k < N) : ∃ cur, w.heap[b]? = some (.cells cur e (0, 0)) := by
  obtain ⟨ao', cap', b', o', cur, e1, h1, h2⟩ := h.row i _ hv
  obtain ⟨h3, h4, h5, h6⟩ := h2 (by omega)
  simp only [Value.slice.injEq, true_and] at e1
  rw [h3] at e1
  simp only [Option.some.injEq, Addr.mk.injEq, and_true] at e1
  obtain ⟨⟨rfl, rfl⟩, rfl⟩ := e1
  exact ⟨cur, h5⟩
end

section
variable {p : Nat} {w : World} {base gW n N : Nat} {W W' : Nat → Nat → Zp p} {P : List Nat} {d : Zp p} {rv pv : Value} {vs : List Value}
theorem Wk.congr (h : Wk p w base gW n N W P d rv pv vs) (hW : ∀ i k, i < n → k < N → W i k = W' i k) : Wk p w base gW n N W' P d rv pv vs := ⟨h.blk, h.gw, h.rows.congr hW, h.piv⟩
theorem Wk.store (h : Wk p w base gW n N W P d rv pv vs) {i k b o cap : Nat} (hv : vs[i]? = some (.slice (some ⟨b, o, none⟩) N cap)) (hk : k < N) {x : Zp p} {z : Int} (hz : z = (x.val : Nat)) :
    Wk p (w.setCell ⟨b, o + k, none⟩ (.int .u64 z)) base gW n N (updE W i k x) P d rv pv vs := by
  subst hz
  obtain ⟨cur, hc⟩ := h.rows.atc hv hk
  refine ⟨h.blk.far (fun e => ?_) _, h.gw, h.rows.store (by decide) hv hk (fun _ _ h => h) rfl, ownsRow_setCell_other h.piv (rowOwn_ne h.piv hc (by decide)) _⟩
  have := h.blk
  unfold Blk at this
  rw [e, hc] at this
  simp at this
theorem Wk.field (h : Wk p w base gW n N W P d rv pv vs) : w.cell? ⟨gW, 0, none⟩ = some (.int .u64 p) := h.blk.cell 0
end

/-- Blocks that hold no words are as they were. -/
def KpB (w w' : World) : Prop := ∀ (e : TypeId) (g : Nat) (vals : List Value), e ≠ 27 → Blk e w g vals → Blk e w' g vals
theorem KpB.refl (w : World) : KpB w w := fun _ _ _ _ h => h
theorem KpB.next {w w1 w2 : World} (h : KpB w w1) (b : Below w1.heap.size w1 w2) : KpB w w2 := fun e g vals he hb => (h e g vals he hb).next b
theorem KpB.store {w w1 : World} (h : KpB w w1) {a : Addr} {cur : Array Value} (hc : w1.heap[a.block]? = some (.cells cur 27 (0, 0))) (v : Value) : KpB w (w1.setCell a v) := fun e g vals he hb => by
  refine (h e g vals he hb).far (fun e1 => he ?_) v
  have := h e g vals he hb
  unfold Blk at this
  rw [e1, hc] at this
  simp at this
  exact this.2.symm

/-- Where the loop of take stands. -/
def TkR (p : Nat) (w wr : World) (base gW n N : Nat) (W : Nat → Nat → Zp p) (P : List Nat) (d : Zp p) (rv pv : Value) (vs : List Value) (r t : Nat) (c : Zp p) (k : Nat) : Prop :=
  Wk p wr base gW n N (fun a j => if a = r ∧ j < k then W a j - c * W t j else W a j) P d rv pv vs ∧ Below base w wr ∧ KpB w wr

set_option maxRecDepth 20000 in
set_option maxHeartbeats 1000000 in
theorem fw_take (p : Nat) (w : World) (hp : FP p) (base gW n N : Nat) (W : Nat → Nat → Zp p) (P : List Nat) (d : Zp p) (rv pv : Value) (vs : List Value) (h : Wk p w base gW n N W P d rv pv vs)
    (r t : Nat) (vr vt : Value) (hr : vs[r]? = some vr) (ht : vs[t]? = some vt) (hrt : r ≠ t) (c : Nat) (C : Zp p) (hc : c = C.val) (hN : N ≤ 1000) (hbase : base ≤ w.heap.size) :
    Calls Try.prog 150 #[.pointer (some ⟨gW, 0, none⟩), vr, vt, .int .u64 c] w (fun e w' => e = .returned (.tuple #[]) ∧ Wk p w' base gW n N (fun a j => if a = r then W a j - C * W t j else W a j) P d rv pv vs ∧ Below base w w' ∧ KpB w w') := by
  have HP := Lib.hid hp; clear hp
  have HC := Lib.hid hc; clear hc
  obtain ⟨ao, cr, rfl, -⟩ := (h.rows.row r vr hr).slice
  obtain ⟨at', ct, rfl, -⟩ := (h.rows.row t vt ht).slice
  have HR := Lib.hid hr; have HT := Lib.hid ht; clear hr ht
  have st : TkR p w w base gW n N W P d rv pv vs r t C 0 := ⟨h.congr fun i k _ _ => by rw [if_neg (by omega)], Below.refl _ _, KpB.refl _⟩
  clear h
  go_enter Try.func150, Try.ntmps150
  go_wp2
  go_loopw [11] (fun kv wr => ∃ k : Nat, k ≤ N ∧ kv = .int .i64 k ∧ TkR p w wr base gW n N W P d rv pv vs r t C k) (fun kv _ => N - (intOf kv).toNat)
  case atStart => exact ⟨0, by omega, rfl, st⟩
  case round =>
    clear st
    obtain ⟨k, hk, rfl, hw, B0, K0⟩ := hrel
    by_cases hkN : k < N
    · obtain ⟨b, o, rfl⟩ := hw.rows.ao HR.out (by omega)
      obtain ⟨b', o', rfl⟩ := hw.rows.ao HT.out (by omega)
      have hbw : base ≤ wr.heap.size := Nat.le_trans hbase B0.size
      go_upto_region 3 with (fail)
      have bd := Drawn.below (w' := wr.drew) ⟨1, rfl⟩ wr.heap.size
      replace hw := hw.next bd
      replace B0 := B0.trans (bd.mono hbw)
      replace K0 := K0.next bd
      have hbw : base ≤ wr.drew.heap.size := hbw
      clear bd
      obtain ⟨⟨u, q1, hu⟩, f1, b1, s1⟩ := hw.rows.at HR.out hkN
      obtain ⟨⟨v, q2, hv⟩, f2, b2, s2⟩ := hw.rows.at HT.out hkN
      have hu : u = .int .u64 ((W r k).val : Nat) := by rw [hu, if_neg (by omega)]
      have hv : v = .int .u64 ((W t k).val : Nat) := by rw [hv, if_neg (by omega)]
      obtain ⟨x, ex⟩ : ∃ x, x = (W r k).val := ⟨_, rfl⟩
      obtain ⟨y, ey⟩ : ∃ y, y = (W t k).val := ⟨_, rfl⟩
      obtain ⟨z, ez⟩ : ∃ z, z = (Zp.of p c * Zp.of p y).val := ⟨_, rfl⟩
      obtain ⟨z', ez'⟩ : ∃ z', z' = (Zp.of p x - Zp.of p z).val := ⟨_, rfl⟩
      have ez2 : z' = (W r k - C * W t k).val := by rw [ez', ez, ex, ey, HC.out, Zp.of_val, Zp.of_val, Zp.of_val, Zp.of_val]
      rw [hu, ← ex] at q1
      rw [hv, ← ey] at q2
      have EZ := Lib.hid ez; have EZ' := Lib.hid ez'; have EZ2 := Lib.hid ez2
      clear ex ey ez ez' ez2 hu hv f1 f2 b2
      have qf := hw.field
      refine startP (S := (fun w' => Below (wr.drew).heap.size (wr.drew) w')) (by kernel_rfl) _ rfl rfl rfl (by kernel_rfl) (Below.refl _ _) (fun hHeld => ?_)
      refine takeL 0 (v := ?_) rfl (by kernel_rfl) (by kernel_rfl) (by kernel_rfl) (fun _ _ _ h => h) ⟨by rfl, ?_⟩ (by assumption) ?_
      rotate_left
      · intro w hS; go_simp <;> with_reducible rfl
      simp only [Act.put, List.setIfInBounds_toArray, List.set_cons_zero, List.set_cons_succ]
      refine takeL 1 (v := ?_) rfl (by kernel_rfl) (by kernel_rfl) (by kernel_rfl) (fun _ _ _ h => h) ⟨by rfl, ?_⟩ (by assumption) ?_
      rotate_left
      · intro w hS; go_simp <;> with_reducible rfl
      simp only [Act.put, List.setIfInBounds_toArray, List.set_cons_zero, List.set_cons_succ]
      refine takeL 2 (v := ?_) rfl (by kernel_rfl) (by kernel_rfl) (by kernel_rfl) (fun _ _ _ h => h) ⟨by rfl, ?_⟩ (by assumption) ?_
      rotate_left
      · intro w hS; go_simp <;> with_reducible rfl
      simp only [Act.put, List.setIfInBounds_toArray, List.set_cons_zero, List.set_cons_succ]
      refine takeL 3 (v := ?_) rfl (by kernel_rfl) (by kernel_rfl) (by kernel_rfl) (fun _ _ _ h => h) ⟨by rfl, ?_⟩ (by assumption) ?_
      rotate_left
      · intro w hS; go_simp <;> with_reducible rfl
      simp only [Act.put, List.setIfInBounds_toArray, List.set_cons_zero, List.set_cons_succ]
      refine takeL 4 (v := ?_) rfl (by kernel_rfl) (by kernel_rfl) (by kernel_rfl) (fun _ _ _ h => h) ⟨by rfl, ?_⟩ (by assumption) ?_
      rotate_left
      · intro w hS; go_simp <;> with_reducible rfl
      simp only [Act.put, List.setIfInBounds_toArray, List.set_cons_zero, List.set_cons_succ]
      refine takeL 5 (v := ?_) rfl (by kernel_rfl) (by kernel_rfl) (by kernel_rfl) (fun _ _ _ h => h) ⟨by rfl, ?_⟩ (by assumption) ?_
      rotate_left
      · intro w hS; have f1 := (hS.cell (p := ⟨gW, 0, none⟩) hw.blk.lt).trans qf; have f2 := (hS.cell (p := ⟨b, o + k, none⟩) s1).trans q1; have f3 := (hS.cell (p := ⟨b', o' + k, none⟩) s2).trans q2; go_simp <;> with_reducible rfl
      simp only [Act.put, List.setIfInBounds_toArray, List.set_cons_zero, List.set_cons_succ]
      refine takeL 6 (v := ?_) rfl (by kernel_rfl) (by kernel_rfl) (by kernel_rfl) (fun _ _ _ h => h) ⟨by rfl, ?_⟩ (by assumption) ?_
      rotate_left
      · intro w hS; go_simp <;> with_reducible rfl
      simp only [Act.put, List.setIfInBounds_toArray, List.set_cons_zero, List.set_cons_succ]
      refine takeL 7 (v := ?_) rfl (by kernel_rfl) (by kernel_rfl) (by kernel_rfl) (fun _ _ _ h => h) ⟨by rfl, ?_⟩ (by assumption) ?_
      rotate_left
      · intro w hS; go_simp <;> with_reducible rfl
      simp only [Act.put, List.setIfInBounds_toArray, List.set_cons_zero, List.set_cons_succ]
      refine takeL 8 (v := ?_) rfl (by kernel_rfl) (by kernel_rfl) (by kernel_rfl) (fun _ _ _ h => h) ⟨by rfl, ?_⟩ (by assumption) ?_
      rotate_left
      · intro w hS; go_simp <;> with_reducible rfl
      simp only [Act.put, List.setIfInBounds_toArray, List.set_cons_zero, List.set_cons_succ]
      refine takeL 9 (v := ?_) rfl (by kernel_rfl) (by kernel_rfl) (by kernel_rfl) (fun _ _ _ h => h) ⟨by rfl, ?_⟩ (by assumption) ?_
      rotate_left
      · intro w hS; have f1 := (hS.cell (p := ⟨gW, 0, none⟩) hw.blk.lt).trans qf; have f2 := (hS.cell (p := ⟨b, o + k, none⟩) s1).trans q1; have f3 := (hS.cell (p := ⟨b', o' + k, none⟩) s2).trans q2; go_simp <;> with_reducible rfl
      simp only [Act.put, List.setIfInBounds_toArray, List.set_cons_zero, List.set_cons_succ]
      refine takeL 10 (v := ?_) rfl (by kernel_rfl) (by kernel_rfl) (by kernel_rfl) (fun _ _ _ h => h) ⟨by rfl, ?_⟩ (by assumption) ?_
      rotate_left
      · intro w hS; go_simp <;> with_reducible rfl
      simp only [Act.put, List.setIfInBounds_toArray, List.set_cons_zero, List.set_cons_succ]
      refine takeL 11 (v := ?_) rfl (by kernel_rfl) (by kernel_rfl) (by kernel_rfl) (fun _ _ _ h => h) ⟨by rfl, ?_⟩ (by assumption) ?_
      rotate_left
      · intro w hS; go_simp <;> with_reducible rfl
      simp only [Act.put, List.setIfInBounds_toArray, List.set_cons_zero, List.set_cons_succ]
      refine takeL 12 (v := ?_) rfl (by kernel_rfl) (by kernel_rfl) (by kernel_rfl) (fun _ _ _ h => h) ⟨by rfl, ?_⟩ (by assumption) ?_
      rotate_left
      · intro w hS; go_simp <;> with_reducible rfl
      simp only [Act.put, List.setIfInBounds_toArray, List.set_cons_zero, List.set_cons_succ]
      refine takeL 13 (v := ?_) rfl (by kernel_rfl) (by kernel_rfl) (by kernel_rfl) (fun _ _ _ h => h) ⟨by rfl, ?_⟩ (by assumption) ?_
      rotate_left
      · intro w hS; have f1 := (hS.cell (p := ⟨gW, 0, none⟩) hw.blk.lt).trans qf; have f2 := (hS.cell (p := ⟨b, o + k, none⟩) s1).trans q1; have f3 := (hS.cell (p := ⟨b', o' + k, none⟩) s2).trans q2; go_simp <;> with_reducible rfl
      simp only [Act.put, List.setIfInBounds_toArray, List.set_cons_zero, List.set_cons_succ]
      refine takeL 14 (v := ?_) rfl (by kernel_rfl) (by kernel_rfl) (by kernel_rfl) (fun _ _ _ h => h) ⟨by rfl, ?_⟩ (by assumption) ?_
      rotate_left
      · intro w hS; go_simp <;> with_reducible rfl
      simp only [Act.put, List.setIfInBounds_toArray, List.set_cons_zero, List.set_cons_succ]
      refine takeL 15 (v := ?_) rfl (by kernel_rfl) (by kernel_rfl) (by kernel_rfl) (fun _ _ _ h => h) ⟨by rfl, ?_⟩ (by assumption) ?_
      rotate_left
      · intro w hS; go_simp <;> with_reducible rfl
      simp only [Act.put, List.setIfInBounds_toArray, List.set_cons_zero, List.set_cons_succ]
      refine takeL 16 (v := ?_) rfl (by kernel_rfl) (by kernel_rfl) (by kernel_rfl) (fun _ _ _ h => h) ⟨by rfl, ?_⟩ (by assumption) ?_
      rotate_left
      · intro w hS; go_simp <;> with_reducible rfl
      simp only [Act.put, List.setIfInBounds_toArray, List.set_cons_zero, List.set_cons_succ]
      refine takeL 17 (v := ?_) rfl (by kernel_rfl) (by kernel_rfl) (by kernel_rfl) (fun _ _ _ h => h) ⟨by rfl, ?_⟩ (by assumption) ?_
      rotate_left
      · intro w hS; go_simp <;> with_reducible rfl
      simp only [Act.put, List.setIfInBounds_toArray, List.set_cons_zero, List.set_cons_succ]
      refine takeL 18 (v := ?_) rfl (by kernel_rfl) (by kernel_rfl) (by kernel_rfl) (fun _ _ _ h => h) ⟨by rfl, ?_⟩ (by assumption) ?_
      rotate_left
      · intro w hS; have f1 := (hS.cell (p := ⟨gW, 0, none⟩) hw.blk.lt).trans qf; have f2 := (hS.cell (p := ⟨b, o + k, none⟩) s1).trans q1; have f3 := (hS.cell (p := ⟨b', o' + k, none⟩) s2).trans q2; go_simp <;> with_reducible rfl
      simp only [Act.put, List.setIfInBounds_toArray, List.set_cons_zero, List.set_cons_succ]
      refine oneL 19 rfl (by kernel_rfl) (by rfl) (fun K hK => ?_)
      go_simp
      go_at_call 96
      (with_reducible refine (gfp_Mul p c y z _ HP.out EZ.out).mono ?_); rintro e w2 ⟨rfl, b2⟩
      refine hK.out _ _ (hHeld.trans (b2.mono hHeld.size)) (fun hHeld => ?_)
      clear hK K
      try simp only [Act.put, List.setIfInBounds_toArray, List.set_cons_zero, List.set_cons_succ]
      refine oneL 20 rfl (by kernel_rfl) (by rfl) (fun K hK => ?_)
      go_simp
      go_at_call 119
      (with_reducible refine (gfp_Sub p x z z' _ HP.out EZ'.out).mono ?_); rintro e w3 ⟨rfl, b3⟩
      refine hK.out _ _ (hHeld.trans (b3.mono hHeld.size)) (fun hHeld => ?_)
      clear hK K
      try simp only [Act.put, List.setIfInBounds_toArray, List.set_cons_zero, List.set_cons_succ]
      refine takeL 21 (v := ?_) rfl (by kernel_rfl) (by kernel_rfl) (by kernel_rfl) (fun _ _ _ h => h) ⟨by rfl, ?_⟩ (by assumption) ?_
      rotate_left
      · intro w hS; go_simp <;> with_reducible rfl
      simp only [Act.put, List.setIfInBounds_toArray, List.set_cons_zero, List.set_cons_succ]
      refine doneL (by kernel_rfl) ?_ _
      refine lastL rfl (by rfl) ?_
      have hw2 := hw.next hHeld
      have B2 := (B0.trans (hHeld.mono hbw)).setCell (p := ⟨b, o + k, none⟩) b1 (.int .u64 (z' : Nat))
      obtain ⟨⟨u, q3, -⟩, f3, -, -⟩ := hw2.rows.at HR.out hkN
      obtain ⟨cur, hcur⟩ := hw2.rows.atc HR.out hkN
      have K2 := (K0.next hHeld).store (a := ⟨b, o + k, none⟩) hcur (.int .u64 (z' : Nat))
      have st := Lib.hid (show TkR p w (w3.setCell ⟨b, o + k, none⟩ (.int .u64 (z' : Nat))) base gW n N W P d rv pv vs r t C (k + 1) from ⟨(hw2.store HR.out hkN (x := W r k - C * W t k) (by rw [EZ2.out])).congr fun a j _ _ => by
        unfold updE; dsimp only
        by_cases h1 : a = r
        · subst h1
          by_cases h2 : j = k
          · subst h2; rw [if_pos ⟨rfl, rfl⟩, if_pos ⟨rfl, by omega⟩]
          · rw [if_neg (fun h => h2 h.2)]
            by_cases h3 : j < k
            · rw [if_pos ⟨rfl, h3⟩, if_pos ⟨rfl, by omega⟩]
            · rw [if_neg (fun h => h3 h.2), if_neg (by omega)]
        · rw [if_neg (fun h => h1 h.1), if_neg (fun h => h1 h.1), if_neg (fun h => h1 h.1)], B2, K2⟩)
      clear hw hw2 B0 B2 K0 K2 hcur hHeld b2 b3 q1 q2 qf s1 s2 b1
      go_wp2
      go_roundw
      case rel => exact ⟨k + 1, by omega, by go_num, st.out⟩
      case measure => simp [intOf] <;> omega
    · obtain rfl : k = N := by omega
      go_wp2
      go_end0
      refine ⟨rfl, hw.congr fun a j _ hj => ?_, B0, K0⟩
      by_cases h1 : a = r
      · rw [if_pos ⟨h1, hj⟩, if_pos h1]
      · rw [if_neg (fun h => h1 h.1), if_neg h1]

end Go.Proofs.Ythghdjpjbngllaa
