/- zmat.made: a matrix, place by place. -/
import Derived.Test.YtahjbeilddenbaaZown
import Derived.Shelf.Abstract
namespace Go.Proofs.Ytahjbeilddenbaa
open Go.RowKit

/-- The numbers of a table, place by place. -/
def tab (c : Nat) (T : Nat → Nat → Int) (n : Nat) : List Int := (List.range n).map fun j => T (j / c) (j % c)
theorem tab_length (c : Nat) (T : Nat → Nat → Int) (n : Nat) : (tab c T n).length = n := by simp [tab]
theorem tab_succ (c : Nat) (T : Nat → Nat → Int) (n : Nat) : tab c T (n + 1) = tab c T n ++ [T (n / c) (n % c)] := by simp [tab, List.range_succ]
theorem tab_at {c i k : Nat} (T : Nat → Nat → Int) (hk : k < c) : tab c T (i * c + k + 1) = tab c T (i * c + k) ++ [T i k] := by
  rw [tab_succ]
  have h1 : (i * c + k) / c = i := by rw [Nat.mul_comm, Nat.mul_add_div (by omega), Nat.div_eq_of_lt hk, Nat.add_zero]
  have h2 : (i * c + k) % c = k := by rw [Nat.mul_comm, Nat.mul_add_mod, Nat.mod_eq_of_lt hk]
  rw [h1, h2]

/-- A matrix that a call has made, with normal numbers. -/
def MtN (w : World) (v : Value) (r c : Nat) (zs : List Int) (L : Nat) : Prop := ∃ u es base, v = .agg #[.int .i64 r, .int .i64 c, u] ∧ ZO w base u zs L es
theorem MtN.mt {w : World} {v : Value} {r c : Nat} {zs : List Int} {L : Nat} (h : MtN w v r c zs L) : Mt w v r c zs L := by
  obtain ⟨u, es, base, rfl, hz⟩ := h; exact ⟨u, rfl, hz.zs⟩
theorem MtN.next {w w' : World} {v : Value} {r c : Nat} {zs : List Int} {L : Nat} (h : MtN w v r c zs L) (hb : Below w.heap.size w w') : MtN w' v r c zs L := by
  obtain ⟨u, es, base, rfl, hz⟩ := h; exact ⟨u, es, base, rfl, hz.next hb⟩
/-- A matrix is returned. -/
def RetM (w : World) (L : Nat) (r c : Nat) (zs : List Int) (e : Ending) (w' : World) : Prop := ∃ v, e = .returned v ∧ MtN w' v r c zs L ∧ Below w.heap.size w w'

theorem Sl.offB {w : World} {u : Value} {xs : List Nat} (h : Sl .u64 w u xs) {e : TypeId} {g : Nat} {vs : List Value} (K : Blk e w g vs) (hv : ∀ (j : Nat) (x : Int), vs[j]? ≠ some (Value.int .u64 x)) (j : Nat) (v : Value) : Sl .u64 (w.setCell ⟨g, j, none⟩ v) u xs := by
  obtain ⟨ao, b, off, cap, rfl, hl, hcs⟩ := h
  by_cases hb : b = g
  · subst hb
    cases xs with
    | nil => exact ⟨ao, b, off, cap, rfl, hl, hcs.ao, fun j hj => absurd hj (Nat.not_lt_zero _)⟩
    | cons x xs =>
      have h0 := hcs.cell 0 (by simp)
      rw [K.cell] at h0
      exact (hv _ _ h0).elim
  · exact ⟨ao, b, off, cap, rfl, hl, hcs.set_far hb v⟩

theorem ZO.setFar {w : World} {base : Nat} {v : Value} {zs : List Int} {L : Nat} {es : List (Bool × Value)} (h : ZO w base v zs L es) {e : TypeId} {g : Nat} {vs : List Value} (K : Blk e w g vs) (hg : g < base)
    (hv : ∀ (j : Nat) (x : Int), vs[j]? ≠ some (Value.int .u64 x)) (j : Nat) (y : Value) : ZO (w.setCell ⟨g, j, none⟩ y) base v zs L es := by
  refine ⟨h.len, ⟨h.own.1, ?_⟩, fun i hi => ?_, h.off⟩
  · rcases h.own.2 with h | ⟨g', cap, cur, a, b, c, d⟩
    · exact .inl h
    · refine .inr ⟨g', cap, cur, a, b, ?_, d⟩
      rw [Below.heap_setCell w ⟨g, j, none⟩ y g' (by simp only; omega)]; exact c
  · obtain ⟨s, u, xs, e, hs, r⟩ := h.num i hi
    exact ⟨s, u, xs, e, hs.offB K hv j y, r⟩

theorem ZO.mono {w : World} {base base' : Nat} {v : Value} {zs : List Int} {L : Nat} {es : List (Bool × Value)} (h : ZO w base v zs L es) (hb : base' ≤ base) : ZO w base' v zs L es := by
  refine ⟨h.len, ⟨h.own.1, ?_⟩, h.num, h.off⟩
  rcases h.own.2 with h | ⟨g', cap, cur, a, b, c⟩
  · exact .inl h
  · exact .inr ⟨g', cap, cur, a, Nat.le_trans hb b, c⟩

theorem ZO.noint {w : World} {base : Nat} {v : Value} {zs : List Int} {L : Nat} {es : List (Bool × Value)} (h : ZO w base v zs L es) (r c : Int) : ∀ (j : Nat) (x : Int), ([Value.int .i64 r, .int .i64 c, v] : List Value)[j]? ≠ some (Value.int .u64 x) := by
  intro j x
  match j with
  | 0 => simp
  | 1 => simp
  | 2 =>
    rcases h.shape with ⟨rfl, -⟩ | ⟨g, cap, rfl, -⟩ <;> simp
  | n + 3 => simp

theorem ZO.offrow {w : World} {base : Nat} {v : Value} {zs : List Int} {L : Nat} {es : List (Bool × Value)} (h : ZO w base v zs L es) {B : Nat} (hB : w.heap.size ≤ B) {s : Bool} {ao : Option Addr} {n c : Nat} (hf : Fresh B (.agg #[.bool s, .slice ao n c])) :
    ∀ g, v.ownBlock = some g → Offb (.slice ao n c) g := fun g hg => hf.offb (Nat.lt_of_lt_of_le (World.ownsRow.lt h.own g hg).2 hB)

theorem noint3 (a b : Int) (ao : Option Addr) (n c : Nat) : ∀ (j : Nat) (x : Int), ([Value.int .i64 a, .int .i64 b, .slice ao n c] : List Value)[j]? ≠ some (Value.int .u64 x) := by
  intro j x
  match j with
  | 0 => simp
  | 1 => simp
  | 2 => simp
  | n + 3 => simp

/-- Where the loops of made stand. -/
def MdRel (w wr : World) (r c : Nat) (T : Nat → Nat → Int) (L g n : Nat) : Prop := ∃ u es, Blk 24 wr (g + 1) [.int .i64 r, .int .i64 c, u] ∧ Blk 24 wr g [.int .i64 0, .int .i64 0, .slice none 0 0] ∧
  ZO wr (g + 1 + 1) u (tab c T n) L es ∧ Below w.heap.size w wr

set_option maxHeartbeats 1000000 in
theorem zmat_made (r c : Nat) (hr : r ≤ 128) (hc : c ≤ 128) (fn : Nat) (hE : Enters Try.prog fn) (caps : List Value) (T : Nat → Nat → Int) (L : Nat) (hL : L ≤ 100000) (w : World)
    (hf : ∀ (i k : Nat) (w' : World), i < r → k < c → Below w.heap.size w w' → Calls Try.prog fn (.int .i64 i :: .int .i64 k :: caps).toArray w' (RetJ w' L (T i k))) :
    Calls Try.prog 41 #[.int .i64 r, .int .i64 c, .func (.func fn) #[] caps.toArray] w (RetM w L r c (tab c T (r * c))) := by
  have HF := Lib.hid hf; clear hf
  obtain ⟨wb, ew, K1, K2, B0, hsz⟩ := boxes1' w 24 24 [.int .i64 0, .int .i64 0, .slice none 0 0] [.int .i64 r, .int .i64 c, .slice none 0 0]
  clear hsz
  go_enter Try.func41, Try.ntmps41
  go_upto_region 2 with (fail)
  rw [← ew]
  obtain ⟨g, eg⟩ : ∃ g, g = w.heap.size := ⟨_, rfl⟩
  rw [← eg] at K1 K2 ⊢
  have hgw : w.heap.size ≤ g := by omega
  clear eg ew
  have st : MdRel w wb r c T L g 0 := ⟨_, _, K2, K1, ZO.nil _ _ _, B0⟩
  clear K1 K2 B0
  go_wp2
  go_loopw [15] (fun iv wr => ∃ i : Nat, i ≤ r ∧ iv = .int .i64 i ∧ MdRel w wr r c T L g (i * c)) (fun iv _ => r - (intOf iv).toNat)
  case atStart => exact ⟨0, by omega, rfl, by rw [Nat.zero_mul]; exact st⟩
  case round =>
    clear st wb
    obtain ⟨i, hi, rfl, st⟩ := hrel
    by_cases hir : i < r
    · obtain ⟨wo, rfl⟩ : ∃ wo : World, wo = wr := ⟨_, rfl⟩
      go_wp2
      go_loopw [19] (fun kv wr => ∃ k : Nat, k ≤ c ∧ kv = .int .i64 k ∧ MdRel w wr r c T L g (i * c + k)) (fun kv _ => c - (intOf kv).toNat)
      case atStart => exact ⟨0, by omega, rfl, by rw [Nat.add_zero]; exact st⟩
      case round =>
        clear st
        obtain ⟨k, hk, rfl, st⟩ := hrel
        by_cases hkc : k < c
        · obtain ⟨u, es, K2, K1, hz, B0⟩ := st
          have hf := HF.out i k wr hir hkc B0
          go_wp2_with fail
          rw [hE]
          refine hf.mono ?_; rintro e w1 ⟨v1, rfl, h1, b1⟩
          obtain ⟨s1, p1, n1, d1, rfl⟩ := h1.agg
          obtain ⟨s', u', xs, e, hs, hx, hl, hzz⟩ := h1
          simp only [Value.agg.injEq, Array.mk.injEq, List.cons.injEq, Value.bool.injEq, and_true] at e
          obtain ⟨rfl, rfl⟩ := e
          obtain ⟨wx, ewx, KX, BX, hsx⟩ := boxes1 w1 36 [.bool s1, .slice p1 n1 d1]
          have HZZ := Lib.hid hzz.symm; clear hzz
          go_upto_region 9 with (fail)
          rw [← ewx]
          have BW : Below wr.heap.size wr wx.drew := (b1.trans (BX.mono b1.size)).trans (Drawn.below ⟨1, rfl⟩ _)
          have hrow : ∀ k, u.ownBlock = some k → k ≠ w1.heap.size := fun k hk => Nat.ne_of_lt (Nat.lt_of_lt_of_le (World.ownsRow.lt hz.own k hk).2 b1.size)
          replace hs := hs.next (BX.trans (Drawn.below (w' := wx.drew) ⟨1, rfl⟩ _))
          replace K2 := K2.next BW; replace K1 := K1.next BW; replace hz := hz.next BW
          replace B0 := B0.trans (BW.mono B0.size)
          have hgx : g + 1 + 1 ≤ wx.drew.heap.size := by have := K2.lt; omega
          obtain ⟨gx, egx⟩ : ∃ gx, gx = w1.heap.size := ⟨_, rfl⟩
          rw [← egx] at KX hrow ⊢
          replace KX := KX.drew
          have hik : i * c ≤ 128 * 128 := Nat.mul_le_mul (by omega) hc
          have HT := Lib.hid (tab_at (i := i) (k := k) T hkc)
          clear egx ewx hsx BX b1 hf BW
          refine startP (S := (fun w' => Below (g + 1 + 1) wx.drew w' ∧ Blk 36 w' gx [.bool s1, .slice p1 n1 d1])) (by kernel_rfl) _ rfl rfl rfl (by kernel_rfl) ⟨Below.refl _ _, KX⟩ (fun hHeld => ?_)
          refine takeL 0 (v := ?_) rfl (by kernel_rfl) (by kernel_rfl) (by kernel_rfl) (fun _ _ _ h => h) ⟨by rfl, ?_⟩ (by assumption) ?_
          rotate_left
          · intro w hS; go_simp <;> with_reducible rfl
          simp only [Act.put, List.setIfInBounds_toArray, List.set_cons_zero, List.set_cons_succ]
          refine takeL 1 (v := ?_) rfl (by kernel_rfl) (by kernel_rfl) (by kernel_rfl) (fun _ _ _ h => h) ⟨by rfl, ?_⟩ (by assumption) ?_
          rotate_left
          · intro w hS; have fa := (K2.below hS.1 (Nat.lt_succ_self _)).cell; have fb := hS.2.cell; have f1 := fa 2; have f2 := fb 0; have f3 := fb 1; clear fa fb; go_simp <;> with_reducible rfl
          simp only [Act.put, List.setIfInBounds_toArray, List.set_cons_zero, List.set_cons_succ]
          refine takeL 2 (v := ?_) rfl (by kernel_rfl) (by kernel_rfl) (by kernel_rfl) (fun _ _ _ h => h) ⟨by rfl, ?_⟩ (by assumption) ?_
          rotate_left
          · intro w hS; go_simp <;> with_reducible rfl
          simp only [Act.put, List.setIfInBounds_toArray, List.set_cons_zero, List.set_cons_succ]
          refine takeL 3 (v := ?_) rfl (by kernel_rfl) (by kernel_rfl) (by kernel_rfl) (fun _ _ _ h => h) ⟨by rfl, ?_⟩ (by assumption) ?_
          rotate_left
          · intro w hS; have fa := (K2.below hS.1 (Nat.lt_succ_self _)).cell; have fb := hS.2.cell; have f1 := fa 2; have f2 := fb 0; have f3 := fb 1; clear fa fb; go_simp <;> with_reducible rfl
          simp only [Act.put, List.setIfInBounds_toArray, List.set_cons_zero, List.set_cons_succ]
          refine takeL 4 (v := ?_) rfl (by kernel_rfl) (by kernel_rfl) (by kernel_rfl) (fun _ _ _ h => h) ⟨by rfl, ?_⟩ (by assumption) ?_
          rotate_left
          · intro w hS; go_simp <;> with_reducible rfl
          simp only [Act.put, List.setIfInBounds_toArray, List.set_cons_zero, List.set_cons_succ]
          refine takeL 5 (v := ?_) rfl (by kernel_rfl) (by kernel_rfl) (by kernel_rfl) (fun _ _ _ h => h) ⟨by rfl, ?_⟩ (by assumption) ?_
          rotate_left
          · intro w hS; have fa := (K2.below hS.1 (Nat.lt_succ_self _)).cell; have fb := hS.2.cell; have f1 := fa 2; have f2 := fb 0; have f3 := fb 1; clear fa fb; go_simp <;> with_reducible rfl
          simp only [Act.put, List.setIfInBounds_toArray, List.set_cons_zero, List.set_cons_succ]
          refine oneL 6 rfl (by kernel_rfl) (by rfl) (fun K hK => ?_)
          go_simp
          go_at_call 50
          (with_reducible refine (zi_From s1 _ xs _ (T i k) L hs (by omega) hx HZZ.out hl).mono ?_); rintro e w3 ⟨v3, rfl, h3, b3, q3⟩
          obtain ⟨s2, a2, n2, c2, rfl⟩ := h3.agg
          refine hK.out _ _ (⟨hHeld.1.trans (b3.mono hgx), hHeld.2.next b3⟩) (fun hHeld => ?_)
          clear hK K
          try simp only [Act.put, List.setIfInBounds_toArray, List.set_cons_zero, List.set_cons_succ]
          refine oneL 7 rfl (by kernel_rfl) (by rfl) (fun K hK => ?_)
          go_simp
          have hd := hHeld
          refine hK.out _ _ ⟨hHeld.1.alloc (Nat.le_trans hgx hHeld.1.size) _, hHeld.2.alloc _⟩ (fun hHeld => ?_)
          clear hK K
          try simp only [Act.put, List.setIfInBounds_toArray, List.set_cons_zero, List.set_cons_succ]
          refine oneL 8 rfl (by kernel_rfl) (by rfl) (fun K hK => ?_)
          refine zap 22 32 (.agg #[.bool false, .slice none 0 0]) Try.underlying22 (by kernel_rfl) (by decide) rfl _ _ rfl w3 (g + 1 + 1) u (tab c T (i * c + k)) L es (T i k) s2 (.slice a2 n2 c2) (hz.next b3) h3 (hz.offrow (Nat.le_refl _) q3) (by rw [tab_length]; omega) (Nat.le_trans hgx hd.1.size) rfl rfl ?_
          intro gg cap1 w5 hown' hbel' hgr'
          refine hK.out _ _ ⟨hd.1.trans hbel', (hgr'.block gx hd.2.lt (fun e => hrow _ e.symm rfl)).trans hd.2⟩ (fun hHeld => ?_)
          clear hK K
          try simp only [Act.put, List.setIfInBounds_toArray, List.set_cons_zero, List.set_cons_succ]
          refine takeL 9 (v := ?_) rfl (by kernel_rfl) (by kernel_rfl) (by kernel_rfl) (fun _ _ _ h => h) ⟨by rfl, ?_⟩ (by assumption) ?_
          rotate_left
          · intro w hS; go_simp <;> with_reducible rfl
          simp only [Act.put, List.setIfInBounds_toArray, List.set_cons_zero, List.set_cons_succ]
          refine doneL (by kernel_rfl) ?_ _
          refine lastL rfl (by rfl) ?_
          have hni := hz.noint r c
          clear hz h3 b3 q3 hd hgr' hrow hbel'
          have hH := hHeld.1
          have K2 := K2.below hH (Nat.lt_succ_self _)
          have K1 := K1.below hH (by omega)
          have B0 := B0.trans (hH.mono (by omega))
          have f2 := K2.free 2
          have c2 := K2.cell 2
          have K2' := K2.set 2 (.slice (some ⟨gg, 0, none⟩) ((tab c T (i * c + k)).length + 1) cap1)
          have K1' := K1.far (a := ⟨g + 1, 2, none⟩) (Nat.ne_of_lt (Nat.lt_succ_self _)) (.slice (some ⟨gg, 0, none⟩) ((tab c T (i * c + k)).length + 1) cap1)
          have hz' := hown'.setFar K2 (Nat.lt_succ_self _) hni 2 (.slice (some ⟨gg, 0, none⟩) ((tab c T (i * c + k)).length + 1) cap1)
          have B0' := B0.setCell (p := ⟨g + 1, 2, none⟩) (Nat.le_succ_of_le hgw) (.slice (some ⟨gg, 0, none⟩) ((tab c T (i * c + k)).length + 1) cap1)
          rw [← HT.out] at hz'
          clear K1 hown' B0 hHeld hH hni
          have K2' := Lib.hid K2'
          have K1' := Lib.hid K1'
          have hz' := Lib.hid hz'
          have B0' := Lib.hid B0'
          go_wp2
          go_roundw
          case rel => exact ⟨k + 1, by omega, by go_num, _, _, K2'.out, K1'.out, hz'.out, B0'.out⟩
          case measure => simp [intOf] <;> omega
        · obtain rfl : k = c := by omega
          go_wp2
          go_roundw
          case rel => exact ⟨i + 1, by omega, by go_num, by rw [Nat.succ_mul]; exact st⟩
          case measure => simp [intOf] <;> omega
    · obtain rfl : i = r := by omega
      obtain ⟨u, es, K2, K1, hz, B0⟩ := st
      obtain ⟨ao, n, cp, eu⟩ : ∃ ao n cp, u = .slice ao n cp := by
        rcases hz.shape with ⟨h, -⟩ | ⟨g', cap, h, -⟩
        · exact ⟨_, _, _, h⟩
        · exact ⟨_, _, _, h⟩
      subst eu
      have c0 := K2.cell 0; have c1 := K2.cell 1; have c2 := K2.cell 2
      have e0 := K1.cell 0; have e1 := K1.cell 1; have e2 := K1.cell 2
      have f0 := K1.free 0; have f1 := K1.free 1; have f2 := K1.free 2
      have KF := ((K1.set 0 (.int .i64 i)).set 1 (.int .i64 c)).set 2 (.slice ao n cp)
      have d0 := KF.cell 0; have d1 := KF.cell 1; have d2 := KF.cell 2
      have hg2 : g < g + 1 + 1 := by omega
      have hzf := ((hz.setFar K1 hg2 (noint3 _ _ _ _ _) 0 (.int .i64 i)).setFar (K1.set 0 (.int .i64 i)) hg2 (noint3 _ _ _ _ _) 1 (.int .i64 c)).setFar ((K1.set 0 (.int .i64 i)).set 1 (.int .i64 c)) hg2 (noint3 _ _ _ _ _) 2 (.slice ao n cp)
      have BF := ((B0.setCell (p := ⟨g, 0, none⟩) hgw (.int .i64 i)).setCell (p := ⟨g, 1, none⟩) hgw (.int .i64 c)).setCell (p := ⟨g, 2, none⟩) hgw (.slice ao n cp)
      have FR := Lib.hid (show RetM w L i c (tab c T (i * c)) (.returned (.agg #[.int .i64 i, .int .i64 c, .slice ao n cp])) (((wr.setCell ⟨g, 0, none⟩ (.int .i64 i)).setCell ⟨g, 1, none⟩ (.int .i64 c)).setCell ⟨g, 2, none⟩ (.slice ao n cp)) from ⟨_, rfl, ⟨_, _, _, rfl, hzf⟩, BF⟩)
      clear KF K1 K2 hzf BF hz B0
      go_wp2
      exact bodyPost_ret (v := .agg #[.int .i64 i, .int .i64 c, .slice ao n cp]) (by simp [results, Try.results41, go_sem, d0, d1, d2]) rfl FR.out

end Go.Proofs.Ytahjbeilddenbaa
