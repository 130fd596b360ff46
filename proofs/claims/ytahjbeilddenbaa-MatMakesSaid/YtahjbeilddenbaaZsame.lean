/- Package zmat: the same matrices; noughts. -/
import Derived.Test.YtahjbeilddenbaaZawake
namespace Go.Proofs.Ytahjbeilddenbaa
open Go.RowKit

theorem zs_agg {w : World} {u : Value} {xs : List Int} {L : Nat} (h : Zs w u xs L) : ∃ ao k, u = .slice ao xs.length k := by
  obtain ⟨ao, b, off, cap, e, -⟩ := h; exact ⟨ao, cap, e⟩

theorem equalFunc (u v : Value) (xs ys : List Int) (L M : Nat) (w : World) (hx : Zs w u xs L) (hy : Zs w v ys M) (hL : L ≤ 1000000) (hM : M ≤ 1000000) (hN : xs.length ≤ 1000000) (β : Bool) (hβ : β = true ↔ xs = ys) :
    Calls Try.prog 56 #[u, v, .func (.func 16) #[] #[]] w (RetW w (.bool β)) := by
  obtain ⟨ao, b, off, cap, rfl, hcap, hcx⟩ := hx
  obtain ⟨bo, b', off', cap', rfl, hcap', hcy⟩ := hy
  have HB := Lib.hid hβ; clear hβ
  by_cases hl : xs.length = ys.length
  · rw [← hl]
    have HL := Lib.hid hl; clear hl
    rw [← HL.out] at hcap'
    go_enter Try.func56, Try.ntmps56
    go_wp2
    go_loopw [17] (fun iv wr => ∃ i : Nat, i ≤ xs.length ∧ iv = .int .i64 i ∧ Below w.heap.size w wr ∧ ∀ j, j < i → xs.getD j 0 = ys.getD j 0) (fun iv _ => xs.length - (intOf iv).toNat)
    case atStart => exact ⟨0, by omega, rfl, Below.refl _ _, fun j hj => by omega⟩
    case round =>
      obtain ⟨i, hi, rfl, hb, hall⟩ := hrel
      have HALL := Lib.hid hall; clear hall
      by_cases hil : i < xs.length
      · obtain ⟨s, x, q1, q2, q3⟩ := hcx.cell i hil
        obtain ⟨s', x', r1, r2, r3⟩ := hcy.cell i (by rw [← HL.out]; exact hil)
        have hne : xs ≠ [] := by intro h; subst h; simp at hil
        have hao := hcx.ao hne
        subst hao
        have hnb : ys ≠ [] := by intro h; have := HL.out; rw [h] at this; simp only [List.length_nil] at this; omega
        have hbo := hcy.ao hnb
        subst hbo
        obtain ⟨t1, p1, n1, c1, e1⟩ := q3.agg
        obtain ⟨t2, p2, n2, c2, e2⟩ := r3.agg
        simp only [Value.agg.injEq, Array.mk.injEq, List.cons.injEq, Value.bool.injEq, and_true] at e1 e2
        obtain ⟨rfl, rfl⟩ := e1
        obtain ⟨rfl, rfl⟩ := e2
        obtain ⟨wx, ewx, K1, K2, BX, hsx⟩ := boxes1' wr 36 36 [.bool s, .slice p1 n1 c1] [.bool s', .slice p2 n2 c2]
        clear hsx hcx hcy hcap hcap'
        have hbx := hb.trans (BX.mono hb.size)
        replace q3 := q3.next hbx; replace r3 := r3.next hbx
        have f1 := (hb.cell (p := ⟨b, off + i * 2, none⟩) (World.block_lt_of_cell? _ _ q1)).trans q1
        have f2 := (hb.cell (p := ⟨b, off + i * 2 + 1, none⟩) (World.block_lt_of_cell? _ _ q2)).trans q2
        have f3 := (hb.cell (p := ⟨b', off' + i * 2, none⟩) (World.block_lt_of_cell? _ _ r1)).trans r1
        have f4 := (hb.cell (p := ⟨b', off' + i * 2 + 1, none⟩) (World.block_lt_of_cell? _ _ r2)).trans r2
        have hb2 : Below wr.heap.size wr (wr.alloc (.cells #[.bool s, .slice p1 n1 c1] 36)) := (Below.refl _ _).alloc (Nat.le_refl _) _
        have f3 := (hb2.cell (p := ⟨b', off' + i * 2, none⟩) (World.block_lt_of_cell? _ _ f3)).trans f3
        have f4 := (hb2.cell (p := ⟨b', off' + i * 2 + 1, none⟩) (World.block_lt_of_cell? _ _ f4)).trans f4
        clear q1 q2 r1 r2 BX hb2
        go_upto_region 7 with (fail)
        rw [← ewx]
        clear ewx f1 f2 f3 f4 hb
        have g1 := K1.cell 0; have g2 := K1.cell 1; have g3 := K2.cell 0; have g4 := K2.cell 1
        by_cases he : xs.getD i 0 = ys.getD i 0
        · have c0 := zi_Same _ _ _ _ L M _ q3 r3 hL hM
          rw [decide_eq_true he] at c0
          have C0 := Lib.hid c0; clear c0
          go_wp2_with fail
          refine (C0.out).mono ?_; rintro e w2 ⟨rfl, b2⟩
          replace hbx := hbx.trans (b2.mono hbx.size)
          clear C0 q3 r3 K1 K2 g1 g2 g3 g4 b2
          have HE := Lib.hid he; clear he
          go_wp2
          go_roundw
          case rel =>
            refine ⟨i + 1, by omega, by go_num, hbx, fun j hj => ?_⟩
            by_cases e : j = i
            · subst e; exact HE.out
            · exact HALL.out j (by omega)
          case measure => simp [intOf] <;> omega
        · have c0 := zi_Same _ _ _ _ L M _ q3 r3 hL hM
          rw [decide_eq_false he] at c0
          have C0 := Lib.hid c0; clear c0
          have hbf : β = false := by
            cases hb : β with
            | false => rfl
            | true => exact absurd (by rw [HB.out.1 hb]) he
          subst hbf
          clear he
          go_wp2_with fail
          refine (C0.out).mono ?_; rintro e w2 ⟨rfl, b2⟩
          replace hbx := hbx.trans (b2.mono hbx.size)
          clear C0 q3 r3 K1 K2 g1 g2 g3 g4 b2 HALL HB
          go_wp2
          go_ret
          exact ⟨rfl, hbx⟩
      · obtain rfl : i = xs.length := by omega
        have hbt : β = true := HB.out.2 (by
          refine List.ext_getElem HL.out fun j h1 h2 => ?_
          have := HALL.out j h1
          simpa [List.getD, List.getElem?_eq_getElem h1, List.getElem?_eq_getElem h2] using this)
        subst hbt
        clear HB HALL hcx hcy
        go_wp2
        go_ret
        exact ⟨rfl, hb⟩
  · have hbf : β = false := by
      cases hb : β with
      | false => rfl
      | true => exact absurd (by rw [HB.out.1 hb]) hl
    subst hbf
    have hl2 : (((xs.length : Nat) : Int) == ((ys.length : Nat) : Int)) = false := by simp; omega
    clear HB hcx hcy
    generalize xs.length = n1 at *
    generalize ys.length = n2 at *
    clear hl
    go_enter Try.func56, Try.ntmps56
    go_wp2
    go_ret
    exact ⟨rfl, Below.refl _ _⟩

theorem zmat_Same (a b : Value) (R1 C1 R2 C2 : Int) (xs ys : List Int) (L M : Nat) (w : World) (hA : Mt w a R1 C1 xs L) (hB : Mt w b R2 C2 ys M) (hL : L ≤ 1000000) (hM : M ≤ 1000000) (β : Bool) (hβ : β = true ↔ (Al R1 C1 R2 C2 xs.length ys.length ∧ xs = ys)) :
    Calls Try.prog 27 #[a, b] w (RetW w (.bool β)) := by
  obtain ⟨ao, ca, rfl⟩ := hA.agg
  obtain ⟨bo, cb, rfl⟩ := hB.agg
  obtain ⟨wb, ew, KA, KB, B0, hsz⟩ := boxes1' w 24 24 [.int .i64 R1, .int .i64 C1, .slice ao xs.length ca] [.int .i64 R2, .int .i64 C2, .slice bo ys.length cb]
  clear hsz
  replace hA := hA.next B0; replace hB := hB.next B0
  have HB := Lib.hid hβ; clear hβ
  by_cases h : Al R1 C1 R2 C2 xs.length ys.length
  · have hN : xs.length ≤ 1000000 := by
      obtain ⟨r, c, -, -, hr, hc, hn⟩ := h.1.nat
      have : r * c ≤ 64 * 64 := Nat.mul_le_mul hr hc
      omega
    have HN := Lib.hid hN; clear hN
    have hb2 : β = true ↔ xs = ys := ⟨fun e => (HB.out.1 e).2, fun e => HB.out.2 ⟨h, e⟩⟩
    have HB2 := Lib.hid hb2; clear hb2 HB
    have H := Lib.hid h; clear h
    go_enter Try.func27, Try.ntmps27
    go_wp2_with fail
    rw [← ew]
    clear ew
    refine (zmat_alike_yes _ _ R1 C1 R2 C2 xs ys L M _ hA hB H.out).mono ?_; rintro e w2 ⟨rfl, b2⟩
    replace hA := hA.next b2; replace hB := hB.next b2; replace KA := KA.next b2; replace KB := KB.next b2
    replace B0 := B0.trans (b2.mono B0.size)
    obtain ⟨u, eu, zA⟩ := hA
    obtain ⟨v, ev, zB⟩ := hB
    simp only [Value.agg.injEq, Array.mk.injEq, List.cons.injEq, and_true, true_and] at eu ev
    subst eu; subst ev
    have q1 := KA.cell 2; have q2 := KB.cell 2
    clear H b2
    go_wp2_with fail
    refine (equalFunc _ _ xs ys L M _ zA zB hL hM HN.out β HB2.out).mono ?_; rintro e w3 ⟨rfl, b3⟩
    replace B0 := B0.trans (b3.mono B0.size)
    clear q1 q2 HB2 zA zB KA KB b3
    cases β <;>
    · go_wp2
      go_ret
      exact ⟨rfl, B0⟩
  · have hbf : β = false := by
      cases hb : β with
      | false => rfl
      | true => exact absurd (HB.out.1 hb).1 h
    subst hbf
    clear HB
    have H := Lib.hid h; clear h
    go_enter Try.func27, Try.ntmps27
    go_wp2_with fail
    rw [← ew]
    clear ew
    refine (zmat_alike_no _ _ R1 C1 R2 C2 xs ys L M _ hA hB H.out).mono ?_; rintro e w2 ⟨rfl, b2⟩
    replace B0 := B0.trans (b2.mono B0.size)
    clear H hA hB b2
    go_wp2
    go_ret
    exact ⟨rfl, B0⟩

end Go.Proofs.Ytahjbeilddenbaa
