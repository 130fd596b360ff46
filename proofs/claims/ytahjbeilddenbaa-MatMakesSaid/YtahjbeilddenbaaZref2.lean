/- The reference of layer 11: few, and what a matrix is. -/
import Derived.Test.YtahjbeilddenbaaZref
namespace Go.Proofs.Ytahjbeilddenbaa
open Go.RowKit

/-- Few numbers, of few words. -/
def Fw (ps : List (Bool × List Nat)) (W : Nat) : Prop := ps.length ≤ 100 ∧ ∀ j, j < ps.length → (ps.getD j (false, [])).2.length ≤ W
theorem Fw.all {ps : List (Bool × List Nat)} {W : Nat} (h : Fw ps W) : ∀ p ∈ ps, p.2.length ≤ W := by
  intro p hp
  obtain ⟨j, hj, rfl⟩ := List.mem_iff_getElem.1 hp
  have := h.2 j hj
  simpa [List.getD, List.getElem?_eq_getElem hj] using this

theorem ref10_Few (v : Value) (ps : List (Bool × List Nat)) (W : Nat) (β : Bool) (hβ : β = true ↔ Fw ps W) (w : World) (hv : Zw w v ps) :
    Calls Try.prog 55 #[v, .int .i64 100, .int .i64 W] w fun e w' => e = .returned (.bool β) ∧ w = w' := by
  obtain ⟨ao, b, off, cap, rfl, hcap, hz⟩ := hv
  have HB := Lib.hid hβ; clear hβ
  go_enter Try.func55, Try.ntmps55
  go_wp2
  go_loopw [7] (fun jv wr => ∃ j : Nat, j ≤ ps.length ∧ j ≤ 100 ∧ jv = .int .i64 j ∧ wr = w ∧ ∀ i, i < j → (ps.getD i (false, [])).2.length ≤ W) (fun jv _ => 100 - (intOf jv).toNat)
  case atStart => exact ⟨0, by omega, by omega, rfl, rfl, fun i hi => by omega⟩
  case round =>
    obtain ⟨j, hj, hj2, rfl, rfl, hall⟩ := hrel
    have HALL := Lib.hid hall; clear hall
    by_cases hjl : j < ps.length
    · by_cases hj3 : j < 100
      · obtain ⟨u, h1, h2, h3, -⟩ := hz.cell j hjl
        have hne : ps ≠ [] := by intro h; subst h; simp at hjl
        have hao := hz.ao hne
        subst hao
        obtain ⟨xs, exs⟩ : ∃ xs, xs = (ps.getD j (false, [])).2 := ⟨_, rfl⟩
        rw [← exs] at h3
        have EXS := Lib.hid exs; clear exs h1
        obtain ⟨ao', b', off', cap', rfl, -, -⟩ := h3
        by_cases hx : xs.length ≤ W
        · go_wp2
          go_roundw
          case rel =>
            refine ⟨j + 1, by omega, by omega, by go_num, by first | rfl | trivial, fun i hi => ?_⟩
            by_cases e : i = j
            · subst e; rw [← EXS.out]; exact hx
            · exact HALL.out i (by omega)
          case measure => simp [intOf] <;> omega
        · have hbf : β = false := by
            cases hb : β with
            | false => rfl
            | true =>
              have := (HB.out.1 hb).2 j hjl
              rw [← EXS.out] at this; exact absurd this hx
          subst hbf
          clear HB HALL EXS
          go_wp2
          go_ret
          exact ⟨rfl, rfl⟩
      · obtain rfl : j = 100 := by omega
        have hbf : β = false := by
          cases hb : β with
          | false => rfl
          | true => have := (HB.out.1 hb).1; omega
        subst hbf
        clear HB HALL
        go_wp2
        go_ret
        exact ⟨by simp <;> omega, rfl⟩
    · obtain rfl : j = ps.length := by omega
      have hbf : β = true := HB.out.2 ⟨hj2, HALL.out⟩
      subst hbf
      clear HB HALL
      go_wp2
      go_ret
      exact ⟨by simp <;> omega, rfl⟩

/-- A matrix of a size that is looked at. -/
def Fx (R C : Int) (ps : List (Bool × List Nat)) (s W : Nat) : Prop := R ≤ s ∧ C ≤ s ∧ Fw ps W

theorem ref11_Few (v : Value) (R C : Int) (ps : List (Bool × List Nat)) (s W : Nat) (β : Bool) (hβ : β = true ↔ Fx R C ps s W) (w : World) (hv : Mw w v R C ps) :
    Calls Try.prog 26 #[v, .int .i64 s, .int .i64 W] w (RetW w (.bool β)) := by
  obtain ⟨u, rfl, hz⟩ := hv
  obtain ⟨wb, ew, KA, B0, hsz⟩ := boxes1 w 24 [.int .i64 R, .int .i64 C, u]
  clear hsz
  obtain ⟨ao, k, eu⟩ : ∃ ao k, u = .slice ao ps.length k := by obtain ⟨ao, b, off, cap, e, -⟩ := hz; exact ⟨ao, cap, e⟩
  subst eu
  replace hz := hz.next B0
  have HB := Lib.hid hβ; clear hβ
  by_cases h1 : R ≤ s
  · by_cases h2 : C ≤ s
    · have h3 : β = true ↔ Fw ps W := ⟨fun h => (HB.out.1 h).2.2, fun h => HB.out.2 ⟨h1, h2, h⟩⟩
      have H3 := Lib.hid h3; clear h3
      go_enter Try.func26, Try.ntmps26
      go_wp2_with fail
      rw [← ew]
      clear ew
      refine (ref10_Few _ ps W β H3.out _ hz).mono ?_; rintro e wx ⟨rfl, rfl⟩
      clear HB H3
      cases β <;>
      · go_wp2
        go_ret
        exact ⟨rfl, B0⟩
    · have hbf : β = false := by
        cases hb : β with
        | false => rfl
        | true => exact absurd (HB.out.1 hb).2.1 h2
      subst hbf
      clear HB
      go_enter Try.func26, Try.ntmps26
      go_wp2
      rw [← ew]
      go_ret
      exact ⟨rfl, B0⟩
  · have hbf : β = false := by
      cases hb : β with
      | false => rfl
      | true => exact absurd (HB.out.1 hb).1 h1
    subst hbf
    clear HB
    go_enter Try.func26, Try.ntmps26
    go_wp2
    rw [← ew]
    go_ret
    exact ⟨rfl, B0⟩

theorem law11_few (a b : Value) (R1 C1 R2 C2 : Int) (ps qs : List (Bool × List Nat)) (β : Bool) (hβ : β = true ↔ (Fx R1 C1 ps 6 3 ∧ Fx R2 C2 qs 6 3)) (w : World) (hA : Mw w a R1 C1 ps) (hB : Mw w b R2 C2 qs) :
    Calls Try.prog 10 #[a, b] w (RetW w (.bool β)) := by
  obtain ⟨ao, ca, rfl⟩ := hA.agg
  obtain ⟨bo, cb, rfl⟩ := hB.agg
  obtain ⟨wb, ew, KA, KB, B0, hsz⟩ := boxes1' w 24 24 [.int .i64 R1, .int .i64 C1, .slice ao ps.length ca] [.int .i64 R2, .int .i64 C2, .slice bo qs.length cb]
  clear hsz
  replace hA := hA.next B0; replace hB := hB.next B0
  have HB := Lib.hid hβ; clear hβ
  have c1 : ∀ (w : World) (γ : Bool), (γ = true ↔ Fx R1 C1 ps 6 3) → Mw w (.agg #[.int .i64 R1, .int .i64 C1, .slice ao ps.length ca]) R1 C1 ps → Calls Try.prog 26 #[.agg #[.int .i64 R1, .int .i64 C1, .slice ao ps.length ca], .int .i64 6, .int .i64 3] w (RetW w (.bool γ)) :=
    fun w γ hγ hm => ref11_Few _ R1 C1 ps 6 3 γ hγ w hm
  have c2 : ∀ (w : World) (γ : Bool), (γ = true ↔ Fx R2 C2 qs 6 3) → Mw w (.agg #[.int .i64 R2, .int .i64 C2, .slice bo qs.length cb]) R2 C2 qs → Calls Try.prog 26 #[.agg #[.int .i64 R2, .int .i64 C2, .slice bo qs.length cb], .int .i64 6, .int .i64 3] w (RetW w (.bool γ)) :=
    fun w γ hγ hm => ref11_Few _ R2 C2 qs 6 3 γ hγ w hm
  have E1 := Lib.hid c1; have E2 := Lib.hid c2; clear c1 c2
  by_cases h1 : Fx R1 C1 ps 6 3
  · have hb2 : β = true ↔ Fx R2 C2 qs 6 3 := ⟨fun h => (HB.out.1 h).2, fun h => HB.out.2 ⟨h1, h⟩⟩
    have HB2 := Lib.hid hb2; clear hb2
    go_enter Try.func10, Try.ntmps10
    go_wp2_with fail
    rw [← ew]
    clear ew
    refine (E1.out _ true ⟨fun _ => h1, fun _ => rfl⟩ hA).mono ?_; rintro e w2 ⟨rfl, b2⟩
    have q0 := (KB.next b2).cell 0; have q1 := (KB.next b2).cell 1; have q2 := (KB.next b2).cell 2
    go_wp2_with fail
    refine (E2.out _ β HB2.out (hB.next b2)).mono ?_; rintro e w3 ⟨rfl, b3⟩
    clear q0 q1 q2 HB HB2 E1 E2
    replace B0 := (B0.trans (b2.mono B0.size)).trans (b3.mono (Nat.le_trans B0.size b2.size))
    cases β <;>
    · go_wp2
      go_ret
      exact ⟨rfl, B0⟩
  · have hbf : β = false := by
      cases hb : β with
      | false => rfl
      | true => exact absurd (HB.out.1 hb).1 h1
    subst hbf
    go_enter Try.func10, Try.ntmps10
    go_wp2_with fail
    rw [← ew]
    clear ew
    refine (E1.out _ false ⟨fun h => (by cases h), fun h => absurd h h1⟩ hA).mono ?_; rintro e w2 ⟨rfl, b2⟩
    clear HB E1 E2
    go_wp2
    go_ret
    exact ⟨rfl, B0.trans (b2.mono B0.size)⟩

set_option maxHeartbeats 1000000 in
theorem ref11_Is (v u : Value) (r c : Nat) (zs : List Int) (L M : Nat) (w : World) (hm : MtN w v r c zs L) (hr : r ≤ 64) (hc : c ≤ 64) (hx : zs.length = r * c) (hL : L ≤ 100000) (hM : M ≤ 100000) (hu : Zs w u zs M) :
    Calls Try.prog 18 #[v, .int .i64 r, .int .i64 c, u] w (RetW w (.bool true)) := by
  obtain ⟨ao, k, rfl⟩ := hm.agg
  obtain ⟨bo, b, off, cap, rfl, hcap, hcs⟩ := hu
  have hrc : r * c ≤ 64 * 64 := Nat.mul_le_mul hr hc
  have hw : IntKind.i64.wrap ((r : Int) * (c : Int)) = ((zs.length : Nat) : Int) := by rw [← Int.natCast_mul, hx]; exact IntWalk.i64_in _ ⟨by omega, by omega⟩
  have hzl : zs.length ≤ 4096 := by omega
  have HX := Lib.hid hx; clear hx hrc
  obtain ⟨wb, ew, KA, B0, hsz⟩ := boxes1 w 24 [.int .i64 r, .int .i64 c, .slice ao zs.length k]
  clear hsz
  replace hm := hm.next B0
  replace hcs := hcs.next B0
  go_enter Try.func18, Try.ntmps18
  go_wp2_with fail
  rw [← ew]
  clear ew
  obtain ⟨g0, eg⟩ : ∃ g0, g0 = w.heap.size := ⟨_, rfl⟩
  rw [← eg] at KA ⊢
  clear eg
  refine (ref11_Normal _ r c zs L _ hm hr hc HX.out (by omega)).mono ?_; rintro e w2 ⟨rfl, b2⟩
  replace KA := KA.next b2; replace hm := hm.next b2; replace hcs := hcs.next b2
  replace B0 := B0.trans (b2.mono B0.size)
  clear b2 wb
  have q0 := KA.cell 0; have q1 := KA.cell 1; have q2 := KA.cell 2
  go_wp2
  clear q0 q1 q2 hw
  obtain ⟨u', eu', hzA⟩ := hm.mt
  simp only [Value.agg.injEq, Array.mk.injEq, List.cons.injEq, and_true, true_and] at eu'
  subst eu'
  obtain ⟨ao', ba, offa, capa, eua, -, hca⟩ := hzA
  simp only [Value.slice.injEq, true_and] at eua
  obtain ⟨rfl, rfl⟩ := eua
  clear hm
  go_loopw [9] (fun jv wr => ∃ j : Nat, j ≤ zs.length ∧ jv = .int .i64 j ∧ Below w2.heap.size w2 wr) (fun jv _ => zs.length - (intOf jv).toNat)
  case atStart => exact ⟨0, by omega, rfl, Below.refl _ _⟩
  case round =>
    obtain ⟨j, hj, rfl, hbel⟩ := hrel
    by_cases hjl : j < zs.length
    · have hne : zs ≠ [] := by intro h; subst h; simp at hjl
      have hao := hca.ao hne; have hbo := hcs.ao hne
      subst hao hbo
      have hbd : Below w2.heap.size w2 wr.drew := hbel.trans (Drawn.below (w' := wr.drew) ⟨1, rfl⟩ _)
      obtain ⟨s, x, q1, q2, q3⟩ := (hca.next hbd).cell j hjl
      obtain ⟨s', x', r1, r2, r3⟩ := (hcs.next hbd).cell j hjl
      replace KA := KA.next hbd
      go_upto_region 6 with (fail)
      clear hca hcs hcap hbel
      refine startL (S := (fun w' => Below (wr.drew).heap.size (wr.drew) w')) (by kernel_rfl) (Below.refl _ _) (fun hHeld => ?_)
      refine takeL 0 (v := ?_) rfl (by kernel_rfl) (by kernel_rfl) (by kernel_rfl) (fun _ _ _ h => h) ⟨by rfl, ?_⟩ (by assumption) ?_
      rotate_left
      · intro w hS; go_simp <;> with_reducible rfl
      simp only [Act.put, List.setIfInBounds_toArray, List.set_cons_zero, List.set_cons_succ]
      refine takeL 1 (v := ?_) rfl (by kernel_rfl) (by kernel_rfl) (by kernel_rfl) (fun _ _ _ h => h) ⟨by rfl, ?_⟩ (by assumption) ?_
      rotate_left
      · intro w hS; have fa := KA.at hS; have f1 := fa 2; clear fa; have f2 := (hS.cell (p := ⟨ba, offa + j * 2, none⟩) (World.block_lt_of_cell? _ _ q1)).trans q1; have f3 := (hS.cell (p := ⟨ba, offa + j * 2 + 1, none⟩) (World.block_lt_of_cell? _ _ q2)).trans q2; have f4 := (hS.cell (p := ⟨b, off + j * 2, none⟩) (World.block_lt_of_cell? _ _ r1)).trans r1; have f5 := (hS.cell (p := ⟨b, off + j * 2 + 1, none⟩) (World.block_lt_of_cell? _ _ r2)).trans r2; go_simp <;> with_reducible rfl
      simp only [Act.put, List.setIfInBounds_toArray, List.set_cons_zero, List.set_cons_succ]
      refine takeL 2 (v := ?_) rfl (by kernel_rfl) (by kernel_rfl) (by kernel_rfl) (fun _ _ _ h => h) ⟨by rfl, ?_⟩ (by assumption) ?_
      rotate_left
      · intro w hS; go_simp <;> with_reducible rfl
      simp only [Act.put, List.setIfInBounds_toArray, List.set_cons_zero, List.set_cons_succ]
      refine takeL 3 (v := ?_) rfl (by kernel_rfl) (by kernel_rfl) (by kernel_rfl) (fun _ _ _ h => h) ⟨by rfl, ?_⟩ (by assumption) ?_
      rotate_left
      · intro w hS; go_simp <;> with_reducible rfl
      simp only [Act.put, List.setIfInBounds_toArray, List.set_cons_zero, List.set_cons_succ]
      refine takeL 4 (v := ?_) rfl (by kernel_rfl) (by kernel_rfl) (by kernel_rfl) (fun _ _ _ h => h) ⟨by rfl, ?_⟩ (by assumption) ?_
      rotate_left
      · intro w hS; have fa := KA.at hS; have f1 := fa 2; clear fa; have f2 := (hS.cell (p := ⟨ba, offa + j * 2, none⟩) (World.block_lt_of_cell? _ _ q1)).trans q1; have f3 := (hS.cell (p := ⟨ba, offa + j * 2 + 1, none⟩) (World.block_lt_of_cell? _ _ q2)).trans q2; have f4 := (hS.cell (p := ⟨b, off + j * 2, none⟩) (World.block_lt_of_cell? _ _ r1)).trans r1; have f5 := (hS.cell (p := ⟨b, off + j * 2 + 1, none⟩) (World.block_lt_of_cell? _ _ r2)).trans r2; go_simp <;> with_reducible rfl
      simp only [Act.put, List.setIfInBounds_toArray, List.set_cons_zero, List.set_cons_succ]
      refine takeL 5 (v := ?_) rfl (by kernel_rfl) (by kernel_rfl) (by kernel_rfl) (fun _ _ _ h => h) ⟨by rfl, ?_⟩ (by assumption) ?_
      rotate_left
      · intro w hS; go_simp <;> with_reducible rfl
      simp only [Act.put, List.setIfInBounds_toArray, List.set_cons_zero, List.set_cons_succ]
      refine takeL 6 (v := ?_) rfl (by kernel_rfl) (by kernel_rfl) (by kernel_rfl) (fun _ _ _ h => h) ⟨by rfl, ?_⟩ (by assumption) ?_
      rotate_left
      · intro w hS; go_simp <;> with_reducible rfl
      simp only [Act.put, List.setIfInBounds_toArray, List.set_cons_zero, List.set_cons_succ]
      refine takeL 7 (v := ?_) rfl (by kernel_rfl) (by kernel_rfl) (by kernel_rfl) (fun _ _ _ h => h) ⟨by rfl, ?_⟩ (by assumption) ?_
      rotate_left
      · intro w hS; go_simp <;> with_reducible rfl
      simp only [Act.put, List.setIfInBounds_toArray, List.set_cons_zero, List.set_cons_succ]
      refine takeL 8 (v := ?_) rfl (by kernel_rfl) (by kernel_rfl) (by kernel_rfl) (fun _ _ _ h => h) ⟨by rfl, ?_⟩ (by assumption) ?_
      rotate_left
      · intro w hS; have fa := KA.at hS; have f1 := fa 2; clear fa; have f2 := (hS.cell (p := ⟨ba, offa + j * 2, none⟩) (World.block_lt_of_cell? _ _ q1)).trans q1; have f3 := (hS.cell (p := ⟨ba, offa + j * 2 + 1, none⟩) (World.block_lt_of_cell? _ _ q2)).trans q2; have f4 := (hS.cell (p := ⟨b, off + j * 2, none⟩) (World.block_lt_of_cell? _ _ r1)).trans r1; have f5 := (hS.cell (p := ⟨b, off + j * 2 + 1, none⟩) (World.block_lt_of_cell? _ _ r2)).trans r2; go_simp <;> with_reducible rfl
      simp only [Act.put, List.setIfInBounds_toArray, List.set_cons_zero, List.set_cons_succ]
      refine oneL 9 rfl (by kernel_rfl) (by rfl) (fun K hK => ?_)
      go_simp
      go_at_call 16
      (with_reducible refine (zi_Same _ _ _ _ L M _ (q3.next hHeld) (r3.next hHeld) (by omega) (by omega)).mono ?_); rintro e w3 ⟨rfl, b3⟩
      rw [decide_eq_true rfl]
      refine hK.out _ _ (hHeld.trans (b3.mono hHeld.size)) (fun hHeld => ?_)
      clear hK K
      try simp only [Act.put, List.setIfInBounds_toArray, List.set_cons_zero, List.set_cons_succ]
      refine takeL 10 (v := ?_) rfl (by kernel_rfl) (by kernel_rfl) (by kernel_rfl) (fun _ _ _ h => h) ⟨by rfl, ?_⟩ (by assumption) ?_
      rotate_left
      · intro w hS; go_simp <;> with_reducible rfl
      simp only [Act.put, List.setIfInBounds_toArray, List.set_cons_zero, List.set_cons_succ]
      refine doneL (by kernel_rfl) ?_ _
      replace hbd := hbd.trans (hHeld.mono hbd.size)
      clear q1 q2 q3 r1 r2 r3 hHeld b3 KA
      go_wp2
      go_roundw
      case rel => exact ⟨j + 1, by omega, by go_num, hbd⟩
      case measure => simp [intOf] <;> omega
    · obtain rfl : j = zs.length := by omega
      clear hcs hca KA hcap
      go_wp2
      go_ret
      exact ⟨rfl, B0.trans (hbel.mono B0.size)⟩

end Go.Proofs.Ytahjbeilddenbaa
