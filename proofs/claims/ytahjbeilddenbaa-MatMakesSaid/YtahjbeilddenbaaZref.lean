/- The reference of layer 11: formed, none, the number at a place, normal, few. -/
import Derived.Test.YtahjbeilddenbaaZopen
namespace Go.Proofs.Ytahjbeilddenbaa
open Go.RowKit

theorem ref11_Formed (v : Value) (R C : Int) (zs : List Int) (L : Nat) (w : World) (hm : Mt w v R C zs L) :
    Calls Try.prog 13 #[v] w (RetW w (.bool (decide (Fm R C zs.length)))) := by
  obtain ⟨ao, cp, rfl⟩ := hm.agg
  obtain ⟨wb, ew, KA, B0, hsz⟩ := boxes1 w 24 [.int .i64 R, .int .i64 C, .slice ao zs.length cp]
  clear hsz hm
  by_cases ha : 0 ≤ R
  · skip
    have da : decide (R ≥ 0) = true := decide_eq_true ha
    by_cases hb : R ≤ 64
    · skip
      by_cases hc : 0 ≤ C
      · skip
        have dc : decide (C ≥ 0) = true := decide_eq_true hc
        by_cases hd : C ≤ 64
        · skip
          have hw : IntKind.i64.wrap (R * C) = R * C := Sd.mul ⟨ha, hb⟩ ⟨hc, hd⟩
          by_cases hn : (zs.length : Int) = R * C
          · rw [decide_eq_true (show Fm R C zs.length from ⟨⟨ha, hb⟩, ⟨hc, hd⟩, hn⟩)]
            have hn2 : ((zs.length : Int) == R * C) = true := by simp [hn]
            clear hn
            go_enter Try.func13, Try.ntmps13
            go_wp2
            rw [← ew]
            go_ret
            exact ⟨by simp, B0⟩
          · rw [decide_eq_false (show ¬ Fm R C zs.length from fun h => hn h.2.2)]
            have hn2 : ((zs.length : Int) == R * C) = false := by simp [hn]
            clear hn
            go_enter Try.func13, Try.ntmps13
            go_wp2
            rw [← ew]
            go_ret
            exact ⟨by simp, B0⟩
        · rw [decide_eq_false (show ¬ Fm R C zs.length from fun h => hd h.2.1.2)]
          go_enter Try.func13, Try.ntmps13
          go_wp2
          rw [← ew]
          go_ret
          exact ⟨rfl, B0⟩
      · rw [decide_eq_false (show ¬ Fm R C zs.length from fun h => hc h.2.1.1)]
        go_enter Try.func13, Try.ntmps13
        go_wp2
        rw [← ew]
        go_ret
        exact ⟨rfl, B0⟩
    · rw [decide_eq_false (show ¬ Fm R C zs.length from fun h => hb h.1.2)]
      go_enter Try.func13, Try.ntmps13
      go_wp2
      rw [← ew]
      go_ret
      exact ⟨rfl, B0⟩
  · rw [decide_eq_false (show ¬ Fm R C zs.length from fun h => ha h.1.1)]
    go_enter Try.func13, Try.ntmps13
    go_wp2
    rw [← ew]
    go_ret
    exact ⟨rfl, B0⟩

theorem ref11_Formed_yes (v : Value) (R C : Int) (zs : List Int) (L : Nat) (w : World) (hm : Mt w v R C zs L) (h : Fm R C zs.length) :
    Calls Try.prog 13 #[v] w (RetW w (.bool true)) := by
  have := ref11_Formed v R C zs L w hm
  rwa [decide_eq_true h] at this
theorem ref11_Formed_no (v : Value) (R C : Int) (zs : List Int) (L : Nat) (w : World) (hm : Mt w v R C zs L) (h : ¬ Fm R C zs.length) :
    Calls Try.prog 13 #[v] w (RetW w (.bool false)) := by
  have := ref11_Formed v R C zs L w hm
  rwa [decide_eq_false h] at this

theorem ref11_None (ao : Option Addr) (k : Nat) (w : World) :
    Calls Try.prog 14 #[.agg #[.int .i64 0, .int .i64 0, .slice ao 0 k]] w (RetW w (.bool true)) := by
  obtain ⟨wb, ew, KA, B0, hsz⟩ := boxes1 w 24 [.int .i64 0, .int .i64 0, .slice ao 0 k]
  clear hsz
  go_enter Try.func14, Try.ntmps14
  go_wp2
  rw [← ew]
  go_ret
  exact ⟨rfl, B0⟩

theorem ref11_At (v : Value) (R : Int) (c i k : Nat) (zs : List Int) (L : Nat) (w : World) (hm : Mt w v R c zs L) (hi : i ≤ 100000) (hc : c ≤ 100000) (hk : k ≤ 100000) (hj : i * c + k < zs.length) :
    Calls Try.prog 17 #[v, .int .i64 i, .int .i64 k] w (RetJ w L (zs.getD (i * c + k) 0)) := by
  obtain ⟨u, rfl, ao, b, off, cap, rfl, hcap, hz⟩ := hm
  have hne : zs ≠ [] := by intro h; subst h; simp at hj
  have ha := hz.ao hne
  subst ha
  obtain ⟨wb, ew, KA, KC, B0, hsz⟩ := boxes1' w 24 36 [.int .i64 R, .int .i64 c, .slice (some ⟨b, off, none⟩) zs.length cap] [.bool false, .slice none 0 0]
  clear hsz
  have hw : i * c ≤ 100000 * 100000 := Nat.mul_le_mul hi hc
  have h1 : IntKind.i64.wrap ((i : Int) * (c : Int)) = ((i * c : Nat) : Int) := by rw [← Int.natCast_mul]; exact IntWalk.i64_in _ ⟨by omega, by omega⟩
  have h2 : IntKind.i64.wrap ((k : Int) + ((i * c : Nat) : Int)) = ((i * c + k : Nat) : Int) := by rw [← Int.natCast_add, Nat.add_comm]; exact IntWalk.i64_in _ ⟨by omega, by omega⟩
  have h2' : IntKind.i64.wrap (((i * c : Nat) : Int) + (k : Int)) = ((i * c + k : Nat) : Int) := by rw [← Int.natCast_add]; exact IntWalk.i64_in _ ⟨by omega, by omega⟩
  obtain ⟨s, x, q1, q2, q3⟩ := (hz.next B0).cell _ hj
  obtain ⟨s', p, n, d, eqx⟩ := q3.agg
  simp only [Value.agg.injEq, Array.mk.injEq, List.cons.injEq, and_true] at eqx
  obtain ⟨-, rfl⟩ := eqx
  obtain ⟨Z, eZ⟩ : ∃ Z, Z = zs.getD (i * c + k) 0 := ⟨_, rfl⟩
  rw [← eZ] at q3 ⊢
  clear eZ
  go_enter Try.func17, Try.ntmps17
  go_upto_region 1 with (fail)
  rw [← ew]
  obtain ⟨g, eg⟩ : ∃ g, g = w.heap.size + 1 := ⟨_, rfl⟩
  rw [← eg] at KC ⊢
  have hgw : w.heap.size ≤ g := by omega
  clear eg ew h2
  have f0 := KC.free 0; have f1 := KC.free 1
  have k0 := KC.cell 0; have k1 := KC.cell 1
  have c1 := KA.cell 1; have c2 := KA.cell 2
  have KF := (KC.set 0 (.bool s)).set 1 (.slice p n d)
  have d0 := KF.cell 0; have d1 := KF.cell 1
  have FR := Lib.hid (show RetJ w L Z (.returned (.agg #[.bool s, .slice p n d])) ((wb.setCell ⟨g, 0, none⟩ (.bool s)).setCell ⟨g, 1, none⟩ (.slice p n d)) from ⟨_, rfl, q3.put KC s (.slice p n d), (B0.setCell (p := ⟨g, 0, none⟩) hgw (.bool s)).setCell (p := ⟨g, 1, none⟩) hgw (.slice p n d)⟩)
  clear KF KC KA
  go_wp2
  exact bodyPost_ret (v := .agg #[.bool s, .slice p n d]) (by simp [results, Try.results17, go_sem, d0, d1]) rfl FR.out


theorem ref11_Normal (v : Value) (r c : Nat) (zs : List Int) (L : Nat) (w : World) (hm : MtN w v r c zs L) (hr : r ≤ 64) (hc : c ≤ 64) (hx : zs.length = r * c) (hL : L ≤ 1000000) :
    Calls Try.prog 15 #[v] w (RetW w (.bool true)) := by
  obtain ⟨u, es, base, rfl, hz⟩ := hm
  have hmt : Mt w (.agg #[.int .i64 r, .int .i64 c, u]) r c zs L := ⟨u, rfl, hz.zs⟩
  have hn : zs.length ≤ 64 * 64 := by rw [hx]; exact Nat.mul_le_mul hr hc
  have hf := Fm.of hr hc hx
  clear hx
  obtain ⟨ao, k, eu⟩ : ∃ ao k, u = .slice ao zs.length k := by
    obtain ⟨ao, k, e⟩ := hmt.agg
    simp only [Value.agg.injEq, Array.mk.injEq, List.cons.injEq, and_true, true_and] at e
    exact ⟨ao, k, e⟩
  subst eu
  obtain ⟨wb, ew, KA, B0, hsz⟩ := boxes1 w 24 [.int .i64 r, .int .i64 c, .slice ao zs.length k]
  clear hsz
  replace hz := hz.next B0
  replace hmt := hmt.next B0
  have HF := Lib.hid hf; clear hf
  have num : ∀ j, j < zs.length → ∃ s p n d, ao.isSome ∧ (∀ g, ao = some ⟨g, 0, none⟩ → wb.cell? ⟨g, j * 2, none⟩ = some (.bool s) ∧ wb.cell? ⟨g, j * 2 + 1, none⟩ = some (.slice p n d)) ∧ (∃ g, ao = some ⟨g, 0, none⟩) ∧
      ∃ xs, n = xs.length ∧ Nrm W64 xs ∧ Sl .u64 wb (.slice p n d) xs ∧ (s = true → xs ≠ []) ∧ xs.length ≤ L := by
    intro j hj
    rcases hz.shape with ⟨-, h⟩ | ⟨g, cap, h, -, -, -⟩
    · rw [h] at hj; simp at hj
    · simp only [Value.slice.injEq] at h
      obtain ⟨rfl, -, rfl⟩ := h
      have hj' : j < es.length := by rw [hz.len]; exact hj
      have e := hz.own
      rw [← hz.len] at e
      obtain ⟨f1, f2⟩ := flat_get es j hj'
      obtain ⟨s, u, xs, e1, hs, hn, hl, -, hs0⟩ := hz.num j hj'
      simp only [Value.agg.injEq, Array.mk.injEq, List.cons.injEq, Value.bool.injEq, and_true] at e1
      obtain ⟨rfl, e2⟩ := e1
      have hsl := hs
      obtain ⟨p, b, off, d, rfl, -, -⟩ := hs
      have c1 := World.ownsRow.cellAt e (j * 2) (show j * 2 < es.length * 2 by omega)
      have c2 := World.ownsRow.cellAt e (j * 2 + 1) (show j * 2 + 1 < es.length * 2 by omega)
      refine ⟨(es[j]'hj').1, p, xs.length, d, rfl, fun g' hg' => ?_, ⟨g, rfl⟩, xs, rfl, hn, hsl, hs0, hl⟩
      simp only [Option.some.injEq, Addr.mk.injEq, and_true] at hg'
      subst hg'
      exact ⟨c1.trans f1, by rw [← e2]; exact c2.trans f2⟩
  have NUM := Lib.hid num
  clear num hz
  go_enter Try.func15, Try.ntmps15
  go_upto_region 2 with (fail)
  rw [← ew]
  clear ew
  have q2 := KA.cell 2
  obtain ⟨g0, eg⟩ : ∃ g0, g0 = w.heap.size := ⟨_, rfl⟩
  rw [← eg] at KA q2 ⊢
  clear eg
  go_loopw [3, 4] (fun jv _ wr => ∃ j : Nat, j ≤ zs.length ∧ jv = .int .i64 j ∧ wr = wb) (fun jv _ _ => zs.length - (intOf jv).toNat)
  case atStart => exact ⟨0, by omega, rfl, rfl⟩
  case round =>
    obtain ⟨j, hj, rfl, rfl⟩ := hrel
    by_cases hjl : j < zs.length
    · obtain ⟨s, p, n, d, -, h1, ⟨g, rfl⟩, xs, rfl, hnx, hsx, hsg, hxL⟩ := NUM.out j hjl
      obtain ⟨h1, h2⟩ := h1 g rfl
      by_cases hx0 : xs = []
      · subst hx0
        have hs : s = false := by cases s with
          | false => rfl
          | true => exact absurd rfl (hsg rfl)
        subst hs
        clear hsg
        go_wp2
        go_roundw
        case rel => exact ⟨j + 1, by omega, by go_num, by first | rfl | trivial⟩
        case measure => simp [intOf] <;> omega
      · have hlen := List.length_pos_iff.2 hx0
        have hlast := nrm_last hnx hx0
        obtain ⟨ao', b', off', cap', e, -, hcs⟩ := hsx
        simp only [Value.slice.injEq, true_and] at e
        obtain ⟨rfl, rfl⟩ := e
        have hao := hcs.ao hx0
        subst hao
        have hcell := hcs.cell (xs.length - 1) (by omega)
        obtain ⟨m, em⟩ : ∃ m, m = xs.length - 1 := ⟨_, rfl⟩
        rw [← em] at hcell hlast
        have hwr : IntKind.i64.wrap ((xs.length : Int) - 1) = (m : Int) := by
          rw [show ((xs.length : Int) - 1) = (m : Int) by omega]; exact IntWalk.i64_in _ ⟨by omega, by omega⟩
        have hmx : m < xs.length := by omega
        obtain ⟨y, ey⟩ : ∃ y, y = xs.getD m 0 := ⟨_, rfl⟩
        rw [← ey] at hcell hlast
        clear ey em hcs hnx hsg
        have hy : ((y : Int) == 0) = false := by simp; omega
        clear hlast
        go_wp2
        go_roundw
        case rel => exact ⟨j + 1, by omega, by go_num, by first | rfl | trivial⟩
        case measure => simp [intOf] <;> omega
    · obtain rfl : j = zs.length := by omega
      have q0 := KA.cell 0; have q1 := KA.cell 1
      clear NUM hj
      go_wp2_with fail
      refine (ref11_Formed_yes _ r c zs L _ hmt HF.out).mono ?_; rintro e w2 ⟨rfl, b2⟩
      go_wp2
      go_ret
      exact ⟨rfl, B0.trans (b2.mono B0.size)⟩

end Go.Proofs.Ytahjbeilddenbaa
