/- Package container/heap over package mul's factors. -/
import Derived.Test.YtnnidjhhcnmnnaaHeap
namespace Go.Proofs.Ytnnidjhhcnmnnaa
open Go.RowKit

theorem m_Len0 (a : Addr) (w : World) : (method 198 66 (.pointer (some a)) "Len").run Try.prog w = (Sem.load .plain a (fun v => .pure (63, v))).run Try.prog w := by kernel_rfl
theorem m_Len {a : Addr} {v : Value} {w : World} (h : w.cell? a = some v) : (method 198 66 (.pointer (some a)) "Len").run Try.prog w = .ok (63, v) w := by
  rw [m_Len0]
  simp [Sem.run, h]
theorem m_Less0 (a : Addr) (w : World) : (method 198 66 (.pointer (some a)) "Less").run Try.prog w = (Sem.load .plain a (fun v => .pure (86, v))).run Try.prog w := by kernel_rfl
theorem m_Less {a : Addr} {v : Value} {w : World} (h : w.cell? a = some v) : (method 198 66 (.pointer (some a)) "Less").run Try.prog w = .ok (86, v) w := by
  rw [m_Less0]
  simp [Sem.run, h]
theorem m_Swap0 (a : Addr) (w : World) : (method 198 66 (.pointer (some a)) "Swap").run Try.prog w = (Sem.load .plain a (fun v => .pure (89, v))).run Try.prog w := by kernel_rfl
theorem m_Swap {a : Addr} {v : Value} {w : World} (h : w.cell? a = some v) : (method 198 66 (.pointer (some a)) "Swap").run Try.prog w = .ok (89, v) w := by
  rw [m_Swap0]
  simp [Sem.run, h]
theorem m_Push (a : Addr) (w : World) : (method 198 66 (.pointer (some a)) "Push").run Try.prog w = .ok (88, .pointer (some a)) w := by kernel_rfl
theorem m_Pop (a : Addr) (w : World) : (method 198 66 (.pointer (some a)) "Pop").run Try.prog w = .ok (87, .pointer (some a)) w := by kernel_rfl
theorem Less_N (base g r cap N i j : Nat) (ps : List (Value × List Nat)) (w : World) (hN : N = ps.length) (h : Hp w base g (.slice (some ⟨r, 0, none⟩) N cap) ps) (hi : i < N) (hj : j < N) (hl : lns ps ≤ 1000000) :
    Calls Try.prog 86 #[.slice (some ⟨r, 0, none⟩) N cap, .int .i64 i, .int .i64 j] w (RetB w) := by
  subst hN; exact Less_any base g r cap i j ps w h hi hj hl
theorem Swap_N (base g r cap N i j : Nat) (ps : List (Value × List Nat)) (w : World) (hN : N = ps.length) (h : Hp w base g (.slice (some ⟨r, 0, none⟩) N cap) ps) (hi : i < N) (hj : j < N) (hr : base ≤ r) (hb : base ≤ w.heap.size) :
    Calls Try.prog 89 #[.slice (some ⟨r, 0, none⟩) N cap, .int .i64 i, .int .i64 j] w (RetH1 w base g (.slice (some ⟨r, 0, none⟩) N cap) ps) := by
  subst hN; exact Swap_any base g r cap i j ps w h hi hj hr hb
theorem HpTo.trans {w w1 w2 : World} {base g : Nat} {fv : Value} {ps ps1 : List (Value × List Nat)} (h : ps1.Perm ps) (hb : Below base w w1) (ko : KO base w w1) (k : HpTo w1 base g fv ps1 w2) : HpTo w base g fv ps w2 := by
  obtain ⟨ps2, h1, h2, h3, h4⟩ := k
  exact ⟨ps2, h1.trans h, h2, hb.trans h3, ko.trans h4⟩
theorem HpTo.drawn {w w1 w2 : World} {base g : Nat} {fv : Value} {ps : List (Value × List Nat)} (h : HpTo w base g fv ps w1) (k : Drawn w1 w2) : HpTo w base g fv ps w2 := by
  obtain ⟨ps2, h1, h2, h3, h4⟩ := h
  exact ⟨ps2, h1, h2.next (k.below _), h3.trans (k.below _), h4.drawn k⟩
theorem HpTo.refl {w : World} {base g : Nat} {fv : Value} {ps : List (Value × List Nat)} (h : Hp w base g fv ps) : HpTo w base g fv ps w := ⟨ps, List.Perm.refl _, h, Below.refl _ _, KO.refl _ _⟩

def RetDn (w : World) (base g : Nat) (fv : Value) (ps : List (Value × List Nat)) (e : Ending) (w' : World) : Prop := ∃ b, e = .returned (.bool b) ∧ HpTo w base g fv ps w'
set_option maxHeartbeats 1000000 in
theorem down_any (base g r cap N i0 n : Nat) (ps : List (Value × List Nat)) (w : World) (hN : N = ps.length) (h : Hp w base g (.slice (some ⟨r, 0, none⟩) N cap) ps) (hi0 : i0 < N) (hn : n ≤ N) (hN2 : N ≤ 1000000) (hr : base ≤ r) (hb : base ≤ w.heap.size) (hl : lns ps ≤ 1000000) :
    Calls Try.prog 67 #[.iface 66 (.pointer (some ⟨g, 0, none⟩)), .int .i64 i0, .int .i64 n] w (RetDn w base g (.slice (some ⟨r, 0, none⟩) N cap) ps) := by
  have HN := Lib.hid hN; have HL := Lib.hid hl; have HB := Lib.hid hb; have HR := Lib.hid hr
  have H0 := Lib.hid h
  clear hN hl hb hr h
  go_enter Try.func67, Try.ntmps67
  go_wp2
  go_loopw [7] (fun iv wr => ∃ i : Nat, iv = .int .i64 i ∧ i < N ∧ HpTo w base g (.slice (some ⟨r, 0, none⟩) N cap) ps wr) (fun iv _ => N - (intOf iv).toNat)
  case atStart => exact ⟨i0, rfl, hi0, HpTo.refl H0.out⟩
  case round =>
    obtain ⟨i, rfl, hi, hto⟩ := hrel
    obtain ⟨j, ej⟩ : ∃ j, j = 2 * i + 1 := ⟨_, rfl⟩
    have hj1 : 2 * (i : Int) + 1 = (j : Int) := by omega
    have hij : i < j := by omega
    have hj0 : (0 : Int) ≤ (j : Int) := by omega
    have hj9 : j ≤ 3000000 := by omega
    clear ej
    by_cases hjn : j < n
    · obtain ⟨k, ek⟩ : ∃ k, k = j + 1 := ⟨_, rfl⟩
      have hj2 : (j : Int) + 1 = (k : Int) := by omega
      have hjk : j < k := by omega
      clear ek
      obtain ⟨ps1, hperm, hp, hB, hko⟩ := hto
      have HKO := Lib.hid hko; clear hko
      have hN1 : N = ps1.length := by rw [HN.out]; exact hperm.length_eq.symm
      have hl1 : lns ps1 ≤ 1000000 := by rw [lns_perm hperm]; exact HL.out
      have hbw : base ≤ wr.heap.size := Nat.le_trans HB.out hB.size
      have hc := hp.ptr.cell 0
      simp only [List.getElem?_cons_zero] at hc
      have HN1 := Lib.hid hN1; have HL1 := Lib.hid hl1
      clear hN1 hl1
      have ml := m_Less hc
      have ms := m_Swap hc
      by_cases hkn : k < n
      · go_wp2_with fail
        refine (Less_N base g r cap N k j ps1 wr HN1.out hp (by omega) (by omega) HL1.out).mono ?_; rintro e w1 ⟨b1, rfl, q1⟩
        replace hp := hp.next (q1.below _)
        replace hB := hB.trans (q1.below _)
        replace HKO := Lib.hid (HKO.out.drawn q1)
        replace hbw : base ≤ w1.heap.size := Nat.le_trans HB.out hB.size
        clear ml ms hc
        have hc := hp.ptr.cell 0
        simp only [List.getElem?_cons_zero] at hc
        have ml := m_Less hc
        have ms := m_Swap hc
        clear q1
        cases b1
        · go_wp2_with fail
          refine (Less_N base g r cap N j i ps1 w1 HN1.out hp (by omega) (by omega) HL1.out).mono ?_; rintro e w2 ⟨b2, rfl, q2⟩
          replace hp := hp.next (q2.below _)
          replace hB := hB.trans (q2.below _)
          replace HKO := Lib.hid (HKO.out.drawn q2)
          replace hbw : base ≤ w2.heap.size := Nat.le_trans HB.out hB.size
          clear ml ms hc
          have hc := hp.ptr.cell 0
          simp only [List.getElem?_cons_zero] at hc
          have ml := m_Less hc
          have ms := m_Swap hc
          clear q2
          cases b2
          · have HT := Lib.hid (show HpTo w base g (.slice (some ⟨r, 0, none⟩) N cap) ps w2 from ⟨ps1, hperm, hp, hB, HKO.out⟩)
            clear ml ms hc hp hB hbw
            go_wp2
            go_ret
            exact ⟨_, rfl, HT.out⟩
          · go_wp2_with fail
            refine (Swap_N base g r cap N i j ps1 w2 HN1.out hp (by omega) (by omega) HR.out hbw).mono ?_; rintro e w3 ⟨rfl, hto3⟩
            have HT := Lib.hid (HpTo.trans hperm hB HKO.out hto3)
            clear ml ms hc hp hto3 hB hbw
            go_wp2
            go_roundw
            case rel => exact ⟨j, rfl, by omega, HT.out⟩
            case measure => simp [intOf] <;> omega
        · go_wp2_with fail
          refine (Less_N base g r cap N k i ps1 w1 HN1.out hp (by omega) (by omega) HL1.out).mono ?_; rintro e w2 ⟨b2, rfl, q2⟩
          replace hp := hp.next (q2.below _)
          replace hB := hB.trans (q2.below _)
          replace HKO := Lib.hid (HKO.out.drawn q2)
          replace hbw : base ≤ w2.heap.size := Nat.le_trans HB.out hB.size
          clear ml ms hc
          have hc := hp.ptr.cell 0
          simp only [List.getElem?_cons_zero] at hc
          have ml := m_Less hc
          have ms := m_Swap hc
          clear q2
          cases b2
          · have HT := Lib.hid (show HpTo w base g (.slice (some ⟨r, 0, none⟩) N cap) ps w2 from ⟨ps1, hperm, hp, hB, HKO.out⟩)
            clear ml ms hc hp hB hbw
            go_wp2
            go_ret
            exact ⟨_, rfl, HT.out⟩
          · go_wp2_with fail
            refine (Swap_N base g r cap N i k ps1 w2 HN1.out hp (by omega) (by omega) HR.out hbw).mono ?_; rintro e w3 ⟨rfl, hto3⟩
            have HT := Lib.hid (HpTo.trans hperm hB HKO.out hto3)
            clear ml ms hc hp hto3 hB hbw
            go_wp2
            go_roundw
            case rel => exact ⟨k, rfl, by omega, HT.out⟩
            case measure => simp [intOf] <;> omega
      · go_wp2_with fail
        refine (Less_N base g r cap N j i ps1 wr HN1.out hp (by omega) (by omega) HL1.out).mono ?_; rintro e w1 ⟨b1, rfl, q1⟩
        replace hp := hp.next (q1.below _)
        replace hB := hB.trans (q1.below _)
        replace HKO := Lib.hid (HKO.out.drawn q1)
        replace hbw : base ≤ w1.heap.size := Nat.le_trans HB.out hB.size
        clear ml ms hc
        have hc := hp.ptr.cell 0
        simp only [List.getElem?_cons_zero] at hc
        have ml := m_Less hc
        have ms := m_Swap hc
        clear q1
        cases b1
        · have HT := Lib.hid (show HpTo w base g (.slice (some ⟨r, 0, none⟩) N cap) ps w1 from ⟨ps1, hperm, hp, hB, HKO.out⟩)
          clear ml ms hc hp hB hbw
          go_wp2
          go_ret
          exact ⟨_, rfl, HT.out⟩
        · go_wp2_with fail
          refine (Swap_N base g r cap N i j ps1 w1 HN1.out hp (by omega) (by omega) HR.out hbw).mono ?_; rintro e w2 ⟨rfl, hto2⟩
          have HT := Lib.hid (HpTo.trans hperm hB HKO.out hto2)
          clear ml ms hc hp hto2 hB hbw
          go_wp2
          go_roundw
          case rel => exact ⟨j, rfl, by omega, HT.out⟩
          case measure => simp [intOf] <;> omega
    · have HT := Lib.hid hto
      clear hto
      go_wp2
      go_ret
      exact ⟨_, rfl, HT.out⟩
def RetUp (w : World) (base g : Nat) (fv : Value) (ps : List (Value × List Nat)) (e : Ending) (w' : World) : Prop := e = .returned (.tuple #[]) ∧ HpTo w base g fv ps w'
set_option maxHeartbeats 1000000 in
theorem up_any (base g r cap N j0 : Nat) (ps : List (Value × List Nat)) (w : World) (hN : N = ps.length) (h : Hp w base g (.slice (some ⟨r, 0, none⟩) N cap) ps) (hj0 : j0 < N) (hN2 : N ≤ 1000000) (hr : base ≤ r) (hb : base ≤ w.heap.size) (hl : lns ps ≤ 1000000) :
    Calls Try.prog 69 #[.iface 66 (.pointer (some ⟨g, 0, none⟩)), .int .i64 j0] w (RetUp w base g (.slice (some ⟨r, 0, none⟩) N cap) ps) := by
  have HN := Lib.hid hN; have HL := Lib.hid hl; have HB := Lib.hid hb; have HR := Lib.hid hr
  have H0 := Lib.hid h
  clear hN hl hb hr h
  go_enter Try.func69, Try.ntmps69
  go_wp2
  go_loopw [1] (fun iv wr => ∃ j : Nat, iv = .int .i64 j ∧ j < N ∧ HpTo w base g (.slice (some ⟨r, 0, none⟩) N cap) ps wr) (fun iv _ => (intOf iv).toNat)
  case atStart => exact ⟨j0, rfl, hj0, HpTo.refl H0.out⟩
  case round =>
    obtain ⟨j, rfl, hj, hto⟩ := hrel
    by_cases hz : j = 0
    · subst hz
      have HT := Lib.hid hto
      clear hto
      go_wp2
      go_end0
      exact ⟨rfl, HT.out⟩
    · obtain ⟨i, ei⟩ : ∃ i, i = (j - 1) / 2 := ⟨_, rfl⟩
      have hq : ((j : Int) - 1) / 2 = (i : Int) := by omega
      have hij : i < j := by omega
      have hne : ((i : Int) == (j : Int)) = false := by simp; omega
      have hj1 : 1 ≤ (j : Int) := by omega
      clear ei hz
      obtain ⟨ps1, hperm, hp, hB, hko⟩ := hto
      have HKO := Lib.hid hko; clear hko
      have hN1 : N = ps1.length := by rw [HN.out]; exact hperm.length_eq.symm
      have hl1 : lns ps1 ≤ 1000000 := by rw [lns_perm hperm]; exact HL.out
      have hbw : base ≤ wr.heap.size := Nat.le_trans HB.out hB.size
      have hc := hp.ptr.cell 0
      simp only [List.getElem?_cons_zero] at hc
      have HN1 := Lib.hid hN1; have HL1 := Lib.hid hl1
      clear hN1 hl1
      have ml := m_Less hc
      have ms := m_Swap hc
      go_wp2_with fail
      refine (Less_N base g r cap N j i ps1 wr HN1.out hp (by omega) (by omega) HL1.out).mono ?_; rintro e w1 ⟨b1, rfl, q1⟩
      replace hp := hp.next (q1.below _)
      replace hB := hB.trans (q1.below _)
      replace HKO := Lib.hid (HKO.out.drawn q1)
      replace hbw : base ≤ w1.heap.size := Nat.le_trans HB.out hB.size
      clear ml ms hc
      have hc := hp.ptr.cell 0
      simp only [List.getElem?_cons_zero] at hc
      have ml := m_Less hc
      have ms := m_Swap hc
      clear q1
      cases b1
      · have HT := Lib.hid (show HpTo w base g (.slice (some ⟨r, 0, none⟩) N cap) ps w1 from ⟨ps1, hperm, hp, hB, HKO.out⟩)
        clear ml ms hc hp hB hbw
        go_wp2
        go_end0
        exact ⟨rfl, HT.out⟩
      · go_wp2_with fail
        refine (Swap_N base g r cap N i j ps1 w1 HN1.out hp (by omega) (by omega) HR.out hbw).mono ?_; rintro e w2 ⟨rfl, hto2⟩
        have HT := Lib.hid (HpTo.trans hperm hB HKO.out hto2)
        clear ml ms hc hp hto2 hB hbw
        go_wp2
        go_roundw
        case rel => exact ⟨i, rfl, by omega, HT.out⟩
        case measure => simp [intOf] <;> omega
end Go.Proofs.Ytnnidjhhcnmnnaa
