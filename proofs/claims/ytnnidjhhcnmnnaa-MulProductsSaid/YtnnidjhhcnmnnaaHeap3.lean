/- Package container/heap over package mul's factors: Init, Push, Pop; take. -/
import Derived.Test.YtnnidjhhcnmnnaaHeap2
namespace Go.Proofs.Ytnnidjhhcnmnnaa
open Go.RowKit

def RetIn (w : World) (base g : Nat) (ps : List (Value × List Nat)) (e : Ending) (w' : World) : Prop := e = .returned (.tuple #[]) ∧ ∃ fv, HpTo w base g fv ps w'
set_option maxHeartbeats 1000000 in
theorem Init_any (base g : Nat) (fv : Value) (ps : List (Value × List Nat)) (w : World) (h : Hp w base g fv ps) (hN2 : ps.length ≤ 1000000) (hb : base ≤ w.heap.size) (hl : lns ps ≤ 1000000) :
    Calls Try.prog 61 #[.iface 66 (.pointer (some ⟨g, 0, none⟩))] w (RetIn w base g ps) := by
  obtain ⟨ao, cap, rfl⟩ := h.slc
  have hc := h.ptr.cell 0
  simp only [List.getElem?_cons_zero] at hc
  have H0 := Lib.hid h
  obtain ⟨N, eN⟩ : ∃ N, N = ps.length := ⟨_, rfl⟩
  rw [← eN] at hc hN2
  have HN := Lib.hid eN
  have HL := Lib.hid hl; have HB := Lib.hid hb
  have ml := m_Len hc
  have hN0 : (0 : Int) ≤ (N : Int) := Int.natCast_nonneg _
  by_cases hz : N = 0
  · subst hz
    clear h eN hl hb
    go_enter Try.func61, Try.ntmps61
    go_wp2_with fail
    refine (Len_any ao 0 cap _).mono ?_; rintro e w1 ⟨rfl, rfl⟩
    clear ml hc
    go_wp2
    go_loopw [3] (fun iv wr => iv = .int .i64 (-1) ∧ w = wr) (fun _ _ => 0)
    case atStart => exact ⟨rfl, rfl⟩
    case round =>
      obtain ⟨rfl, rfl⟩ := hrel
      go_wp2
      go_end0
      exact ⟨rfl, _, HpTo.refl H0.out⟩
  · obtain ⟨r, cap', e1, hr, -⟩ := h.form (by omega)
    simp only [Value.slice.injEq] at e1
    obtain ⟨rfl, -, rfl⟩ := e1
    have HR := Lib.hid hr
    have H1 := H0.out
    rw [← eN] at H1
    have H2 := Lib.hid H1
    clear h eN hl hb hr H1
    go_enter Try.func61, Try.ntmps61
    go_wp2_with fail
    refine (Len_any (some ⟨r, 0, none⟩) N cap _).mono ?_; rintro e w1 ⟨rfl, rfl⟩
    clear ml hc
    go_wp2
    go_loopw [3] (fun iv wr => ∃ k : Int, iv = .int .i64 k ∧ -1 ≤ k ∧ k < N ∧ HpTo w base g (.slice (some ⟨r, 0, none⟩) N cap) ps wr) (fun iv _ => (intOf iv + 1).toNat)
    case atStart => exact ⟨_, rfl, by omega, by omega, HpTo.refl H2.out⟩
    case round =>
      obtain ⟨k, rfl, hk1, hk2, hto⟩ := hrel
      by_cases hk : 0 ≤ k
      · obtain ⟨i, rfl⟩ := Int.eq_ofNat_of_zero_le hk
        have hi : i < N := by omega
        obtain ⟨ps1, hperm, hp, hB, hko⟩ := hto
        have HKO := Lib.hid hko; clear hko
        have hN1 : N = ps1.length := by rw [HN.out]; exact hperm.length_eq.symm
        have hl1 : lns ps1 ≤ 1000000 := by rw [lns_perm hperm]; exact HL.out
        have hbw : base ≤ wr.heap.size := Nat.le_trans HB.out hB.size
        have HN1 := Lib.hid hN1; have HL1 := Lib.hid hl1
        clear hN1 hl1
        go_wp2_with fail
        refine (down_any base g r cap N i N ps1 wr HN1.out hp hi (Nat.le_refl _) hN2 HR.out hbw HL1.out).mono ?_; rintro e w1 ⟨b, rfl, hto⟩
        have HT := Lib.hid (HpTo.trans hperm hB HKO.out hto)
        clear hto hp hB hbw
        go_wp2
        go_roundw
        case rel => exact ⟨(i : Int) - 1, rfl, by omega, by omega, HT.out⟩
        case measure => simp [intOf] <;> omega
      · have HT := Lib.hid hto
        clear hto
        go_wp2
        go_end0
        exact ⟨rfl, _, HT.out⟩

def RetHP (w : World) (base g : Nat) (ps : List (Value × List Nat)) (e : Ending) (w' : World) : Prop := e = .returned (.tuple #[]) ∧ ∃ fv ps', ps'.Perm ps ∧ Hp w' base g fv ps' ∧ Below base w w'
set_option maxHeartbeats 1000000 in
theorem HPush_any (base g : Nat) (fv v : Value) (zs : List Nat) (ps : List (Value × List Nat)) (w : World) (h : Hp w base g fv ps) (hv : Own .u64 32 w base v zs) (hz : Nrm W64 zs) (hg : base ≤ g) (hb : base ≤ w.heap.size) (hN2 : ps.length ≤ 100000) (hl : lns ps + zs.length ≤ 1000000) :
    Calls Try.prog 64 #[.iface 66 (.pointer (some ⟨g, 0, none⟩)), .iface 23 v] w (RetHP w base g (ps ++ [(v, zs)])) := by
  have HB := Lib.hid hb; have HL := Lib.hid hl
  have mp := fun w => m_Push ⟨g, 0, none⟩ w
  go_enter Try.func64, Try.ntmps64
  go_wp2_with fail
  refine (Push_any base g fv v zs ps _ h hv hz hg hb (by omega)).mono ?_; rintro e w1 ⟨rfl, fv1, hp, hB⟩
  have hbw : base ≤ w1.heap.size := Nat.le_trans HB.out hB.size
  obtain ⟨N, eN⟩ : ∃ N, N = (ps ++ [(v, zs)]).length := ⟨_, rfl⟩
  have hN : N = ps.length + 1 := by rw [eN]; simp
  obtain ⟨r, cap, rfl, hr, -⟩ := hp.form (by rw [← eN]; omega)
  have HLA := Lib.hid (show lns (ps ++ [(v, zs)]) ≤ 1000000 by rw [lns_append]; simpa [lns] using HL.out)
  rw [← eN] at hp
  have hc := hp.ptr.cell 0
  simp only [List.getElem?_cons_zero] at hc
  have ml := m_Len hc
  obtain ⟨m, em⟩ : ∃ m, m = ps.length := ⟨_, rfl⟩
  have hNm : (N : Int) - 1 = (m : Int) := by omega
  have hmN : m < N := by omega
  have hN1 : (1 : Int) ≤ (N : Int) := by omega
  have HEN := Lib.hid eN; have HR := Lib.hid hr
  have hN3 : N ≤ 1000000 := by omega
  clear eN hN em hr mp hl hb h hv
  go_wp2_with fail
  refine (Len_any (some ⟨r, 0, none⟩) N cap _).mono ?_; rintro e w2 ⟨rfl, rfl⟩
  clear ml hc
  go_wp2_with fail
  refine (up_any base g r cap N m _ w1 HEN.out hp hmN hN3 HR.out hbw HLA.out).mono ?_; rintro e w2 ⟨rfl, ps2, hperm2, hp2, hB2, -⟩
  have HB2 := Lib.hid (hB.trans hB2)
  have HP2 := Lib.hid hp2
  clear hp hB hbw hp2 hB2
  go_wp2
  go_end0
  exact ⟨rfl, _, ps2, hperm2, HP2.out, HB2.out⟩

/-- One number is taken out. -/
def Out (w : World) (base g : Nat) (ps : List (Value × List Nat)) (x : Value × List Nat) (w' : World) : Prop := ∃ ps' fv, (x :: ps').Perm ps ∧ Own .u64 32 w' base x.1 x.2 ∧ Nrm W64 x.2 ∧ Hp w' base g fv ps' ∧ Below base w w' ∧ KO base w w'
def RetHO (w : World) (base g : Nat) (ps : List (Value × List Nat)) (e : Ending) (w' : World) : Prop := ∃ x, e = .returned (.iface 23 x.1) ∧ Out w base g ps x w'
set_option maxHeartbeats 1000000 in
theorem HPop_any (base g m : Nat) (fv : Value) (ps : List (Value × List Nat)) (w : World) (h : Hp w base g fv ps) (hm : ps.length = m + 1) (hg : base ≤ g) (hb : base ≤ w.heap.size) (hN2 : ps.length ≤ 1000000) (hl : lns ps ≤ 1000000) :
    Calls Try.prog 68 #[.iface 66 (.pointer (some ⟨g, 0, none⟩))] w (RetHO w base g ps) := by
  obtain ⟨r, cap, rfl, hr, -⟩ := h.form (by omega)
  obtain ⟨N, eN⟩ : ∃ N, N = ps.length := ⟨_, rfl⟩
  rw [← eN] at h hN2 hm
  have hc := h.ptr.cell 0
  simp only [List.getElem?_cons_zero] at hc
  have hNm : (N : Int) - 1 = (m : Int) := by omega
  have hmN : m < N := by omega
  have h0N : 0 < N := by omega
  have hN1 : (1 : Int) ≤ (N : Int) := by omega
  have HM := Lib.hid hm
  have ml := m_Len hc
  have ms := m_Swap hc
  have HEN := Lib.hid eN; have HR := Lib.hid hr; have HB := Lib.hid hb; have HL := Lib.hid hl
  have hmn : m ≤ N := by omega
  clear hm eN hr hb hl
  go_enter Try.func68, Try.ntmps68
  go_wp2_with fail
  refine (Len_any (some ⟨r, 0, none⟩) N cap _).mono ?_; rintro e w2 ⟨rfl, rfl⟩
  go_wp2_with fail
  refine (Swap_N base g r cap N 0 m ps w HEN.out h h0N hmN HR.out HB.out).mono ?_; rintro e w1 ⟨rfl, ps1, hperm, hp, hB, hko1⟩
  clear ml ms hc h
  have hbw : base ≤ w1.heap.size := Nat.le_trans HB.out hB.size
  have HN1 := Lib.hid (show N = ps1.length by rw [HEN.out]; exact hperm.length_eq.symm)
  have HL1 := Lib.hid (show lns ps1 ≤ 1000000 by rw [lns_perm hperm]; exact HL.out)
  go_wp2_with fail
  refine (down_any base g r cap N 0 m ps1 w1 HN1.out hp h0N hmn hN2 HR.out hbw HL1.out).mono ?_; rintro e w2 ⟨b, rfl, ps2, hperm2, hp2, hB2, hko2⟩
  have HKO := Lib.hid (hko1.trans hko2)
  clear hp hko1 hko2
  have HB2 := Lib.hid (hB.trans hB2)
  have HP2 := Lib.hid (hperm2.trans hperm)
  have hl2 : ps2.length = m + 1 := by rw [hperm2.length_eq, ← HN1.out]; exact HM.out
  obtain ⟨x, hx⟩ : ∃ x, ps2[m]? = some x := ⟨_, List.getElem?_eq_getElem (by omega)⟩
  have HX := Lib.hid (show (x :: ps2.take m).Perm ps by
    refine List.Perm.trans ?_ HP2.out
    have e : ps2 = ps2.take m ++ [x] := by
      have h1 := List.take_append_drop m ps2
      have h2 : ps2.drop m = [x] := by
        rw [List.drop_eq_getElem_cons (by omega), List.drop_eq_nil_of_le (by omega)]
        rw [List.getElem?_eq_getElem (by omega)] at hx
        rw [Option.some.inj hx]
      rw [h2] at h1; exact h1.symm
    rw [show (x :: ps2.take m).Perm ps2 ↔ (x :: ps2.take m).Perm (ps2.take m ++ [x]) by rw [← e]]
    exact (List.perm_append_singleton x _).symm)
  have HNR := Lib.hid (hp2.each x (List.mem_of_getElem? hx)).2
  have mp := fun w => m_Pop ⟨g, 0, none⟩ w
  clear hperm hperm2 hB hB2 hbw
  go_wp2_with fail
  refine (Pop_any base g m _ ps2 x w2 hp2 hl2 hx hg).mono ?_; rintro e w3 ⟨rfl, ho, hko3, fv3, hp3, hB3⟩
  have HF := Lib.hid (show Out w base g ps x w3 from ⟨_, fv3, HX.out, ho, HNR.out, hp3, HB2.out.trans hB3, HKO.out.trans hko3⟩)
  clear ho hko3 hp3 hB3 hp2 hl2 hx mp
  go_wp2
  go_ret
  exact ⟨x, rfl, HF.out⟩

def RetTk (w : World) (base g : Nat) (ps : List (Value × List Nat)) (e : Ending) (w' : World) : Prop := ∃ x, e = .returned x.1 ∧ Out w base g ps x w'
set_option maxHeartbeats 1000000 in
theorem take_any (base g m : Nat) (fv : Value) (ps : List (Value × List Nat)) (w : World) (h : Hp w base g fv ps) (hm : ps.length = m + 1) (hg : base ≤ g) (hb : base ≤ w.heap.size) (hN2 : ps.length ≤ 1000000) (hl : lns ps ≤ 1000000) :
    Calls Try.prog 62 #[.pointer (some ⟨g, 0, none⟩)] w (RetTk w base g ps) := by
  have HM := Lib.hid hm; clear hm
  go_enter Try.func62, Try.ntmps62
  go_wp2_with fail
  refine (HPop_any base g m fv ps w h HM.out hg hb hN2 hl).mono ?_; rintro e w1 ⟨⟨v, zs⟩, rfl, hout⟩
  obtain ⟨ao, k, rfl⟩ : ∃ ao k, v = .slice ao zs.length k := by obtain ⟨_, _, _, ho, _⟩ := hout; exact ho.slc
  have HF := Lib.hid hout
  have ta := fun w => assert_nat ao zs.length k w
  clear hout h
  go_wp2
  go_ret
  exact ⟨_, rfl, HF.out⟩
end Go.Proofs.Ytnnidjhhcnmnnaa
