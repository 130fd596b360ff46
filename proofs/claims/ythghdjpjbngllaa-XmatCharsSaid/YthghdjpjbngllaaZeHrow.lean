/- hess: the rows of a matrix, and back. -/
import Derived.Test.YthghdjpjbngllaaZeReduced
namespace Go.Proofs.Ythghdjpjbngllaa
open Go.RowKit

section
variable {α : Type} {V : World → Value → α → Prop} {e er : TypeId}
/-- One row more, that lies apart from the others. -/
theorem Rws.pushA {w2 w3 : World} {base n N : Nat} {rv rv' v : Value} {vs : List Value} {W : Nat → Nat → α} (h : Rws V e er w2 base rv vs n N W) (hne : er ≠ e)
    (hr : RowAt V e w2 base N v (W n)) (hap : ∀ (i : Nat) (x : Value), vs[i]? = some x → Apart N x v) (hg : w2.grownBy w3 rv.ownBlock) (ho : w3.ownsRow base er 1 rv' (n + 1) (vs ++ [v])) (hV' : ∀ u x, V w2 u x → V w3 u x) :
    Rws V e er w3 base rv' (vs ++ [v]) (n + 1) N W := by
  have hk : ∀ b cur, w2.heap[b]? = some (.cells cur e (0, 0)) → rv.ownBlock ≠ some b := fun b cur hb => rowOwn_ne h.own hb hne
  have hget : ∀ (i : Nat) (x : Value), (vs ++ [v])[i]? = some x → (vs[i]? = some x ∧ i < n) ∨ (i = n ∧ x = v) := by
    intro i x hx
    by_cases hi : i < n
    · rw [List.getElem?_append_left (by rw [h.len]; exact hi)] at hx; exact .inl ⟨hx, hi⟩
    · rw [List.getElem?_append_right (by rw [h.len]; omega), h.len] at hx
      have : i = n := by
        have := (List.getElem?_eq_some_iff.1 hx).1
        simp at this; omega
      subst this
      simp at hx; exact .inr ⟨rfl, hx.symm⟩
  refine ⟨by rw [List.length_append, h.len]; rfl, ho, fun i x hx => ?_, fun i j x y hij hx hy => ?_⟩
  · rcases hget i x hx with ⟨h1, _⟩ | ⟨rfl, rfl⟩
    · exact (h.row i x h1).kept hg hV' hk
    · exact hr.kept hg hV' hk
  · rcases hget i x hx with ⟨h1, _⟩ | ⟨rfl, rfl⟩
    · rcases hget j y hy with ⟨k1, _⟩ | ⟨rfl, rfl⟩
      · exact h.sep i j x y hij h1 k1
      · exact hap i x h1
    · rcases hget j y hy with ⟨k1, _⟩ | ⟨rfl, rfl⟩
      · exact (hap j y k1).symm
      · exact absurd rfl hij
end

/-- A window of a matrix' words. -/
theorem RowAt.window {p : Nat} {w : World} {base n i g k : Nat} {M : MT (Zp p) n n} (h : Own .u64 27 w base (.slice (some ⟨g, 0, none⟩) (tbv M).length k) (tbv M)) (hi : i < n) : RowAt (VZ p) 27 w base n (.slice (some ⟨g, i * n, none⟩) n (k - i * n)) (M.e i) := by
  have hl := tbv_length M
  rcases h.2 with ⟨h1, h0⟩ | ⟨g', cap, cur, h1, hb, hg, hn, hm, hs, ht⟩
  · simp at h1
  · simp only [Value.slice.injEq, Option.some.injEq, Addr.mk.injEq, and_true, true_and] at h1
    obtain ⟨rfl, rfl⟩ := h1
    have hle : i * n + n ≤ n * n := by
      have := Nat.mul_le_mul_right n hi
      rw [Nat.succ_mul] at this; exact this
    refine ⟨_, _, g, i * n, cur, rfl, by omega, fun _ => ⟨rfl, hb, hg, fun c hc => ⟨.int .u64 ((M.e i c).val : Nat), ?_, rfl⟩⟩⟩
    have hlt : i * n + c < (tbv M).length := by omega
    have h2 := vs_get .u64 (tbv M) (i * n + c) hlt
    rw [← ht, List.getElem?_take, if_pos (by omega)] at h2
    rw [← Array.getElem?_toList, h2, tbv_get M hi hc]

/-- Rows are returned. -/
def RetRows (p : Nat) (w : World) (n : Nat) (W : Nat → Nat → Zp p) (e : Ending) (w' : World) : Prop :=
  ∃ rv vs, e = .returned rv ∧ Rws (VZ p) 27 32 w' w.heap.size rv vs n n W ∧ Below w.heap.size w w'
/-- Where the loop of rowsOf stands. -/
def RoR (p : Nat) (w wr : World) (n base g : Nat) (ao : Option Addr) (k : Nat) (M : MT (Zp p) n n) (rv : Value) (i : Nat) : Prop :=
  ∃ vs, Rws (VZ p) 27 32 wr base rv vs i n M.e ∧ (∀ (j : Nat) (x : Value), vs[j]? = some x → ∃ b c, ao = some ⟨b, 0, none⟩ ∧ x = .slice (some ⟨b, j * n, none⟩) n c) ∧
    Blk 42 wr g [.int .i64 n, .int .i64 n, .slice ao (tbv M).length k] ∧ Own .u64 27 wr base (.slice ao (tbv M).length k) (tbv M) ∧ Below w.heap.size w wr
theorem win_apart {n i j b c c' : Nat} (hij : i < j) : Apart n (.slice (some ⟨b, i * n, none⟩) n c) (.slice (some ⟨b, j * n, none⟩) n c') := by
  intro b1 o1 c1 b2 o2 c2 e1 e2 k l hk hl hh
  simp only [Value.slice.injEq, Option.some.injEq, Addr.mk.injEq, and_true, true_and] at e1 e2
  have h1 := e1.1.2; have h2 := e2.1.2
  have : (i + 1) * n ≤ j * n := Nat.mul_le_mul_right _ hij
  rw [Nat.succ_mul] at this
  omega
set_option maxRecDepth 20000 in
set_option maxHeartbeats 1000000 in
theorem hs_rowsOf (p : Nat) (a : Value) (n : Nat) (xs : List Nat) (w : World) (hp : FP p) (hA : Fm w a n n xs) (hn : n ≤ 64) (hx : xs.length = n * n) :
    Calls Try.prog 145 #[.agg #[.int .u64 p], a] w (RetRows p w n (mx p n n xs).e) := by
  obtain ⟨aA, cA, rfl⟩ := hA.agg
  obtain ⟨wb, ew, KF, KA, B0, hsz⟩ := boxes2 w 29 42 [.int .u64 p] [.int .i64 n, .int .i64 n, .slice aA xs.length cA]
  clear hsz
  have HP := Lib.hid hp; clear hp
  replace hA := hA.next B0
  have HX := Lib.hid hx; clear hx
  obtain ⟨M, eM⟩ : ∃ M, M = mx p n n xs := ⟨_, rfl⟩
  rw [← eM]
  have EM := Lib.hid eM; clear eM
  go_enter Try.func145, Try.ntmps145
  go_upto_region 1 with (fail)
  rw [← ew]
  obtain ⟨g0, eg0⟩ : ∃ g, g = w.heap.size := ⟨_, rfl⟩
  rw [← eg0] at KF KA ⊢
  have HG0 := Lib.hid (show w.heap.size ≤ wb.heap.size by have := B0.size; omega)
  clear ew eg0
  have f0 := KF.cell 0; have f1 := KA.cell 0; have f2 := KA.cell 1; have f3 := KA.cell 2
  go_wp2_with fail
  refine (fm_Norm p _ n n xs _ HP.out hA hn hn HX.out).mono ?_; rintro e w2 ⟨ao, k, rfl, o2, b2⟩
  clear f0 f1 f2 f3 KF KA hA
  rw [← EM.out] at o2 ⊢
  have HL := Lib.hid (tbv_length M)
  obtain ⟨wc, ewc, KM, B2, hs2⟩ := boxes1 w2 42 [.int .i64 n, .int .i64 n, .slice ao (tbv M).length k]
  clear hs2
  have hwb : wb.heap.size ≤ w2.heap.size := b2.size
  replace B0 := B0.trans ((b2.trans (B2.mono b2.size)).mono B0.size)
  replace o2 := (o2.next B2).mono HG0.out
  go_upto_region 3 with (fail)
  rw [← ewc]
  obtain ⟨g, eg⟩ : ∃ g, g = w2.heap.size := ⟨_, rfl⟩
  rw [← eg] at KM ⊢
  clear ewc
  have st : RoR p w wc n w.heap.size g ao k M (.slice none 0 0) 0 := ⟨[], Rws.nil _ _ _ _, fun j x h => by simp at h, KM, o2, B0⟩
  have hgw : w.heap.size ≤ g := by rw [eg]; exact Nat.le_trans HG0.out hwb
  have q0 := KM.cell 0
  clear KM o2 B0 B2 b2 eg hwb
  go_wp2
  clear q0
  go_loopw [17, 7] (fun iv rv wr => ∃ i : Nat, i ≤ n ∧ iv = .int .i64 i ∧ RoR p w wr n w.heap.size g ao k M rv i) (fun iv _ _ => n - (intOf iv).toNat)
  case atStart => exact ⟨0, by omega, rfl, st⟩
  case round =>
    clear st wc
    obtain ⟨i, hi, rfl, vs, RW, HW, KM, ho, B0⟩ := hrel
    by_cases hin : i < n
    · obtain ⟨lo, elo⟩ : ∃ lo, lo = i * n := ⟨_, rfl⟩
      obtain ⟨hh, ehh⟩ : ∃ hh, hh = (i + 1) * n := ⟨_, rfl⟩
      have hle : hh ≤ n * n := by rw [ehh]; exact Nat.mul_le_mul_right n hin
      have hlh : hh = lo + n := by rw [ehh, elo, Nat.succ_mul]
      have hnn : n * n ≤ 64 * 64 := Nat.mul_le_mul hn hn
      obtain ⟨b, rfl⟩ : ∃ b, ao = some ⟨b, 0, none⟩ := by
        rcases ho.shape with ⟨_, h0⟩ | ⟨b, cap, e, -⟩
        · have := congrArg List.length h0
          rw [HL.out] at this
          have := Nat.mul_pos (show 0 < n by omega) (show 0 < n by omega)
          simp at *; omega
        · simp only [Value.slice.injEq] at e
          exact ⟨b, e.1⟩
      have hk : (tbv M).length ≤ k := by
        rcases ho.shape with ⟨h0, _⟩ | ⟨b', cap, e, _, _, h0, _⟩
        · simp at h0
        · simp only [Value.slice.injEq] at e; rw [e.2.2]; exact h0
      have s1 : IntKind.i64.wrap ((i : Int) * (n : Int)) = (lo : Int) := by rw [elo, ← Int.natCast_mul]; exact IntWalk.i64_in _ ⟨by omega, by omega⟩
      have s2 : IntKind.i64.wrap (((i : Int) + 1) * (n : Int)) = (hh : Int) := by
        rw [ehh, show (i : Int) + 1 = ((i + 1 : Nat) : Int) by omega, ← Int.natCast_mul]; exact IntWalk.i64_in _ ⟨by omega, by omega⟩
      have q0 := KM.cell 0; have q1 := KM.cell 1; have q2 := KM.cell 2
      have HLO := Lib.hid elo; have HLH := Lib.hid hlh
      clear elo ehh hlh
      have hlk : lo ≤ hh := by have := HLH.out; omega
      have hhl : hh ≤ (tbv M).length := by rw [HL.out]; exact hle
      have hlk2 : hh ≤ k := by omega
      have hlk3 : lo < k := by have := HLH.out; omega
      have hbs : w.heap.size ≤ wr.heap.size := B0.size
      have hrl := Lib.hid RW.len
      go_wp2_with (at_builtin; refine apVl 99 32 24 (.slice none 0 0) Try.underlying99 (by kernel_rfl) (by decide) rfl rfl _ _ rfl wr w.heap.size _ i vs _ rfl RW.own (by omega) hbs rfl rfl ?_; intro g2 cap2 w4 ho4 hb4 hg4 _)
      have e1 : hh - lo = n := by have := HLH.out; omega
      rw [e1] at ho4
      have hwin := RowAt.window ho hin
      rw [← HLO.out] at hwin
      have R4 := RW.pushA (by decide) hwin (fun j x hx => by
        obtain ⟨b', c', e2, e3⟩ := HW j x hx
        simp only [Option.some.injEq, Addr.mk.injEq, and_true] at e2
        subst e2 e3
        rw [HLO.out]
        exact win_apart (by have := (List.getElem?_eq_some_iff.1 hx).1; have := hrl.out; omega)) hg4 ho4 (fun _ _ h => h)
      have K4 := KM.kept hg4 (fun e => by
        rcases RW.own.2 with ⟨h1, _⟩ | ⟨gr, cap, cur, h1, _, h2, _⟩
        · rw [h1] at e; simp [Value.ownBlock] at e
        · exact rowOwn_ne RW.own (show wr.heap[g]? = some (.cells _ 42 (0, 0)) from KM) (by decide) e)
      have o4 := World.ownsRow.kept ho hg4 (by
        right
        intro e
        rcases ho.2 with ⟨h1, _⟩ | ⟨gr, cap, cur, h1, _, h2, _⟩
        · simp at h1
        · rw [h1] at e; exact rowOwn_ne RW.own h2 (by decide) e.symm)
      have st := Lib.hid (show RoR p w w4 n w.heap.size g (some ⟨b, 0, none⟩) k M (.slice (some ⟨g2, 0, none⟩) (i + 1) cap2) (i + 1) from ⟨_, R4, fun j x hx => by
        by_cases hji : j < i
        · rw [List.getElem?_append_left (by have := hrl.out; omega)] at hx; exact HW j x hx
        · have hj : j = i := by
            have := (List.getElem?_eq_some_iff.1 hx).1
            have := hrl.out
            simp at *; omega
          subst hj
          rw [List.getElem?_append_right (by have := hrl.out; omega), hrl.out] at hx
          simp at hx
          exact ⟨b, _, rfl, by rw [← hx, HLO.out]⟩, K4, o4, B0.trans hb4⟩)
      clear RW HW KM ho B0 ho4 hb4 hg4 hwin R4 K4 o4 q0 q1 q2 s1 s2 e1
      go_roundw
      case rel => exact ⟨i + 1, by omega, by go_num, st.out⟩
      case measure => simp [intOf] <;> omega
    · obtain rfl : i = n := by omega
      have RW := Lib.hid RW; have B0 := Lib.hid B0
      clear KM ho HW
      go_wp2
      go_ret
      exact ⟨_, vs, rfl, RW.out, B0.out⟩

end Go.Proofs.Ythghdjpjbngllaa
