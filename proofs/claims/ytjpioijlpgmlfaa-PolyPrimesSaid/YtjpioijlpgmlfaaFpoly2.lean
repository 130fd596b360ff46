/- Package fpoly: Derive. -/
import Derived.Test.YtjpioijlpgmlfaaFpoly
namespace Go.Proofs.Ytjpioijlpgmlfaa
open Go.RowKit

/-- 'out = append(out, y)' as one step of a region that draws, behind a call that makes memory: y has just been laid in a block of its own. -/
theorem step_app2 {P : Program} {ops : Array Oper} {o : Oper} {a : Act} {K : Act → World → Prop} {Q : Exit → Act → World → Prop} {E : Prop} (k : IntKind) (T e bytes : Nat)
    (hu : P.underlying T = some (.slice e)) (hi : (P.info? e).map (fun i => (i.zero, i.size, i.bytes)) = some (some (.int k 0), 1, bytes)) (hby : bytes ≤ 8)
    (hgd : o.guard = none) (s x : Operand) (ho : o.op = .call { callee := .builtin .append, args := #[s, x], argTypes := #[T, T] })
    (w : World) (base : Nat) (v : Value) (xs : List Nat) (y : Nat) (yv : Int) (hy : yv = y) (hown : Own k e w base v xs) (hlen : xs.length ≤ 1000000000) (hbase : base ≤ w.heap.size)
    (hs : a.eval s = v) (hx : a.eval x = .slice (some ⟨w.heap.size, 0, none⟩) 1 1)
    (h : ∀ (g cap : Nat) (w' : World), Own k e w' base (.slice (some ⟨g, 0, none⟩) (xs.length + 1) cap) (xs ++ [y]) → Below base w w' → K (a.put o.dst (.slice (some ⟨g, 0, none⟩) (xs.length + 1) cap)) w') :
    if Go.Region.wanted o (Go.yielded ops a.tmps) = true then Go.Oper.wp P o a (w.alloc (.cells #[.int k yv] e)) K Q else E := by
  subst hy
  obtain ⟨i0, h1, h2, h3, h4⟩ := info_parts hi
  refine step_append_lies _ hgd s x T ho base e i0 (.int k 0) 1 bytes hu h1 h2 h3 h4 rfl (by decide) v xs.length (vs k xs) hs (World.ownsRow.alloc hown _) ⟨w.heap.size, 0, none⟩ 1 1 (vs k [y]) hx rfl ?_ ?_ (by decide) ?_ ?_ ?_ (w.heap.size + 1) ?_ ?_
  · intro j u hj
    match j, hj with
    | 0, hj => simp [vs] at hj; subst hj; simp [Addr.add]
  · intro u hu; simp [vs] at hu; subst hu; rfl
  · unfold maxLen; omega
  · have : (xs.length + 1) * bytes ≤ (xs.length + 1) * 8 := Nat.mul_le_mul_left _ hby
    omega
  · simp; omega
  · simp
  · intro g cap w' h1 h2 _ _
    have hg : w.grownBy w' v.ownBlock := by
      have e0 := World.grownBy_alloc w (.cells #[.int k (y : Int)] e) v.ownBlock
      exact ⟨h2.os.trans e0.os, h2.tape.trans e0.tape, h2.output.trans e0.output, Nat.le_trans e0.size h2.size, fun i hi hne => (h2.block i (Nat.lt_of_lt_of_le hi e0.size) hne).trans (e0.block i hi hne)⟩
    refine h g cap w' ?_ (below_grown hg hbase hown.block_ge)
    unfold Own; rw [vs_append, List.length_append]; exact h1


theorem pl_take_all (p : Nat) (xs : List Nat) (i : Nat) (h : xs.length ≤ i) : pl p (xs.take i) = pl p xs := by
  rw [List.take_of_length_le h]

theorem der_arith {p j z x : Nat} {xs zs : List Nat} (hl : zs.length + 1 = j) (hv : pl p zs = (pl p (xs.take j)).der) (hx : x = xs.getD j 0) (hz : Zp.of p z = Zp.of p x * Zp.of p j) :
    pl p (zs ++ [z]) = (pl p (xs.take (j + 1))).der := by
  rw [pl_take_succ, der_add, ← hv, pl_snoc, hz, ← hl, der_mon, Zp.nn_of, hl, ← hx, CR.mul_comm (Zp.of p x)]

theorem cell_alloc (w : World) (o : Obj) (p : Addr) (h : p.block < w.heap.size) : (w.alloc o).cell? p = w.cell? p :=
  ((Below.refl w.heap.size w).alloc (Nat.le_refl _) o).cell h
theorem Box.alloc {w w1 : World} {g : Nat} (h : Box w w1 g) (o : Obj) : Box w (w1.alloc o) g :=
  h.next ((Below.refl _ _).alloc (Nat.le_refl _) o)
theorem Box.far {w w1 w2 : World} {g : Nat} (h : Box w w1 g) (hg : w.heap.size ≤ g) (b : Below (g + 1) w1 w2) : Box w w2 g :=
  ⟨Nat.lt_of_lt_of_le h.lt b.size, h.below.trans (b.mono (by omega))⟩

theorem der_start (p : Nat) (xs : List Nat) : (pl p (xs.take 1)).der = 0 := by
  rw [show (1 : Nat) = 0 + 1 from rfl, pl_take_succ, der_add, der_mon0, List.take_zero, pl_nil, der_zero, CR.zero_add]

set_option maxHeartbeats 1000000 in
theorem fp_Derive (p : Nat) (v : Value) (xs : List Nat) (w : World) (hp : FP p) (hv : Sl .u64 w v xs) (hm : xs.length ≤ 1000000) :
    Calls Try.prog 13 #[.agg #[.int .u64 p], v] w (RetP p w xs.length (pl p xs).der) := by
  obtain ⟨ao, b, off, cap, rfl, hl, hcs⟩ := hv
  have B : Below w.heap.size w (w.alloc (.cells #[.int .u64 p] 28)) := (Below.refl _ _).alloc (Nat.le_refl _) _
  have hcp : (w.alloc (.cells #[.int .u64 p] 28)).cell? ⟨w.heap.size, 0, none⟩ = some (.int .u64 p) := (World.ownsRow_lit w #[.int .u64 p] 1 (Nat.le_refl _) (by unfold maxLen; omega) rfl : Own .u64 28 (w.alloc (.cells #[.int .u64 p] 28)) w.heap.size (.slice (some ⟨w.heap.size, 0, none⟩) 1 1) [p]).cellAt 0 (by simp)
  have hg : w.heap.size < (w.alloc (.cells #[.int .u64 p] 28)).heap.size := by simp
  have HP := Lib.hid hp; clear hp
  go_enter Try.func13, Try.ntmps13
  go_wp2_with fail
  generalize w.alloc (.cells #[.int .u64 p] 28) = wb at *
  obtain ⟨g, eg⟩ : ∃ g, g = w.heap.size := ⟨_, rfl⟩
  rw [← eg] at hcp hg ⊢
  have hgw : w.heap.size ≤ g := by omega
  clear eg
  have hbx : Box w wb g := ⟨hg, B⟩
  clear hg B
  go_loopw [5, 6] (fun ov iv wr => ∃ (j : Nat) (zs : List Nat), iv = .int .i64 j ∧ (j ≤ xs.length ∨ j = 1) ∧ Box w wr g ∧ wr.cell? ⟨g, 0, none⟩ = some (.int .u64 p) ∧ Own .u64 26 wr (g + 1) ov zs ∧ zs.length + 1 = j ∧ pl p zs = (pl p (xs.take j)).der) (fun _ iv _ => xs.length - (intOf iv).toNat)
  case atStart => exact ⟨1, [], rfl, Or.inr rfl, hbx, hcp, Own.nil _ _ _ _, rfl, by rw [der_start, pl_nil]⟩
  case round =>
    clear hbx hcp
    obtain ⟨j, zs, rfl, hj, hbx, hcp, ho, hzl, hval⟩ := hrel
    have HV := Lib.hid hval; clear hval
    by_cases hlt : j < xs.length
    · obtain rfl := hcs.ao (by intro h; subst h; simp at hlt)
      have hbw : b < w.heap.size := hcs.lt (by intro h; subst h; simp at hlt)
      have hcx := (hcs.below hbx.below (Nat.le_refl _)).cell j hlt
      obtain ⟨x, ex⟩ : ∃ x, x = xs.getD j 0 := ⟨_, rfl⟩
      rw [← ex] at hcx
      obtain ⟨z, ez⟩ : ∃ z, z = (Zp.of p x * Zp.of p j).val := ⟨_, rfl⟩
      have C1 := Lib.hid (fun w => gfp_Mul p x j z w HP.out ez)
      have hz := (Zp.fact HP.out ez).2
      have AR := Lib.hid (der_arith hzl HV.out ex hz)
      have HZL := Lib.hid hzl
      have hlz : zs.length ≤ 1000000000 := by omega
      clear ex ez hz hzl
      have hbs := hbx.below.size
      have i0 : (0 : Int) ≤ (j : Int) := Int.natCast_nonneg _
      have i1 : (j : Int) < (xs.length : Int) := by omega
      have s1 : IntKind.u64.wrap (j : Int) = (j : Int) := wrap_u64 _ (by omega)
      go_wp2
      go_region_held3 (fun w' => w'.cell? ⟨g, 0, none⟩ = some (.int .u64 (p : Int)) ∧ w'.cell? ⟨b, off + j, none⟩ = some (.int .u64 (x : Int)) ∧ Box w w' g) (first | (exact ⟨hcp, hcx, hbx.drew 1⟩) | (go_split_ands; refine ⟨(bn.cell (p := ⟨g, 0, none⟩) (Box.lt (by assumption))).trans (by assumption), (bn.cell (p := ⟨b, off + j, none⟩) (Nat.lt_of_lt_of_le hbw hbs)).trans (by assumption), Box.next (by assumption) bn⟩) | (go_split_ands; exact ⟨(cell_alloc _ _ ⟨g, 0, none⟩ (Box.lt (by assumption))).trans (by assumption), (cell_alloc _ _ ⟨b, off + j, none⟩ (Nat.lt_of_lt_of_le hbw (Box.below (by assumption)).size)).trans (by assumption), Box.alloc (by assumption) _⟩) | (exact ⟨(hbel1.cell (p := ⟨g, 0, none⟩) (Nat.lt_succ_self g)).trans ((bn.cell (p := ⟨g, 0, none⟩) (hbx.drew 1).lt).trans hcp), (hbel1.cell (p := ⟨b, off + j, none⟩) (Nat.lt_succ_of_lt (Nat.lt_of_lt_of_le hbw hgw))).trans ((bn.cell (p := ⟨b, off + j, none⟩) (Nat.lt_of_lt_of_le hbw hbs)).trans hcx), Box.far ((hbx.drew 1).next bn) hgw hbel1⟩))
        ((first
          | (go_at_call 41; refine (C1.out _).mono ?_; rintro e wn ⟨rfl, bn⟩)
          | (refine step_app2 .u64 23 26 8 Try.underlying23 (by kernel_rfl) (by decide) (by rfl) _ _ (by rfl) wn (g + 1) _ zs z _ (by rfl) ((ho.drawn ⟨1, rfl⟩).next bn) hlz (Nat.lt_of_lt_of_le (hbx.drew 1).lt bn.size) (by rfl) (by rfl) ?_; intro gg cap1 w1 hown1 hbel1)))
      have hbx2 := (hbx.drew 1).next bn
      have hcp2 := (hbel1.cell (p := ⟨g, 0, none⟩) (Nat.lt_succ_self g)).trans ((bn.cell (p := ⟨g, 0, none⟩) (hbx.drew 1).lt).trans hcp)
      replace hbx2 := hbx2.far hgw hbel1
      clear hbx hcp bn hbel1 ho s1
      go_wp2
      go_roundw
      case rel => exact ⟨j + 1, zs ++ [z], by go_num, by omega, hbx2, hcp2, hown1, by simp [HZL.out], AR.out⟩
      case measure => simp [intOf] <;> omega
    · have hend : (pl p (xs.take j)).der = (pl p xs).der := by rw [pl_take_all p xs j (by omega)]
      have HE := Lib.hid hend; clear hend
      have hzl2 : zs.length ≤ xs.length := by omega
      go_wp2_with fail
      refine (fp_Norm p _ zs _ HP.out ho.sl (by omega)).mono ?_; rintro e w2 ⟨r, z2, rfl, o2, m2, v2, l2, b2⟩
      have V2 := Lib.hid v2; clear v2
      go_wp2
      go_ret
      exact ⟨r, z2, rfl, o2.mono hbx.below.size, m2, by rw [V2.out, HV.out, HE.out], by omega, hbx.below.trans (b2.mono hbx.below.size)⟩

end Go.Proofs.Ytjpioijlpgmlfaa
