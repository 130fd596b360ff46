/- fmat.work: rows that are reduced. -/
import Derived.Test.YthghdjpjbngllaaZeMz
import Derived.Test.YthghdjpjbngllaaZeRws
import Derived.Test.YthghdjpjbngllaaZeFops
namespace Go.Proofs.Ythghdjpjbngllaa
open Go.RowKit

/-- A cell that holds an element. -/
def VZ (p : Nat) : World → Value → Zp p → Prop := fun _ u x => u = .int .u64 (x.val : Nat)

/-- The words of a row. -/
def rwv {p : Nat} (N : Nat) (r : Nat → Zp p) : List Nat := (List.range N).map fun k => (r k).val
theorem rwv_length {p : Nat} (N : Nat) (r : Nat → Zp p) : (rwv N r).length = N := by simp [rwv]
theorem rwv_get {p N k : Nat} (r : Nat → Zp p) (hk : k < N) : (rwv N r).getD k 0 = (r k).val := by
  simp [rwv, List.getD, hk]
theorem rwv_succ {p : Nat} (N : Nat) (r : Nat → Zp p) : rwv (N + 1) r = rwv N r ++ [(r N).val] := by simp [rwv, List.range_succ]

/-- A row that is owned. -/
theorem RowAt.of_own {p : Nat} {w : World} {base N : Nat} {v : Value} {r : Nat → Zp p} {xs : List Nat} (h : Own .u64 27 w base v xs) (hx : xs = rwv N r) : RowAt (VZ p) 27 w base N v r := by
  have hl : xs.length = N := by rw [hx, rwv_length]
  rcases h.2 with ⟨rfl, h0⟩ | ⟨g, cap, cur, rfl, hb, hg, hn, hm, hs, ht⟩
  · exact ⟨none, 0, 0, 0, #[], by rw [← hl, h0], by omega, fun hN => by omega⟩
  · refine ⟨_, cap, g, 0, cur, by rw [hl], by omega, fun _ => ⟨rfl, hb, hg, fun k hk => ⟨.int .u64 ((r k).val : Nat), ?_, rfl⟩⟩⟩
    have hk' : k < xs.length := by omega
    have h1 := vs_get .u64 xs k hk'
    rw [← ht, List.getElem?_take, if_pos (by omega)] at h1
    rw [Nat.zero_add, ← Array.getElem?_toList, h1, hx, rwv_get r hk]

theorem Blk.kept {e : TypeId} {w w' : World} {g : Nat} {vs : List Value} (h : Blk e w g vs) {row : Option Nat} (hg : w.grownBy w' row) (hne : row ≠ some g) : Blk e w' g vs := by
  unfold Blk; rw [hg.block g h.lt (fun e => hne e.symm)]; exact h
theorem RowAt.kept {α : Type} {V : World → Value → α → Prop} {e : TypeId} {w w' : World} {base N : Nat} {v : Value} {r : Nat → α} (h : RowAt V e w base N v r) {row : Option Nat} (hg : w.grownBy w' row) (hV : ∀ u x, V w u x → V w' u x)
    (hne : ∀ b cur, w.heap[b]? = some (.cells cur e (0, 0)) → row ≠ some b) : RowAt V e w' base N v r := by
  obtain ⟨ao, cap, b, o, cur, e1, h1, h2⟩ := h
  refine ⟨ao, cap, b, o, cur, e1, h1, fun hN => ?_⟩
  obtain ⟨h3, h4, h5, h6⟩ := h2 hN
  refine ⟨h3, h4, (hg.block b (Array.getElem?_eq_some_iff.1 h5).1 (fun e => hne b cur h5 e.symm)).trans h5, fun k hk => ?_⟩
  obtain ⟨u, h7, h8⟩ := h6 k hk
  exact ⟨u, h7, hV u _ h8⟩

section
variable {α : Type} {V : World → Value → α → Prop} {e er : TypeId}
/-- One row more. -/
theorem Rws.push {w1 w2 w3 : World} {base n N : Nat} {rv rv' v : Value} {vs : List Value} {W : Nat → Nat → α} (h : Rws V e er w1 base rv vs n N W) (hne : er ≠ e) (b2 : Below w1.heap.size w1 w2)
    (hr : RowAt V e w2 w1.heap.size N v (W n)) (hb : base ≤ w1.heap.size) (hg : w2.grownBy w3 rv.ownBlock) (ho : w3.ownsRow base er 1 rv' (n + 1) (vs ++ [v])) (hV : ∀ u x, V w1 u x → V w2 u x) (hV' : ∀ u x, V w2 u x → V w3 u x) :
    Rws V e er w3 base rv' (vs ++ [v]) (n + 1) N W := by
  have h2 := h.next b2 hV
  have hk : ∀ b cur, w2.heap[b]? = some (.cells cur e (0, 0)) → rv.ownBlock ≠ some b := fun b cur hb => rowOwn_ne h2.own hb hne
  have hget : ∀ (i : Nat) (x : Value), (vs ++ [v])[i]? = some x → (vs[i]? = some x ∧ i < n) ∨ (i = n ∧ x = v) := by
    intro i x hx
    by_cases hi : i < n
    · rw [List.getElem?_append_left (by rw [h.len]; exact hi)] at hx; exact .inl ⟨hx, hi⟩
    · rw [List.getElem?_append_right (by rw [h.len]; omega), h.len] at hx
      have : i = n := by
        have := (List.getElem?_eq_some_iff.1 hx).1
        simp at this; omega
      subst this
      simp at hx; exact .inr ⟨rfl, hx.symm⟩
  have hmono : ∀ {x : Value} {r : Nat → α}, RowAt V e w2 w1.heap.size N x r → RowAt V e w2 base N x r := by
    rintro x r ⟨ao, cap, b, o, cur, e1, h1, h2⟩
    exact ⟨ao, cap, b, o, cur, e1, h1, fun hN => by obtain ⟨h3, h4, h5⟩ := h2 hN; exact ⟨h3, by omega, h5⟩⟩
  have hap : ∀ (i : Nat) (x : Value), vs[i]? = some x → Apart N x v := by
    intro i x hx b o c b' o' c' e1 e2 k l hk hl hh
    obtain ⟨ao, cap, b1, o1, cur, e3, _, h3⟩ := h.row i x hx
    obtain ⟨k3, k4, k5, _⟩ := h3 (by omega)
    obtain ⟨ao', cap', b1', o1', cur', e3', _, h3'⟩ := hr
    obtain ⟨l3, l4, _, _⟩ := h3' (by omega)
    rw [e1, k3] at e3; rw [e2, l3] at e3'
    simp only [Value.slice.injEq, Option.some.injEq, Addr.mk.injEq] at e3 e3'
    have := (Array.getElem?_eq_some_iff.1 k5).1
    have e4 := e3.1.1
    have e5 := e3'.1.1
    omega
  refine ⟨by rw [List.length_append, h.len]; rfl, ho, fun i x hx => ?_, fun i j x y hij hx hy => ?_⟩
  · rcases hget i x hx with ⟨h1, _⟩ | ⟨rfl, rfl⟩
    · exact (h2.row i x h1).kept hg hV' hk
    · exact (hmono hr).kept hg hV' hk
  · rcases hget i x hx with ⟨h1, _⟩ | ⟨rfl, rfl⟩
    · rcases hget j y hy with ⟨k1, _⟩ | ⟨rfl, rfl⟩
      · exact h.sep i j x y hij h1 k1
      · exact hap i x h1
    · rcases hget j y hy with ⟨k1, _⟩ | ⟨rfl, rfl⟩
      · exact (hap j y k1).symm
      · exact absurd rfl hij
theorem Rws.nil (w : World) (base N : Nat) (W : Nat → Nat → α) : Rws V e er w base (.slice none 0 0) [] 0 N W :=
  ⟨rfl, World.ownsRow_nil _ _ _ _, fun i v h => by simp at h, fun i j u v _ h => by simp at h⟩
theorem Rws.mono {w : World} {base base' n N : Nat} {rv : Value} {vs : List Value} {W : Nat → Nat → α} (h : Rws V e er w base rv vs n N W) (hb : base' ≤ base) : Rws V e er w base' rv vs n N W :=
  ⟨h.len, rowOwn_mono h.own hb, fun i v hv => by
    obtain ⟨ao, cap, b, o, cur, e1, h1, h2⟩ := h.row i v hv
    exact ⟨ao, cap, b, o, cur, e1, h1, fun hN => by obtain ⟨h3, h4, h5⟩ := h2 hN; exact ⟨h3, by omega, h5⟩⟩, h.sep⟩
end

/-- The state of a work. -/
structure Wk (p : Nat) (w : World) (base gW n N : Nat) (W : Nat → Nat → Zp p) (P : List Nat) (d : Zp p) (rv pv : Value) (vs : List Value) : Prop where
  blk : Blk 126 w gW [.int .u64 p, rv, pv, .int .u64 (d.val : Nat)]
  gw : base ≤ gW
  rows : Rws (VZ p) 27 32 w base rv vs n N W
  piv : Own .i64 3 w base pv P

theorem Wk.next {p : Nat} {w w' : World} {base gW n N : Nat} {W : Nat → Nat → Zp p} {P : List Nat} {d : Zp p} {rv pv : Value} {vs : List Value} (h : Wk p w base gW n N W P d rv pv vs) (hb : Below w.heap.size w w') : Wk p w' base gW n N W P d rv pv vs :=
  ⟨h.blk.next hb, h.gw, h.rows.next hb (fun _ _ h => h), h.piv.next hb⟩

/-- A work is returned. -/
def RetWk (p : Nat) (w : World) (n N : Nat) (Q : (Nat → Nat → Zp p) → List Nat → Zp p → Prop) (e : Ending) (w' : World) : Prop :=
  ∃ gW W P d rv pv vs, e = .returned (.pointer (some ⟨gW, 0, none⟩)) ∧ Wk p w' w.heap.size gW n N W P d rv pv vs ∧ Q W P d ∧ Below w.heap.size w w'

theorem gfp_Norm1 (p : Nat) (w : World) (hp : FP p) (z : Nat) (hz : z = (1 : Zp p).val) : Calls Try.prog 124 #[.agg #[.int .u64 p], .int .u64 1] w (RetW w (.int .u64 (z : Nat))) := by
  have h := gfp_Norm p 1 w hp
  rw [show 1 % p = z from by rw [hz]; exact Zp.mod_is hp 1 (Zp.of_one p)] at h
  exact h

end Go.Proofs.Ythghdjpjbngllaa
