/- fmat.work: rows that are reduced. -/
import Derived.Test.YthghdjpjbngllaaZfMz
import Derived.Test.YthghdjpjbngllaaZfRws
import Derived.Test.YthghdjpjbngllaaZfFops
namespace Go.Proofs.Ythghdjpjbngllaa
open Go.RowKit

theorem RowAt.kept {α : Type} {V : World → Value → α → Prop} {e : TypeId} {w w' : World} {base N : Nat} {v : Value} {r : Nat → α} (h : RowAt V e w base N v r) {row : Option Nat} (hg : w.grownBy w' row) (hV : ∀ u x, V w u x → V w' u x)
    (hne : ∀ b cur, w.heap[b]? = some (.cells cur e (0, 0)) → row ≠ some b) : RowAt V e w' base N v r := by
  obtain ⟨ao, cap, b, o, cur, e1, h1, h2⟩ := h
  refine ⟨ao, cap, b, o, cur, e1, h1, fun hN => ?_⟩
  obtain ⟨h3, h4, h5, h6⟩ := h2 hN
  refine ⟨h3, h4, (hg.block b (Array.getElem?_eq_some_iff.1 h5).1 (fun e => hne b cur h5 e.symm)).trans h5, fun k hk => ?_⟩
  obtain ⟨u, h7, h8⟩ := h6 k hk
  exact ⟨u, h7, hV u _ h8⟩

section
variable {α : Type} {V : World → Value → α → Prop} {e er : TypeId}
/-- One row more. -/
theorem Rws.push {w1 w2 w3 : World} {base n N : Nat} {rv rv' v : Value} {vs : List Value} {W : Nat → Nat → α} (h : Rws V e er w1 base rv vs n N W) (hne : er ≠ e) (b2 : Below w1.heap.size w1 w2)
    (hr : RowAt V e w2 w1.heap.size N v (W n)) (hb : base ≤ w1.heap.size) (hg : w2.grownBy w3 rv.ownBlock) (ho : w3.ownsRow base er 1 rv' (n + 1) (vs ++ [v])) (hV : ∀ u x, V w1 u x → V w2 u x) (hV' : ∀ u x, V w2 u x → V w3 u x) :
    Rws V e er w3 base rv' (vs ++ [v]) (n + 1) N W := by
  have h2 := h.next b2 hV
  have hk : ∀ b cur, w2.heap[b]? = some (.cells cur e (0, 0)) → rv.ownBlock ≠ some b := fun b cur hb => rowOwn_ne h2.own hb hne
  have hget : ∀ (i : Nat) (x : Value), (vs ++ [v])[i]? = some x → (vs[i]? = some x ∧ i < n) ∨ (i = n ∧ x = v) := by
    intro i x hx
    by_cases hi : i < n
    · rw [List.getElem?_append_left (by rw [h.len]; exact hi)] at hx; exact .inl ⟨hx, hi⟩
    · rw [List.getElem?_append_right (by rw [h.len]; omega), h.len] at hx
      have : i = n := by
        have := (List.getElem?_eq_some_iff.1 hx).1
        simp at this; omega
      subst this
      simp at hx; exact .inr ⟨rfl, hx.symm⟩
  have hmono : ∀ {x : Value} {r : Nat → α}, RowAt V e w2 w1.heap.size N x r → RowAt V e w2 base N x r := by
    rintro x r ⟨ao, cap, b, o, cur, e1, h1, h2⟩
    exact ⟨ao, cap, b, o, cur, e1, h1, fun hN => by obtain ⟨h3, h4, h5⟩ := h2 hN; exact ⟨h3, by omega, h5⟩⟩
  have hap : ∀ (i : Nat) (x : Value), vs[i]? = some x → Apart N x v := by
    intro i x hx b o c b' o' c' e1 e2 k l hk hl hh
    obtain ⟨ao, cap, b1, o1, cur, e3, _, h3⟩ := h.row i x hx
    obtain ⟨k3, k4, k5, _⟩ := h3 (by omega)
    obtain ⟨ao', cap', b1', o1', cur', e3', _, h3'⟩ := hr
    obtain ⟨l3, l4, _, _⟩ := h3' (by omega)
    rw [e1, k3] at e3; rw [e2, l3] at e3'
    simp only [Value.slice.injEq, Option.some.injEq, Addr.mk.injEq] at e3 e3'
    have := (Array.getElem?_eq_some_iff.1 k5).1
    have e4 := e3.1.1
    have e5 := e3'.1.1
    omega
  refine ⟨by rw [List.length_append, h.len]; rfl, ho, fun i x hx => ?_, fun i j x y hij hx hy => ?_⟩
  · rcases hget i x hx with ⟨h1, _⟩ | ⟨rfl, rfl⟩
    · exact (h2.row i x h1).kept hg hV' hk
    · exact (hmono hr).kept hg hV' hk
  · rcases hget i x hx with ⟨h1, _⟩ | ⟨rfl, rfl⟩
    · rcases hget j y hy with ⟨k1, _⟩ | ⟨rfl, rfl⟩
      · exact h.sep i j x y hij h1 k1
      · exact hap i x h1
    · rcases hget j y hy with ⟨k1, _⟩ | ⟨rfl, rfl⟩
      · exact (hap j y k1).symm
      · exact absurd rfl hij
theorem Rws.nil (w : World) (base N : Nat) (W : Nat → Nat → α) : Rws V e er w base (.slice none 0 0) [] 0 N W :=
  ⟨rfl, World.ownsRow_nil _ _ _ _, fun i v h => by simp at h, fun i j u v _ h => by simp at h⟩
end

end Go.Proofs.Ythghdjpjbngllaa
