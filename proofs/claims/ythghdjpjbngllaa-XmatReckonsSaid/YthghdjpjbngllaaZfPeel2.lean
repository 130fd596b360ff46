/- A region that draws its order and stores twice: one condition on the world ahead of the first store, none behind it. -/
import Derived.Test.YthghdjpjbngllaaZfPeel
namespace Go.Proofs.Ythghdjpjbngllaa
open Go

section
variable {P : Program} {ops : Array Oper} {Q : Exit → Act → World → Prop} {S : World → Prop} {m : Nat}

theorem not_ready {listed : Array Bool} {i j : Nat} {oj : Oper} (hr : i ∈ Region.ready .any ops listed) (hj : j ∈ Region.ready .any ops listed) (ho : ops[j]? = some oj) : ∀ e ∈ oj.after, Region.binds .any e = true → e.on ≠ i := by
  obtain ⟨_, o, hoj, hall⟩ := mem_ready.1 hj
  obtain rfl : o = oj := Option.some.inj (hoj.symm.trans ho)
  intro e he hb heq
  have h1 := hall e he hb
  have h0 := (mem_ready.1 hr).1
  rw [heq] at h1
  rcases Nat.lt_or_ge i listed.size with h' | h'
  · simp [h'] at h0 h1; rw [h0] at h1; cases h1
  · simp [Array.getElem?_eq_none h'] at h1

end

section
variable {P : Program} {l : List Oper} {Q : Exit → Act → World → Prop} {S : World → Prop} {m : Nat}

/-- Operation m waits for operation i. -/
def waitsB (l : List Oper) (m i : Nat) : Bool := match l[m]? with
  | some o => o.after.toList.any fun e => Region.binds .any e && e.on == i
  | none => false
theorem waits_spec {i : Nat} (h : waitsB l m i = true) : ∃ om, l.toArray[m]? = some om ∧ ∃ e ∈ om.after, Region.binds .any e = true ∧ e.on = i := by
  unfold waitsB at h
  cases ho : l[m]? with
  | none => rw [ho] at h; cases h
  | some o =>
    rw [ho] at h
    obtain ⟨e, he, hb⟩ := List.any_eq_true.1 h
    simp only [Bool.and_eq_true, beq_iff_eq] at hb
    exact ⟨o, by simpa using ho, e, Array.mem_toList_iff.1 he, hb.1, hb.2⟩

end

end Go.Proofs.Ythghdjpjbngllaa
