/- A region that draws its order and ends in one operation that waits for all others: that operation is taken apart, and the others are a region of their own. -/
import Derived.Deep.RegionHeld
import Derived.OrdersHeld
import Derived.StillTail
namespace Go.Proofs.Ythghdjpjbngllaa
open Go

/-- The last operation waits for all others, and each waits only for those ahead of it. -/
def peelB (l : List Oper) : Bool :=
  decide (0 < l.length) && Region.sinkB .any l.toArray (l.length - 1) &&
  (List.range l.length).all (fun j => match l.toArray[j]? with
    | some o => o.after.all (fun e => !Region.binds .any e || decide (e.on < j)) && (match o.guard with | some (g, _) => decide (g < l.length - 1) | none => true)
    | none => true)

/-- What is to be shown behind the others. -/
def PeelQ (P : Program) (l : List Oper) (Q : Exit → Act → World → Prop) : Exit → Act → World → Prop
  | .normal, a, w => wpOp P l.toArray Q (l.length - 1) (fun a' w' => Q .normal a' w') a w
  | e, a, w => Q e a w

section
variable {P : Program} {Q : Exit → Act → World → Prop} {hd : List Oper} {t : Oper}

theorem get_head {j : Nat} (hj : j < hd.length) : (hd ++ [t]).toArray[j]? = hd.toArray[j]? := by
  simp [List.getElem?_append_left hj]

theorem get_last : (hd ++ [t]).toArray[hd.length]? = some t := by simp

theorem peel_spec {l : List Oper} (h : peelB l = true) : 0 < l.length ∧ Region.sinkB .any l.toArray (l.length - 1) = true ∧
    ∀ j o, l.toArray[j]? = some o → (∀ e ∈ o.after, Region.binds .any e = true → e.on < j) ∧ (∀ g x, o.guard = some (g, x) → g < l.length - 1) := by
  simp only [peelB, Bool.and_eq_true, decide_eq_true_eq] at h
  obtain ⟨⟨h0, h1⟩, h2⟩ := h
  refine ⟨h0, h1, fun j o ho => ?_⟩
  have hj : j < l.length := by
    have := (Array.getElem?_eq_some_iff.1 ho).1
    simpa using this
  have := List.all_eq_true.1 h2 j (List.mem_range.2 hj)
  simp only [ho, Bool.and_eq_true] at this
  refine ⟨fun e he hb => ?_, fun g x hg => ?_⟩
  · have h3 := Array.all_eq_true_iff_forall_mem.1 this.1 e he
    simpa [hb] using h3
  · have h3 := this.2
    rw [hg] at h3
    simpa using h3

theorem ready_nil_all {ops : Array Oper} {listed : Array Bool} (hs : listed.size = ops.size) (hw : ∀ j o, ops[j]? = some o → ∀ e ∈ o.after, Region.binds .any e = true → e.on < j)
    (h : Region.ready .any ops listed = []) : ∀ j, j < ops.size → listed.getD j true = true := by
  intro j
  induction j using Nat.strongRecOn with
  | _ j ih =>
    intro hj
    cases hl : listed.getD j true with
    | true => rfl
    | false =>
      have : j ∈ Region.ready .any ops listed := by
        refine mem_ready.2 ⟨hl, ops[j], by simp [hj], fun e he hb => ?_⟩
        have hlt := hw j ops[j] (by simp [hj]) e he hb
        have := ih e.on hlt (by omega)
        have hes : e.on < listed.size := by omega
        simp [hes] at this ⊢; exact this
      rw [h] at this; cases this

theorem getD_push_lt {listed : Array Bool} {b d : Bool} {j : Nat} (hj : j < listed.size) : (listed.push b).getD j d = listed.getD j d := by
  simp [Array.getElem?_push, Nat.ne_of_lt hj]

theorem getD_push_eq {listed : Array Bool} {b d : Bool} : (listed.push b).getD listed.size d = b := by
  simp

theorem ready_push {listed : Array Bool} (hs : listed.size = hd.length) (hB : peelB (hd ++ [t]) = true) {j : Nat} (hj : j < hd.length) :
    j ∈ Region.ready .any (hd ++ [t]).toArray (listed.push false) ↔ j ∈ Region.ready .any hd.toArray listed := by
  have sp := (peel_spec hB).2.2
  rw [mem_ready, mem_ready, getD_push_lt (by omega), get_head hj]
  constructor
  · rintro ⟨h0, o, ho, h⟩
    refine ⟨h0, o, ho, fun e he hb => ?_⟩
    have hlt := (sp j o (by rw [get_head hj]; exact ho)).1 e he hb
    have := h e he hb
    rwa [getD_push_lt (by omega)] at this
  · rintro ⟨h0, o, ho, h⟩
    refine ⟨h0, o, ho, fun e he hb => ?_⟩
    have hlt := (sp j o (by rw [get_head hj]; exact ho)).1 e he hb
    rw [getD_push_lt (by omega)]; exact h e he hb

theorem sink_ready {listed : Array Bool} (hs : listed.size = hd.length) (hcl : ∀ j o, hd.toArray[j]? = some o → listed.getD j false = true → ∀ e ∈ o.after, Region.binds .any e = true → listed.getD e.on false = true)
    (hB : peelB (hd ++ [t]) = true) (h : hd.length ∈ Region.ready .any (hd ++ [t]).toArray (listed.push false)) : ∀ j, j < hd.length → listed.getD j true = true := by
  intro j hj
  cases hl : listed.getD j true with
  | true => rfl
  | false =>
    exfalso
    have sp := peel_spec hB
    have inv : HeadInv .any (hd ++ [t]).toArray hd.length (listed.push false) := by
      refine ⟨by simp [hs], fun i o ho hi e he hb => ?_, fun i h1 h2 => ?_⟩
      · by_cases hi' : i < hd.length
        · rw [getD_push_lt (by omega)] at hi
          rw [get_head hi'] at ho
          have hlt := (sp.2.2 i o (by rw [get_head hi']; exact ho)).1 e he hb
          rw [getD_push_lt (by omega)]
          exact hcl i o ho hi e he hb
        · have : i = listed.size := by
            have := (Array.getElem?_eq_some_iff.1 ho).1
            simp at this; omega
          subst this
          rw [getD_push_eq] at hi; cases hi
      · have : i = listed.size := by simp at h2; omega
        subst this; exact getD_push_eq
    refine tail_waits (md := .any) (by have := sp.2.1; simpa using this) ?_ (by simp) inv (hd.length - j) j rfl hj (by rw [getD_push_lt (by omega)]; exact hl) hd.length (Nat.le_refl _) h
    unfold Region.chainB
    refine List.all_eq_true.2 fun i hi => ?_
    have := List.mem_range.1 hi
    simp at this
    simp only [Bool.or_eq_true, decide_eq_true_eq]; left; omega

theorem yielded_head {g : Nat} (hg : g < hd.length) (tmps : Array Value) : yielded (hd ++ [t]).toArray tmps g = yielded hd.toArray tmps g := by
  unfold yielded; rw [get_head hg]

theorem wpOp_head {K : Act → World → Prop} {i : Nat} (hB : peelB (hd ++ [t]) = true) (hi : i < hd.length) {a : Act} {w : World} (Q1 : Exit → Act → World → Prop)
    (hQ : ∀ e, e ≠ .normal → ∀ a w, Q1 e a w → Q e a w)
    (h : wpOp P hd.toArray Q1 i K a w) : wpOp P (hd ++ [t]).toArray Q i K a w := by
  unfold wpOp at *
  rw [get_head hi]
  have sp := (peel_spec hB).2.2
  cases ho : hd.toArray[i]? with
  | none => simp only [ho] at h ⊢; exact h
  | some o =>
    simp only [ho] at h ⊢
    have hw : Region.wanted o (yielded (hd ++ [t]).toArray a.tmps) = Region.wanted o (yielded hd.toArray a.tmps) := by
      unfold Region.wanted
      cases hg : o.guard with
      | none => rfl
      | some gw =>
        obtain ⟨g, x⟩ := gw
        have := (sp i o (by rw [get_head hi]; exact ho)).2 g x hg
        simp only [List.length_append, List.length_cons, List.length_nil] at this
        simp only
        rw [yielded_head (by omega)]
    rw [hw]
    split
    · rename_i hw1
      simp only [hw1, if_true] at h
      rcases h with h | ⟨h1, a0, w0, h2⟩
      · left
        unfold Oper.wp at *
        generalize (execOp a.eval o).run P w = r at *
        cases r with
        | ok n w' =>
          cases n <;> simp only [Oper.upon] at h ⊢ <;>
            first
              | exact h
              | exact Calls.mono h (fun e w'' he => by
                  cases e with
                  | returned v => exact he
                  | panicked c => exact hQ _ (by simp) _ _ he
                  | outgrown => obtain ⟨a0, w0, h2⟩ := he; exact ⟨a0, w0, hQ _ (by simp) _ _ h2⟩)
        | halt x w' => cases x <;> simp only [Oper.upon] at h ⊢ <;> first | exact h | exact hQ _ (by simp) _ _ h
      · right; exact ⟨h1, a0, w0, hQ _ (by simp) _ _ h2⟩
    · rename_i hw1
      simp only [hw1] at h; exact h

theorem peelQ_other : ∀ e, e ≠ .normal → ∀ a w, PeelQ P (hd ++ [t]) Q e a w → Q e a w := by
  intro e he a w h
  cases e <;> first | exact (he rfl).elim | exact h

theorem closed_set {listed : Array Bool} {ops : Array Oper} (hcl : ∀ j o, ops[j]? = some o → listed.getD j false = true → ∀ e ∈ o.after, Region.binds .any e = true → listed.getD e.on false = true)
    {i : Nat} (hi : i ∈ Region.ready .any ops listed) : ∀ j o, ops[j]? = some o → (listed.setIfInBounds i true).getD j false = true → ∀ e ∈ o.after, Region.binds .any e = true → (listed.setIfInBounds i true).getD e.on false = true := by
  obtain ⟨_, oi, hoi, hall⟩ := mem_ready.1 hi
  intro j o ho hl e he hb
  by_cases hij : i = j
  · subst hij
    have : o = oi := Option.some.inj (ho.symm.trans hoi)
    subst this
    exact getD_set_true (hall e he hb)
  · rw [getD_set_ne false hij] at hl
    exact getD_set_true (hcl j o ho hl e he hb)

theorem wpAny_peel (hB : peelB (hd ++ [t]) = true) : ∀ (fuel : Nat) (listed : Array Bool) (a : Act) (w : World), listed.size = hd.length →
    (∀ j o, hd.toArray[j]? = some o → listed.getD j false = true → ∀ e ∈ o.after, Region.binds .any e = true → listed.getD e.on false = true) →
    wpAny P .any hd.toArray (PeelQ P (hd ++ [t]) Q) fuel listed a w → wpAny P .any (hd ++ [t]).toArray Q (fuel + 1) (listed.push false) a w := by
  have sp := peel_spec hB
  have last : ∀ (listed : Array Bool) (a : Act) (w : World) (f : Nat), listed.size = hd.length → Region.ready .any hd.toArray listed = [] → PeelQ P (hd ++ [t]) Q .normal a w →
      (Region.ready .any (hd ++ [t]).toArray (listed.push false) = [] → Q .normal a w) ∧ ∀ i ∈ Region.ready .any (hd ++ [t]).toArray (listed.push false), wpOp P (hd ++ [t]).toArray Q i (wpAny P .any (hd ++ [t]).toArray Q f ((listed.push false).setIfInBounds i true)) a w := by
    intro listed a w f hs hr hq
    have hall := ready_nil_all (ops := hd.toArray) (listed := listed) (by simpa using hs) (fun j o ho => (sp.2.2 j o (by rw [get_head (by have := (Array.getElem?_eq_some_iff.1 ho).1; simpa using this)]; exact ho)).1) hr
    have hrn : hd.length ∈ Region.ready .any (hd ++ [t]).toArray (listed.push false) := by
      refine mem_ready.2 ⟨by rw [← hs, getD_push_eq], t, get_last, fun e he hb => ?_⟩
      have hlt := (sp.2.2 hd.length t get_last).1 e he hb
      rw [getD_push_lt (by omega)]
      have := hall e.on (by simpa using hlt)
      have hes : e.on < listed.size := by omega
      simp [hes] at this ⊢; exact this
    refine ⟨fun h => (by rw [h] at hrn; cases hrn), fun i hi => ?_⟩
    have hin : i = hd.length := by
      rcases Nat.lt_or_ge i hd.length with h | h
      · rw [ready_push hs hB h, hr] at hi; cases hi
      · obtain ⟨_, o, ho, _⟩ := mem_ready.1 hi
        have := (Array.getElem?_eq_some_iff.1 ho).1
        simp at this; omega
    subst hin
    have hq' : wpOp P (hd ++ [t]).toArray Q hd.length (fun a' w' => Q .normal a' w') a w := by
      have : wpOp P (hd ++ [t]).toArray Q ((hd ++ [t]).length - 1) (fun a' w' => Q .normal a' w') a w := hq
      simpa using this
    refine wpOp_mono (fun a' w' h => wpAny_done ?_ h f) hq'
    refine List.eq_nil_iff_forall_not_mem.2 fun j hj => ?_
    obtain ⟨h0, o, ho, _⟩ := mem_ready.1 hj
    have hjl := (Array.getElem?_eq_some_iff.1 ho).1
    simp at hjl
    by_cases hjn : j = hd.length
    · subst hjn
      have hsz : hd.length < ((listed.push false).setIfInBounds hd.length true).size := by simp [hs]
      simp [hs] at h0
    · have hne : hd.length ≠ j := fun e => hjn e.symm
      rw [getD_set_ne true hne, getD_push_lt (by omega), hall j (by simp; omega)] at h0
      cases h0
  intro fuel
  induction fuel with
  | zero =>
    intro listed a w hs hcl h
    exact last listed a w 0 hs h.1 h.2
  | succ fuel ih =>
    intro listed a w hs hcl h
    cases hr : Region.ready .any hd.toArray listed with
    | nil => exact last listed a w (fuel + 1) hs hr (h.1 hr)
    | cons x xs =>
      have hx : x ∈ Region.ready .any hd.toArray listed := by rw [hr]; exact List.mem_cons_self ..
      have hxl : x < hd.length := by
        obtain ⟨_, o, ho, _⟩ := mem_ready.1 hx
        have := (Array.getElem?_eq_some_iff.1 ho).1
        simpa using this
      refine ⟨fun h0 => ?_, fun i hi => ?_⟩
      · have := (ready_push hs hB hxl).2 hx
        rw [h0] at this; cases this
      · have hil : i < hd.length := by
          rcases Nat.lt_or_ge i hd.length with h' | h'
          · exact h'
          · exfalso
            have hin : i = hd.length := by
              obtain ⟨_, o, ho, _⟩ := mem_ready.1 hi
              have := (Array.getElem?_eq_some_iff.1 ho).1
              simp at this; omega
            subst hin
            have hall := sink_ready hs hcl hB hi x hxl
            obtain ⟨h0, _⟩ := mem_ready.1 hx
            rw [hall] at h0; cases h0
        have hi' := (ready_push hs hB hil).1 hi
        refine wpOp_mono (fun a' w' h' => ?_) (wpOp_head hB hil _ peelQ_other (h.2 i hi'))
        have := ih (listed.setIfInBounds i true) a' w' (by simpa using hs) (closed_set hcl hi') h'
        rwa [show (listed.push false).setIfInBounds i true = (listed.setIfInBounds i true).push false by
          apply Array.ext
          · simp
          · intro k h1 h2
            simp at h1 h2
            rw [Array.getElem_setIfInBounds (hj := by simpa using h1), Array.getElem_push, Array.getElem_push]
            by_cases hki : i = k
            · subst hki; simp [hs, hil]
            · by_cases hk2 : k < listed.size
              · simp only [hki, if_false, hk2, dif_pos, Array.size_setIfInBounds]; rw [Array.getElem_setIfInBounds (hj := hk2), if_neg hki]
              · simp [hki, hk2]]

theorem wp_region_peel {id : Nat} {a : Act} {w : World} {S : World → Prop} (hm : P.follows .mixedOrders = true) (hB : peelB (hd ++ [t]) = true) (hS : S { w with drawn := w.drawn + 1 })
    (h : S { w with drawn := w.drawn + 1 } → wpAnyH P .any hd.toArray (PeelQ P (hd ++ [t]) Q) S hd.toArray.size (Array.replicate hd.toArray.size false) a { w with drawn := w.drawn + 1 }) : (Code.region id (hd ++ [t]).toArray true).wp P Q a w := by
  refine wp_region_any hm ?_
  have := wpAny_peel hB _ (Array.replicate hd.toArray.size false) a { w with drawn := w.drawn + 1 } (by simp) (fun j o ho hl => by rw [getD_replicate_false] at hl; cases hl) (wpAny_of_held _ _ _ _ (h hS))
  rw [show (Array.replicate hd.toArray.size false).push false = Array.replicate (hd ++ [t]).toArray.size false by
    rw [← Array.replicate_succ]; simp] at this
  simpa using this
end

/-! The same, over a list that is written out. -/
section
variable {P : Program} {l : List Oper} {Q : Exit → Act → World → Prop} {S : World → Prop}

theorem drop_last {l : List Oper} {t : Oper} (h : l[l.length - 1]? = some t) : l = l.dropLast ++ [t] := by
  have hne : l ≠ [] := by intro e; subst e; simp at h
  have h1 := List.dropLast_concat_getLast hne
  have h2 : l.getLast hne = t := by
    rw [List.getLast_eq_getElem]
    have := List.getElem?_eq_some_iff.1 h
    exact this.2
  rw [h2] at h1; exact h1.symm

theorem startP {id : Nat} {a : Act} {w : World} {hd : List Oper} {n : Nat} (hm : P.follows .mixedOrders = true) (t : Oper) (ht : l[l.length - 1]? = some t) (hh : l.dropLast = hd) (hn : hd.length = n) (hB : peelB l = true) (hS : S w.drew)
    (h : S w.drew → wpAnyH P .any hd.toArray (PeelQ P l Q) S n (Array.replicate n false) a w.drew) : (Code.region id l.toArray true).wp P Q a w := by
  have e := drop_last ht
  subst hh
  have := wp_region_peel (id := id) (P := P) (Q := Q) (hd := l.dropLast) (t := t) (a := a) (w := w) (S := S) hm (by rw [← e]; exact hB) hS (by
    rw [← e]; subst hn; simpa using h)
  rwa [← e] at this

theorem startL {id : Nat} {a : Act} {w : World} (hm : P.follows .mixedOrders = true) (hS : S w.drew)
    (h : S w.drew → wpAnyH P .any l.toArray Q S l.length (Array.replicate l.length false) a w.drew) : (Code.region id l.toArray true).wp P Q a w :=
  wp_region_held hm (by simpa using h hS)

theorem takeL {fuel : Nat} {listed : Array Bool} {a : Act} {w : World} (i : Nat) {oi : Oper} {v : Value} (hi : l[i]? = some oi)
    (hs : Region.noSelect l.toArray = true) (hf : Region.free .any l.toArray listed i = true) (hr : (Region.ready .any l.toArray listed).contains i = true)
    (hQ : ∀ c a w, Q (.panic c) (a.put oi.dst v) w → Q (.panic c) a w) (hy : Region.wanted oi (yielded l.toArray a.tmps) = true ∧ ∀ w, S w → (execOp a.eval oi).run P w = .ok (.value v) w) (hS : S w)
    (h : wpAnyH P .any l.toArray Q S fuel (listed.setIfInBounds i true) (a.put oi.dst v) w) : wpAnyH P .any l.toArray Q S (fuel + 1) listed a w :=
  wpAnyH_take (by simpa using hi) hs hf hr hQ (Or.inl hy) hS h

theorem skipL {fuel : Nat} {listed : Array Bool} {a : Act} {w : World} (i : Nat) {oi : Oper} (hi : l[i]? = some oi)
    (hs : Region.noSelect l.toArray = true) (hf : Region.free .any l.toArray listed i = true) (hr : (Region.ready .any l.toArray listed).contains i = true)
    (hQ : ∀ c a w, Q (.panic c) (a.put oi.dst undef) w → Q (.panic c) a w) (hy : Region.wanted oi (yielded l.toArray a.tmps) = false) (hS : S w)
    (h : wpAnyH P .any l.toArray Q S fuel (listed.setIfInBounds i true) (a.put oi.dst undef) w) : wpAnyH P .any l.toArray Q S (fuel + 1) listed a w :=
  wpAnyH_take (by simpa using hi) hs hf hr hQ (Or.inr ⟨hy, rfl⟩) hS h

theorem oneL {fuel : Nat} {listed : Array Bool} {a : Act} {w : World} (i : Nat) {o : Oper} (hi : l[i]? = some o) (hr : Region.ready .any l.toArray listed = [i])
    (hw : Region.wanted o (yielded l.toArray a.tmps) = true)
    (h : ∀ K' : Act → World → Prop, Shut (∀ a w, S w → (S w → wpAnyH P .any l.toArray Q S fuel (listed.setIfInBounds i true) a w) → K' a w) → Oper.wp P o a w K' Q) : wpAnyH P .any l.toArray Q S (fuel + 1) listed a w :=
  wpAnyH_ready hr (by simp) (AllReadyH.cons (o := o) (by simpa using hi) (fun K' hK => by rw [if_pos hw]; exact h K' hK) AllReadyH.nil)

theorem doneL {listed : Array Bool} {a : Act} {w : World} (hr : Region.ready .any l.toArray listed = []) (h : Q .normal a w) : ∀ fuel, wpAnyH P .any l.toArray Q S fuel listed a w := wpAnyH_done hr h

theorem lastL {a : Act} {w : World} {t : Oper} (ht : l[l.length - 1]? = some t) (hw : Region.wanted t (yielded l.toArray a.tmps) = true)
    (h : Oper.wp P t a w (fun a' w' => Q .normal a' w') Q) : PeelQ P l Q .normal a w := by
  show wpOp P l.toArray Q (l.length - 1) (fun a' w' => Q .normal a' w') a w
  unfold wpOp
  have : l.toArray[l.length - 1]? = some t := by simpa using ht
  simp only [this, hw, if_true]
  exact Or.inl h
end

end Go.Proofs.Ythghdjpjbngllaa
