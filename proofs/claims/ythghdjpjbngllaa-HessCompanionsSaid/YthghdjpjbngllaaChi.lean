/- Plain algebra: the characteristic polynomial is monic, of the matrix's degree. -/
import Derived.Test.YthghdjpjbngllaaHes
namespace Go.Proofs.Ythghdjpjbngllaa
open CR

section
variable {R : Type} [CR R]

def esum : Nat → (Nat → Nat) → Nat
  | 0, _ => 0
  | n + 1, e => e 0 + esum n (fun i => e (i + 1))
theorem esum_one : ∀ (n : Nat) {e : Nat → Nat}, (∀ i, i < n → e i = 1) → esum n e = n
  | 0, _, _ => rfl
  | n + 1, e, h => by
    unfold esum
    rw [h 0 (by omega), esum_one n fun i hi => h (i + 1) (by omega)]; omega
theorem esum_skip : ∀ (n k : Nat), k < n → esum n (fun i => if i = k then 0 else 1) + 1 = n
  | 0, _, h => by omega
  | n + 1, 0, _ => by
    show (0 + esum n (fun i => if i + 1 = 0 then 0 else 1)) + 1 = n + 1
    rw [esum_one n fun i _ => if_neg (by omega)]; omega
  | n + 1, k + 1, h => by
    show (1 + esum n (fun i => if i + 1 = k + 1 then 0 else 1)) + 1 = n + 1
    have := esum_skip n k (by omega)
    have e : (fun i => if i + 1 = k + 1 then 0 else 1) = (fun i => if i = k then 0 else 1) := by
      funext i
      by_cases h : i = k
      · rw [if_pos h, if_pos (by omega)]
      · rw [if_neg h, if_neg (by omega)]
    rw [e]; omega
theorem sm_dlt {f : Nat → Pol R} {m : Nat} : ∀ n, (∀ i, i < n → (f i).dlt m) → (sm n f).dlt m
  | 0, _ => dlt_zero m
  | n + 1, h => dlt_add (sm_dlt n fun i hi => h i (Nat.lt_succ_of_lt hi)) (h n (Nat.lt_succ_self n))
theorem sg_dlt {f : Pol R} {m k : Nat} (h : f.dlt m) : (sg k f).dlt m := by
  unfold sg; split
  · exact dlt_neg h
  · exact h
theorem dn_dlt : ∀ (n : Nat) (e : Nat → Nat) (A : Nat → Nat → Pol R), (∀ i j, i < n → j < n → (A i j).dlt (e i + 1)) → (dn n A).dlt (esum n e + 1)
  | 0, _, _, _ => fun i hi => by
    have : esum 0 ‹Nat → Nat› = 0 := rfl
    show (1 : Pol R).c i = 0
    rw [Pol.one_def, c_mon, if_neg (by omega)]
  | n + 1, e, A, h => by
    show (sm (n + 1) (fun k => sg k (A 0 k * dn n (mnr A k)))).dlt (e 0 + esum n (fun i => e (i + 1)) + 1)
    refine sm_dlt _ fun k hk => sg_dlt (mul_dlt' (h 0 k (by omega) hk) (dn_dlt n _ _ fun i j hi hj => ?_))
    unfold mnr
    exact h (i + 1) _ (by omega) (by split <;> omega)
theorem mon0_dlt (a : R) : (mon a 0).dlt 1 := fun i hi => by rw [c_mon, if_neg (by omega)]
theorem xh_dlt (H : Nat → Nat → R) (i j : Nat) : (xh H i j).dlt 2 := by
  unfold xh
  refine dlt_sub ?_ (dlt_mono (mon0_dlt _) (by omega))
  split
  · exact fun i hi => by rw [c_mon, if_neg (by omega)]
  · exact dlt_zero 2
theorem xh_off {H : Nat → Nat → R} {i j : Nat} (h : i ≠ j) : (xh H i j).dlt 1 := by
  unfold xh
  rw [if_neg h]
  exact dlt_sub (dlt_zero 1) (mon0_dlt _)
theorem chi_top : ∀ (n : Nat) (H : Nat → Nat → R), (dn n (xh H)).dlt (n + 1) ∧ (dn n (xh H)).c n = 1
  | 0, H => ⟨fun i hi => by show (1 : Pol R).c i = 0; rw [Pol.one_def, c_mon, if_neg (by omega)], by show (1 : Pol R).c 0 = 1; rw [Pol.one_def, c_mon, if_pos rfl]⟩
  | n + 1, H => by
    obtain ⟨h1, h2⟩ := chi_top n (fun a b => H (a + 1) (b + 1))
    have e0 : dn n (mnr (xh H) 0) = dn n (xh fun a b => H (a + 1) (b + 1)) := dn_congr n fun i j _ _ => by
      show xh H (i + 1) (if j < 0 then j else j + 1) = _
      rw [if_neg (show ¬ j < 0 by omega)]
      unfold xh
      by_cases h : i = j
      · rw [if_pos h, if_pos (by omega)]
      · rw [if_neg h, if_neg (by omega)]
    have hr : ∀ k, k < n → (sg (k + 1) (xh H 0 (k + 1) * dn n (mnr (xh H) (k + 1)))).dlt (n + 1) := fun k hk => by
      refine sg_dlt ?_
      have hs := esum_skip n k hk
      have h3 : (dn n (mnr (xh H) (k + 1))).dlt (esum n (fun i => if i = k then 0 else 1) + 1) := dn_dlt n _ _ fun i j hi hj => by
        unfold mnr
        by_cases h : i = k
        · show (xh H (i + 1) (if j < k + 1 then j else j + 1)).dlt ((if i = k then 0 else 1) + 1)
          rw [if_pos h]
          exact xh_off (by split <;> omega)
        · show (xh H (i + 1) (if j < k + 1 then j else j + 1)).dlt ((if i = k then 0 else 1) + 1)
          rw [if_neg h]
          exact xh_dlt H _ _
      have h4 := mul_dlt' (xh_off (H := H) (show 0 ≠ k + 1 by omega)) h3
      exact dlt_mono h4 (by omega)
    have e1 : dn (n + 1) (xh H) = xh H 0 0 * dn n (xh fun a b => H (a + 1) (b + 1)) + sm n (fun k => sg (k + 1) (xh H 0 (k + 1) * dn n (mnr (xh H) (k + 1)))) := by
      show sm (n + 1) (fun k => sg k (xh H 0 k * dn n (mnr (xh H) k))) = _
      rw [sm_head, sg_zero, e0]
    have h5 := sm_dlt n hr
    have h6 := mul_dlt' (xh_dlt H 0 0) h1
    rw [e1]
    refine ⟨dlt_add (dlt_mono h6 (by omega)) (dlt_mono h5 (by omega)), ?_⟩
    rw [Pol.c_add, h5 (n + 1) (Nat.le_refl _), add_zero, show n + 1 = 1 + n by omega, mul_top (xh_dlt H 0 0) h1, h2, mul_one]
    unfold xh
    rw [if_pos rfl, Pol.c_sub, c_mon, if_pos rfl, c_mon, if_neg (by omega), sub_zero]
theorem chi_mo {n : Nat} (A : MT R n n) : Mo (chi A) := by
  have h := chi_top n A.e
  rw [← chi_xh] at h
  exact .inr ⟨n, h.1, h.2⟩
end
theorem chi_ln {p n : Nat} (ht : Trial p) (A : MT (Zp p) n n) : Ln (chi A) (n + 1) := by
  have h := chi_top n A.e
  rw [← chi_xh] at h
  exact Mo.ln ht h.1 h.2
/-- The minimal polynomial's degree is at most the matrix's side. -/
theorem MinTo.deg {p n : Nat} (ht : Trial p) {A : MT (Zp p) n n} {L : Pol (Zp p)} (h : MinTo A n L) {m : Nat} (hl : Ln L m) : m ≤ n + 1 :=
  h.dv_chi.len ht (chi_ln ht A).ne hl (chi_ln ht A)

end Go.Proofs.Ythghdjpjbngllaa
