/- Plain algebra: x^p - x and x^(p^2) - x as products; which polynomials of a small degree have a divisor. -/
import Derived.Test.YtjpioijlpgmlfaaFxg2
namespace Go.Proofs.Ytjpioijlpgmlfaa
open CR

section
variable {p : Nat}

theorem div_ex (ht : Trial p) {b : Pol (Zp p)} {n : Nat} (hb : Ln b (n + 1)) : ∀ (m : Nat) (a : Pol (Zp p)), a.dlt m → ∃ q r, a = q * b + r ∧ r.dlt n := by
  intro m
  induction m with
  | zero => intro a ha; exact ⟨0, a, by_ring [a, b] X0 (0 * X1 + X0) rfl, dlt_mono ha (Nat.zero_le _)⟩
  | succ m ih =>
    intro a ha
    by_cases h : m + 1 ≤ n
    · exact ⟨0, a, by_ring [a, b] X0 (0 * X1 + X0) rfl, dlt_mono ha h⟩
    · obtain ⟨i, rfl⟩ : ∃ i, m = i + n := ⟨m - n, by omega⟩
      obtain ⟨q, r, e, hr⟩ := ih (a - mon (a.c (i + n) * (b.c n).iv) i * b) (div_dlt ha hb.1 (Zp.iv_mul ht (hb.2 n rfl)) rfl)
      refine ⟨q + mon (a.c (i + n) * (b.c n).iv) i, r, ?_, hr⟩
      have h1 : a = (a - mon (a.c (i + n) * (b.c n).iv) i * b) + mon (a.c (i + n) * (b.c n).iv) i * b := (sub_add_cancel _ _).symm
      rw [e] at h1
      refine h1.trans ?_
      exact by_ring [q, b, r, mon (a.c (i + n) * (b.c n).iv) i] (X0 * X1 + X2 + X3 * X1) ((X0 + X3) * X1 + X2) rfl

theorem gcd_ex (ht : Trial p) : ∀ (n : Nat) (h : Pol (Zp p)), h.dlt n → ∀ f : Pol (Zp p), ∃ g, IsGcd g f h := by
  intro n
  induction n using Nat.strongRecOn with
  | _ n ih =>
    intro h hd f
    obtain ⟨k, hk⟩ := Ln.exists h
    cases k with
    | zero =>
      obtain rfl := hk.nil
      obtain ⟨m, hm⟩ := Ln.exists f
      cases m with
      | zero => obtain rfl := hm.nil; exact ⟨0, Or.inl rfl, Dv.refl _, Dv.refl _, 0, 0, by_ring [(0 : Pol (Zp p))] 0 (0 * 0 + 0 * 0) rfl⟩
      | succ m =>
        have hu := Zp.iv_mul ht (hm.2 m rfl)
        refine ⟨f * mon (f.c m).iv 0, mo_scale hm hu, dv_scale hu, Dv.zero _, mon (f.c m).iv 0, 0, ?_⟩
        exact by_ring [f, mon (f.c m).iv 0] (X0 * X1) (X1 * X0 + 0 * 0) rfl
    | succ k =>
      have hkn := hk.le hd
      obtain ⟨m, hm⟩ := Ln.exists f
      obtain ⟨q, r, e, hr⟩ := div_ex ht hk m f hm.1
      obtain ⟨g, h1, h2, h3, s, t, h4⟩ := ih k (by omega) r hr h
      refine ⟨g, h1, by rw [e]; exact (h2.mul q).add h3, h2, t, s - t * q, ?_⟩
      have : r = f - q * h := by rw [e]; exact by_ring [q, h, r] X2 (X0 * X1 + X2 - X0 * X1) rfl
      rw [h4, this]
      exact by_ring [s, t, f, q, h] (X0 * X4 + X1 * (X2 - X3 * X4)) (X1 * X2 + (X0 - X1 * X3) * X4) rfl

def prod : List (Pol (Zp p)) → Pol (Zp p)
  | [] => 1
  | l :: ls => l * prod ls

theorem dv_prod {ls : List (Pol (Zp p))} {l : Pol (Zp p)} (h : l ∈ ls) : Dv l (prod ls) := by
  induction ls with
  | nil => cases h
  | cons a ls ih =>
    rcases List.mem_cons.1 h with rfl | h
    · exact ⟨prod ls, rfl⟩
    · exact (ih h).mul a

theorem mo_one (ht : Trial p) {g : Pol (Zp p)} (h : Mo g) (hl : Ln g 1) : g = 1 := by
  rcases h with rfl | ⟨n, hd, h1⟩
  · exact absurd rfl hl.ne
  · have := (Mo.ln ht hd h1).unique hl
    obtain rfl : n = 0 := by omega
    exact Pol.ext fun i => by
      rw [Pol.one_def, c_mon]
      by_cases hi : i = 0
      · rw [if_pos hi, hi, h1]
      · rw [if_neg hi]; exact hl.1 i (by omega)

/-- What divides a product has a divisor in common with a factor, or is a unit. -/
theorem fac (ht : Trial p) {h : Pol (Zp p)} : ∀ ls : List (Pol (Zp p)), Dv h (prod ls) → (∃ l, l ∈ ls ∧ ∃ g, IsGcd g l h ∧ ¬ Ln g 1) ∨ Dv h 1
  | [], hd => Or.inr hd
  | l :: ls, hd => by
    obtain ⟨n, hn⟩ := Ln.exists h
    obtain ⟨g, hg⟩ := gcd_ex ht n h hn.1 l
    by_cases h1 : Ln g 1
    · have e := mo_one ht hg.1 h1
      obtain ⟨s, t, hst⟩ := hg.2.2.2
      rw [e] at hst
      have hp : Dv h (prod ls) := by
        have : prod ls = s * (l * prod ls) + t * h * prod ls := by
          have h2 : prod ls = (s * l + t * h) * prod ls := by rw [← hst, one_mul]
          conv => lhs; rw [h2]
          exact by_ring [s, l, t, h, prod ls] ((X0 * X1 + X2 * X3) * X4) (X0 * (X1 * X4) + X2 * X3 * X4) rfl
        rw [this]
        exact (hd.mul s).add (((Dv.refl h).mul t).mul' (prod ls))
      rcases fac ht ls hp with ⟨l', hl', r⟩ | r
      · exact Or.inl ⟨l', List.mem_cons_of_mem _ hl', r⟩
      · exact Or.inr r
    · exact Or.inl ⟨l, List.mem_cons_self .., g, hg, h1⟩

theorem ln_one (ht : Trial p) : Ln (1 : Pol (Zp p)) 1 :=
  ⟨fun i hi => by rw [Pol.one_def, c_mon, if_neg (by omega)], fun m hm => by obtain rfl : m = 0 := by omega
                                                                             rw [Pol.one_def, c_mon, if_pos rfl]; exact Zp.one_ne ht⟩

theorem dv_one (ht : Trial p) {h : Pol (Zp p)} (hd : Dv h 1) : Ln h 1 := by
  obtain ⟨n, hn⟩ := Ln.exists h
  have h1 := hd.len ht (ln_one ht).ne hn (ln_one ht)
  cases n with
  | zero => obtain rfl := hn.nil; exact absurd hd.of_zero (ln_one ht).ne
  | succ n => obtain rfl : n = 0 := by omega
              exact hn

/-! Lists. -/

def ladd (p : Nat) : List Nat → List Nat → List Nat
  | [], ys => ys
  | xs, [] => xs
  | x :: xs, y :: ys => (x + y) % p :: ladd p xs ys
def lmul (p : Nat) : List Nat → List Nat → List Nat
  | [], _ => []
  | x :: xs, ys => ladd p (ys.map fun y => x * y % p) (0 :: lmul p xs ys)
def lpow (p : Nat) (xs : List Nat) : Nat → List Nat
  | 0 => [1]
  | n + 1 => lmul p (lpow p xs n) xs
def lprod (p : Nat) : List (List Nat) → List Nat
  | [] => [1]
  | l :: ls => lmul p l (lprod p ls)

theorem pl_cons (x : Nat) (xs : List Nat) : pl p (x :: xs) = mon (Zp.of p x) 0 + mon 1 1 * pl p xs := Pol.ext fun i => by
  rw [Pol.c_add, c_mon_mul, c_mon, pl_c]
  cases i with
  | zero => simp; exact (add_zero _).symm
  | succ i => rw [if_neg (by omega), if_pos (by omega), one_mul, zero_add, pl_c]; rfl

theorem ladd_pl (xs ys : List Nat) : pl p (ladd p xs ys) = pl p xs + pl p ys := by
  induction xs generalizing ys with
  | nil => rw [ladd, pl_nil, zero_add]
  | cons x xs ih =>
    cases ys with
    | nil => rw [ladd, pl_nil, add_zero]; intro h; cases h
    | cons y ys =>
      rw [ladd, pl_cons, pl_cons, pl_cons, ih, Zp.of_mod, Zp.of_add, mon_add]
      exact by_ring [mon (Zp.of p x) 0, mon (Zp.of p y) 0, mon (1 : Zp p) 1, pl p xs, pl p ys] (X0 + X1 + X2 * (X3 + X4)) (X0 + X2 * X3 + (X1 + X2 * X4)) rfl

theorem lscale_pl (x : Nat) (ys : List Nat) : pl p (ys.map fun y => x * y % p) = mon (Zp.of p x) 0 * pl p ys := by
  induction ys with
  | nil => rw [List.map_nil, pl_nil, mul_zero]
  | cons y ys ih =>
    rw [List.map_cons, pl_cons, pl_cons, ih, Zp.of_mod, Zp.of_mul, show mon (Zp.of p x * Zp.of p y) 0 = mon (Zp.of p x) 0 * mon (Zp.of p y) 0 by rw [mon_mul]]
    exact by_ring [mon (Zp.of p x) 0, mon (Zp.of p y) 0, mon (1 : Zp p) 1, pl p ys] (X0 * X1 + X2 * (X0 * X3)) (X0 * (X1 + X2 * X3)) rfl

theorem lmul_pl (xs ys : List Nat) : pl p (lmul p xs ys) = pl p xs * pl p ys := by
  induction xs with
  | nil => rw [lmul, pl_nil, zero_mul]
  | cons x xs ih =>
    rw [lmul, ladd_pl, lscale_pl, pl_cons, pl_cons, ih, Zp.of_zero, mon_zero, zero_add, add_mul, mul_assoc]

theorem pl_1 : pl p [1] = 1 := Pol.ext fun i => by rw [pl_c, Pol.one_def, c_mon]; cases i <;> rfl

theorem lpow_pl (xs : List Nat) (n : Nat) : pl p (lpow p xs n) = pw (pl p xs) n := by
  induction n with
  | zero => exact pl_1
  | succ n ih => rw [lpow, lmul_pl, ih, pw_succ]

theorem lprod_pl (ls : List (List Nat)) : pl p (lprod p ls) = prod (ls.map (pl p)) := by
  induction ls with
  | nil => exact pl_1
  | cons l ls ih => rw [lprod, lmul_pl, ih]; rfl

/-- x. -/
def XX (p : Nat) : Pol (Zp p) := pl p [0, 1]

def linear (p : Nat) : List (List Nat) := (List.range p).map fun c => [c, 1]
def quads (p : Nat) : List (List Nat) := ((List.range p).flatMap fun u => (List.range p).map fun v => [v, u, 1]).filter fun b => (List.range p).all fun c => (c * c + b.getD 1 0 * c + b.getD 0 0) % p != 0

/-- The places of the finite check. -/
def checkB (p : Nat) : Bool :=
  (nl p (ladd p (lpow p [0, 1] p) [0, p - 1]) == nl p (lprod p (linear p))) &&
  (nl p (ladd p (lpow p [0, 1] (p * p)) [0, p - 1]) == nl p (lprod p (linear p ++ quads p))) &&
  (List.range p).all (fun u => (List.range p).all fun v => (quads p).contains [v, u, 1] || (List.range p).any fun c => (List.range p).any fun d => nl p (lmul p [c, 1] [d, 1]) == nl p [v, u, 1])

theorem check2 : checkB 2 = true := by decide +kernel
theorem check3 : checkB 3 = true := by decide +kernel
theorem check5 : checkB 5 = true := by decide +kernel

theorem less_x (hp : 0 < p) (q : Nat) : pl p (ladd p (lpow p [0, 1] q) [0, p - 1]) = pw (XX p) q - XX p := by
  rw [ladd_pl, lpow_pl, sub_eq]
  have : pl p [0, p - 1] = -pl p [0, 1] := by
    have h : pl p [0, p - 1] + pl p [0, 1] = 0 := by
      rw [← ladd_pl, ← nl_pl]
      have : nl p (ladd p [0, p - 1] [0, 1]) = [] := by
        simp only [ladd, nl, List.map_cons, List.map_nil]
        rw [show p - 1 + 1 = p by omega]
        simp [tr, Nat.mod_self]
      rw [this, pl_nil]
    rw [add_comm] at h
    exact neg_unique h
  rw [this]; rfl

structure Facts (p : Nat) : Prop where
  one : pw (XX p) p - XX p = prod ((linear p).map (pl p))
  two : pw (XX p) (p * p) - XX p = prod ((linear p ++ quads p).map (pl p))
  all : ∀ u v, u < p → v < p → [v, u, 1] ∈ quads p ∨ ∃ c d, c < p ∧ d < p ∧ pl p [v, u, 1] = pl p [c, 1] * pl p [d, 1]

theorem facts_of (hp : 0 < p) (h : checkB p = true) : Facts p := by
  simp only [checkB, Bool.and_eq_true, beq_iff_eq] at h
  obtain ⟨⟨h1, h2⟩, h3⟩ := h
  refine ⟨?_, ?_, fun u v hu hv => ?_⟩
  · rw [← less_x hp, ← lprod_pl, ← nl_pl, h1, nl_pl]
  · rw [← less_x hp, ← lprod_pl, ← nl_pl, h2, nl_pl]
  · have := List.all_eq_true.1 (List.all_eq_true.1 h3 u (List.mem_range.2 hu)) v (List.mem_range.2 hv)
    rcases Bool.or_eq_true_iff.1 this with h | h
    · exact Or.inl (by simpa using h)
    · right
      obtain ⟨c, hc, h⟩ := List.any_eq_true.1 h
      obtain ⟨d, hd, h⟩ := List.any_eq_true.1 h
      refine ⟨c, d, List.mem_range.1 hc, List.mem_range.1 hd, ?_⟩
      rw [← lmul_pl, ← nl_pl, ← (beq_iff_eq.1 h), nl_pl]

/-- Is there a monic divisor of the degree k? -/
def HasDiv (p : Nat) (a : Pol (Zp p)) (k : Nat) : Prop := ∃ bs : List Nat, bs.length = k ∧ wf p bs ∧ Dv (pl p (bs ++ [1])) a

theorem hasDiv_of (ht : Trial p) {a g : Pol (Zp p)} {k : Nat} (hm : Mo g) (hl : Ln g (k + 1)) (hd : Dv g a) : HasDiv p a k := by
  have hp := trial_gt ht
  have h1 : g.c k = 1 := by
    rcases hm with rfl | ⟨n, hd, h1⟩
    · exact absurd rfl hl.ne
    · have := (Mo.ln ht hd h1).unique hl
      obtain rfl : n = k := by omega
      exact h1
  refine ⟨(List.range k).map fun j => (g.c j).val, by simp, ?_, ?_⟩
  · intro x hx
    obtain ⟨j, _, rfl⟩ := List.mem_map.1 hx
    have := (g.c j).lt
    omega
  · have : pl p ((List.range k).map (fun j => (g.c j).val) ++ [1]) = g := Pol.ext fun i => by
      rw [pl_snoc, Pol.c_add, c_mon, pl_c, List.length_map, List.length_range]
      by_cases h : i < k
      · rw [if_neg (by omega), add_zero]
        have : ((List.range k).map fun j => (g.c j).val).getD i 0 = (g.c i).val := by simp [List.getD, h]
        rw [this, Zp.of_val]
      · have h0 : ((List.range k).map fun j => (g.c j).val).getD i 0 = 0 := by rw [List.getD, List.getElem?_eq_none (by simp; omega)]; rfl
        rw [h0, Zp.of_zero, zero_add]
        by_cases hi : i = k
        · rw [if_pos hi, hi, h1]; rfl
        · rw [if_neg hi]; exact (hl.1 i (by omega)).symm
    rw [this]; exact hd

theorem snoc_ln (ht : Trial p) (bs : List Nat) : Ln (pl p (bs ++ [1])) (bs.length + 1) :=
  ⟨by have := pl_dlt p (bs ++ [1]); simpa using this, fun m hm => by
    obtain rfl : m = bs.length := by omega
    rw [pl_c, getD_snoc, if_pos rfl]; exact Zp.one_ne ht⟩

/-- Is the greatest common divisor with x to the power q, less x, of the degree 0? -/
def Apart (p : Nat) (a : Pol (Zp p)) (q : Nat) : Prop := ∀ g, IsGcd g (pw (XX p) q - XX p) a → Ln g 1

theorem apart_no (ht : Trial p) {a b : Pol (Zp p)} {q m : Nat} (hb : Ln b (m + 2)) (h1 : Dv b a) (h2 : Dv b (pw (XX p) q - XX p)) (k : Apart p a q) : False := by
  obtain ⟨n, hn⟩ := Ln.exists a
  obtain ⟨g, hg⟩ := gcd_ex ht n a hn.1 (pw (XX p) q - XX p)
  have hg1 := k g hg
  have hd : Dv b g := hg.dv h2 h1
  have := hd.len ht hg1.ne hb hg1
  omega

theorem apart_of (ht : Trial p) {a : Pol (Zp p)} {q d : Nat} {ls : List (List Nat)} (e : pw (XX p) q - XX p = prod (ls.map (pl p))) (hl : ∀ l, l ∈ ls → l.length ≤ d + 1)
    (no : ∀ k, 1 ≤ k → k ≤ d → ¬ HasDiv p a k) (hne : ∀ l, l ∈ ls → pl p l ≠ 0) : Apart p a q := by
  intro g hg
  rcases fac ht (ls.map (pl p)) (by rw [← e]; exact hg.2.1) with ⟨l, hl', g', hg', h1⟩ | h1
  · exfalso
    obtain ⟨l, hm, rfl⟩ := List.mem_map.1 hl'
    obtain ⟨n, hn⟩ := Ln.exists g'
    have hg0 : g' ≠ 0 := fun h0 => by rw [h0] at hg'; exact hne l hm hg'.2.1.of_zero
    obtain ⟨k, rfl⟩ := hn.pos hg0
    obtain ⟨nl, hnl⟩ := Ln.exists (pl p l)
    have h2 := hg'.2.1.len ht (hne l hm) hn hnl
    have h3 := hnl.le (pl_dlt p l)
    have h4 := hl l hm
    have hk : k ≠ 0 := fun h0 => by subst h0; exact h1 hn
    exact no k (by omega) (by omega) (hasDiv_of ht hg'.1 hn (hg'.2.2.1.trans hg.2.2.1))
  · exact dv_one ht h1

theorem linear_len {l : List Nat} (h : l ∈ linear p) : l.length = 2 ∧ ∃ c, c < p ∧ l = [c] ++ [1] := by
  simp only [linear, List.mem_map, List.mem_range] at h
  obtain ⟨c, hc, rfl⟩ := h
  exact ⟨rfl, c, hc, rfl⟩

theorem quads_len {l : List Nat} (h : l ∈ quads p) : l.length = 3 ∧ ∃ u v, l = [v, u] ++ [1] := by
  simp only [quads, List.mem_filter, List.mem_flatMap, List.mem_map, List.mem_range] at h
  obtain ⟨⟨u, _, v, _, rfl⟩, _⟩ := h
  exact ⟨rfl, u, v, rfl⟩

/-- A polynomial of a degree up to 5 has no monic divisor of a degree up to half its own, just if it is apart. -/
theorem primes (ht : Trial p) (hF : Facts p) {a : Pol (Zp p)} {n : Nat} (hn : n ≤ 5) :
    (∀ i, 1 ≤ i → 2 * i ≤ n → Apart p a (p ^ i)) ↔ ¬ ∃ k, 1 ≤ k ∧ 2 * k ≤ n ∧ HasDiv p a k := by
  constructor
  · rintro h ⟨k, hk1, hk2, bs, hbl, hbw, hbd⟩
    have h1 : 2 ≤ n → ∀ c, c < p → Dv (pl p ([c] ++ [1])) a → False := fun h2 c hc hd =>
      apart_no ht (m := 0) (snoc_ln ht [c]) hd (by
        rw [hF.one]
        exact dv_prod (List.mem_map.2 ⟨[c, 1], by simp [linear]; exact hc, rfl⟩)) (by have := h 1 (by omega) (by omega); rwa [Nat.pow_one] at this)
    obtain rfl | rfl : k = 1 ∨ k = 2 := by omega
    · match bs, hbl with
      | [c], _ => exact h1 (by omega) c (hbw c (by simp)) hbd
    · match bs, hbl with
      | [v, u], _ =>
        rcases hF.all u v (hbw u (by simp)) (hbw v (by simp)) with hq | ⟨c, d, hc, _, hcd⟩
        · refine apart_no ht (m := 1) (snoc_ln ht [v, u]) hbd ?_ (h 2 (by omega) (by omega))
          rw [Nat.pow_two, hF.two]
          exact dv_prod (List.mem_map.2 ⟨[v, u, 1], List.mem_append_right _ hq, rfl⟩)
        · exact h1 (by omega) c hc (Dv.trans ⟨pl p [d, 1], hcd⟩ hbd)
  · intro h i hi1 hi2
    obtain rfl | rfl : i = 1 ∨ i = 2 := by omega
    · rw [Nat.pow_one]
      refine apart_of ht (d := 1) hF.one (fun l hl => by have := (linear_len hl).1; omega) (fun k h1 h2 hd => h ⟨k, h1, by omega, hd⟩) (fun l hl => ?_)
      obtain ⟨_, c, _, rfl⟩ := linear_len hl
      exact (snoc_ln ht [c]).ne
    · rw [Nat.pow_two]
      refine apart_of ht (d := 2) hF.two (fun l hl => ?_) (fun k h1 h2 hd => h ⟨k, h1, by omega, hd⟩) (fun l hl => ?_)
      · rcases List.mem_append.1 hl with hl | hl
        · have := (linear_len hl).1; omega
        · have := (quads_len hl).1; omega
      · rcases List.mem_append.1 hl with hl | hl
        · obtain ⟨_, c, _, rfl⟩ := linear_len hl
          exact (snoc_ln ht [c]).ne
        · obtain ⟨_, u, v, rfl⟩ := quads_len hl
          exact (snoc_ln ht [v, u]).ne

end
end Go.Proofs.Ytjpioijlpgmlfaa
