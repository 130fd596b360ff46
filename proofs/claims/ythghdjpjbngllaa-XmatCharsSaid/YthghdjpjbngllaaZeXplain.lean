/- What the laws of layer 23 say, plainly: values and determinants of products. -/
import Derived.Test.YthghdjpjbngllaaZeRxd
namespace Go.Proofs.Ythghdjpjbngllaa
open Go.RowKit

section
variable {R S : Type} [CR R] [CR S]
theorem sm_hom (φ : R → S) (h0 : φ 0 = 0) (ha : ∀ a b, φ (a + b) = φ a + φ b) (f : Nat → R) : ∀ n, φ (sm n f) = sm n fun i => φ (f i)
  | 0 => h0
  | n + 1 => by
    show φ (sm n f + f n) = sm n (fun i => φ (f i)) + φ (f n)
    rw [ha, sm_hom φ h0 ha f n]
theorem dn_hom (φ : R → S) (h0 : φ 0 = 0) (h1 : φ 1 = 1) (ha : ∀ a b, φ (a + b) = φ a + φ b) (hm : ∀ a b, φ (a * b) = φ a * φ b) (hn : ∀ a, φ (-a) = -φ a) : ∀ (n : Nat) (A : Nat → Nat → R), φ (dn n A) = dn n fun i j => φ (A i j)
  | 0, _ => h1
  | n + 1, A => by
    show φ (sm (n + 1) fun k => sg k (A 0 k * dn n (mnr A k))) = sm (n + 1) fun k => sg k (φ (A 0 k) * dn n (mnr (fun i j => φ (A i j)) k))
    rw [sm_hom φ h0 ha]
    refine sm_congr fun k _ => ?_
    have e : φ (A 0 k * dn n (mnr A k)) = φ (A 0 k) * dn n (mnr (fun i j => φ (A i j)) k) := by rw [hm, dn_hom φ h0 h1 ha hm hn n]; rfl
    rw [← e]
    unfold sg
    split
    · exact hn _
    · rfl
end
section
variable {p : Nat}
/-- A polynomial's value. -/
noncomputable def ev (f : Pol (Zp p)) (x : Zp p) : Zp p := (pev f (MT.of 1 1 fun _ _ => x : MT (Zp p) 1 1)).e 0 0
theorem ev_zero (x : Zp p) : ev 0 x = 0 := by unfold ev; rw [pev_zero]; rfl
theorem ev_one (x : Zp p) : ev 1 x = 1 := by unfold ev; rw [pev_one, MT.e_one (by omega) (by omega), if_pos rfl]
theorem ev_add (x : Zp p) (f g : Pol (Zp p)) : ev (f + g) x = ev f x + ev g x := by unfold ev; rw [pev_add]; rfl
theorem ev_neg (x : Zp p) (f : Pol (Zp p)) : ev (-f) x = -ev f x := by unfold ev; rw [pev_neg]; rfl
theorem ev_mul (x : Zp p) (f g : Pol (Zp p)) : ev (f * g) x = ev f x * ev g x := by
  unfold ev
  rw [pev_mul, MT.e_mul]
  show (0 : Zp p) + _ = _
  rw [CR.zero_add]
theorem ev_mon0 (x a : Zp p) : ev (mon a 0) x = a := by
  unfold ev
  rw [pev_mon, MT.e_sc]
  show a * (MT.one 1 : MT (Zp p) 1 1).e 0 0 = a
  rw [MT.e_one (by omega) (by omega), if_pos rfl, CR.mul_one]
theorem ev_mon1 (x : Zp p) : ev (mon 1 1) x = x := by
  unfold ev
  rw [pev_mon, MT.one_sc]
  show ((MT.one 1 : MT (Zp p) 1 1) * (MT.of 1 1 fun _ _ => x)).e 0 0 = x
  rw [MT.one_mul, MT.of_e _ (by omega) (by omega)]
theorem pl_cons' (x : Nat) (xs : List Nat) : pl p (x :: xs) = mon (Zp.of p x) 0 + mon 1 1 * pl p xs := Pol.ext fun i => by
  rw [Pol.c_add, c_mon1, c_mon, pl_c]
  cases i with
  | zero => simp [CR.add_zero]
  | succ i => simp [CR.zero_add, pl_c]
theorem evl_ev (x : Zp p) : ∀ xs : List Nat, evl p x xs = ev (pl p xs) x
  | [] => by rw [pl_nil, ev_zero]; rfl
  | a :: xs => by
    rw [pl_cons', ev_add, ev_mul, ev_mon0, ev_mon1, ← evl_ev x xs, CR.mul_comm x]; rfl
theorem ev_dn (x : Zp p) (n : Nat) (A : Nat → Nat → Pol (Zp p)) : ev (dn n A) x = dn n fun i j => ev (A i j) x := dn_hom (fun f => ev f x) (ev_zero x) (ev_one x) (ev_add x) (ev_mul x) (ev_neg x) n A
theorem ev_sm (x : Zp p) (n : Nat) (f : Nat → Pol (Zp p)) : ev (sm n f) x = sm n fun i => ev (f i) x := sm_hom (fun f => ev f x) (ev_zero x) (ev_add x) f n
/-- A place of a product, in the order of the list. -/
def dotT (p : Nat) (xs ys : List (List Nat)) (m c j : Nat) : Pol (Zp p) := dotq p xs ys m c (j / c) (j % c) m
theorem dotT_at {xs ys : List (List Nat)} {m c i k : Nat} (hk : k < c) : dotT p xs ys m c (i * c + k) = dotq p xs ys m c i k m := by
  unfold dotT
  have h1 : (i * c + k) / c = i := by rw [Nat.mul_comm, Nat.mul_add_div (by omega), Nat.div_eq_of_lt hk, Nat.add_zero]
  have h2 : (i * c + k) % c = k := by rw [Nat.mul_comm, Nat.mul_add_mod, Nat.mod_eq_of_lt hk]
  rw [h1, h2]
theorem xev_e {x r c i k : Nat} {xs : List (List Nat)} (hi : i < r) (hk : k < c) : (xev p x r c xs).e i k = ev (pl p (xs.getD (i * c + k) [])) (Zp.of p x) := by
  unfold xev; rw [MT.of_e _ hi hk, evl_ev]
theorem xev_mul {x r m c : Nat} {xs ys zs : List (List Nat)} (h : ∀ i k, i < r → k < c → pl p (zs.getD (i * c + k) []) = dotq p xs ys m c i k m) : xev p x r c zs = xev p x r m xs * xev p x m c ys := MT.ext fun i k hi hk => by
  rw [xev_e hi hk, h i k hi hk, MT.e_mul]
  unfold dotq
  rw [ev_sm]
  exact sm_congr fun j hj => by rw [ev_mul, xev_e hi hj, xev_e hj hk]
theorem xev_one {x n : Nat} {zs : List (List Nat)} (h : ∀ i k, i < n → k < n → pl p (zs.getD (i * n + k) []) = if i = k then 1 else 0) : xev p x n n zs = MT.one n := MT.ext fun i k hi hk => by
  rw [xev_e hi hk, h i k hi hk, MT.e_one hi hk]
  split
  · exact ev_one _
  · exact ev_zero _
theorem xev_det {x n : Nat} {xs : List (List Nat)} : dn n (xev p x n n xs).e = ev (dn n (aT p n xs)) (Zp.of p x) := by
  rw [ev_dn]
  exact dn_congr n fun i j hi hj => xev_e hi hj
theorem aT_mul {n : Nat} {xs ys zs : List (List Nat)} (h : ∀ i k, i < n → k < n → pl p (zs.getD (i * n + k) []) = dotq p xs ys n n i k n) : dn n (aT p n zs) = dn n (aT p n xs) * dn n (aT p n ys) := by
  rw [← dn_mul]
  exact dn_congr n fun i j hi hj => h i j hi hj
end

end Go.Proofs.Ythghdjpjbngllaa
