/- Matrices of whole numbers, plainly: products go together, with sums, and with transposes. -/
import Derived.Test.YtahjbeilddenbaaZawake
namespace Go.Proofs.Ytahjbeilddenbaa

theorem tab_congr {r c : Nat} {T U : Nat → Nat → Int} (h : ∀ i k, i < r → k < c → T i k = U i k) : tab c T (r * c) = tab c U (r * c) := by
  unfold tab
  refine List.map_congr_left fun j hj => ?_
  have hj := List.mem_range.1 hj
  have hc : 0 < c := by
    rcases Nat.eq_zero_or_pos c with h | h
    · subst h; simp at hj
    · exact h
  exact h _ _ (Nat.div_lt_of_lt_mul (by rw [Nat.mul_comm]; exact hj)) (Nat.mod_lt _ hc)
/-- The product's numbers. -/
def mulL (r m c : Nat) (xs ys : List Int) : List Int := tab c (fun i k => dotp xs ys m c i k m) (r * c)
theorem mulL_length (r m c : Nat) (xs ys : List Int) : (mulL r m c xs ys).length = r * c := tab_length _ _ _
theorem mulL_get {r m c : Nat} {xs ys : List Int} {i k : Nat} (hk : k < c) (hi : i < r) : (mulL r m c xs ys).getD (i * c + k) 0 = sm m fun t => xs.getD (i * m + t) 0 * ys.getD (t * c + k) 0 := tab_get _ hk hi
theorem int_sm_mul_right (n : Nat) (f : Nat → Int) (c : Int) : sm n f * c = sm n fun i => f i * c := by
  rw [Int.mul_comm, ← sm_mul]; exact sm_congr fun i _ => Int.mul_comm _ _

theorem mulL_assoc (r m k c : Nat) (xs ys zs : List Int) : mulL r k c (mulL r m k xs ys) zs = mulL r m c xs (mulL m k c ys zs) := by
  refine tab_congr fun i l hi hl => ?_
  show (sm k fun j => (mulL r m k xs ys).getD (i * k + j) 0 * zs.getD (j * c + l) 0) = sm m fun t => xs.getD (i * m + t) 0 * (mulL m k c ys zs).getD (t * c + l) 0
  have h1 : (sm k fun j => (mulL r m k xs ys).getD (i * k + j) 0 * zs.getD (j * c + l) 0) = sm k fun j => sm m fun t => xs.getD (i * m + t) 0 * ys.getD (t * k + j) 0 * zs.getD (j * c + l) 0 :=
    sm_congr fun j hj => by rw [mulL_get hj hi, int_sm_mul_right]
  have h2 : (sm m fun t => xs.getD (i * m + t) 0 * (mulL m k c ys zs).getD (t * c + l) 0) = sm m fun t => sm k fun j => xs.getD (i * m + t) 0 * ys.getD (t * k + j) 0 * zs.getD (j * c + l) 0 :=
    sm_congr fun t ht => by rw [mulL_get hl ht, ← sm_mul]; exact sm_congr fun j _ => by rw [Int.mul_assoc]
  rw [h1, h2, sm_swap]

/-- The sum's numbers. -/
def addL (r c : Nat) (xs ys : List Int) : List Int := tab c (fun i k => xs.getD (i * c + k) 0 + ys.getD (i * c + k) 0) (r * c)
theorem addL_length (r c : Nat) (xs ys : List Int) : (addL r c xs ys).length = r * c := tab_length _ _ _
theorem mulL_add (r m c : Nat) (xs ys zs : List Int) : mulL r m c xs (addL m c ys zs) = addL r c (mulL r m c xs ys) (mulL r m c xs zs) := by
  refine tab_congr fun i k hi hk => ?_
  rw [mulL_get hk hi, mulL_get hk hi]
  show (sm m fun t => xs.getD (i * m + t) 0 * (addL m c ys zs).getD (t * c + k) 0) = _
  rw [← sm_add]
  refine sm_congr fun t ht => ?_
  rw [show (addL m c ys zs).getD (t * c + k) 0 = ys.getD (t * c + k) 0 + zs.getD (t * c + k) 0 from tab_get _ hk ht, Int.mul_add]

/-- The transpose's numbers. -/
def trL (r c : Nat) (xs : List Int) : List Int := tab r (fun i k => xs.getD (k * c + i) 0) (c * r)
theorem trL_length (r c : Nat) (xs : List Int) : (trL r c xs).length = c * r := tab_length _ _ _
theorem trL_get {r c : Nat} {xs : List Int} {i k : Nat} (hk : k < r) (hi : i < c) : (trL r c xs).getD (i * r + k) 0 = xs.getD (k * c + i) 0 := tab_get _ hk hi
theorem trL_mul (r m c : Nat) (xs ys : List Int) : trL r c (mulL r m c xs ys) = mulL c m r (trL m c ys) (trL r m xs) := by
  refine tab_congr fun i k hi hk => ?_
  show (mulL r m c xs ys).getD (k * c + i) 0 = sm m fun t => (trL m c ys).getD (i * m + t) 0 * (trL r m xs).getD (t * r + k) 0
  rw [mulL_get hi hk]
  exact sm_congr fun t ht => by rw [trL_get ht hi, trL_get hk ht, Int.mul_comm]
theorem tab_self {r c : Nat} {xs : List Int} (h : xs.length = r * c) : tab c (fun i k => xs.getD (i * c + k) 0) (r * c) = xs := by
  refine List.ext_getElem (by rw [tab_length, h]) fun j h1 h2 => ?_
  rw [tab_length] at h1
  have := Nat.div_add_mod j c
  rw [Nat.mul_comm] at this
  simp only [tab, List.getElem_map, List.getElem_range, this]
  simp [List.getD, List.getElem?_eq_getElem h2]
theorem trL_tr {r c : Nat} {xs : List Int} (h : xs.length = r * c) : trL c r (trL r c xs) = xs := by
  refine Eq.trans ?_ (tab_self h)
  exact tab_congr fun i k hi hk => trL_get hi hk

end Go.Proofs.Ytahjbeilddenbaa
