/- The law's steps on rows; a step's numbers are the product with the identity's. -/
import Derived.Test.YtahjbeilddenbaaZturn
import Derived.Test.YtahjbeilddenbaaZalg
namespace Go.Proofs.Ytahjbeilddenbaa
open Go.RowKit

theorem RetE.mono {w : World} {L M : Nat} {r c : Nat} {zs ys : List Int} {ec : Int} {e : Ending} {w' : World} (h : RetE w L r c zs ec e w') (hL : L ≤ M) (hz : zs = ys) : RetE w M r c ys ec e w' := by
  obtain ⟨v, rfl, ⟨u, es, base, e1, h1⟩, b⟩ := h
  subst hz
  exact ⟨v, rfl, ⟨u, es, base, e1, h1.len, h1.own, fun j hj => (h1.num j hj).mono hL, h1.off⟩, b⟩

theorem law11_Do_swap (R C : Int) (ao : Option Addr) (n ca : Nat) (kd : Nat) (hkd : kd < 256) (hk : kd % 3 = 0) (I K : Int) (s : Bool) (q : Option Addr) (m d : Nat) (L r c : Nat) (zs : List Int) (ec : Int) (w : World)
    (hc : ∀ w', Below w.heap.size w w' → Calls Try.prog 57 #[.agg #[.int .i64 R, .int .i64 C, .slice ao n ca], .int .i64 I, .int .i64 K] w' (RetE w' L r c zs ec)) :
    Calls Try.prog 28 #[.agg #[.int .i64 R, .int .i64 C, .slice ao n ca], .agg #[.int .u8 kd, .int .i64 I, .int .i64 K, .bool s, .slice q m d]] w (RetE w L r c zs ec) := by
  obtain ⟨wb, ew, KA, KS, KR, B0, hsz⟩ := boxes2 w 24 46 24 [.int .i64 R, .int .i64 C, .slice ao n ca] [.int .u8 kd, .int .i64 I, .int .i64 K, .bool s, .slice q m d] [.int .i64 0, .int .i64 0, .slice none 0 0]
  clear hsz
  have HC := Lib.hid (hc wb B0); clear hc
  have t0 : Int.tmod (kd : Int) 3 = 0 := by rw [IntWalk.rem_in _ _ (by omega)]; omega
  have t1 : (kd : Int) % 3 = 0 := by omega
  have t2 : IntKind.u8.wrap 0 = 0 := by decide
  clear hk hkd
  go_enter Try.func28, Try.ntmps28
  go_upto_region 1 with (fail)
  rw [← ew]
  obtain ⟨g, eg⟩ : ∃ g, g = w.heap.size + 1 + 1 := ⟨_, rfl⟩
  rw [← eg] at KR ⊢
  have hgw : w.heap.size ≤ g := by omega
  clear ew eg
  have q0 := KA.cell 0; have q1 := KA.cell 1; have q2 := KA.cell 2
  have p0 := KS.cell 0
  have p1 := KS.cell 1
  have p2 := KS.cell 2
  go_wp2_with fail
  refine HC.out.mono ?_; rintro e w3 ⟨v3, rfl, h3, b3⟩
  clear q0 q1 q2 p0 p1 p2 KA KS HC t0 t1 t2
  obtain ⟨a3, k3, rfl⟩ := h3.agg
  replace KR := KR.next b3
  replace B0 := B0.trans (b3.mono B0.size)
  obtain ⟨nn, enn⟩ : ∃ nn, nn = zs.length := ⟨_, rfl⟩
  rw [← enn] at h3 ⊢
  clear enn
  have f0 := KR.free 0; have f1 := KR.free 1; have f2 := KR.free 2
  have c0 := KR.cell 0; have c1 := KR.cell 1; have c2 := KR.cell 2
  have KF := ((KR.set 0 (.int .i64 r)).set 1 (.int .i64 c)).set 2 (.slice a3 nn k3)
  have d0 := KF.cell 0; have d1 := KF.cell 1; have d2 := KF.cell 2
  have FR := Lib.hid (show RetE w L r c zs ec (.returned (.tuple #[.agg #[.int .i64 r, .int .i64 c, .slice a3 nn k3], .int .i64 ec])) (((w3.setCell ⟨g, 0, none⟩ (.int .i64 r)).setCell ⟨g, 1, none⟩ (.int .i64 c)).setCell ⟨g, 2, none⟩ (.slice a3 nn k3)) from ⟨_, rfl, h3.put KR _ _ _, ((B0.setCell (p := ⟨g, 0, none⟩) hgw _).setCell (p := ⟨g, 1, none⟩) hgw _).setCell (p := ⟨g, 2, none⟩) hgw _⟩)
  clear KF KR h3 B0 b3
  go_wp2
  exact bodyPost_ret (v := .tuple #[.agg #[.int .i64 r, .int .i64 c, .slice a3 nn k3], .int .i64 ec]) (by simp [results, Try.results28, go_sem, d0, d1, d2]) rfl FR.out

theorem law11_Do_add (R C : Int) (ao : Option Addr) (n ca : Nat) (kd : Nat) (hkd : kd < 256) (hk : kd % 3 = 1) (I K : Int) (s : Bool) (q : Option Addr) (m d : Nat) (L r c : Nat) (zs : List Int) (ec : Int) (w : World)
    (hc : ∀ w', Below w.heap.size w w' → Calls Try.prog 58 #[.agg #[.int .i64 R, .int .i64 C, .slice ao n ca], .int .i64 I, .int .i64 K, .agg #[.bool s, .slice q m d]] w' (RetE w' L r c zs ec)) :
    Calls Try.prog 28 #[.agg #[.int .i64 R, .int .i64 C, .slice ao n ca], .agg #[.int .u8 kd, .int .i64 I, .int .i64 K, .bool s, .slice q m d]] w (RetE w L r c zs ec) := by
  obtain ⟨wb, ew, KA, KS, KR, B0, hsz⟩ := boxes2 w 24 46 24 [.int .i64 R, .int .i64 C, .slice ao n ca] [.int .u8 kd, .int .i64 I, .int .i64 K, .bool s, .slice q m d] [.int .i64 0, .int .i64 0, .slice none 0 0]
  clear hsz
  have HC := Lib.hid (hc wb B0); clear hc
  have t0 : Int.tmod (kd : Int) 3 = 1 := by rw [IntWalk.rem_in _ _ (by omega)]; omega
  have t1 : (kd : Int) % 3 = 1 := by omega
  have t2 : IntKind.u8.wrap 1 = 1 := by decide
  clear hk hkd
  go_enter Try.func28, Try.ntmps28
  go_upto_region 1 with (fail)
  rw [← ew]
  obtain ⟨g, eg⟩ : ∃ g, g = w.heap.size + 1 + 1 := ⟨_, rfl⟩
  rw [← eg] at KR ⊢
  have hgw : w.heap.size ≤ g := by omega
  clear ew eg
  have q0 := KA.cell 0; have q1 := KA.cell 1; have q2 := KA.cell 2
  have p0 := KS.cell 0
  have p1 := KS.cell 1
  have p2 := KS.cell 2
  have p3 := KS.cell 3
  have p4 := KS.cell 4
  go_wp2_with fail
  refine HC.out.mono ?_; rintro e w3 ⟨v3, rfl, h3, b3⟩
  clear q0 q1 q2 p0 p1 p2 p3 p4 KA KS HC t0 t1 t2
  obtain ⟨a3, k3, rfl⟩ := h3.agg
  replace KR := KR.next b3
  replace B0 := B0.trans (b3.mono B0.size)
  obtain ⟨nn, enn⟩ : ∃ nn, nn = zs.length := ⟨_, rfl⟩
  rw [← enn] at h3 ⊢
  clear enn
  have f0 := KR.free 0; have f1 := KR.free 1; have f2 := KR.free 2
  have c0 := KR.cell 0; have c1 := KR.cell 1; have c2 := KR.cell 2
  have KF := ((KR.set 0 (.int .i64 r)).set 1 (.int .i64 c)).set 2 (.slice a3 nn k3)
  have d0 := KF.cell 0; have d1 := KF.cell 1; have d2 := KF.cell 2
  have FR := Lib.hid (show RetE w L r c zs ec (.returned (.tuple #[.agg #[.int .i64 r, .int .i64 c, .slice a3 nn k3], .int .i64 ec])) (((w3.setCell ⟨g, 0, none⟩ (.int .i64 r)).setCell ⟨g, 1, none⟩ (.int .i64 c)).setCell ⟨g, 2, none⟩ (.slice a3 nn k3)) from ⟨_, rfl, h3.put KR _ _ _, ((B0.setCell (p := ⟨g, 0, none⟩) hgw _).setCell (p := ⟨g, 1, none⟩) hgw _).setCell (p := ⟨g, 2, none⟩) hgw _⟩)
  clear KF KR h3 B0 b3
  go_wp2
  exact bodyPost_ret (v := .tuple #[.agg #[.int .i64 r, .int .i64 c, .slice a3 nn k3], .int .i64 ec]) (by simp [results, Try.results28, go_sem, d0, d1, d2]) rfl FR.out

theorem law11_Do_neg (R C : Int) (ao : Option Addr) (n ca : Nat) (kd : Nat) (hkd : kd < 256) (hk : kd % 3 = 2) (I K : Int) (s : Bool) (q : Option Addr) (m d : Nat) (L r c : Nat) (zs : List Int) (ec : Int) (w : World)
    (hc : ∀ w', Below w.heap.size w w' → Calls Try.prog 59 #[.agg #[.int .i64 R, .int .i64 C, .slice ao n ca], .int .i64 I] w' (RetE w' L r c zs ec)) :
    Calls Try.prog 28 #[.agg #[.int .i64 R, .int .i64 C, .slice ao n ca], .agg #[.int .u8 kd, .int .i64 I, .int .i64 K, .bool s, .slice q m d]] w (RetE w L r c zs ec) := by
  obtain ⟨wb, ew, KA, KS, KR, B0, hsz⟩ := boxes2 w 24 46 24 [.int .i64 R, .int .i64 C, .slice ao n ca] [.int .u8 kd, .int .i64 I, .int .i64 K, .bool s, .slice q m d] [.int .i64 0, .int .i64 0, .slice none 0 0]
  clear hsz
  have HC := Lib.hid (hc wb B0); clear hc
  have t0 : Int.tmod (kd : Int) 3 = 2 := by rw [IntWalk.rem_in _ _ (by omega)]; omega
  have t1 : (kd : Int) % 3 = 2 := by omega
  have t2 : IntKind.u8.wrap 2 = 2 := by decide
  clear hk hkd
  go_enter Try.func28, Try.ntmps28
  go_upto_region 1 with (fail)
  rw [← ew]
  obtain ⟨g, eg⟩ : ∃ g, g = w.heap.size + 1 + 1 := ⟨_, rfl⟩
  rw [← eg] at KR ⊢
  have hgw : w.heap.size ≤ g := by omega
  clear ew eg
  have q0 := KA.cell 0; have q1 := KA.cell 1; have q2 := KA.cell 2
  have p0 := KS.cell 0
  have p1 := KS.cell 1
  go_wp2_with fail
  refine HC.out.mono ?_; rintro e w3 ⟨v3, rfl, h3, b3⟩
  clear q0 q1 q2 p0 p1 KA KS HC t0 t1 t2
  obtain ⟨a3, k3, rfl⟩ := h3.agg
  replace KR := KR.next b3
  replace B0 := B0.trans (b3.mono B0.size)
  obtain ⟨nn, enn⟩ : ∃ nn, nn = zs.length := ⟨_, rfl⟩
  rw [← enn] at h3 ⊢
  clear enn
  have f0 := KR.free 0; have f1 := KR.free 1; have f2 := KR.free 2
  have c0 := KR.cell 0; have c1 := KR.cell 1; have c2 := KR.cell 2
  have KF := ((KR.set 0 (.int .i64 r)).set 1 (.int .i64 c)).set 2 (.slice a3 nn k3)
  have d0 := KF.cell 0; have d1 := KF.cell 1; have d2 := KF.cell 2
  have FR := Lib.hid (show RetE w L r c zs ec (.returned (.tuple #[.agg #[.int .i64 r, .int .i64 c, .slice a3 nn k3], .int .i64 ec])) (((w3.setCell ⟨g, 0, none⟩ (.int .i64 r)).setCell ⟨g, 1, none⟩ (.int .i64 c)).setCell ⟨g, 2, none⟩ (.slice a3 nn k3)) from ⟨_, rfl, h3.put KR _ _ _, ((B0.setCell (p := ⟨g, 0, none⟩) hgw _).setCell (p := ⟨g, 1, none⟩) hgw _).setCell (p := ⟨g, 2, none⟩) hgw _⟩)
  clear KF KR h3 B0 b3
  go_wp2
  exact bodyPost_ret (v := .tuple #[.agg #[.int .i64 r, .int .i64 c, .slice a3 nn k3], .int .i64 ec]) (by simp [results, Try.results28, go_sem, d0, d1, d2]) rfl FR.out

/-- A step's numbers. -/
def doL (kd i k : Nat) (y : Int) (r c : Nat) (xs : List Int) : List Int :=
  if kd % 3 = 0 then turnL r c k (fun q => xs.getD (i * c + q) 0) (turnL r c i (fun q => xs.getD (k * c + q) 0) xs)
  else if kd % 3 = 1 then turnL r c i (fun q => xs.getD (i * c + q) 0 + y * xs.getD (k * c + q) 0) xs
  else turnL r c i (fun q => -xs.getD (i * c + q) 0) xs
theorem doL_length (kd i k : Nat) (y : Int) (r c : Nat) (xs : List Int) : (doL kd i k y r c xs).length = r * c := by
  unfold doL; split
  · exact turnL_length _ _ _ _ _
  · split <;> exact turnL_length _ _ _ _ _
theorem turnL_get {r c i p q : Nat} (T : Nat → Int) (xs : List Int) (hp : p < r) (hq : q < c) : (turnL r c i T xs).getD (p * c + q) 0 = if p = i then T q else xs.getD (p * c + q) 0 := tab_get (fun p q => if p = i then T q else xs.getD (p * c + q) 0) hq hp
theorem idL_get {n p q : Nat} (hp : p < n) (hq : q < n) : (idL n).getD (p * n + q) 0 = if p = q then 1 else 0 := tab_get (fun i k => if i = k then 1 else 0) hq hp
theorem list_tab {r c : Nat} {xs : List Int} {T : Nat → Nat → Int} (hx : xs.length = r * c) (h : ∀ i k, i < r → k < c → xs.getD (i * c + k) 0 = T i k) : xs = tab c T (r * c) := by
  rw [← tab_self hx]
  exact tab_congr h
theorem sm_id (n p : Nat) (f : Nat → Int) (hp : p < n) : (sm n fun t => (if p = t then (1 : Int) else 0) * f t) = f p := by
  rw [sm_one hp fun i _ hi => by rw [if_neg (fun h => hi h.symm), Int.zero_mul], if_pos rfl, Int.one_mul]

theorem doL_mul (kd i k : Nat) (y : Int) (r c : Nat) (xs : List Int) (hi : i < r) (hk : kd % 3 = 2 ∨ k < r) : doL kd i k y r c xs = mulL r r c (doL kd i k y r r (idL r)) xs := by
  refine list_tab (doL_length _ _ _ _ _ _ _) fun p q hp hq => ?_
  show _ = sm r fun t => (doL kd i k y r r (idL r)).getD (p * r + t) 0 * xs.getD (t * c + q) 0
  unfold doL
  by_cases h0 : kd % 3 = 0
  · have hk2 : k < r := hk.resolve_left (by omega)
    rw [if_pos h0, if_pos h0, turnL_get _ _ hp hq]
    have e : ∀ t, t < r → (turnL r r k (fun q => (idL r).getD (i * r + q) 0) (turnL r r i (fun q => (idL r).getD (k * r + q) 0) (idL r))).getD (p * r + t) 0 = if (if p = k then i else if p = i then k else p) = t then 1 else 0 := by
      intro t ht
      rw [turnL_get _ _ hp ht]
      by_cases h1 : p = k
      · rw [if_pos h1, if_pos h1]; exact idL_get hi ht
      · rw [if_neg h1, if_neg h1, turnL_get _ _ hp ht]
        by_cases h2 : p = i
        · rw [if_pos h2, if_pos h2]; exact idL_get hk2 ht
        · rw [if_neg h2, if_neg h2]; exact idL_get hp ht
    rw [sm_congr fun t ht => by rw [e t ht]]
    by_cases h1 : p = k
    · rw [if_pos h1, if_pos h1, sm_id r i _ hi]
    · rw [if_neg h1, if_neg h1, turnL_get _ _ hp hq]
      by_cases h2 : p = i
      · rw [if_pos h2, if_pos h2, sm_id r k _ hk2]
      · rw [if_neg h2, if_neg h2, sm_id r p _ hp]
  · rw [if_neg h0, if_neg h0]
    by_cases h3 : kd % 3 = 1
    · have hk2 : k < r := hk.resolve_left (by omega)
      rw [if_pos h3, if_pos h3, turnL_get _ _ hp hq]
      by_cases h2 : p = i
      · rw [if_pos h2]
        have e : ∀ t, t < r → (turnL r r i (fun q => (idL r).getD (i * r + q) 0 + y * (idL r).getD (k * r + q) 0) (idL r)).getD (p * r + t) 0 * xs.getD (t * c + q) 0 = (if i = t then 1 else 0) * xs.getD (t * c + q) 0 + y * ((if k = t then 1 else 0) * xs.getD (t * c + q) 0) := by
          intro t ht
          rw [turnL_get _ _ hp ht, if_pos h2, idL_get hi ht, idL_get hk2 ht, Int.add_mul, Int.mul_assoc]
        rw [sm_congr e, sm_add, sm_mul, sm_id r i _ hi, sm_id r k _ hk2]
      · rw [if_neg h2]
        have e : ∀ t, t < r → (turnL r r i (fun q => (idL r).getD (i * r + q) 0 + y * (idL r).getD (k * r + q) 0) (idL r)).getD (p * r + t) 0 * xs.getD (t * c + q) 0 = (if p = t then 1 else 0) * xs.getD (t * c + q) 0 := by
          intro t ht
          rw [turnL_get _ _ hp ht, if_neg h2, idL_get hp ht]
        rw [sm_congr e, sm_id r p _ hp]
    · rw [if_neg h3, if_neg h3, turnL_get _ _ hp hq]
      by_cases h2 : p = i
      · rw [if_pos h2]
        have e : ∀ t, t < r → (turnL r r i (fun q => -(idL r).getD (i * r + q) 0) (idL r)).getD (p * r + t) 0 * xs.getD (t * c + q) 0 = -((if i = t then 1 else 0) * xs.getD (t * c + q) 0) := by
          intro t ht
          rw [turnL_get _ _ hp ht, if_pos h2, idL_get hi ht, Int.neg_mul]
        rw [sm_congr e, sm_neg, sm_id r i _ hi]
      · rw [if_neg h2]
        have e : ∀ t, t < r → (turnL r r i (fun q => -(idL r).getD (i * r + q) 0) (idL r)).getD (p * r + t) 0 * xs.getD (t * c + q) 0 = (if p = t then 1 else 0) * xs.getD (t * c + q) 0 := by
          intro t ht
          rw [turnL_get _ _ hp ht, if_neg h2, idL_get hp ht]
        rw [sm_congr e, sm_id r p _ hp]

/-- Which steps may be done. -/
def There (kd : Nat) (I K : Int) (r : Nat) : Prop := (0 ≤ I ∧ I < r) ∧ (kd % 3 = 2 ∨ (0 ≤ K ∧ K < r)) ∧ (kd % 3 ≠ 1 ∨ I ≠ K)

theorem law11_Do_ok {a : Value} {kd : Nat} (hkd : kd < 256) (i k : Int) (I K : Nat) {s : Bool} {q : Option Addr} {m d : Nat} {xs : List Int} {y : Int} {w : World} (r c : Nat) (hA : Mt w a r c xs 3) (hB : Iv w (.agg #[.bool s, .slice q m d]) y 3) (hr : r ≤ 64) (hc : c ≤ 64) (hx : xs.length = r * c) (ei : i = I) (ek : kd % 3 ≠ 2 → k = K) (h : There kd i k r) :
    Calls Try.prog 28 #[a, .agg #[.int .u8 kd, .int .i64 i, .int .i64 k, .bool s, .slice q m d]] w (RetE w 10 r c (doL kd I K y r c xs) 0) := by
  obtain ⟨ao, ca, rfl⟩ := hA.agg
  obtain ⟨h1, h2, h3⟩ := h
  by_cases e0 : kd % 3 = 0
  · have ek' := ek (by omega)
    have h2' := h2.resolve_left (by omega)
    refine law11_Do_swap _ _ _ _ _ kd hkd e0 i k s q m d 10 r c _ 0 w fun w' hb => ?_
    subst ei; subst ek'
    exact (zmat_SwapRows _ r c I K xs 3 w' (hA.next hb) hr hc hx (by omega) (by omega) (by omega)).mono fun e w2 h => h.mono (by omega) (by rw [doL, if_pos e0])
  · by_cases e1 : kd % 3 = 1
    · have ek' := ek (by omega)
      have h2' := h2.resolve_left (by omega)
      have h3' := h3.resolve_left (by omega)
      refine law11_Do_add _ _ _ _ _ kd hkd e1 i k s q m d 10 r c _ 0 w fun w' hb => ?_
      subst ei; subst ek'
      exact (zmat_AddRow _ _ r c I K xs y 3 3 w' (hA.next hb) (hB.next hb) hr hc hx (by omega) (by omega) (by omega) (by omega) (by omega)).mono fun e w2 h => h.mono (by omega) (by rw [doL, if_neg e0, if_pos e1])
    · refine law11_Do_neg _ _ _ _ _ kd hkd (by omega) i k s q m d 10 r c _ 0 w fun w' hb => ?_
      subst ei
      exact (zmat_NegRow _ r c I xs 3 w' (hA.next hb) hr hc hx (by omega) (by omega)).mono fun e w2 h => h.mono (by omega) (by rw [doL, if_neg e0, if_neg e1])

theorem law11_Do_shape {a : Value} {kd : Nat} (hkd : kd < 256) (i k : Int) {s : Bool} {q : Option Addr} {m d : Nat} {xs : List Int} {y : Int} {w : World} (R C : Int) (hA : Mt w a R C xs 3) (hB : Iv w (.agg #[.bool s, .slice q m d]) y 3) (h : ¬ Fm R C xs.length) :
    Calls Try.prog 28 #[a, .agg #[.int .u8 kd, .int .i64 i, .int .i64 k, .bool s, .slice q m d]] w (RetE w 0 0 0 [] 2) := by
  obtain ⟨ao, ca, rfl⟩ := hA.agg
  by_cases e0 : kd % 3 = 0
  · exact law11_Do_swap _ _ _ _ _ kd hkd e0 i k s q m d 0 0 0 _ 2 w fun w' hb => zmat_SwapRows_shape _ R C i k xs 3 w' (hA.next hb) h
  · by_cases e1 : kd % 3 = 1
    · exact law11_Do_add _ _ _ _ _ kd hkd e1 i k s q m d 0 0 0 _ 2 w fun w' hb => zmat_AddRow_shape _ _ R C i k xs y 3 3 w' (hA.next hb) (hB.next hb) h
    · exact law11_Do_neg _ _ _ _ _ kd hkd (by omega) i k s q m d 0 0 0 _ 2 w fun w' hb => zmat_NegRow_shape _ R C i xs 3 w' (hA.next hb) h

theorem law11_Do_arg {a : Value} {kd : Nat} (hkd : kd < 256) (i k : Int) {s : Bool} {q : Option Addr} {m d : Nat} {xs : List Int} {y : Int} {w : World} (r c : Nat) (hA : Mt w a r c xs 3) (hB : Iv w (.agg #[.bool s, .slice q m d]) y 3) (hr : r ≤ 64) (hc : c ≤ 64) (hx : xs.length = r * c) (h : ¬ There kd i k r) :
    Calls Try.prog 28 #[a, .agg #[.int .u8 kd, .int .i64 i, .int .i64 k, .bool s, .slice q m d]] w (RetE w 0 0 0 [] 1) := by
  obtain ⟨ao, ca, rfl⟩ := hA.agg
  by_cases e0 : kd % 3 = 0
  · exact law11_Do_swap _ _ _ _ _ kd hkd e0 i k s q m d 0 0 0 _ 1 w fun w' hb => zmat_SwapRows_arg _ r c i k xs 3 w' (hA.next hb) hr hc hx fun h2 => h ⟨h2.1, .inr h2.2, .inl (by omega)⟩
  · by_cases e1 : kd % 3 = 1
    · exact law11_Do_add _ _ _ _ _ kd hkd e1 i k s q m d 0 0 0 _ 1 w fun w' hb => zmat_AddRow_arg _ _ r c i k xs y 3 3 w' (hA.next hb) (hB.next hb) hr hc hx fun h2 => h ⟨h2.1, .inr h2.2.1, .inr h2.2.2⟩
    · exact law11_Do_neg _ _ _ _ _ kd hkd (by omega) i k s q m d 0 0 0 _ 1 w fun w' hb => zmat_NegRow_arg _ r c i xs 3 w' (hA.next hb) hr hc hx fun h2 => h ⟨h2, .inl (by omega), .inl (by omega)⟩

end Go.Proofs.Ytahjbeilddenbaa
