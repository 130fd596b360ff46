/- Package zint: changing the sign, sums, products, comparison. -/
import Derived.Test.YtahjbeilddenbaaZint
namespace Go.Proofs.Ytahjbeilddenbaa
open Go.RowKit

theorem Sl.off {w : World} {u : Value} {xs : List Nat} (h : Sl .u64 w u xs) {e : TypeId} {g : Nat} {p : Bool} {a : Option Addr} {n c : Nat} (K : Blk e w g [.bool p, .slice a n c]) (j : Nat) (v : Value) : Sl .u64 (w.setCell ⟨g, j, none⟩ v) u xs := by
  obtain ⟨ao, b, off, cap, rfl, hl, hcs⟩ := h
  by_cases hb : b = g
  · subst hb
    cases xs with
    | nil => exact ⟨ao, b, off, cap, rfl, hl, hcs.ao, fun j hj => absurd hj (Nat.not_lt_zero _)⟩
    | cons x xs =>
      have h0 := hcs.cell 0 (by simp)
      rw [K.cell] at h0
      exfalso
      match off, h0 with
      | 0, h0 => simp at h0
      | 1, h0 => simp at h0
      | n+2, h0 => simp at h0
  · exact ⟨ao, b, off, cap, rfl, hl, hcs.set_far hb v⟩

/-- A number may be stored in a block that holds a number. -/
theorem IvN.put {w : World} {v : Value} {z : Int} {L : Nat} (h : IvN w v z L) {e : TypeId} {g : Nat} {p : Bool} {a : Option Addr} {n c : Nat} (K : Blk e w g [.bool p, .slice a n c]) (p' : Bool) (y : Value) :
    IvN ((w.setCell ⟨g, 0, none⟩ (.bool p')).setCell ⟨g, 1, none⟩ y) v z L := by
  obtain ⟨s, u, xs, e, hs, r⟩ := h
  exact ⟨s, u, xs, e, (hs.off K 0 _).off (K.set 0 (.bool p')) 1 y, r⟩

theorem IvN.agg {w : World} {v : Value} {z : Int} {L : Nat} (h : IvN w v z L) : ∃ s ao n c, v = .agg #[.bool s, .slice ao n c] := by
  obtain ⟨s, u, xs, e, ⟨ao, b, off, cap, rfl, hl, hcs⟩, r⟩ := h
  exact ⟨s, ao, _, cap, e⟩
theorem Iv.agg {w : World} {v : Value} {z : Int} {L : Nat} (h : Iv w v z L) : ∃ s ao n c, v = .agg #[.bool s, .slice ao n c] := by
  obtain ⟨s, u, xs, e, ⟨ao, b, off, cap, rfl, hl, hcs⟩, r⟩ := h
  exact ⟨s, ao, _, cap, e⟩

theorem zint_Neg (s : Bool) (u : Value) (xs : List Nat) (w : World) (hu : Sl .u64 w u xs) (hm : xs.length ≤ 1000000) (hx : wf W64 xs) :
    Calls Try.prog 54 #[.agg #[.bool s, u]] w (RetI w xs.length (sg (!s) (nv W64 xs))) := by
  obtain ⟨ao, ba, oa, ca, rfl, hl, hcs⟩ := id hu
  have K0 : Blk 36 ((w.alloc (.cells #[.bool s, .slice ao xs.length ca] 36)).alloc (.cells #[.bool false, .slice none 0 0] 36)) (w.heap.size + 1) [.bool false, .slice none 0 0] := by
    have := Blk.lit (w.alloc (.cells #[.bool s, .slice ao xs.length ca] 36)) 36 [.bool false, .slice none 0 0]
    simpa using this
  have B0 : Below w.heap.size w ((w.alloc (.cells #[.bool s, .slice ao xs.length ca] 36)).alloc (.cells #[.bool false, .slice none 0 0] 36)) := ((Below.refl _ _).alloc (Nat.le_refl _) _).alloc (by simp) _
  go_enter Try.func54, Try.ntmps54
  go_wp2_with fail
  generalize (w.alloc (.cells #[.bool s, .slice ao xs.length ca] 36)).alloc (.cells #[.bool false, .slice none 0 0] 36) = wb at *
  obtain ⟨g, eg⟩ : ∃ g, g = w.heap.size + 1 := ⟨_, rfl⟩
  rw [← eg] at K0 ⊢
  have hgw : w.heap.size ≤ g := by omega
  clear eg
  refine (zint_From (!s) _ xs _ (hu.next B0) (by omega) hx).mono ?_; rintro e w2 ⟨v2, rfl, h2, b2, q2⟩
  obtain ⟨s2, a2, n2, c2, rfl⟩ := h2.agg
  have hg := K0.lt
  have K1 := K0.next b2
  have f0 := K1.free 0; have f1 := K1.free 1
  have c0 := K1.cell 0; have c1 := K1.cell 1
  have KF := (K1.set 0 (.bool s2)).set 1 (.slice a2 n2 c2)
  have d0 := KF.cell 0; have d1 := KF.cell 1
  have R := Lib.hid (h2.put K1 s2 (.slice a2 n2 c2)); clear h2
  have BF := Lib.hid (((B0.trans (b2.mono B0.size)).setCell (p := ⟨g, 0, none⟩) hgw (.bool s2)).setCell (p := ⟨g, 1, none⟩) hgw (.slice a2 n2 c2)); replace q2 := q2.mono B0.size; clear b2 B0
  clear K0 K1 KF
  go_wp2
  trace_state
  exact bodyPost_ret (v := .agg #[.bool s2, .slice a2 n2 c2]) (by simp [results, Try.results54, go_sem, d0, d1]) rfl ⟨_, rfl, R.out, BF.out, q2⟩


theorem boxes2 (w : World) (e1 e2 e3 : TypeId) (A B C : List Value) : ∃ wb, wb = ((w.alloc (.cells A.toArray e1)).alloc (.cells B.toArray e2)).alloc (.cells C.toArray e3) ∧
    Blk e1 wb w.heap.size A ∧ Blk e2 wb (w.heap.size + 1) B ∧ Blk e3 wb (w.heap.size + 1 + 1) C ∧ Below w.heap.size w wb ∧ wb.heap.size = w.heap.size + 1 + 1 + 1 := by
  have b1 := Blk.lit w e1 A
  have b2 := Blk.lit (w.alloc (.cells A.toArray e1)) e2 B
  have b3 := Blk.lit ((w.alloc (.cells A.toArray e1)).alloc (.cells B.toArray e2)) e3 C
  have s1 : (w.alloc (.cells A.toArray e1)).heap.size = w.heap.size + 1 := by simp
  have s2 : ((w.alloc (.cells A.toArray e1)).alloc (.cells B.toArray e2)).heap.size = w.heap.size + 1 + 1 := by simp
  rw [s1] at b2
  rw [s2] at b3
  exact ⟨_, rfl, (b1.alloc _).alloc _, b2.alloc _, b3, (((Below.refl _ _).alloc (Nat.le_refl _) _).alloc (by simp) _).alloc (by rw [s2]; omega) _, by simp⟩

theorem RetI.mono {w : World} {L M : Nat} {z y : Int} {e : Ending} {w' : World} (h : RetI w L z e w') (hL : L ≤ M) (hz : z = y) : RetI w M y e w' := by
  obtain ⟨v, rfl, ⟨s, u, xs, e, hs, hn, hl, r⟩, b, q⟩ := h
  exact ⟨v, rfl, ⟨s, u, xs, e, hs, hn, by omega, hz ▸ r⟩, b, q⟩

theorem zint_Add (s t : Bool) (u v : Value) (xs ys : List Nat) (w : World) (hu : Sl .u64 w u xs) (hv : Sl .u64 w v ys) (hm : xs.length ≤ 100000) (hn : ys.length ≤ 100000) (hx : wf W64 xs) (hy : wf W64 ys) :
    Calls Try.prog 24 #[.agg #[.bool s, u], .agg #[.bool t, v]] w (RetI w (xs.length + ys.length + 1) (sg s (nv W64 xs) + sg t (nv W64 ys))) := by
  obtain ⟨ao, ba, oa, ca, rfl, hl, hcs⟩ := id hu
  obtain ⟨bo, bb, ob, cb, rfl, kl, kcs⟩ := id hv
  obtain ⟨wb, ew, KA, KB, KC, B0, hsz⟩ := boxes2 w 36 36 36 [.bool s, .slice ao xs.length ca] [.bool t, .slice bo ys.length cb] [.bool false, .slice none 0 0]
  have HSZ := Lib.hid hsz; clear hsz
  clear hl hcs kl kcs
  obtain ⟨L, eL⟩ : ∃ L, L = xs.length + ys.length + 1 := ⟨_, rfl⟩
  rw [← eL]
  obtain ⟨z, ez⟩ : ∃ z, z = sg s (nv W64 xs) + sg t (nv W64 ys) := ⟨_, rfl⟩
  rw [← ez]
  have hL : xs.length + ys.length + 1 ≤ L := by omega
  have EZ := Lib.hid ez; clear ez eL
  go_enter Try.func24, Try.ntmps24
  by_cases hst : s = t
  · subst hst
    go_upto_region 2 with (fail)
    rw [← ew]
    replace KA := KA.drew; replace KB := KB.drew; replace KC := KC.drew
    replace B0 := B0.trans (Drawn.below (w' := wb.drew) ⟨1, rfl⟩ _)
    replace hu := hu.next B0; replace hv := hv.next B0
    clear ew
    refine startP (S := (fun w' => Below (wb.drew).heap.size (wb.drew) w')) (by kernel_rfl) _ rfl rfl rfl (by kernel_rfl) (Below.refl _ _) (fun hHeld => ?_)
    refine takeL 0 (v := ?_) rfl (by kernel_rfl) (by kernel_rfl) (by kernel_rfl) (fun _ _ _ h => h) ⟨by rfl, ?_⟩ (by assumption) ?_
    rotate_left
    · intro w hS; go_simp <;> with_reducible rfl
    simp only [Act.put, List.setIfInBounds_toArray, List.set_cons_zero, List.set_cons_succ]
    refine takeL 1 (v := ?_) rfl (by kernel_rfl) (by kernel_rfl) (by kernel_rfl) (fun _ _ _ h => h) ⟨by rfl, ?_⟩ (by assumption) ?_
    rotate_left
    · intro w hS; have fa := KA.at hS; have fb := KB.at hS; have f1 := fa 0; have f2 := fa 1; have f3 := fb 0; have f4 := fb 1; clear fa fb; go_simp <;> with_reducible rfl
    simp only [Act.put, List.setIfInBounds_toArray, List.set_cons_zero, List.set_cons_succ]
    refine takeL 2 (v := ?_) rfl (by kernel_rfl) (by kernel_rfl) (by kernel_rfl) (fun _ _ _ h => h) ⟨by rfl, ?_⟩ (by assumption) ?_
    rotate_left
    · intro w hS; go_simp <;> with_reducible rfl
    simp only [Act.put, List.setIfInBounds_toArray, List.set_cons_zero, List.set_cons_succ]
    refine takeL 3 (v := ?_) rfl (by kernel_rfl) (by kernel_rfl) (by kernel_rfl) (fun _ _ _ h => h) ⟨by rfl, ?_⟩ (by assumption) ?_
    rotate_left
    · intro w hS; have fa := KA.at hS; have fb := KB.at hS; have f1 := fa 0; have f2 := fa 1; have f3 := fb 0; have f4 := fb 1; clear fa fb; go_simp <;> with_reducible rfl
    simp only [Act.put, List.setIfInBounds_toArray, List.set_cons_zero, List.set_cons_succ]
    refine takeL 5 (v := ?_) rfl (by kernel_rfl) (by kernel_rfl) (by kernel_rfl) (fun _ _ _ h => h) ⟨by rfl, ?_⟩ (by assumption) ?_
    rotate_left
    · intro w hS; go_simp <;> with_reducible rfl
    simp only [Act.put, List.setIfInBounds_toArray, List.set_cons_zero, List.set_cons_succ]
    refine takeL 6 (v := ?_) rfl (by kernel_rfl) (by kernel_rfl) (by kernel_rfl) (fun _ _ _ h => h) ⟨by rfl, ?_⟩ (by assumption) ?_
    rotate_left
    · intro w hS; have fa := KA.at hS; have fb := KB.at hS; have f1 := fa 0; have f2 := fa 1; have f3 := fb 0; have f4 := fb 1; clear fa fb; go_simp <;> with_reducible rfl
    simp only [Act.put, List.setIfInBounds_toArray, List.set_cons_zero, List.set_cons_succ]
    refine oneL 4 rfl (by kernel_rfl) (by rfl) (fun K hK => ?_)
    go_simp
    go_at_call 52
    (with_reducible refine (nat_Add _ _ xs ys _ (hu.next hHeld) (hv.next hHeld) (by omega) (by omega) hx hy).mono ?_); rintro e w2 ⟨r2, zs, rfl, o2, m2, v2, l2, b2⟩
    have V2 := Lib.hid v2; clear v2; have m2w : wf W64 zs := m2.1
    refine hK.out _ _ (hHeld.trans (b2.mono hHeld.size)) (fun hHeld => ?_)
    clear hK K
    try simp only [Act.put, List.setIfInBounds_toArray, List.set_cons_zero, List.set_cons_succ]
    refine oneL 7 rfl (by kernel_rfl) (by rfl) (fun K hK => ?_)
    go_simp
    go_at_call 50
    (with_reducible refine (zint_From s r2 zs _ o2.sl (by omega) m2w).mono ?_); rintro e w3 ⟨v3, rfl, h3, b3, q3⟩
    replace q3 := q3.mono (Nat.le_trans B0.size hHeld.size); obtain ⟨s2, a2, n2, c2, rfl⟩ := h3.agg
    refine hK.out _ _ (hHeld.trans (b3.mono hHeld.size)) (fun hHeld => ?_)
    clear hK K
    try simp only [Act.put, List.setIfInBounds_toArray, List.set_cons_zero, List.set_cons_succ]
    refine doneL (by kernel_rfl) ?_ _
    refine lastL rfl (by rfl) ?_
    obtain ⟨g, eg⟩ : ∃ g, g = w.heap.size + 1 + 1 := ⟨_, rfl⟩
    rw [← eg] at KC ⊢
    have hgw : w.heap.size ≤ g := by omega
    clear eg
    replace KC := KC.next hHeld
    replace B0 := B0.trans (hHeld.mono B0.size)
    have f0 := (KC).free 0; have f1 := (KC).free 1
    have c0 := (KC).cell 0; have c1 := (KC).cell 1
    have KF := ((KC).set 0 (.bool s2)).set 1 (.slice a2 n2 c2)
    have d0 := KF.cell 0; have d1 := KF.cell 1
    have FR := Lib.hid (show RetI w L z (.returned (.agg #[.bool s2, .slice a2 n2 c2])) ((w3.setCell ⟨g, 0, none⟩ (.bool s2)).setCell ⟨g, 1, none⟩ (.slice a2 n2 c2)) from RetI.mono ⟨_, rfl, (h3).put (KC) s2 (.slice a2 n2 c2), ((B0).setCell (p := ⟨g, 0, none⟩) hgw (.bool s2)).setCell (p := ⟨g, 1, none⟩) hgw (.slice a2 n2 c2), q3⟩ (by omega) (by rw [EZ.out, V2.out]; cases s <;> simp [sg] <;> omega))
    clear KF
    go_wp2
    exact bodyPost_ret (v := .agg #[.bool s2, .slice a2 n2 c2]) (by simp [results, Try.results24, go_sem, d0, d1]) rfl FR.out
  · have hst2 : (s == t) = false := by simpa using hst
    have ht : t = !s := by revert hst; cases s <;> cases t <;> simp
    have HT := Lib.hid ht; clear ht
    by_cases hle : nv W64 ys ≤ nv W64 xs
    · go_wp2_with fail
      rw [← ew]
      replace hu := hu.next B0; replace hv := hv.next B0
      clear ew
      obtain ⟨g, eg⟩ : ∃ g, g = w.heap.size + 1 + 1 := ⟨_, rfl⟩
      rw [← eg] at KC ⊢
      have hgw : w.heap.size ≤ g := by omega
      clear eg
      refine (nat_Sub_yes _ _ xs ys _ hu hv (by omega) (by omega) hx hy hle).mono ?_; rintro e w2 ⟨r2, zs, rfl, o2, m2, v2, l2, b2⟩
      have fa := KA.at b2; have fb := KB.at b2; have f1 := fa 0; have f2 := fa 1; have f3 := fb 0; have f4 := fb 1; clear fa fb
      go_wp2_with fail
      have V2 := Lib.hid v2; clear v2
      refine (zint_From s r2 zs _ o2.sl (by omega) m2.1).mono ?_; rintro e w3 ⟨v3, rfl, h3, b3, q3⟩
      obtain ⟨s2, a2, n2, c2, rfl⟩ := h3.agg
      replace KC := (KC.next b2).next b3
      replace q3 := q3.mono (Nat.le_trans B0.size b2.size)
      replace B0 := (B0.trans (b2.mono B0.size)).trans (b3.mono (Nat.le_trans B0.size b2.size))
      have f0 := (KC).free 0; have f1 := (KC).free 1
      have c0 := (KC).cell 0; have c1 := (KC).cell 1
      have KF := ((KC).set 0 (.bool s2)).set 1 (.slice a2 n2 c2)
      have d0 := KF.cell 0; have d1 := KF.cell 1
      have FR := Lib.hid (show RetI w L z (.returned (.agg #[.bool s2, .slice a2 n2 c2])) ((w3.setCell ⟨g, 0, none⟩ (.bool s2)).setCell ⟨g, 1, none⟩ (.slice a2 n2 c2)) from RetI.mono ⟨_, rfl, (h3).put (KC) s2 (.slice a2 n2 c2), ((B0).setCell (p := ⟨g, 0, none⟩) hgw (.bool s2)).setCell (p := ⟨g, 1, none⟩) hgw (.slice a2 n2 c2), q3⟩ (by omega) (by rw [EZ.out, V2.out, HT.out]; cases s <;> simp [sg] <;> omega))
      clear KF
      go_wp2
      exact bodyPost_ret (v := .agg #[.bool s2, .slice a2 n2 c2]) (by simp [results, Try.results24, go_sem, d0, d1]) rfl FR.out
    · have hlt : nv W64 xs < nv W64 ys := by omega
      go_wp2_with fail
      rw [← ew]
      replace hu := hu.next B0; replace hv := hv.next B0
      clear ew
      obtain ⟨g, eg⟩ : ∃ g, g = w.heap.size + 1 + 1 := ⟨_, rfl⟩
      rw [← eg] at KC ⊢
      have hgw : w.heap.size ≤ g := by omega
      clear eg
      refine (nat_Sub_no _ _ xs ys _ hu hv (by omega) (by omega) hx hy hlt).mono ?_; rintro e w1 ⟨rfl, hq⟩
      have q1 := hq.below wb.heap.size
      replace hu := hu.next q1; replace hv := hv.next q1
      replace KA := KA.next q1; replace KB := KB.next q1; replace KC := KC.next q1
      replace B0 := B0.trans (q1.mono B0.size)
      clear hq q1
      have f1 := KA.cell 0; have f2 := KA.cell 1; have f3 := KB.cell 0; have f4 := KB.cell 1
      go_wp2_with fail
      refine (nat_Sub_yes _ _ ys xs _ hv hu (by omega) (by omega) hy hx (by omega)).mono ?_; rintro e w2 ⟨r2, zs, rfl, o2, m2, v2, l2, b2⟩
      clear f1 f2 f3 f4
      have fa := KA.at b2; have fb := KB.at b2; have f1 := fa 0; have f2 := fa 1; have f3 := fb 0; have f4 := fb 1; clear fa fb
      go_wp2_with fail
      have V2 := Lib.hid v2; clear v2
      refine (zint_From t r2 zs _ o2.sl (by omega) m2.1).mono ?_; rintro e w3 ⟨v3, rfl, h3, b3, q3⟩
      obtain ⟨s2, a2, n2, c2, rfl⟩ := h3.agg
      replace KC := (KC.next b2).next b3
      replace q3 := q3.mono (Nat.le_trans B0.size b2.size)
      replace B0 := (B0.trans (b2.mono B0.size)).trans (b3.mono (Nat.le_trans B0.size b2.size))
      have f0 := (KC).free 0; have f1 := (KC).free 1
      have c0 := (KC).cell 0; have c1 := (KC).cell 1
      have KF := ((KC).set 0 (.bool s2)).set 1 (.slice a2 n2 c2)
      have d0 := KF.cell 0; have d1 := KF.cell 1
      have FR := Lib.hid (show RetI w L z (.returned (.agg #[.bool s2, .slice a2 n2 c2])) ((w3.setCell ⟨g, 0, none⟩ (.bool s2)).setCell ⟨g, 1, none⟩ (.slice a2 n2 c2)) from RetI.mono ⟨_, rfl, (h3).put (KC) s2 (.slice a2 n2 c2), ((B0).setCell (p := ⟨g, 0, none⟩) hgw (.bool s2)).setCell (p := ⟨g, 1, none⟩) hgw (.slice a2 n2 c2), q3⟩ (by omega) (by rw [EZ.out, V2.out, HT.out]; cases s <;> simp [sg] <;> omega))
      clear KF
      go_wp2
      exact bodyPost_ret (v := .agg #[.bool s2, .slice a2 n2 c2]) (by simp [results, Try.results24, go_sem, d0, d1]) rfl FR.out

end Go.Proofs.Ytahjbeilddenbaa
