/- hess.order: a column's order. -/
import Derived.Test.YthghdjpjbngllaaHor1
namespace Go.Proofs.Ythghdjpjbngllaa
open Go.RowKit


/-- How many elements a slice has. -/
def lenV : Value → Nat
  | .slice _ n _ => n
  | _ => 0
section
variable {p n : Nat}
/-- Where order's loop stands. -/
def OrS (w0 wr : World) (gV j : Nat) (A : MT (Zp p) n n) (v : MT (Zp p) n 1) (lv : Value) : Prop :=
  ∃ a c, OrL w0 wr j A v lv ∧ Blk 42 wr gV [.int .i64 n, .int .i64 1, .slice a n c] ∧ Own .u64 27 wr 0 (.slice a n c) (tbv (A.pow j * v)) ∧ Kry A v j ∧ Below gV w0 wr
end

set_option maxRecDepth 20000 in
set_option maxHeartbeats 4000000 in
theorem hs_order (p : Nat) (a : Value) (n : Nat) (av : Option Addr) (cv : Nat) (v : MT (Zp p) n 1) (xs : List Nat) (w : World) (hp : FP p) (ht : Trial p) (hA : Fm w a n n xs) (hn : n ≤ 60) (hx : xs.length = n * n) (hv : Own .u64 27 w 0 (.slice av n cv) (tbv v)) :
    Calls Try.prog 117 #[.agg #[.int .u64 p], a, .agg #[.int .i64 n, .int .i64 1, .slice av n cv]] w (RetOrd p w (mx p n n xs) v) := by
  obtain ⟨aA, cA, rfl⟩ := hA.agg
  obtain ⟨wb, ew, KF, KA, KV, B0, hsz⟩ := boxes3 w 29 42 42 [.int .u64 p] [.int .i64 n, .int .i64 n, .slice aA xs.length cA] [.int .i64 n, .int .i64 1, .slice av n cv]
  clear hsz
  have HP := Lib.hid hp; have HT := Lib.hid ht; clear hp ht
  replace hv := hv.next B0
  have HX := Lib.hid hx; clear hx
  obtain ⟨A, eA⟩ : ∃ A, A = mx p n n xs := ⟨_, rfl⟩
  rw [← eA]
  have EA := Lib.hid eA; clear eA
  go_enter Try.func117, Try.ntmps117
  go_upto_region 1 with (fail)
  rw [← ew]
  obtain ⟨g, eg⟩ : ∃ g, g = w.heap.size := ⟨_, rfl⟩
  rw [← eg] at KF KA KV ⊢
  have hgw : w.heap.size ≤ g := by omega
  clear ew eg
  have hgb : g + 1 + 1 < wb.heap.size := KV.lt
  have st : OrS wb wb (g + 1 + 1) 0 A v (.slice none 0 0) := ⟨av, cv, ⟨fun _ => (none, 0), World.ownsRow_nil _ _ _ _, fun t ht => absurd ht (by omega)⟩, KV, by rw [show A.pow 0 * v = v from MT.one_mul v]; exact hv, Kry.zero A v, Below.refl _ _⟩
  have HKF := Lib.hid KF; have HKA := Lib.hid KA; have HA := Lib.hid hA; have HB0 := Lib.hid B0
  clear KF KA KV hA hv B0
  go_wp2
  go_loopw [7] (fun lv wr => ∃ (j : Nat) (al : Option Addr) (cl : Nat), lv = .slice al j cl ∧ OrS wb wr (g + 1 + 1) j A v (.slice al j cl)) (fun lv _ => n + 1 - lenV lv)
  case atStart => exact ⟨0, none, 0, rfl, st⟩
  case round =>
    clear st
    obtain ⟨j, al, cl, rfl, a, c, hL, KV, hV, hK, B1⟩ := hrel
    have hjn : j ≤ n := hK.le HT.out
    obtain ⟨V, eV⟩ : ∃ V, V = A.pow j * v := ⟨_, rfl⟩
    rw [← eV] at hV
    have EV := Lib.hid eV; clear eV
    have HK := Lib.hid hK; clear hK
    have KF := HKF.out.below B1 (by omega); have KA := HKA.out.below B1 (by omega)
    have BW := HB0.out.trans (B1.mono (show w.heap.size ≤ g + 1 + 1 by omega))
    have hA := HA.out.next BW
    go_upto_region 2 with (fail)
    go_cut [8, 9] (fun v8 v9 wx => ∃ (g8 : Nat) (R K : Int) (a8 : Option Addr) (L k8 : Nat) (ec : Int), v8 = .pointer (some ⟨g8, 0, none⟩) ∧ v9 = .int .i64 ec ∧ Blk 42 wx g8 [.int .i64 R, .int .i64 K, .slice a8 L k8] ∧ SolP p wx (krM A v j) V R K a8 L k8 ec ∧ Below wr.heap.size wr wx)
    case first =>
      have bd := Drawn.below (w' := wr.drew) ⟨1, rfl⟩ wr.heap.size
      have mV : Fm wr (.agg #[.int .i64 n, .int .i64 1, .slice a n c]) n (1 : Nat) (tbv V) := ⟨_, rfl, hV.sl⟩
      have hC := hL.cls
      have hpos := HP.out.1
      have hw : ∀ t i, t < j → i < n → (tbv (A.pow t * v)).getD i 0 < p := fun t i _ hi => by
        rw [tb1_get _ hi]; have := ((A.pow t * v).e i 0).lt; omega
      replace mV := mV.next bd; replace hC := hC.next bd; replace KF := KF.next bd; replace KA := KA.next bd; replace KV := KV.next bd; replace hA := hA.next bd
      have HW := Lib.hid hw
      clear hL hV B1 BW hw hpos
      refine startL (S := (fun w' => Below (wr.drew).heap.size (wr.drew) w')) (by kernel_rfl) (Below.refl _ _) (fun hHeld => ?_)
      refine takeL 0 (v := ?_) rfl (by kernel_rfl) (by kernel_rfl) (by kernel_rfl) (fun _ _ _ h => h) ⟨by rfl, ?_⟩ (by assumption) ?_
      rotate_left
      · intro w hS; have f1 := (KF.at hS) 0; have fa := KA.at hS; have f2 := fa 0; clear fa; have fv := KV.at hS; have f4 := fv 0; have f5 := fv 1; have f6 := fv 2; clear fv; go_simp <;> with_reducible rfl
      simp only [Act.put, List.setIfInBounds_toArray, List.set_cons_zero, List.set_cons_succ]
      refine takeL 1 (v := ?_) rfl (by kernel_rfl) (by kernel_rfl) (by kernel_rfl) (fun _ _ _ h => h) ⟨by rfl, ?_⟩ (by assumption) ?_
      rotate_left
      · intro w hS; go_simp <;> with_reducible rfl
      simp only [Act.put, List.setIfInBounds_toArray, List.set_cons_zero, List.set_cons_succ]
      refine takeL 2 (v := ?_) rfl (by kernel_rfl) (by kernel_rfl) (by kernel_rfl) (fun _ _ _ h => h) ⟨by rfl, ?_⟩ (by assumption) ?_
      rotate_left
      · intro w hS; go_simp <;> with_reducible rfl
      simp only [Act.put, List.setIfInBounds_toArray, List.set_cons_zero, List.set_cons_succ]
      refine takeL 3 (v := ?_) rfl (by kernel_rfl) (by kernel_rfl) (by kernel_rfl) (fun _ _ _ h => h) ⟨by rfl, ?_⟩ (by assumption) ?_
      rotate_left
      · intro w hS; have f1 := (KF.at hS) 0; have fa := KA.at hS; have f2 := fa 0; clear fa; have fv := KV.at hS; have f4 := fv 0; have f5 := fv 1; have f6 := fv 2; clear fv; go_simp <;> with_reducible rfl
      simp only [Act.put, List.setIfInBounds_toArray, List.set_cons_zero, List.set_cons_succ]
      refine takeL 5 (v := ?_) rfl (by kernel_rfl) (by kernel_rfl) (by kernel_rfl) (fun _ _ _ h => h) ⟨by rfl, ?_⟩ (by assumption) ?_
      rotate_left
      · intro w hS; have f1 := (KF.at hS) 0; have fa := KA.at hS; have f2 := fa 0; clear fa; have fv := KV.at hS; have f4 := fv 0; have f5 := fv 1; have f6 := fv 2; clear fv; go_simp <;> with_reducible rfl
      simp only [Act.put, List.setIfInBounds_toArray, List.set_cons_zero, List.set_cons_succ]
      refine twoL 4 10 rfl rfl (by kernel_rfl) (by rfl) (by rfl) (fun K hK => ?_) (fun K hK => ?_)
      · go_simp
        go_at_call 142
        (with_reducible refine (hs_images p _ n j (fun t => tbv (A.pow t * v)) _ (hC.next hHeld) (by omega) (by omega) HW.out).mono ?_); rintro e y1 ⟨a4, k4, rfl, o4, c4⟩; rw [krM_img] at o4 ⊢; obtain ⟨M4, eM4⟩ : ∃ M, M = krM A v j := ⟨_, rfl⟩; rw [← eM4] at o4 ⊢; have EM4 := Lib.hid eM4; clear eM4
        refine hK.out _ _ (hHeld.trans (c4.mono hHeld.size)) (fun hHeld => ?_)
        clear hK K
        try simp only [Act.put, List.setIfInBounds_toArray, List.set_cons_zero, List.set_cons_succ]
        refine twoL 6 10 rfl rfl (by kernel_rfl) (by rfl) (by rfl) (fun K hK => ?_) (fun K hK => ?_)
        · go_simp
          go_at_call 141
          (with_reducible refine (fm_Solve p _ _ n j 1 (tbv M4) (tbv V) _ HP.out HT.out (fm_own o4) (mV.next hHeld) (by omega) (by omega) (by omega) (by omega) (tbv_length M4) (tbv_length V)).mono ?_); intro e y2 hs6; rw [mx_tbv, mx_tbv] at hs6; obtain ⟨R6, K6, a6, L6, k6, ec6, rfl, s6, c6⟩ := hs6.one; clear hs6; rw [EM4.out] at s6
          refine hK.out _ _ (hHeld.trans (c6.mono hHeld.size)) (fun hHeld => ?_)
          clear hK K
          try simp only [Act.put, List.setIfInBounds_toArray, List.set_cons_zero, List.set_cons_succ]
          refine takeL 7 (v := ?_) rfl (by kernel_rfl) (by kernel_rfl) (by kernel_rfl) (fun _ _ _ h => h) ⟨by rfl, ?_⟩ (by assumption) ?_
          rotate_left
          · intro w hS; go_simp <;> with_reducible rfl
          simp only [Act.put, List.setIfInBounds_toArray, List.set_cons_zero, List.set_cons_succ]
          refine takeL 8 (v := ?_) rfl (by kernel_rfl) (by kernel_rfl) (by kernel_rfl) (fun _ _ _ h => h) ⟨by rfl, ?_⟩ (by assumption) ?_
          rotate_left
          · intro w hS; go_simp <;> with_reducible rfl
          simp only [Act.put, List.setIfInBounds_toArray, List.set_cons_zero, List.set_cons_succ]
          refine takeL 9 (v := ?_) rfl (by kernel_rfl) (by kernel_rfl) (by kernel_rfl) (fun _ _ _ h => h) ⟨by rfl, ?_⟩ (by assumption) ?_
          rotate_left
          · intro w hS; go_simp <;> with_reducible rfl
          simp only [Act.put, List.setIfInBounds_toArray, List.set_cons_zero, List.set_cons_succ]
          refine oneL 10 rfl (by kernel_rfl) (by rfl) (fun K hK => ?_)
          go_simp
          obtain ⟨ya, eya, KZ, bya, -⟩ := boxes1 y2 42 [.int .i64 0, .int .i64 0, .slice none 0 0]
          have hHd := hHeld
          refine hK.out _ _ (hHeld.alloc hHeld.size _) (fun hHeld => ?_)
          clear hK K
          try simp only [Act.put, List.setIfInBounds_toArray, List.set_cons_zero, List.set_cons_succ]
          rw [← eya] at hHeld ⊢
          obtain ⟨g1, eg1⟩ : ∃ g, g = y2.heap.size := ⟨_, rfl⟩
          have hg1 : wr.drew.heap.size ≤ g1 := by rw [eg1]; exact hHd.size
          rw [← eg1] at KZ
          try rw [← eg1]
          clear eya eg1
          replace s6 := s6.next bya
          refine oneL 11 rfl (by kernel_rfl) (by rfl) (fun K hK => ?_)
          have KY := KZ
          have y0 := KZ.cell 0; have y1_ := KZ.cell 1; have y2_ := KZ.cell 2; have z0 := KZ.free 0; have z1 := KZ.free 1; have z2 := KZ.free 2
          go_simp
          refine hK.out _ _ (((hHeld.setCell (p := ⟨g1, 0, none⟩) hg1 (.int .i64 R6)).setCell (p := ⟨g1, 1, none⟩) hg1 (.int .i64 K6)).setCell (p := ⟨g1, 2, none⟩) hg1 (.slice a6 L6 k6)) (fun hHeld => ?_)
          clear hK K
          try simp only [Act.put, List.setIfInBounds_toArray, List.set_cons_zero, List.set_cons_succ]
          refine takeL 12 (v := ?_) rfl (by kernel_rfl) (by kernel_rfl) (by kernel_rfl) (fun _ _ _ h => h) ⟨by rfl, ?_⟩ (by assumption) ?_
          rotate_left
          · intro w hS; go_simp <;> with_reducible rfl
          simp only [Act.put, List.setIfInBounds_toArray, List.set_cons_zero, List.set_cons_succ]
          refine doneL (by kernel_rfl) ?_ _
          have K15 := ((KY.set 0 (.int .i64 R6)).set 1 (.int .i64 K6)).set 2 (.slice a6 L6 k6)
          have s15 := ((s6.off KY 0 (.int .i64 R6)).off (KY.set 0 _) 1 (.int .i64 K6)).off ((KY.set 0 _).set 1 _) 2 (.slice a6 L6 k6)
          have bx := bd.trans (hHeld.mono bd.size)
          clear KZ KY y0 y1_ y2_ z0 z1 z2 hHeld s6 mV hC KF KA KV hA
          go_wp2_with fail
          go_meet
          exact ⟨_, _, _, _, _, _, _, rfl, rfl, K15, s15, bx⟩
        · go_simp
          obtain ⟨ya, eya, KZ, bya, -⟩ := boxes1 y1 42 [.int .i64 0, .int .i64 0, .slice none 0 0]
          have hHd := hHeld
          refine hK.out _ _ (hHeld.alloc hHeld.size _) (fun hHeld => ?_)
          clear hK K
          try simp only [Act.put, List.setIfInBounds_toArray, List.set_cons_zero, List.set_cons_succ]
          rw [← eya] at hHeld ⊢
          obtain ⟨g1, eg1⟩ : ∃ g, g = y1.heap.size := ⟨_, rfl⟩
          have hg1 : wr.drew.heap.size ≤ g1 := by rw [eg1]; exact hHd.size
          rw [← eg1] at KZ
          try rw [← eg1]
          clear eya eg1
          replace o4 := o4.next bya
          refine oneL 6 rfl (by kernel_rfl) (by rfl) (fun K hK => ?_)
          go_simp
          go_at_call 141
          (with_reducible refine (fm_Solve p _ _ n j 1 (tbv M4) (tbv V) _ HP.out HT.out (fm_own o4) (mV.next hHeld) (by omega) (by omega) (by omega) (by omega) (tbv_length M4) (tbv_length V)).mono ?_); intro e y2 hs6; rw [mx_tbv, mx_tbv] at hs6; obtain ⟨R6, K6, a6, L6, k6, ec6, rfl, s6, c6⟩ := hs6.one; clear hs6; rw [EM4.out] at s6; replace KZ := KZ.next c6
          refine hK.out _ _ (hHeld.trans (c6.mono hHeld.size)) (fun hHeld => ?_)
          clear hK K
          try simp only [Act.put, List.setIfInBounds_toArray, List.set_cons_zero, List.set_cons_succ]
          refine takeL 7 (v := ?_) rfl (by kernel_rfl) (by kernel_rfl) (by kernel_rfl) (fun _ _ _ h => h) ⟨by rfl, ?_⟩ (by assumption) ?_
          rotate_left
          · intro w hS; go_simp <;> with_reducible rfl
          simp only [Act.put, List.setIfInBounds_toArray, List.set_cons_zero, List.set_cons_succ]
          refine takeL 8 (v := ?_) rfl (by kernel_rfl) (by kernel_rfl) (by kernel_rfl) (fun _ _ _ h => h) ⟨by rfl, ?_⟩ (by assumption) ?_
          rotate_left
          · intro w hS; go_simp <;> with_reducible rfl
          simp only [Act.put, List.setIfInBounds_toArray, List.set_cons_zero, List.set_cons_succ]
          refine takeL 9 (v := ?_) rfl (by kernel_rfl) (by kernel_rfl) (by kernel_rfl) (fun _ _ _ h => h) ⟨by rfl, ?_⟩ (by assumption) ?_
          rotate_left
          · intro w hS; go_simp <;> with_reducible rfl
          simp only [Act.put, List.setIfInBounds_toArray, List.set_cons_zero, List.set_cons_succ]
          refine oneL 11 rfl (by kernel_rfl) (by rfl) (fun K hK => ?_)
          have KY := KZ
          have y0 := KZ.cell 0; have y1_ := KZ.cell 1; have y2_ := KZ.cell 2; have z0 := KZ.free 0; have z1 := KZ.free 1; have z2 := KZ.free 2
          go_simp
          refine hK.out _ _ (((hHeld.setCell (p := ⟨g1, 0, none⟩) hg1 (.int .i64 R6)).setCell (p := ⟨g1, 1, none⟩) hg1 (.int .i64 K6)).setCell (p := ⟨g1, 2, none⟩) hg1 (.slice a6 L6 k6)) (fun hHeld => ?_)
          clear hK K
          try simp only [Act.put, List.setIfInBounds_toArray, List.set_cons_zero, List.set_cons_succ]
          refine takeL 12 (v := ?_) rfl (by kernel_rfl) (by kernel_rfl) (by kernel_rfl) (fun _ _ _ h => h) ⟨by rfl, ?_⟩ (by assumption) ?_
          rotate_left
          · intro w hS; go_simp <;> with_reducible rfl
          simp only [Act.put, List.setIfInBounds_toArray, List.set_cons_zero, List.set_cons_succ]
          refine doneL (by kernel_rfl) ?_ _
          have K15 := ((KY.set 0 (.int .i64 R6)).set 1 (.int .i64 K6)).set 2 (.slice a6 L6 k6)
          have s15 := ((s6.off KY 0 (.int .i64 R6)).off (KY.set 0 _) 1 (.int .i64 K6)).off ((KY.set 0 _).set 1 _) 2 (.slice a6 L6 k6)
          have bx := bd.trans (hHeld.mono bd.size)
          clear KZ KY y0 y1_ y2_ z0 z1 z2 hHeld s6 mV hC KF KA KV hA
          go_wp2_with fail
          go_meet
          exact ⟨_, _, _, _, _, _, _, rfl, rfl, K15, s15, bx⟩
      · go_simp
        obtain ⟨ya0, eya, KZ, bya, -⟩ := boxes1 wr 42 [.int .i64 0, .int .i64 0, .slice none 0 0]
        have hHd := hHeld
        refine hK.out _ _ (hHeld.alloc hHeld.size _) (fun hHeld => ?_)
        clear hK K
        try simp only [Act.put, List.setIfInBounds_toArray, List.set_cons_zero, List.set_cons_succ]
        rw [← eya] at hHeld ⊢
        obtain ⟨ya, eyb⟩ : ∃ y, y = ya0.drew := ⟨_, rfl⟩
        rw [← eyb] at hHeld ⊢
        replace KZ : Blk 42 ya wr.heap.size [.int .i64 0, .int .i64 0, .slice none 0 0] := by rw [eyb]; exact KZ.drew
        clear eyb bya
        obtain ⟨g1, eg1⟩ : ∃ g, g = wr.heap.size := ⟨_, rfl⟩
        have hg1 : wr.drew.heap.size ≤ g1 := by rw [eg1]; exact hHd.size
        rw [← eg1] at KZ
        try rw [← eg1]
        clear eya eg1
        refine oneL 4 rfl (by kernel_rfl) (by rfl) (fun K hK => ?_)
        go_simp
        go_at_call 142
        (with_reducible refine (hs_images p _ n j (fun t => tbv (A.pow t * v)) _ (hC.next hHeld) (by omega) (by omega) HW.out).mono ?_); rintro e y1 ⟨a4, k4, rfl, o4, c4⟩; rw [krM_img] at o4 ⊢; obtain ⟨M4, eM4⟩ : ∃ M, M = krM A v j := ⟨_, rfl⟩; rw [← eM4] at o4 ⊢; have EM4 := Lib.hid eM4; clear eM4; replace KZ := KZ.next c4
        refine hK.out _ _ (hHeld.trans (c4.mono hHeld.size)) (fun hHeld => ?_)
        clear hK K
        try simp only [Act.put, List.setIfInBounds_toArray, List.set_cons_zero, List.set_cons_succ]
        refine oneL 6 rfl (by kernel_rfl) (by rfl) (fun K hK => ?_)
        go_simp
        go_at_call 141
        (with_reducible refine (fm_Solve p _ _ n j 1 (tbv M4) (tbv V) _ HP.out HT.out (fm_own o4) (mV.next hHeld) (by omega) (by omega) (by omega) (by omega) (tbv_length M4) (tbv_length V)).mono ?_); intro e y2 hs6; rw [mx_tbv, mx_tbv] at hs6; obtain ⟨R6, K6, a6, L6, k6, ec6, rfl, s6, c6⟩ := hs6.one; clear hs6; rw [EM4.out] at s6; replace KZ := KZ.next c6
        refine hK.out _ _ (hHeld.trans (c6.mono hHeld.size)) (fun hHeld => ?_)
        clear hK K
        try simp only [Act.put, List.setIfInBounds_toArray, List.set_cons_zero, List.set_cons_succ]
        refine takeL 7 (v := ?_) rfl (by kernel_rfl) (by kernel_rfl) (by kernel_rfl) (fun _ _ _ h => h) ⟨by rfl, ?_⟩ (by assumption) ?_
        rotate_left
        · intro w hS; go_simp <;> with_reducible rfl
        simp only [Act.put, List.setIfInBounds_toArray, List.set_cons_zero, List.set_cons_succ]
        refine takeL 8 (v := ?_) rfl (by kernel_rfl) (by kernel_rfl) (by kernel_rfl) (fun _ _ _ h => h) ⟨by rfl, ?_⟩ (by assumption) ?_
        rotate_left
        · intro w hS; go_simp <;> with_reducible rfl
        simp only [Act.put, List.setIfInBounds_toArray, List.set_cons_zero, List.set_cons_succ]
        refine takeL 9 (v := ?_) rfl (by kernel_rfl) (by kernel_rfl) (by kernel_rfl) (fun _ _ _ h => h) ⟨by rfl, ?_⟩ (by assumption) ?_
        rotate_left
        · intro w hS; go_simp <;> with_reducible rfl
        simp only [Act.put, List.setIfInBounds_toArray, List.set_cons_zero, List.set_cons_succ]
        refine oneL 11 rfl (by kernel_rfl) (by rfl) (fun K hK => ?_)
        have KY := KZ
        have y0 := KZ.cell 0; have y1_ := KZ.cell 1; have y2_ := KZ.cell 2; have z0 := KZ.free 0; have z1 := KZ.free 1; have z2 := KZ.free 2
        go_simp
        refine hK.out _ _ (((hHeld.setCell (p := ⟨g1, 0, none⟩) hg1 (.int .i64 R6)).setCell (p := ⟨g1, 1, none⟩) hg1 (.int .i64 K6)).setCell (p := ⟨g1, 2, none⟩) hg1 (.slice a6 L6 k6)) (fun hHeld => ?_)
        clear hK K
        try simp only [Act.put, List.setIfInBounds_toArray, List.set_cons_zero, List.set_cons_succ]
        refine takeL 12 (v := ?_) rfl (by kernel_rfl) (by kernel_rfl) (by kernel_rfl) (fun _ _ _ h => h) ⟨by rfl, ?_⟩ (by assumption) ?_
        rotate_left
        · intro w hS; go_simp <;> with_reducible rfl
        simp only [Act.put, List.setIfInBounds_toArray, List.set_cons_zero, List.set_cons_succ]
        refine doneL (by kernel_rfl) ?_ _
        have K15 := ((KY.set 0 (.int .i64 R6)).set 1 (.int .i64 K6)).set 2 (.slice a6 L6 k6)
        have s15 := ((s6.off KY 0 (.int .i64 R6)).off (KY.set 0 _) 1 (.int .i64 K6)).off ((KY.set 0 _).set 1 _) 2 (.slice a6 L6 k6)
        have bx := bd.trans (hHeld.mono bd.size)
        clear KZ KY y0 y1_ y2_ z0 z1 z2 hHeld s6 mV hC KF KA KV hA
        go_wp2_with fail
        go_meet
        exact ⟨_, _, _, _, _, _, _, rfl, rfl, K15, s15, bx⟩
    case rest =>
      obtain ⟨g8, R, K, a8, L, k8, ec, rfl, rfl, K8, hS, bx⟩ := hcut
      replace KF := KF.next bx; replace KA := KA.next bx; replace KV := KV.next bx; replace hA := hA.next bx; replace hV := hV.next bx; replace hL := hL.next bx
      have hVr : g + 1 + 1 ≤ wr.heap.size := by have := B1.size; omega
      replace B1 := B1.trans (bx.mono hVr); replace BW := BW.trans (bx.mono BW.size)
      clear bx hVr
      rcases hS with ⟨X, hX, rfl, rfl, rfl, hs, rfl⟩ | ⟨hno, rfl, rfl, rfl, rfl, rfl, rfl⟩
      · have hlX := tb1_len X
        rw [hlX] at hs K8
        have hord := Lib.hid (HK.out.ord HT.out (X := X) (by rw [hX, EV.out]))
        obtain ⟨x, ex⟩ : ∃ x : Nat → Zp p, x = fun t => X.e t 0 := ⟨_, rfl⟩
        have EX := Lib.hid ex
        have hxg : ∀ t, t < j → (tbv X).getD t 0 = (x t).val := fun t ht => by rw [tb1_get X ht, ex]
        obtain ⟨XL, eXL⟩ : ∃ L, L = tbv X := ⟨_, rfl⟩
        rw [← eXL] at hs hlX hxg
        have HXL := Lib.hid hlX; have HXG := Lib.hid hxg
        have hcs := hs.sl
        clear ex eXL hlX hxg hL hV KV KA hA B1 hX
        obtain ⟨a8', b8, o8, c8', e8, hc8, kc⟩ := hcs
        have e8' := e8
        rw [HXL.out] at e8'
        simp only [Value.slice.injEq] at e8'
        obtain ⟨rfl, -, rfl⟩ := e8'
        have HCS := Lib.hid kc
        clear kc e8 hc8 hs
        have q8 := K8.cell 2
        have HKF := Lib.hid KF; clear KF
        go_wp2
        clear q8
        go_loopw [28, 10] (fun iv ov wr => ∃ i : Nat, i ≤ j ∧ iv = .int .i64 i ∧ Own .u64 27 wr wc.heap.size ov (ordL i x) ∧ Below wc.heap.size wc wr) (fun iv _ _ => j - (intOf iv).toNat)
        case atStart => exact ⟨0, by omega, rfl, Own.nil _ _ _ _, Below.refl _ _⟩
        case round =>
          obtain ⟨i, hi, rfl, ho, B3⟩ := hrel
          have KF := HKF.out.next B3
          have f0 := KF.cell 0
          have hlo := Lib.hid (ordL_length i x)
          by_cases hij : i < j
          · have hne : XL ≠ [] := by intro h; have := HXL.out; rw [h] at this; simp at this; omega
            obtain rfl := HCS.out.ao hne
            have hlb := HCS.out.lt hne
            have qx := HCS.out.cell i (by rw [HXL.out]; exact hij)
            replace qx := (B3.cell (p := ⟨b8, o8 + i, none⟩) hlb).trans qx
            rw [HXG.out i hij] at qx
            obtain ⟨y, ey⟩ : ∃ y, y = (x i).val := ⟨_, rfl⟩
            rw [← ey] at qx
            obtain ⟨z, ez⟩ : ∃ z, z = (-Zp.of p y).val := ⟨_, rfl⟩
            have EZ := Lib.hid ez
            have hz := Lib.hid (show ordL (i + 1) x = ordL i x ++ [z] by rw [ordL_succ, ez, ey, Zp.of_val])
            obtain ⟨Q, eQ⟩ : ∃ Q, Q = ordL i x := ⟨_, rfl⟩
            rw [← eQ] at ho hz hlo
            clear ey ez hne eQ
            go_wp2_with fail
            refine (gfp_Neg p y z _ HP.out EZ.out).mono ?_; rintro e w9 ⟨rfl, b9⟩
            clear qx f0 KF
            replace ho := ho.next b9
            replace B3 := B3.trans (b9.mono B3.size)
            have hbs := B3.size
            go_wp2_with (at_builtin; refine wp_app1 .u64 33 27 8 Try.underlying33 (by kernel_rfl) (by decide) rfl _ _ rfl w9 wc.heap.size _ Q z _ (by rfl) ho (by rw [hlo.out]; omega) hbs rfl rfl ?_; intro v10 w10 ho10 hb10 _ _)
            have st := Lib.hid (show Own .u64 27 w10 wc.heap.size v10 (ordL (i + 1) x) ∧ Below wc.heap.size wc w10 by rw [hz.out]; exact ⟨ho10, B3.trans hb10⟩)
            clear ho ho10 hb10 B3 b9
            go_wp2
            go_roundw
            case rel => exact ⟨i + 1, by omega, by go_num, st.out⟩
            case measure => simp [intOf] <;> omega
          · obtain rfl : i = j := by omega
            clear f0 KF
            have hbs := B3.size
            obtain ⟨Q, eQ⟩ : ∃ Q, Q = ordL i x := ⟨_, rfl⟩
            have hfin := Lib.hid (show Nrm p (Q ++ [1]) ∧ pl p (Q ++ [1]) = mon 1 i - pof i (fun t => X.e t 0) ∧ ∃ d, (Q ++ [1]).length = d + 1 ∧ d ≤ n ∧ (Q ++ [1]).getD d 0 = 1 by
              rw [eQ]
              exact ⟨ordL_nrm HP.out i x, by rw [ordL_pl, EX.out], i, by rw [List.length_append, ordL_length]; rfl, hjn, by simp [List.getD, ordL_length]⟩)
            rw [← eQ] at ho hlo
            clear eQ
            go_wp2_with (at_builtin; refine wp_app1 .u64 33 27 8 Try.underlying33 (by kernel_rfl) (by decide) rfl _ _ rfl wr wc.heap.size _ Q 1 _ (by rfl) ho (by rw [hlo.out]; omega) hbs rfl rfl ?_; intro v10 w10 ho10 hb10 _ _)
            have FR := Lib.hid (show RetOrd p w A v (.returned v10) w10 from ⟨v10, Q ++ [1], rfl, ho10.mono BW.size, hfin.out.1, by rw [hfin.out.2.1]; exact hord.out, hfin.out.2.2, BW.trans ((B3.trans hb10).mono BW.size)⟩)
            clear ho ho10 hb10 B3 BW
            go_wp2
            go_ret
            exact FR.out
      · have hK1 := HK.out.succ HT.out (fun X hX => hno X (by rw [hX, EV.out]))
        have hj1 : j + 1 ≤ n := hK1.le HT.out
        have HK1 := Lib.hid hK1; clear hK1 hno
        obtain ⟨H, h1, h2⟩ := hL
        have HH2 := Lib.hid h2; clear h2
        have v0 := KV.cell 0; have v1 := KV.cell 1; have v2 := KV.cell 2
        have hbw : wb.heap.size ≤ wc.heap.size := B1.size
        go_wp2_with (at_builtin; refine apS3 137 42 40 (.agg #[.int .i64 0, .int .i64 0, .slice none 0 0]) Try.underlying137 (by kernel_rfl) (by decide) rfl rfl _ _ rfl wc wb.heap.size _ j _ _ _ _ rfl rfl rfl h1 (by omega) hbw rfl rfl ?_; intro g3 cap3 w3 ho3 hb3 hg3; have KV3 := KV.below hb3 hgb; have KF3 := KF.below hb3 (by omega); have KA3 := KA.below hb3 (by omega); have v30 := KV3.cell 0; have v31 := KV3.cell 1; have v32 := KV3.cell 2; have v33 := KF3.cell 0; have v34 := KA3.cell 0; have v35 := KA3.cell 1; have v36 := KA3.cell 2)
        have hgw2 : g + 1 + 1 ≤ wb.heap.size := by omega
        have hww : w.heap.size ≤ wb.heap.size := by omega
        have OL3 := Lib.hid (OrL.push h1 HH2.out (by rw [← EV.out]; exact hV) hg3 ho3)
        have hV3 : Own .u64 27 w3 0 (.slice a n c) (tbv V) := rowOwn_kept3 hV h1 hg3 (by decide)
        have BW3 := BW.trans (hb3.mono hww)
        have B13 := B1.trans (hb3.mono hgw2)
        have hA3 := HA.out.next BW3
        have hbw3 : g + 1 + 1 ≤ w3.heap.size := by have := KV3.lt; omega
        refine (fm_Mul p _ _ n n 1 xs (tbv V) _ HP.out hA3 (fm_own hV3) (by omega) (by omega) (by omega) HX.out (tbv_length V)).mono ?_; rintro e w4 ⟨a4, k4, rfl, o4, b4⟩
        clear v0 v1 v2 v30 v31 v32 v33 v34 v35 v36
        rw [← EA.out, mx_tbv] at o4 ⊢
        obtain ⟨V4, eV4⟩ : ∃ V4, V4 = A * V := ⟨_, rfl⟩
        rw [← eV4, tb1_len V4] at o4 ⊢
        have hV4 : V4 = A.pow (j + 1) * v := by rw [eV4, EV.out, ← MT.mul_assoc, MT.pow_comm, ← MT.pow_succ]
        rw [hV4] at o4
        clear eV4 hV4
        have KV4 := KV3.next b4
        have q0 := KV4.cell 0; have q1 := KV4.cell 1; have q2 := KV4.cell 2
        have z0 := KV4.free 0; have z1 := KV4.free 1; have z2 := KV4.free 2
        have KV5 := ((KV4.set 0 (.int .i64 n)).set 1 (.int .i64 1)).set 2 (.slice a4 n k4)
        have OL5 := (((OL3.out.next b4).off KV4 hgb 0 (.int .i64 n)).off (KV4.set 0 _) hgb 1 (.int .i64 1)).off ((KV4.set 0 _).set 1 _) hgb 2 (.slice a4 n k4)
        have o5 := (((o4.mono (Nat.zero_le _)).off KV4 0 (.int .i64 n)).off (KV4.set 0 _) 1 (.int .i64 1)).off ((KV4.set 0 _).set 1 _) 2 (.slice a4 n k4)
        have B15 := (((B13.trans (b4.mono hbw3)).setCell (p := ⟨g + 1 + 1, 0, none⟩) (Nat.le_refl _) (.int .i64 n)).setCell (p := ⟨g + 1 + 1, 1, none⟩) (Nat.le_refl _) (.int .i64 1)).setCell (p := ⟨g + 1 + 1, 2, none⟩) (Nat.le_refl _) (.slice a4 n k4)
        have st := Lib.hid (show OrS wb (((w4.setCell ⟨g + 1 + 1, 0, none⟩ (.int .i64 n)).setCell ⟨g + 1 + 1, 1, none⟩ (.int .i64 1)).setCell ⟨g + 1 + 1, 2, none⟩ (.slice a4 n k4)) (g + 1 + 1) (j + 1) A v (.slice (some ⟨g3, 0, none⟩) (j + 1) cap3) from ⟨a4, k4, OL5, KV5, o5, HK1.out, B15⟩)
        clear OL5 KV5 o5 B15 KV4 o4 b4 hA3 B13 BW3 hV3 OL3 h1 hg3 ho3 hb3 KV3 KF3 KA3 KV KF KA hA hV B1 BW K8
        go_wp2
        go_roundw
        case rel => exact ⟨j + 1, _, _, rfl, st.out⟩
        case measure => simp [lenV] <;> omega

end Go.Proofs.Ythghdjpjbngllaa
