/- The reference of layer 11: the product. -/
import Derived.Test.YtahjbeilddenbaaZref2
namespace Go.Proofs.Ytahjbeilddenbaa
open Go.RowKit

/-- 'out = append(out, x)' outside of drawn regions. -/
theorem zapL {P : Program} {ops : Array Oper} {rest : List Oper} {o : Oper} {a : Act} {Q : Exit → Act → World → Prop} (T bytes : Nat) (z0 : Value)
    (hu : P.underlying T = some (.slice 36)) (hi : (P.info? 36).map (fun i => (i.zero, i.size, i.bytes)) = some (some z0, 2, bytes)) (hby : bytes ≤ 32) (hz0 : z0.cells.size = 2) (hgd : o.guard = none)
    (s x : Operand) (ho : o.op = .call { callee := .builtin .append, args := #[s, x], argTypes := #[T, T] })
    (w : World) (base : Nat) (v : Value) (zs : List Int) (L : Nat) (es : List (Bool × Value)) (z : Int) (sb : Bool) (u : Value)
    (hown : ZO w base v zs L es) (hnum : IvN w (.agg #[.bool sb, u]) z L) (hfr : ∀ g, v.ownBlock = some g → Offb u g)
    (hlen : zs.length ≤ 1000000000) (hbase : base ≤ w.heap.size)
    (hs : a.eval s = v) (hx : a.eval x = .slice (some ⟨w.heap.size, 0, none⟩) 1 1)
    (h : ∀ (g cap : Nat) (w' : World), ZO w' base (.slice (some ⟨g, 0, none⟩) (zs.length + 1) cap) (zs ++ [z]) L (es ++ [(sb, u)]) → Below base w w' → w.grownBy w' v.ownBlock → wpList P ops Q rest (a.put o.dst (.slice (some ⟨g, 0, none⟩) (zs.length + 1) cap)) w') :
    wpList P ops Q (o :: rest) a (w.alloc (.cells #[.bool sb, u] 36)) :=
  wpList_plain hgd fun _ hK => zap T bytes z0 hu hi hby hz0 s x ho w base v zs L es z sb u hown hnum hfr hlen hbase hs hx fun g cap w' h1 h2 h3 => hK _ _ (h g cap w' h1 h2 h3)

/-- A list of numbers is returned. -/
def RetZ (w : World) (L : Nat) (zs : List Int) (e : Ending) (w' : World) : Prop := ∃ v, e = .returned v ∧ Zs w' v zs L ∧ Below w.heap.size w w'

/-- Where the innermost loop stands. -/
def RmRel (B : Nat) (wo wr : World) (g : Nat) (z : Int) (L : Nat) : Prop := ∃ s p n d, Blk 36 wr g [.bool s, .slice p n d] ∧ IvN wr (.agg #[.bool s, .slice p n d]) z L ∧ Fresh B (.agg #[.bool s, .slice p n d]) ∧ Below wo.heap.size wo wr

set_option maxHeartbeats 1000000 in
theorem ref11_Mul (a b : Value) (r m c : Nat) (xs ys : List Int) (L M : Nat) (w : World) (hA : Mt w a r m xs L) (hB : Mt w b m c ys M) (hr : r ≤ 64) (hm : m ≤ 64) (hc : c ≤ 64) (hx : xs.length = r * m) (hy : ys.length = m * c) (hL : L ≤ 500) (hM : M ≤ 500) :
    Calls Try.prog 19 #[a, b] w (RetZ w (m * (L + M + 1) + 1) (tab c (fun i k => dotp xs ys m c i k m) (r * c))) := by
  obtain ⟨ao, ca, rfl⟩ := hA.agg
  obtain ⟨bo, cb, rfl⟩ := hB.agg
  obtain ⟨wb, ew, KA, KB, B0, hsz⟩ := boxes1' w 24 24 [.int .i64 r, .int .i64 m, .slice ao xs.length ca] [.int .i64 m, .int .i64 c, .slice bo ys.length cb]
  clear hsz
  replace hA := hA.next B0; replace hB := hB.next B0
  have HX := Lib.hid hx; have HY := Lib.hid hy; clear hx hy
  go_enter Try.func19, Try.ntmps19
  go_upto_region 3 with (fail)
  rw [← ew]
  obtain ⟨g, eg⟩ : ∃ g, g = w.heap.size := ⟨_, rfl⟩
  rw [← eg] at KA KB ⊢
  clear ew eg
  have bw := B0.size
  have BB := Lib.hid B0; clear B0
  have kr := KA.cell 0
  go_loopw [6, 5] (fun iv ov wr => ∃ (i : Nat) (es : List (Bool × Value)), i ≤ r ∧ iv = .int .i64 i ∧ ZO wr wb.heap.size ov (tab c (fun i k => dotp xs ys m c i k m) (i * c)) (m * (L + M + 1) + 1) es ∧ Below wb.heap.size wb wr) (fun iv _ _ => r - (intOf iv).toNat)
  case atStart => exact ⟨0, [], by omega, rfl, by rw [Nat.zero_mul]; exact ZO.nil _ _ _, Below.refl _ _⟩
  case round =>
    clear kr
    obtain ⟨i, es, hi, rfl, hz, hb⟩ := hrel
    have q0 := (KA.next hb).cell 0
    by_cases hir : i < r
    · go_wp2
      clear q0
      go_loopw [7, 5] (fun kv ov wr => ∃ (k : Nat) (es : List (Bool × Value)), k ≤ c ∧ kv = .int .i64 k ∧ ZO wr wb.heap.size ov (tab c (fun i k => dotp xs ys m c i k m) (i * c + k)) (m * (L + M + 1) + 1) es ∧ Below wb.heap.size wb wr) (fun kv _ _ => c - (intOf kv).toNat)
      case atStart => exact ⟨0, es, by omega, rfl, by rw [Nat.add_zero]; exact hz, hb⟩
      case round =>
        clear hz hb es
        obtain ⟨k, es, hk, rfl, hz, hb⟩ := hrel
        have q1 := (KB.next hb).cell 1
        by_cases hkc : k < c
        · go_wp2_with fail
          clear q1
          refine (zi_Of 0 _ (by omega)).mono ?_; rintro e w1 ⟨v1, rfl, h1, b1, q1⟩
          obtain ⟨s1, a1, n1, c1, rfl⟩ := h1.agg
          obtain ⟨B, eB⟩ : ∃ B, B = wr.heap.size := ⟨_, rfl⟩
          rw [← eB] at q1
          have hB1 : B ≤ w1.heap.size := by rw [eB]; exact b1.size
          have hrow : ∀ g, u5.ownBlock = some g → g < B := fun g hg => by rw [eB]; exact (World.ownsRow.lt hz.own g hg).2
          clear eB
          replace hz := hz.next b1; replace hb := hb.trans (b1.mono hb.size)
          clear b1
          obtain ⟨wx, ewx, KX, BX, hsx⟩ := boxes1 w1 36 [.bool s1, .slice a1 n1 c1]
          clear hsx
          go_upto_region 9 with (fail)
          rw [← ewx]
          obtain ⟨gx, egx⟩ : ∃ gx, gx = w1.heap.size := ⟨_, rfl⟩
          rw [← egx] at KX ⊢
          have hgx : w1.heap.size ≤ gx := by omega
          clear ewx egx
          have st : RmRel B w1 wx gx (dotp xs ys m c i k 0) (0 * (L + M + 1) + 1) := ⟨_, _, _, _, KX, (h1.next BX).mono (by omega), q1, BX⟩
          clear KX BX h1 q1
          go_wp2
          go_loopw [9] (fun jv wr => ∃ j : Nat, j ≤ m ∧ jv = .int .i64 j ∧ RmRel B w1 wr gx (dotp xs ys m c i k j) (j * (L + M + 1) + 1)) (fun jv _ => m - (intOf jv).toNat)
          case atStart => exact ⟨0, by omega, rfl, st⟩
          case round =>
            clear st wx
            obtain ⟨j, hj, rfl, st⟩ := hrel
            obtain ⟨s, p, n, d, KX, hn, hfr, hbx⟩ := st
            have hbb := hb.trans (hbx.mono hb.size)
            by_cases hjm : j < m
            · have hxj := at_lt HX.out hir hjm
              have hyj := at_lt HY.out hjm hkc
              have hjb : j * (L + M + 1) ≤ 64 * 1001 := Nat.mul_le_mul (by omega) (by omega)
              obtain ⟨Z, eZ⟩ : ∃ Z, Z = dotp xs ys m c i k j := ⟨_, rfl⟩
              rw [← eZ] at hn
              have ez1 := dotp_succ xs ys m c i k j
              rw [← eZ] at ez1
              have EZ := Lib.hid ez1; clear ez1 eZ
              obtain ⟨Lj, eLj⟩ : ∃ q, q = j * (L + M + 1) := ⟨_, rfl⟩
              rw [← eLj] at hn hjb
              have hLj : Lj + 1 + (L + M) + 1 ≤ (j + 1) * (L + M + 1) + 1 := by rw [Nat.succ_mul]; omega
              clear eLj
              have km := (KA.next hbb).cell 1
              go_upto_region 12 with (fail)
              clear km
              have hdr := Drawn.below (w' := wr.drew) ⟨1, rfl⟩ wr.heap.size
              replace KX := KX.drew
              replace hbb := hbb.trans (hdr.mono hbb.size)
              replace hn := hn.next hdr
              replace hbx := hbx.trans (hdr.mono hbx.size)
              have kA := KA.next hbb; have kB := KB.next hbb
              have hA' := hA.next hbb; have hB' := hB.next hbb
              have hBr : B ≤ wr.drew.heap.size := Nat.le_trans hB1 hbx.size
              clear hdr hbb
              refine startP (S := (fun w' => Below (wr.drew).heap.size (wr.drew) w')) (by kernel_rfl) _ rfl rfl rfl (by kernel_rfl) (Below.refl _ _) (fun hHeld => ?_)
              refine takeL 0 (v := ?_) rfl (by kernel_rfl) (by kernel_rfl) (by kernel_rfl) (fun _ _ _ h => h) ⟨by rfl, ?_⟩ (by assumption) ?_
              rotate_left
              · intro w hS; have fa := kA.at hS; have fb := kB.at hS; have fc := KX.at hS; have f1 := fa 0; have f2 := fa 1; have f3 := fa 2; have f4 := fb 0; have f5 := fb 1; have f6 := fb 2; have f7 := fc 0; have f8 := fc 1; clear fa fb fc; go_simp <;> with_reducible rfl
              simp only [Act.put, List.setIfInBounds_toArray, List.set_cons_zero, List.set_cons_succ]
              refine takeL 1 (v := ?_) rfl (by kernel_rfl) (by kernel_rfl) (by kernel_rfl) (fun _ _ _ h => h) ⟨by rfl, ?_⟩ (by assumption) ?_
              rotate_left
              · intro w hS; have fa := kA.at hS; have fb := kB.at hS; have fc := KX.at hS; have f1 := fa 0; have f2 := fa 1; have f3 := fa 2; have f4 := fb 0; have f5 := fb 1; have f6 := fb 2; have f7 := fc 0; have f8 := fc 1; clear fa fb fc; go_simp <;> with_reducible rfl
              simp only [Act.put, List.setIfInBounds_toArray, List.set_cons_zero, List.set_cons_succ]
              refine takeL 2 (v := ?_) rfl (by kernel_rfl) (by kernel_rfl) (by kernel_rfl) (fun _ _ _ h => h) ⟨by rfl, ?_⟩ (by assumption) ?_
              rotate_left
              · intro w hS; go_simp <;> with_reducible rfl
              simp only [Act.put, List.setIfInBounds_toArray, List.set_cons_zero, List.set_cons_succ]
              refine takeL 3 (v := ?_) rfl (by kernel_rfl) (by kernel_rfl) (by kernel_rfl) (fun _ _ _ h => h) ⟨by rfl, ?_⟩ (by assumption) ?_
              rotate_left
              · intro w hS; go_simp <;> with_reducible rfl
              simp only [Act.put, List.setIfInBounds_toArray, List.set_cons_zero, List.set_cons_succ]
              refine takeL 5 (v := ?_) rfl (by kernel_rfl) (by kernel_rfl) (by kernel_rfl) (fun _ _ _ h => h) ⟨by rfl, ?_⟩ (by assumption) ?_
              rotate_left
              · intro w hS; have fa := kA.at hS; have fb := kB.at hS; have fc := KX.at hS; have f1 := fa 0; have f2 := fa 1; have f3 := fa 2; have f4 := fb 0; have f5 := fb 1; have f6 := fb 2; have f7 := fc 0; have f8 := fc 1; clear fa fb fc; go_simp <;> with_reducible rfl
              simp only [Act.put, List.setIfInBounds_toArray, List.set_cons_zero, List.set_cons_succ]
              refine takeL 6 (v := ?_) rfl (by kernel_rfl) (by kernel_rfl) (by kernel_rfl) (fun _ _ _ h => h) ⟨by rfl, ?_⟩ (by assumption) ?_
              rotate_left
              · intro w hS; go_simp <;> with_reducible rfl
              simp only [Act.put, List.setIfInBounds_toArray, List.set_cons_zero, List.set_cons_succ]
              refine takeL 7 (v := ?_) rfl (by kernel_rfl) (by kernel_rfl) (by kernel_rfl) (fun _ _ _ h => h) ⟨by rfl, ?_⟩ (by assumption) ?_
              rotate_left
              · intro w hS; go_simp <;> with_reducible rfl
              simp only [Act.put, List.setIfInBounds_toArray, List.set_cons_zero, List.set_cons_succ]
              refine oneL 4 rfl (by kernel_rfl) (by rfl) (fun K hK => ?_)
              go_simp
              go_at_call 17
              (with_reducible refine (ref11_At _ r m i j xs L _ (hA'.next hHeld) (by omega) (by omega) (by omega) hxj).mono ?_); rintro e w2 ⟨v2, rfl, h2, b2⟩
              refine hK.out _ _ (hHeld.trans (b2.mono hHeld.size)) (fun hHeld => ?_)
              clear hK K
              try simp only [Act.put, List.setIfInBounds_toArray, List.set_cons_zero, List.set_cons_succ]
              refine oneL 8 rfl (by kernel_rfl) (by rfl) (fun K hK => ?_)
              go_simp
              go_at_call 17
              (with_reducible refine (ref11_At _ m c j k ys M _ (hB'.next hHeld) (by omega) (by omega) (by omega) hyj).mono ?_); rintro e w3 ⟨v3, rfl, h3, b3⟩
              refine hK.out _ _ (hHeld.trans (b3.mono hHeld.size)) (fun hHeld => ?_)
              clear hK K
              try simp only [Act.put, List.setIfInBounds_toArray, List.set_cons_zero, List.set_cons_succ]
              refine oneL 9 rfl (by kernel_rfl) (by rfl) (fun K hK => ?_)
              go_simp
              go_at_call 23
              (with_reducible refine (zi_Mul v2 v3 _ _ L M _ (h2.next b3) h3 (by omega) (by omega)).mono ?_); rintro e w4 ⟨v4, rfl, h4, b4, -⟩
              refine hK.out _ _ (hHeld.trans (b4.mono hHeld.size)) (fun hHeld => ?_)
              clear hK K
              try simp only [Act.put, List.setIfInBounds_toArray, List.set_cons_zero, List.set_cons_succ]
              refine oneL 10 rfl (by kernel_rfl) (by rfl) (fun K hK => ?_)
              go_simp
              go_at_call 24
              (with_reducible refine (zi_Add _ v4 Z _ (Lj + 1) (L + M) _ (hn.iv.next hHeld) h4.iv (by omega) (by omega)).mono ?_); rintro e w5 ⟨v5, rfl, h5, b5, q5⟩
              replace q5 := q5.mono (Nat.le_trans hBr hHeld.size); obtain ⟨s2, a2, n2, c2, rfl⟩ := h5.agg
              refine hK.out _ _ (hHeld.trans (b5.mono hHeld.size)) (fun hHeld => ?_)
              clear hK K
              try simp only [Act.put, List.setIfInBounds_toArray, List.set_cons_zero, List.set_cons_succ]
              refine doneL (by kernel_rfl) ?_ _
              refine lastL rfl (by rfl) ?_
              replace KX := KX.next hHeld
              replace hbx := hbx.trans (hHeld.mono hbx.size)
              have f0 := KX.free 0; have f1 := KX.free 1
              have c0 := KX.cell 0; have c1 := KX.cell 1
              have h6 := h5.mono hLj
              rw [← EZ.out] at h6
              have KX' := Lib.hid ((KX.set 0 (.bool s2)).set 1 (.slice a2 n2 c2))
              have h6' := Lib.hid (h6.put KX s2 (.slice a2 n2 c2))
              have hbx' := Lib.hid ((hbx.setCell (p := ⟨gx, 0, none⟩) hgx (.bool s2)).setCell (p := ⟨gx, 1, none⟩) hgx (.slice a2 n2 c2))
              clear KX h6 hbx h2 h3 h4 h5 b2 b3 b4 b5 hHeld hn hA' hB' kA kB
              go_wp2
              go_roundw
              case rel => exact ⟨j + 1, by omega, by go_num, _, _, _, _, KX'.out, h6'.out, q5, hbx'.out⟩
              case measure => simp [intOf] <;> omega
            · obtain rfl : j = m := by omega
              have km := (KA.next hbb).cell 1
              have e0 := KX.cell 0; have e1 := KX.cell 1
              have hz' := hz.next hbx
              have hrow' : ∀ g, u5.ownBlock = some g → Offb (.slice p n d) g := fun g hg => hfr.offb (hrow g hg)
              have HT := Lib.hid (tab_at (i := i) (k := k) (fun i k => dotp xs ys j c i k j) hkc)
              have hik : i * c ≤ 64 * 64 := Nat.mul_le_mul (by omega) hc
              go_wp2_with (at_builtin; refine zapL 22 32 (.agg #[.bool false, .slice none 0 0]) Try.underlying22 (by kernel_rfl) (by decide) rfl rfl _ _ rfl wr wb.heap.size u5 (tab c (fun i k => dotp xs ys j c i k j) (i * c + k)) (j * (L + M + 1) + 1) es (dotp xs ys j c i k j) s (.slice p n d) hz' hn hrow' (by rw [tab_length]; omega) hbb.size rfl rfl ?_; intro gg cap1 w5 hown' hbel' hgr')
              rw [← HT.out] at hown'
              have hb5 := hbb.trans (hbel')
              go_roundw
              case rel => exact ⟨k + 1, _, by omega, by go_num, hown', hb5⟩
              case measure => simp [intOf] <;> omega
        · obtain rfl : k = c := by omega
          go_wp2
          go_roundw
          case rel => exact ⟨i + 1, es, by omega, by go_num, by rw [Nat.succ_mul]; exact hz, hb⟩
          case measure => simp [intOf] <;> omega
    · obtain rfl : i = r := by omega
      go_wp2
      go_ret
      exact ⟨_, rfl, hz.zs, BB.out.trans (hb.mono BB.out.size)⟩

end Go.Proofs.Ytahjbeilddenbaa
