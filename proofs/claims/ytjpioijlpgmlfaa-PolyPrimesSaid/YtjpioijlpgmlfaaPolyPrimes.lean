/- For every number and a list the law PolyPrimes returns true, whatever they are. -/
import Derived.Test.YtjpioijlpgmlfaaRows
import Derived.Test.YtjpioijlpgmlfaaOpen
import Derived.Test.YtjpioijlpgmlfaaFirr2
import Derived.Deep.LoopGhost
namespace Go.Proofs.Ytjpioijlpgmlfaa.polyPrimes
open Go.ChangeShapes Go.WideShapes Go.ChangeAt Go.RowKit
open Go.ChangeMaps (open_string shut_string)

theorem own : ownKnob Try.prog.godebug = none := by kernel_rfl
theorem laidOut : laidOutB Try.prog = true := by kernel_rfl

theorem nv_len_inj {B : Nat} : ∀ {xs ys : List Nat}, xs.length = ys.length → wf B xs → wf B ys → nv B xs = nv B ys → xs = ys
  | [], [], _, _, _, _ => rfl
  | [], _ :: _, h, _, _, _ => by simp at h
  | _ :: _, [], h, _, _, _ => by simp at h
  | x :: xs, y :: ys, h, hx, hy, e => by
    have h1 : x < B := hx x (by simp)
    have h2 : y < B := hy y (by simp)
    rw [nv_cons, nv_cons] at e
    have e1 : x = y := by
      have := congrArg (· % B) e
      simp only [Nat.add_mul_mod_self_left] at this
      rwa [Nat.mod_eq_of_lt h1, Nat.mod_eq_of_lt h2] at this
    subst e1
    have e2 : nv B xs = nv B ys := Nat.eq_of_mul_eq_mul_left (show 0 < B by omega) (by omega)
    rw [nv_len_inj (by simpa using h) (fun z hz => hx z (by simp [hz])) (fun z hz => hy z (by simp [hz])) e2]

/-- Has a monic divisor of a degree below k been found? -/
def Found (p : Nat) (a : Pol (Zp p)) (k : Nat) : Prop := ∃ j, 1 ≤ j ∧ j < k ∧ HasDiv p a j

/-- Has one of the degree k been found among the first N? -/
def Tested (p : Nat) (a : Pol (Zp p)) (k N : Nat) : Prop := ∃ bs : List Nat, bs.length = k ∧ wf p bs ∧ nv p bs < N ∧ Dv (pl p (bs ++ [1])) a

theorem Tested.all {p : Nat} {a : Pol (Zp p)} {k : Nat} : Tested p a k (p ^ k) ↔ HasDiv p a k :=
  ⟨fun ⟨bs, h1, h2, _, h4⟩ => ⟨bs, h1, h2, h4⟩, fun ⟨bs, h1, h2, h4⟩ => ⟨bs, h1, h2, by have := nv_lt bs h2; rwa [h1] at this, h4⟩⟩

theorem Tested.next {p : Nat} {a : Pol (Zp p)} {k N : Nat} {cs : List Nat} (hl : cs.length = k) (hw : wf p cs) (hn : nv p cs = N) : Tested p a k (N + 1) ↔ (Tested p a k N ∨ Dv (pl p (cs ++ [1])) a) := by
  constructor
  · rintro ⟨bs, h1, h2, h3, h4⟩
    by_cases e : nv p bs = N
    · right
      rw [nv_len_inj (hl.trans h1.symm) hw h2 (hn.trans e.symm)]; exact h4
    · exact Or.inl ⟨bs, h1, h2, by omega, h4⟩
  · rintro (⟨bs, h1, h2, h3, h4⟩ | h)
    · exact ⟨bs, h1, h2, by omega, h4⟩
    · exact ⟨cs, hl, hw, by omega, h⟩

theorem Found.succ {p : Nat} {a : Pol (Zp p)} {k : Nat} (hk : 1 ≤ k) : Found p a (k + 1) ↔ (Found p a k ∨ HasDiv p a k) := by
  constructor
  · rintro ⟨j, h1, h2, h3⟩
    by_cases e : j = k
    · subst e; exact Or.inr h3
    · exact Or.inl ⟨j, h1, by omega, h3⟩
  · rintro (⟨j, h1, h2, h3⟩ | h)
    · exact ⟨j, h1, by omega, h3⟩
    · exact ⟨k, hk, by omega, h⟩

theorem Tested.found {p : Nat} {a : Pol (Zp p)} {k N : Nat} (h : Tested p a k N) : HasDiv p a k := by
  obtain ⟨bs, h1, h2, _, h4⟩ := h; exact ⟨bs, h1, h2, h4⟩

structure OutRel (p : Nat) (w wr : World) (g : Nat) (v1 : Value) (x1 : List Nat) (k : Nat) (φ : Bool) : Prop where
  fx : Fx p w wr g
  sa : Sl .u64 wr v1 x1
  iff : φ = true ↔ Found p (pl p x1) k

structure InRel (p : Nat) (w wr : World) (g : Nat) (v1 : Value) (x1 : List Nat) (k N : Nat) (φ μ : Bool) (bv : Value) (cs : List Nat) : Prop where
  fx : Fx p w wr g
  sa : Sl .u64 wr v1 x1
  iff : φ = true ↔ (Found p (pl p x1) k ∨ Tested p (pl p x1) k N)
  yes : μ = true → Sl .u64 wr bv (cs ++ [1]) ∧ cs.length = k ∧ wf p cs ∧ nv p cs = N
  no : μ = false → N = p ^ k

theorem InRel.out {p : Nat} {w wr : World} {g : Nat} {v1 : Value} {x1 : List Nat} {k N : Nat} {φ μ : Bool} {bv : Value} {cs : List Nat} (h : InRel p w wr g v1 x1 k N φ μ bv cs) (hk : 1 ≤ k) (he : φ = true ∨ μ = false) : OutRel p w wr g v1 x1 (k + 1) φ := by
  refine ⟨h.fx, h.sa, ?_⟩
  rw [Found.succ hk]
  rcases he with he | he
  · refine ⟨fun hf => (h.iff.1 hf).imp id Tested.found, fun _ => he⟩
  · rw [h.iff, h.no he, Tested.all]

set_option maxHeartbeats 4000000 in
theorem walk (x0 : Nat) (v1 : Value) (x1 : List Nat) (w : World) (s1 : Sl .u64 w v1 x1) :
    Calls Try.prog 9 #[.int .u8 x0, v1] w (LawOk w) := by
  obtain ⟨p, ep⟩ : ∃ p, p = Ps (x0 % 3) := ⟨_, rfl⟩
  have e12 : x0 % 3 % 12 = x0 % 3 := by omega
  have hp : FP p := by rw [ep, ← e12]; exact Ps_FP (by omega)
  have ht : Trial p := by rw [ep, ← e12]; exact Ps_trial (by omega)
  have hF : Facts p := by
    have h3 : x0 % 3 = 0 ∨ x0 % 3 = 1 ∨ x0 % 3 = 2 := by omega
    rcases h3 with h | h | h
    · rw [ep, h]; exact facts_of (by decide) check2
    · rw [ep, h]; exact facts_of (by decide) check3
    · rw [ep, h]; exact facts_of (by decide) check5
  have hp5 : p ≤ 5 := by
    have h3 : x0 % 3 = 0 ∨ x0 % 3 = 1 ∨ x0 % 3 = 2 := by omega
    rcases h3 with h | h | h <;> rw [ep, h] <;> decide
  have cOf : ∀ w : World, Calls Try.prog 12 #[.int .u8 ((x0 : Int) % 3)] w fun e w' => e = .returned (.agg #[.int .u64 (p : Nat)]) ∧ Below w.heap.size w w' := fun w => by rw [ep, ← e12]; exact law9_Of (x0 % 3) w
  have cP : ∀ w : World, Calls Try.prog 17 #[.int .u8 ((x0 : Int) % 3)] w fun e w' => e = .returned (.int .u64 (p : Nat)) ∧ w = w' := fun w => by rw [ep, ← e12]; exact ref8_P (x0 % 3) w
  have hp2 := hp.1
  have hp3 := hp.2
  have HP := Lib.hid hp; have HT := Lib.hid ht; have COF := Lib.hid cOf; have CP := Lib.hid cP; have HF := Lib.hid hF
  clear hp ht cOf cP ep e12 hF
  obtain ⟨ao1, bb1, of1, cap1, rfl, hc1, hcs1⟩ := s1
  have s1 : Sl .u64 w (.slice ao1 x1.length cap1) x1 := ⟨ao1, bb1, of1, cap1, rfl, hc1, hcs1⟩
  clear hcs1
  by_cases h : (x1.length : Int) ≤ 6
  · have hn6 : ¬ (6 : Int) < (x1.length : Int) := by omega
    have hn7 : decide ((6 : Int) < (x1.length : Int)) = false := decide_eq_false hn6
    go_enter Try.func9, Try.ntmps9
    have B : Below w.heap.size w w := Below.refl _ _
    go_wp2_with fail
    refine (law9_awake _).mono ?_; rintro e w1 ⟨rfl, b1⟩
    replace s1 := s1.next b1
    replace B := B.trans (b1.mono B.size)
    go_wp2_with fail
    refine (COF.out _).mono ?_; rintro e w2 ⟨rfl, b2⟩
    replace s1 := s1.next b2
    replace B := B.trans (b2.mono B.size)
    go_wp2_with fail
    refine (CP.out _).mono ?_; rintro e wx ⟨rfl, rfl⟩
    go_upto_region 4 with (fail)
    have fx : Fx p w (w2.alloc (.cells #[.int .u64 p] 28)) w2.heap.size := Fx.box B
    have bb := (Below.refl w2.heap.size w2).alloc (Nat.le_refl _) (.cells #[.int .u64 p] 28)
    replace s1 := s1.next bb
    generalize w2.alloc (.cells #[.int .u64 p] 28) = w3 at *
    obtain ⟨g, eg⟩ : ∃ g, g = w2.heap.size := ⟨_, rfl⟩
    rw [← eg] at fx ⊢
    clear eg bb B
    have hcg := fx.cell
    obtain ⟨Z, eZ⟩ : ∃ Z, Z = nl p x1 := ⟨_, rfl⟩
    have hZl : Z.length ≤ 6 := by have := nl_len p x1; rw [← eZ] at this; omega
    have EZ := Lib.hid eZ; clear eZ
    go_wp2_with fail
    refine (fp_Degree p _ x1 Z _ HP.out s1 (by omega) EZ.out).mono ?_; rintro e w4 ⟨rfl, b4⟩
    replace s1 := s1.next b4
    replace fx := fx.next b4
    replace hcg := fx.cell
    have st : OutRel p w w4 g (.slice ao1 x1.length cap1) x1 1 false := ⟨fx, s1, ⟨fun h => absurd h (by decide), fun ⟨j, h1, h2, _⟩ => absurd h2 (by omega)⟩⟩
    clear fx s1 hcg
    go_wp2_with fail
    go_loopw [8, 9] (fun fv kv wr => ∃ (k : Nat) (φ : Bool), 1 ≤ k ∧ k ≤ 4 ∧ kv = .int .i64 k ∧ fv = .bool φ ∧ OutRel p w wr g (.slice ao1 x1.length cap1) x1 k φ ∧ (2 ≤ k → 2 * (k - 1) ≤ Z.length - 1)) (fun _ kv _ => 10 - (intOf kv).toNat)
    case atStart => exact ⟨1, false, by omega, by omega, rfl, rfl, st, fun h => by omega⟩
    case round =>
      clear st
      obtain ⟨k, φ, hk1, hk4, rfl, rfl, st, hkd⟩ := hrel
      have HKD := Lib.hid hkd; clear hkd
      have hcg := st.fx.cell
      by_cases hlt : 2 * k ≤ Z.length - 1
      · have hle : 2 * (k : Int) ≤ (Z.length : Int) - 1 := by omega
        have hle2 : decide (2 * (k : Int) ≤ (Z.length : Int) - 1) = true := decide_eq_true hle
        have hk3 : k ≤ 2 := by omega
        go_wp2_with (at_make; refine wp_make .u64 22 26 8 Try.underlying22 (by kernel_rfl) (by decide) rfl _ _ rfl .i64 .i64 (k + 1) (by omega) _ _ _ rfl rfl (by omega) (by omega) ?_; intro w1 hown hbel hsz; have hcz := hown.cellAt k (by simp); have hfz := hown.frozenAt k)
        have hst := (hown.store k 1).1
        rw [show (List.replicate (k + 1) 0).set k 1 = List.replicate k 0 ++ [1] by rw [List.replicate_succ', List.set_append_right _ _ (by simp)]; simp] at hst
        have hwg : w.heap.size ≤ wr.heap.size := st.fx.below.size
        have hgw : g ≠ wr.heap.size := Nat.ne_of_lt st.fx.lt
        have s2 : InRel p w (w1.setCell ⟨wr.heap.size, k, none⟩ (.int .u64 ((1 : Nat) : Int))) g (.slice ao1 x1.length cap1) x1 k 0 φ true (.slice (some ⟨wr.heap.size, 0, none⟩) (k + 1) (k + 1)) (List.replicate k 0) :=
          ⟨(st.fx.next hbel).set (a := ⟨wr.heap.size, k, none⟩) hwg hgw _, st.sa.below (hbel.setCell (p := ⟨wr.heap.size, k, none⟩) (Nat.le_refl _) _) (Nat.le_refl _), by rw [st.iff]; exact ⟨Or.inl, fun h => h.elim id (fun ⟨bs, _, _, h3, _⟩ => by omega)⟩,
            fun _ => ⟨hst.sl, by simp, wf_replicate0 (by omega) k, nv_replicate0 p k⟩, fun h => by cases h⟩
        clear hown hst hbel
        obtain ⟨gb, egb⟩ : ∃ gb, gb = wr.heap.size := ⟨_, rfl⟩
        rw [← egb] at s2 ⊢
        have HST := Lib.hid (show OutRel p w wr g (.slice ao1 x1.length cap1) x1 k φ from st)
        clear egb hsz st hcg hwg hgw hcz hfz
        generalize w1.setCell ⟨gb, k, none⟩ (.int .u64 ((1 : Nat) : Int)) = w2 at *
        obtain ⟨wo, rfl⟩ : ∃ wo : World, wo = wr := ⟨_, rfl⟩
        have hpk : p ^ k ≤ 100000 := by
          have h1 : p ^ k ≤ 5 ^ k := Nat.pow_le_pow_left hp5 k
          have h2 : 5 ^ k ≤ 5 ^ 2 := Nat.pow_le_pow_right (by decide) hk3
          omega
        go_loopg [8, 10, 11] (p ^ k) (fun gk fv bv mv wr => ∃ (N : Nat) (φ μ : Bool) (cs : List Nat), gk = (if μ then p ^ k - N else 0) ∧ fv = .bool φ ∧ mv = .bool μ ∧ InRel p w wr g (.slice ao1 x1.length cap1) x1 k N φ μ bv cs)
        case atStart => exact ⟨0, φ, true, List.replicate k 0, by simp, rfl, rfl, s2⟩
        case round =>
          clear s2
          obtain ⟨N, φ2, μ, cs, hgk, rfl, rfl, st⟩ := hrel
          have HGK := Lib.hid hgk; clear hgk
          have hcg := st.fx.cell
          by_cases hgo : φ2 = false ∧ μ = true
          · obtain ⟨rfl, rfl⟩ := hgo
            obtain ⟨sb, hcl, hcw, hcn⟩ := st.yes rfl
            have hN : N < p ^ k := by have := nv_lt cs hcw; rw [hcl, hcn] at this; exact this
            obtain ⟨δ, hδ⟩ : ∃ δ : Bool, δ = true ↔ Dv (pl p (cs ++ [1])) (pl p x1) := by
              by_cases h : Dv (pl p (cs ++ [1])) (pl p x1)
              · exact ⟨true, fun _ => h, fun _ => rfl⟩
              · exact ⟨false, fun h => absurd h (by decide), fun h' => absurd h' h⟩
            have HD := Lib.hid hδ
            have HST := Lib.hid (show (false = true ↔ (Found p (pl p x1) k ∨ Tested p (pl p x1) k N)) from st.iff)
            have HC := Lib.hid (show cs.length = k ∧ nv p cs = N from ⟨hcl, hcn⟩)
            have hcl2 : cs.length ≤ 2 := by omega
            clear hδ hcl hcn
            go_wp2_with fail
            refine (law9_divides p _ _ (cs ++ [1]) x1 δ _ HP.out HT.out sb st.sa (by simp; omega) (by omega) HD.out).mono ?_; rintro e w5 ⟨rfl, b5⟩
            have fx5 := st.fx.next b5
            have sa5 := st.sa.next b5
            replace sb := sb.next b5
            replace hcg := fx5.cell
            clear st b5
            go_wp2_with fail
            refine (ref9_Next p _ cs _ HP.out sb (by omega) hcw).mono ?_
            rintro e w6 (⟨r6, ds, rfl, o6, l6, m6, n6, b6⟩ | ⟨r6, ds, rfl, o6, n6, b6⟩)
            · have s3 : InRel p w w6 g (.slice ao1 x1.length cap1) x1 k (N + 1) δ true r6 ds :=
                ⟨fx5.next b6, sa5.next b6, by
                  rw [HD.out, Tested.next HC.out.1 hcw HC.out.2]
                  exact ⟨fun h => Or.inr (Or.inr h), fun h => h.elim (fun h => absurd (HST.out.2 (Or.inl h)) (by decide)) (fun h => h.elim (fun h => absurd (HST.out.2 (Or.inr h)) (by decide)) id)⟩,
                  fun _ => ⟨o6.sl, l6.trans HC.out.1, m6, by rw [n6, HC.out.2]⟩, fun h => absurd h (by decide)⟩
              have hm : p ^ k - (N + 1) < gk := by have := HGK.out; simp at this; omega
              clear b6 o6 l6 m6 n6 hcg fx5 sa5 sb
              go_wp2
              go_roundg (p ^ k - (N + 1))
              case measure => exact hm
              case rel => exact ⟨N + 1, δ, true, ds, by simp, rfl, rfl, s3⟩
            · have s3 : InRel p w w6 g (.slice ao1 x1.length cap1) x1 k (N + 1) δ false r6 ds :=
                ⟨fx5.next b6, sa5.next b6, by
                  rw [HD.out, Tested.next HC.out.1 hcw HC.out.2]
                  exact ⟨fun h => Or.inr (Or.inr h), fun h => h.elim (fun h => absurd (HST.out.2 (Or.inl h)) (by decide)) (fun h => h.elim (fun h => absurd (HST.out.2 (Or.inr h)) (by decide)) id)⟩,
                  fun h => absurd h (by decide), fun _ => by rw [HC.out.1, HC.out.2] at n6; exact n6⟩
              have hm : 0 < gk := by have := HGK.out; simp at this; omega
              clear b6 o6 n6 hcg fx5 sa5 sb
              go_wp2
              go_roundg 0
              case measure => exact hm
              case rel => exact ⟨N + 1, δ, false, ds, by simp, rfl, rfl, s3⟩
          · have he : φ2 = true ∨ μ = false := by
              cases φ2 <;> cases μ <;> simp at hgo ⊢
            have so := st.out hk1 he
            clear hgo st hcg
            cases μ with
            | false =>
              go_wp2
              go_roundw
              case rel => exact ⟨k + 1, φ2, by omega, by omega, by go_num, rfl, so, fun h => by omega⟩
              case measure => simp [intOf] <;> omega
            | true =>
              obtain rfl : φ2 = true := by simpa using he
              go_wp2
              go_roundw
              case rel => exact ⟨k + 1, true, by omega, by omega, by go_num, rfl, so, fun h => by omega⟩
              case measure => simp [intOf] <;> omega
      · have hle : ¬ 2 * (k : Int) ≤ (Z.length : Int) - 1 := by omega
        have hle2 : decide (2 * (k : Int) ≤ (Z.length : Int) - 1) = false := decide_eq_false hle
        have hfk : Found p (pl p x1) k ↔ ∃ j, 1 ≤ j ∧ 2 * j ≤ Z.length - 1 ∧ HasDiv p (pl p x1) j := by
          constructor
          · rintro ⟨j, h1, h2, h3⟩
            exact ⟨j, h1, by have := HKD.out (by omega); omega, h3⟩
          · rintro ⟨j, h1, h2, h3⟩
            exact ⟨j, h1, by omega, h3⟩
        have hβ : ∀ β : Bool, (β = true ↔ (2 ≤ Z.length ∧ φ = false)) → (β = true ↔ (2 ≤ (nl p x1).length ∧ ∀ i, 1 ≤ i → 2 * i ≤ (nl p x1).length - 1 → Apart p (pl p x1) (p ^ i))) := by
          intro β h
          rw [h, ← EZ.out, primes (n := Z.length - 1) HT.out HF.out (Nat.sub_le_of_le_add hZl), ← hfk, ← st.iff]
          simp
        have HBE := Lib.hid hβ
        have hcl : φ = true ∨ φ = false := by cases φ <;> simp
        clear hβ hfk
        by_cases hz : 2 ≤ Z.length
        · have hz1 : (1 : Int) ≤ (Z.length : Int) - 1 := by omega
          have hz2 : decide ((1 : Int) ≤ (Z.length : Int) - 1) = true := decide_eq_true hz1
          rcases hcl with rfl | rfl
          · go_wp2_with fail
            refine (fp_Irreducible p _ x1 false _ HP.out HT.out st.sa (by omega) (HBE.out false (by simp))).mono ?_; rintro e w9 ⟨rfl, b9⟩
            go_wp2
            go_ret
            exact ⟨rfl, (st.fx.next b9).below⟩
          · go_wp2_with fail
            refine (fp_Irreducible p _ x1 true _ HP.out HT.out st.sa (by omega) (HBE.out true ⟨fun _ => ⟨hz, by simp⟩, fun _ => rfl⟩)).mono ?_; rintro e w9 ⟨rfl, b9⟩
            go_wp2
            go_ret
            exact ⟨rfl, (st.fx.next b9).below⟩
        · have hz1 : ¬ (1 : Int) ≤ (Z.length : Int) - 1 := by omega
          have hz2 : decide ((1 : Int) ≤ (Z.length : Int) - 1) = false := decide_eq_false hz1
          go_wp2_with fail
          refine (fp_Irreducible p _ x1 false _ HP.out HT.out st.sa (by omega) (HBE.out false ⟨fun h => absurd h (by decide), fun h => absurd h.1 hz⟩)).mono ?_; rintro e w9 ⟨rfl, b9⟩
          go_wp2
          go_ret
          exact ⟨rfl, (st.fx.next b9).below⟩
  · have hn6 : (6 : Int) < (x1.length : Int) := by omega
    have hn7 : decide ((6 : Int) < (x1.length : Int)) = true := decide_eq_true hn6
    go_enter Try.func9, Try.ntmps9
    go_wp2_with fail
    refine (law9_awake w).mono ?_; rintro e w1 ⟨rfl, b1⟩
    go_wp2_with fail
    refine (law9_awake w1).mono ?_; rintro e w2 ⟨rfl, b2⟩
    go_wp2
    go_ret
    exact ⟨rfl, b1.trans (b2.mono b1.size)⟩

set_option maxRecDepth 100000 in
theorem lifted (os : Os) (started : os.Started) (H : Type) (enc : TypeId × Value → H) :
    ReturnsInHanded {} Try.checked os 9 .any (Rows.polyPrimesSpec.pre6 enc Try.prog Try.f9 Rows.polyPrimesRow.domain false) (Rows.polyPrimesSpec.post enc Try.prog Try.f9 false true false false) := by
  refine returnsInHanded_of_change (C := Try.checked) own started (by kernel_rfl) Try.func9
    (ChangeSpec.witness6 (enc := enc) (C := Try.checked) false ⟨#[], #[.int .u8 0, .slice none 0 0], []⟩ 8 (by kernel_rfl) (by kernel_rfl) (by kernel_rfl) (by kernel_rfl)) ?_
  intro W base args ds gs before hval0 hW hcnd _
  have hval : ∀ (j : Nat) t v, Try.f9.params[j]? = some t → args[j]? = some v → Value.okWide Try.prog W .any base t v := hval0
  have hW' := hW
  obtain ⟨p, q, hA0, hV, rfl, hfz, hnd⟩ := hW
  have hA : DataW.TrodAll enc Try.prog W 0 (fun _ => true) true Try.f9.params.toList args.toList ds p := hA0
  rw [Try.params9] at hA hval
  obtain ⟨v0, vs0, d0, ds0, p0, q0, hargs, rfl, rfl, h0, r0⟩ := trodAll_cons hA
  obtain ⟨v1, vs1, d1, ds1, p1, q1, rfl, rfl, rfl, h1, r1⟩ := trodAll_cons r0
  obtain ⟨rfl, rfl, rfl⟩ := trodAll_nil r1
  obtain rfl : args = #[v0, v1] := by cases args; simp_all
  obtain ⟨rfl, rfl⟩ := trodVars_none hV
  have k0 := h0
  have lt0 : ∀ x ∈ p0, x.block < W.heap.size := by obtain ⟨m, hm⟩ := k0; exact DataW.trod_lt m _ _ _ hm
  obtain ⟨i0, rfl, rfl, rfl, wi0⟩ := open_int Try.underlying5 (hval 0 5 v0 rfl rfl) h0
  obtain ⟨x0, rfl⟩ := Int.eq_ofNat_of_zero_le (wf_u8_bounds wi0).1
  have k1 := h1
  have lt1 : ∀ x ∈ p1, x.block < W.heap.size := by obtain ⟨m, hm⟩ := k1; exact DataW.trod_lt m _ _ _ hm
  obtain ⟨x1, s1, -⟩ := open_words Try.underlying23 Try.underlying26 (by kernel_rfl) (hval 1 23 v1 rfl rfl) h1
  clear hA0 hval0
  refine (walk x0 v1 x1 W  s1).mono fun e W' ⟨he, bel⟩ => ?_
  subst he
  exact ⟨_, rfl, _, _, _, [], _, [], hW', trodAll_mk1 (shut_bool Try.underlying4 _), (trodAll_cons_mk (Below.trod laidOut (by kernel_rfl) (of_decide_eq_true (by kernel_rfl)) k0 bel lt0) (trodAll_cons_mk (Below.trod laidOut (by kernel_rfl) (of_decide_eq_true (by kernel_rfl)) k1 bel lt1) trodAll_mk0)), rfl, bel.frame _, fun h => by cases h⟩

theorem over : Rows.polyPrimesRow.holds Try.pinned (OpenSpec.ofChange Rows.polyPrimesSpec) :=
  OpenClaim.holds_of_wide 9 Try.f9 rfl rfl rfl rfl rfl rfl rfl ⟨rfl, rfl, rfl, rfl, rfl⟩ rfl rfl rfl rfl rfl (by kernel_rfl) Try.func9 (by kernel_rfl)
    (of_decide_eq_true (by kernel_rfl)) (by unfold Func.isWrapper; first | (rw [if_pos (by decide +kernel)]; kernel_rfl) | (rw [if_neg (by decide +kernel)]; exact ⟨rfl, rfl⟩))
    (fun os started H enc _ => lifted os started H enc)

theorem proved : Rows.PolyPrimesSaid := over
#print axioms proved
end Go.Proofs.Ytjpioijlpgmlfaa.polyPrimes
