/- The references of layer 9: Mul; is; divides. -/
import Derived.Test.YthghdjpjbngllaaFref
namespace Go.Proofs.Ythghdjpjbngllaa
open Go.RowKit

def MulRel (p : Nat) (xs ys zs : List Nat) (i : Nat) : Prop := ∀ n, n < i → Zp.of p (zs.getD n 0) = (pl p xs * pl p ys).c n

theorem MulRel.snoc {p : Nat} {xs ys zs : List Nat} {i x : Nat} (h : MulRel p xs ys zs i) (hl : zs.length = i) (hx : Zp.of p x = (pl p xs * pl p ys).c i) : MulRel p xs ys (zs ++ [x]) (i + 1) := by
  intro n hn
  rw [getD_snoc, hl]
  by_cases e : n = i
  · rw [if_pos e, hx, e]
  · rw [if_neg e]; exact h n (by omega)

theorem mul_dlt {R : Type} [CR R] {f g : Pol R} {a b : Nat} (hf : f.dlt a) (hg : g.dlt b) : (f * g).dlt (a + b) := by
  intro n hn
  rw [Pol.c_mul]
  refine sm_zero' fun j hj => ?_
  by_cases h : a ≤ j
  · rw [hf j h, CR.zero_mul]
  · rw [hg (n - j) (by omega), CR.mul_zero]

theorem MulRel.fin {p : Nat} {xs ys zs : List Nat} (h : MulRel p xs ys zs (xs.length + ys.length)) (hl : zs.length = xs.length + ys.length) : pl p zs = pl p xs * pl p ys := by
  refine Pol.ext fun n => ?_
  by_cases hn : n < xs.length + ys.length
  · rw [pl_c]; exact h n hn
  · rw [pl_dlt p zs n (by omega), mul_dlt (pl_dlt p xs) (pl_dlt p ys) n (by omega)]

def MulIn (p : Nat) (xs ys : List Nat) (i k x : Nat) : Prop := x < p ∧ Zp.of p x = sm k (fun j => (pl p xs).c j * (pl p ys).c (i - j))

theorem MulIn.next {p i k d x a b : Nat} {xs ys : List Nat} (hp : FP p) (h : MulIn p xs ys i k x) (ha : a = xs.getD k 0) (hb : b = ys.getD d 0) (hd : i = k + d) : MulIn p xs ys i (k + 1) ((x + a * b % p) % p) := by
  refine ⟨Nat.mod_lt _ hp.pos, ?_⟩
  rw [Zp.of_mod, Zp.of_add, Zp.of_mod, Zp.of_mul, h.2]
  show _ = sm k _ + (pl p xs).c k * (pl p ys).c (i - k)
  rw [pl_c, pl_c, show i - k = d by omega, ← ha, ← hb]

set_option maxHeartbeats 2000000 in
theorem ref9_Mul (p : Nat) (v u : Value) (xs ys : List Nat) (w : World) (hp : FP p) (s0 : Sl .u64 w v xs) (s1 : Sl .u64 w u ys) (hm : xs.length ≤ 1000000) (hn : ys.length ≤ 1000000) :
    Calls Try.prog 108 #[v, u, .int .u64 p] w (RetP p w (xs.length + ys.length) (pl p xs * pl p ys)) := by
  have c1 := fun (i : Nat) (w' : World) (h : Sl .u64 w' v xs) => ref9_at v xs i w' h
  have c2 := fun (i : Nat) (w' : World) (h : Sl .u64 w' u ys) => ref9_at u ys i w' h
  have C1 := Lib.hid c1; have C2 := Lib.hid c2; clear c1 c2
  obtain ⟨ao, ba, oa, ca, rfl, la, ka⟩ := s0
  have s0 : Sl .u64 w (.slice ao xs.length ca) xs := ⟨ao, ba, oa, ca, rfl, la, ka⟩
  obtain ⟨bo, bb, ob, cb, rfl, lb, kb⟩ := s1
  have s1 : Sl .u64 w (.slice bo ys.length cb) ys := ⟨bo, bb, ob, cb, rfl, lb, kb⟩
  clear ka kb
  have h1 := hp.1
  have h2 := hp.2
  have hz : ((p : Int) == 0) = false := by simpa using (show p ≠ 0 by omega)
  have hz1 : ¬ p = 0 := by omega
  have hz2 : ¬ (p : Int) = 0 := by omega
  have HP := Lib.hid hp; clear hp
  go_enter Try.func108, Try.ntmps108
  go_wp2
  go_loopw [7, 8] (fun ov iv wr => ∃ (i : Nat) (zs : List Nat), i ≤ xs.length + ys.length ∧ iv = .int .i64 i ∧ Own .u64 27 wr w.heap.size ov zs ∧ Below w.heap.size w wr ∧ zs.length = i ∧ MulRel p xs ys zs i) (fun _ iv _ => xs.length + ys.length - (intOf iv).toNat)
  case atStart => exact ⟨0, [], by omega, rfl, Own.nil _ _ _ _, Below.refl _ _, rfl, fun n hn => by omega⟩
  case round =>
    obtain ⟨i, zs, hi, rfl, ho, hb, hzl, hval⟩ := hrel
    have HV := Lib.hid hval; clear hval
    have HL := Lib.hid hzl
    have hzb : zs.length ≤ 1000000000 := by omega
    clear hzl
    by_cases hlt : i < xs.length + ys.length
    · have hl1 : decide ((i : Int) < (xs.length : Int) + (ys.length : Int)) = true := decide_eq_true (by omega)
      obtain ⟨wo, rfl⟩ : ∃ wo : World, wo = wr := ⟨_, rfl⟩
      go_wp2
      go_loopw [9, 10] (fun xv kv wr => ∃ (k x : Nat), k ≤ i + 1 ∧ kv = .int .i64 k ∧ xv = .int .u64 x ∧ Drawn wo wr ∧ MulIn p xs ys i k x) (fun _ kv _ => i + 1 - (intOf kv).toNat)
      case atStart => exact ⟨0, 0, by omega, rfl, rfl, Drawn.refl _, by omega, rfl⟩
      case round =>
        obtain ⟨k, x, hk, rfl, rfl, hq, hin⟩ := hrel
        have HI := Lib.hid hin
        have hxp := hin.1
        clear hin
        by_cases hki : k ≤ i
        · obtain ⟨d, hd⟩ : ∃ d, i = k + d := ⟨i - k, by omega⟩
          obtain ⟨a, ea⟩ : ∃ a, a = xs.getD k 0 := ⟨_, rfl⟩
          obtain ⟨b, eb⟩ : ∃ b, b = ys.getD d 0 := ⟨_, rfl⟩
          obtain ⟨m, em⟩ : ∃ m, m = a * b % p := ⟨_, rfl⟩
          have c1 := C1.out k; rw [← ea] at c1
          have c2 := C2.out d; rw [← eb] at c2
          have c3 := fun w => ref8_Mul a b p w HP.out
          rw [← em] at c3
          have D1 := Lib.hid c1; have D2 := Lib.hid c2; have D3 := Lib.hid c3
          have hmp : m < p := by rw [em]; exact Nat.mod_lt _ (by omega)
          have ar := HI.out.next HP.out ea eb hd
          rw [← em] at ar
          have AR := Lib.hid ar
          have t1 : (i : Int) - (k : Int) = (d : Int) := by omega
          have t2 : IntKind.u64.wrap ((x : Int) + (m : Int)) = ((x + m : Nat) : Int) := by rw [← Int.natCast_add]; exact wrap_u64 _ (by omega)
          have hzp := Nat.mod_lt (x + m) (show 0 < p by omega)
          have bb0 := hb.trans (hq.below _)
          clear c1 c2 c3 ea eb em ar hd
          go_wp2_with fail
          refine (D1.out _ (s0.next bb0)).mono ?_; rintro e w1 ⟨rfl, rfl⟩
          go_wp2_with fail
          refine (D2.out _ (s1.next bb0)).mono ?_; rintro e w1 ⟨rfl, rfl⟩
          go_wp2_with fail
          refine (D3.out _).mono ?_; rintro e w1 ⟨rfl, q1⟩
          replace hq := hq.trans q1
          clear q1 bb0 t1
          go_wp2
          go_roundw
          case rel => exact ⟨k + 1, (x + m) % p, by omega, by go_num, rfl, hq, AR.out⟩
          case measure => simp [intOf] <;> omega
        · obtain rfl : k = i + 1 := by omega
          have hx : Zp.of p x = (pl p xs * pl p ys).c i := HI.out.2
          have HX := Lib.hid hx; clear hx
          have hb2 := hb.trans (hq.below w.heap.size)
          have ho2 := ho.drawn hq
          clear hki hk
          go_wp2_with (at_builtin; refine wp_app1 .u64 32 27 8 Try.underlying32 (by kernel_rfl) (by decide) rfl _ _ rfl wr w.heap.size _ zs x _ (by rfl) ho2 (by omega) hb2.size rfl rfl ?_; intro v' w1 hown' hbel' hgr' _)
          go_roundw
          case rel => exact ⟨i + 1, zs ++ [x], by omega, by go_num, hown', hb2.trans hbel', by rw [List.length_append, HL.out]; rfl, HV.out.snoc HL.out HX.out⟩
          case measure => simp [intOf] <;> omega
    · obtain rfl : i = xs.length + ys.length := by omega
      have hend := HV.out.fin HL.out
      have hzl := HL.out
      have HE := Lib.hid hend; clear hend
      have HZL := Lib.hid hzl; clear hzl
      go_wp2_with fail
      refine (ref9_Norm p _ zs _ HP.out ho.sl (by have := HZL.out; omega)).mono ?_; rintro e w2 ⟨r, z2, rfl, o2, m2, v2, l2, b2⟩
      have V2 := Lib.hid v2; clear v2
      go_wp2
      go_ret
      exact ⟨r, z2, rfl, o2.mono hb.size, m2, by rw [V2.out, HE.out], by have := HZL.out; omega, hb.trans (b2.mono hb.size)⟩

end Go.Proofs.Ythghdjpjbngllaa
