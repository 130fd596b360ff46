/- The references of layer 9. -/
import Derived.Test.YthghdjpjbngllaaFpoly6
namespace Go.Proofs.Ythghdjpjbngllaa
open Go.RowKit

/-- 'out = append(out, y)' in a region that draws: y has just been laid in a block of its own. -/
theorem ap2 {P : Program} {ops : Array Oper} {o : Oper} {a : Act} {K : Act → World → Prop} {Q : Exit → Act → World → Prop} (k : IntKind) (T e bytes : Nat)
    (hu : P.underlying T = some (.slice e)) (hi : (P.info? e).map (fun i => (i.zero, i.size, i.bytes)) = some (some (.int k 0), 1, bytes)) (hby : bytes ≤ 8)
    (hgd : o.guard = none) (s x : Operand) (ho : o.op = .call { callee := .builtin .append, args := #[s, x], argTypes := #[T, T] })
    (w : World) (base : Nat) (v : Value) (xs : List Nat) (y : Nat) (yv : Int) (hy : yv = y) (hown : Own k e w base v xs) (hlen : xs.length ≤ 1000000000) (hbase : base ≤ w.heap.size)
    (hs : a.eval s = v) (hx : a.eval x = .slice (some ⟨w.heap.size, 0, none⟩) 1 1)
    (h : ∀ (g cap : Nat) (w' : World), Own k e w' base (.slice (some ⟨g, 0, none⟩) (xs.length + 1) cap) (xs ++ [y]) → Below base w w' → K (a.put o.dst (.slice (some ⟨g, 0, none⟩) (xs.length + 1) cap)) w') :
    Oper.wp P o a (w.alloc (.cells #[.int k yv] e)) K Q := by
  have := step_app2 (P := P) (ops := ops) (o := o) (a := a) (K := K) (Q := Q) (E := True) k T e bytes hu hi hby hgd s x ho w base v xs y yv hy hown hlen hbase hs hx h
  rwa [if_pos (by unfold Region.wanted; rw [hgd])] at this

theorem half_pow (B j : Nat) : B / 2 ^ j = 2 * (B / 2 ^ (j + 1)) + B / 2 ^ j % 2 := by
  rw [Nat.pow_succ, ← Nat.div_div_eq_div_mul]; omega

theorem dbl0 {p A B j x : Nat} (hx : x = A * (B / 2 ^ (j + 1)) % p) (hb : B / 2 ^ j % 2 = 0) : 2 * x % p = A * (B / 2 ^ j) % p := by
  rw [half_pow B j, hb, hx, Nat.mul_mod_mod]
  congr 1
  rw [Nat.mul_left_comm]; rfl

theorem dbl1 {p A B j x : Nat} (hx : x = A * (B / 2 ^ (j + 1)) % p) (hb : B / 2 ^ j % 2 = 1) : (2 * x % p + A) % p = A * (B / 2 ^ j) % p := by
  rw [half_pow B j, hb, hx, Nat.mul_mod_mod, Nat.mod_add_mod]
  congr 1
  rw [Nat.mul_left_comm, Nat.mul_add, Nat.mul_one]

def DblRel (p A B i x : Nat) : Prop := x = A * (B / 2 ^ i) % p

set_option maxHeartbeats 400000 in
theorem ref8_Mul (a b p : Nat) (w : World) (hp : FP p) :
    Calls Try.prog 87 #[.int .u64 a, .int .u64 b, .int .u64 p] w fun e w' => e = .returned (.int .u64 (a * b % p : Nat)) ∧ Drawn w w' := by
  have h1 := hp.1
  have h2 := hp.2
  have hz : ((p : Int) == 0) = false := by simpa using (show p ≠ 0 by omega)
  have hz1 : ¬ p = 0 := by omega
  have hz2 : ¬ (p : Int) = 0 := by omega
  have hA := Nat.mod_lt a hp.pos
  have hB := Nat.mod_lt b hp.pos
  have HR := Lib.hid (show a % p * (b % p) % p = a * b % p from (Nat.mul_mod a b p).symm)
  clear hp
  go_enter Try.func87, Try.ntmps87
  go_wp2
  go_quiet (fail)
  go_wp2
  go_loopw [9, 10] (fun ov iv wr => ∃ i x : Nat, i ≤ 32 ∧ iv = .int .i64 ((i : Int) - 1) ∧ ov = .int .u64 x ∧ x < p ∧ Drawn w wr ∧ DblRel p (a % p) (b % p) i x) (fun _ iv _ => (intOf iv + 1).toNat)
  case atStart => exact ⟨32, 0, by omega, rfl, rfl, by omega, ⟨_, rfl⟩, by unfold DblRel; rw [Nat.div_eq_of_lt (a := b % p) (b := 2 ^ 32) (by omega), Nat.mul_zero, Nat.zero_mod]⟩
  case round =>
    obtain ⟨i, x, hi, rfl, rfl, hx, hq, hv⟩ := hrel
    have HV := Lib.hid hv; clear hv
    by_cases h0 : 0 < i
    · obtain ⟨j, rfl⟩ : ∃ j, i = j + 1 := ⟨i - 1, by omega⟩
      have a6 : ((j + 1 : Nat) : Int) - 1 = (j : Int) := by omega
      have e : (b : Int) % (p : Int) / 2 ^ j = ((b % p / 2 ^ j : Nat) : Int) := by simp
      have e2 : ((b % p / 2 ^ j : Nat) : Int).tmod 2 = ((b % p / 2 ^ j % 2 : Nat) : Int) := rfl
      have hx2 := Nat.mod_lt (2 * x) (show 0 < p by omega)
      rw [a6]
      by_cases hb : b % p / 2 ^ j % 2 = 1
      · have ht : (((b : Int) % (p : Int) / 2 ^ j).tmod 2 == 1) = true := by rw [e, e2, hb]; rfl
        have hv2 := dbl1 (p := p) (A := a % p) HV.out hb
        have HV2 := Lib.hid hv2
        have hy := Nat.mod_lt (2 * x % p + a % p) (show 0 < p by omega)
        have s1 : IntKind.u64.wrap (2 * (x : Int) % (p : Int) + (a : Int) % (p : Int)) = ((2 * x % p + a % p : Nat) : Int) := by
          rw [show 2 * (x : Int) % (p : Int) + (a : Int) % (p : Int) = ((2 * x % p + a % p : Nat) : Int) by simp]; exact wrap_u64 _ (by omega)
        clear a6 e e2 hb hv2 hA hB hx2
        go_wp2
        go_roundw
        case rel => exact ⟨j, (2 * x % p + a % p) % p, by omega, by go_num, rfl, hy, hq, HV2.out⟩
        case measure => simp [intOf] <;> omega
      · have hb0 : b % p / 2 ^ j % 2 = 0 := by omega
        have ht : (((b : Int) % (p : Int) / 2 ^ j).tmod 2 == 1) = false := by rw [e, e2, hb0]; rfl
        have hv2 := dbl0 (p := p) (A := a % p) HV.out hb0
        have HV2 := Lib.hid hv2
        clear a6 e e2 hb hb0 hv2 hA hB
        go_wp2
        go_roundw
        case rel => exact ⟨j, 2 * x % p, by omega, by go_num, rfl, hx2, hq, HV2.out⟩
        case measure => simp [intOf] <;> omega
    · obtain rfl : i = 0 := by omega
      have hxe : x = a * b % p := by rw [← HR.out, show x = a % p * (b % p / 2 ^ 0) % p from HV.out, Nat.pow_zero, Nat.div_one]
      subst hxe
      go_wp2
      go_ret
      exact ⟨rfl, hq⟩


theorem map_take_succ {p : Nat} {xs : List Nat} {i : Nat} (hi : i < xs.length) : (xs.take (i + 1)).map (· % p) = (xs.take i).map (· % p) ++ [xs.getD i 0 % p] := by
  rw [take_snoc xs i hi, List.map_append]; rfl

set_option maxHeartbeats 1000000 in
theorem ref9_Norm (p : Nat) (v : Value) (xs : List Nat) (w : World) (hp : FP p) (hv : Sl .u64 w v xs) (hm : xs.length ≤ 100000000) :
    Calls Try.prog 60 #[v, .int .u64 p] w (RetP p w xs.length (pl p xs)) := by
  obtain ⟨ao, b, off, cap, rfl, hl, hcs⟩ := hv
  have h1 := hp.1
  have hz : ((p : Int) == 0) = false := by simpa using (show p ≠ 0 by omega)
  have hz1 : ¬ p = 0 := by omega
  have hz2 : ¬ (p : Int) = 0 := by omega
  have HP := Lib.hid hp; clear hp
  go_enter Try.func60, Try.ntmps60
  go_wp2
  go_loopw [5, 6] (fun ov iv wr => ∃ (i : Nat) (zs : List Nat), i ≤ xs.length ∧ iv = .int .i64 i ∧ Own .u64 27 wr w.heap.size ov zs ∧ Below w.heap.size w wr ∧ zs.length = i ∧ zs = (xs.take i).map (· % p)) (fun _ iv _ => xs.length - (intOf iv).toNat)
  case atStart => exact ⟨0, [], by omega, rfl, Own.nil _ _ _ _, Below.refl _ _, rfl, rfl⟩
  case round =>
    obtain ⟨i, zs, hi, rfl, ho, hb, hzl, hval⟩ := hrel
    have HV := Lib.hid hval; clear hval
    have HL := Lib.hid hzl; clear hzl
    by_cases hlt : i < xs.length
    · obtain rfl := hcs.ao (by intro h; subst h; simp at hlt)
      have hcx := (hcs.below hb (Nat.le_refl _)).cell i hlt
      obtain ⟨x, ex⟩ : ∃ x, x = xs.getD i 0 := ⟨_, rfl⟩
      rw [← ex] at hcx
      have EX := Lib.hid ex; clear ex
      have i0 : (0 : Int) ≤ (i : Int) := Int.natCast_nonneg _
      have i1 : (i : Int) < (xs.length : Int) := by omega
      go_wp2_with (at_builtin; refine wp_app1 .u64 32 27 8 Try.underlying32 (by kernel_rfl) (by decide) rfl _ _ rfl wr w.heap.size _ zs (x % p) _ (by rfl) ho (by rw [HL.out]; omega) hb.size rfl rfl ?_; intro v' w1 hown' hbel' hgr' _)
      go_roundw
      case rel => exact ⟨i + 1, zs ++ [x % p], by omega, by go_num, hown', hb.trans hbel', by rw [List.length_append, HL.out]; rfl, by rw [map_take_succ hlt, ← EX.out, HV.out]⟩
      case measure => simp [intOf] <;> omega
    · obtain rfl : i = xs.length := by omega
      have hzs : zs = xs.map (· % p) := by have := HV.out; rwa [List.take_length] at this
      have HZS := Lib.hid hzs
      have hm' : zs.length ≤ 100000000 := by have := HL.out; omega
      clear hzs
      obtain ⟨ao', b', off', cap', rfl, hl', hcs'⟩ := ho.sl
      go_wp2
      go_loop [5] (fun ov => ∃ k : Nat, k ≤ zs.length ∧ ov = .slice ao' k cap' ∧ tr zs = tr (zs.take k)) (fun ov => (match ov with | .slice _ n _ => n | _ => 0))
      case atStart => exact ⟨zs.length, Nat.le_refl _, rfl, by rw [List.take_length]⟩
      case round =>
        obtain ⟨k, hk, rfl, ht⟩ := hrel
        have HT := Lib.hid ht; clear ht
        by_cases h0 : 0 < k
        · obtain ⟨q, rfl⟩ : ∃ q, k = q + 1 := ⟨k - 1, by omega⟩
          obtain rfl := hcs'.ao (by intro h; subst h; simp at hk)
          have hcx := hcs'.cell q (by omega)
          obtain ⟨y, ey⟩ : ∃ y, y = zs.getD q 0 := ⟨_, rfl⟩
          rw [← ey] at hcx
          have hts : zs.take (q + 1) = zs.take q ++ [y] := by rw [ey]; exact take_snoc zs q (by omega)
          have HS := Lib.hid hts; clear hts ey
          by_cases hy : y = 0
          · subst hy
            go_wp2
            go_round
            case rel => exact ⟨q, by omega, by go_num, by rw [HT.out, HS.out, tr_snoc0]⟩
            case measure => simp
          · have hy' : (((y : Nat) : Int) == 0) = false := by simpa using hy
            go_wp2
            go_ret
            have e : tr zs = zs.take (q + 1) := by rw [HT.out, HS.out, tr_snoc _ _ hy]
            refine ⟨_, tr zs, rfl, by rw [e]; exact ho.take' (q + 1) hk, ?_, ?_, ?_, hb⟩
            · rw [HZS.out]; exact nl_nrm HP.out.pos xs
            · rw [pl_tr, HZS.out, pl_map_mod]
            · have := tr_len zs; rw [HL.out] at this; exact this
        · obtain rfl : k = 0 := by omega
          go_wp2
          go_ret
          have e : tr zs = [] := by rw [HT.out]; rfl
          refine ⟨_, tr zs, rfl, by rw [e]; exact ho.take' 0 hk, ?_, ?_, ?_, hb⟩
          · rw [HZS.out]; exact nl_nrm HP.out.pos xs
          · rw [pl_tr, HZS.out, pl_map_mod]
          · have := tr_len zs; rw [HL.out] at this; exact this

theorem ref9_at (v : Value) (xs : List Nat) (i : Nat) (w : World) (hv : Sl .u64 w v xs) :
    Calls Try.prog 132 #[v, .int .i64 i] w fun e w' => e = .returned (.int .u64 (xs.getD i 0 : Nat)) ∧ w = w' := by
  obtain ⟨ao, b, off, cap, rfl, hl, hcs⟩ := hv
  have i0 : (0 : Int) ≤ (i : Int) := Int.natCast_nonneg _
  by_cases hi : i < xs.length
  · obtain rfl := hcs.ao (by intro h; subst h; simp at hi)
    have hcx := hcs.cell i hi
    have i1 : (i : Int) < (xs.length : Int) := by omega
    obtain ⟨x, ex⟩ : ∃ x, x = xs.getD i 0 := ⟨_, rfl⟩
    rw [← ex] at hcx ⊢
    clear ex
    go_enter Try.func132, Try.ntmps132
    go_wp2
    go_ret
    exact ⟨rfl, rfl⟩
  · have e : xs.getD i 0 = 0 := by rw [List.getD, List.getElem?_eq_none (by omega)]; rfl
    rw [e]
    clear e
    go_enter Try.func132, Try.ntmps132
    go_wp2
    go_ret
    exact ⟨rfl, rfl⟩

set_option maxHeartbeats 1000000 in
theorem ref9_Neg (p : Nat) (v : Value) (xs : List Nat) (w : World) (hp : FP p) (hv : Sl .u64 w v xs) (hm : xs.length ≤ 1000000) :
    Calls Try.prog 125 #[v, .int .u64 p] w (RetP p w xs.length (-pl p xs)) := by
  obtain ⟨ao, b, off, cap, rfl, hl, hcs⟩ := hv
  have h1 := hp.1
  have h2 := hp.2
  have hz : ((p : Int) == 0) = false := by simpa using (show p ≠ 0 by omega)
  have hz1 : ¬ p = 0 := by omega
  have hz2 : ¬ (p : Int) = 0 := by omega
  have HP := Lib.hid hp; clear hp
  go_enter Try.func125, Try.ntmps125
  go_wp2
  go_loopw [5, 6] (fun ov iv wr => ∃ (i : Nat) (zs : List Nat), i ≤ xs.length ∧ iv = .int .i64 i ∧ Own .u64 27 wr w.heap.size ov zs ∧ Below w.heap.size w wr ∧ zs.length = i ∧ pl p zs = -pl p (xs.take i)) (fun _ iv _ => xs.length - (intOf iv).toNat)
  case atStart => exact ⟨0, [], by omega, rfl, Own.nil _ _ _ _, Below.refl _ _, rfl, by rw [List.take_zero, pl_nil, CR.neg_zero]⟩
  case round =>
    obtain ⟨i, zs, hi, rfl, ho, hb, hzl, hval⟩ := hrel
    have HV := Lib.hid hval; clear hval
    have HL := Lib.hid hzl; clear hzl
    by_cases hlt : i < xs.length
    · obtain rfl := hcs.ao (by intro h; subst h; simp at hlt)
      have hcx := (hcs.below hb (Nat.le_refl _)).cell i hlt
      obtain ⟨x, ex⟩ : ∃ x, x = xs.getD i 0 := ⟨_, rfl⟩
      rw [← ex] at hcx
      have hxp := Nat.mod_lt x (show 0 < p by omega)
      have s1 : IntKind.u64.wrap ((p : Int) - (x : Int) % (p : Int)) = ((p - x % p : Nat) : Int) := by
        rw [show (p : Int) - (x : Int) % (p : Int) = ((p - x % p : Nat) : Int) by rw [Int.ofNat_sub (Nat.le_of_lt hxp)]; simp]; exact wrap_u64 _ (by omega)
      have ar : pl p (zs ++ [(p - x % p) % p]) = -pl p (xs.take (i + 1)) := by
        rw [pl_snoc, HV.out, HL.out, pl_take_succ, ← ex, Zp.of_mod, show p - x % p = 0 % p + p - x % p by rw [Nat.zero_mod, Nat.zero_add], Zp.of_sub p 0 x HP.out.pos, Zp.of_zero, CR.zero_sub, mon_neg, CR.neg_distrib]
      have AR := Lib.hid ar
      clear ex ar hxp
      have i0 : (0 : Int) ≤ (i : Int) := Int.natCast_nonneg _
      have i1 : (i : Int) < (xs.length : Int) := by omega
      go_wp2_with (at_builtin; refine wp_app1 .u64 32 27 8 Try.underlying32 (by kernel_rfl) (by decide) rfl _ _ rfl wr w.heap.size _ zs ((p - x % p) % p) _ (by rfl) ho (by rw [HL.out]; omega) hb.size rfl rfl ?_; intro v' w1 hown' hbel' hgr' _)
      go_roundw
      case rel => exact ⟨i + 1, _, by omega, by go_num, hown', hb.trans hbel', by rw [List.length_append, HL.out]; rfl, AR.out⟩
      case measure => simp [intOf] <;> omega
    · have hend : pl p zs = -pl p xs := by rw [HV.out, pl_take_all p xs i (by omega)]
      have HE := Lib.hid hend; clear hend
      have hzl : zs.length ≤ xs.length := by have := HL.out; omega
      go_wp2_with fail
      refine (ref9_Norm p _ zs _ HP.out ho.sl (by omega)).mono ?_; rintro e w2 ⟨r, z2, rfl, o2, m2, v2, l2, b2⟩
      have V2 := Lib.hid v2; clear v2
      go_wp2
      go_ret
      exact ⟨r, z2, rfl, o2.mono hb.size, m2, by rw [V2.out, HE.out], by omega, hb.trans (b2.mono hb.size)⟩

set_option maxHeartbeats 1000000 in
theorem ref9_Add (p : Nat) (v u : Value) (xs ys : List Nat) (w : World) (hp : FP p) (s0 : Sl .u64 w v xs) (s1 : Sl .u64 w u ys) (hm : xs.length ≤ 1000000) (hn : ys.length ≤ 1000000) :
    Calls Try.prog 107 #[v, u, .int .u64 p] w (RetP p w (max xs.length ys.length) (pl p xs + pl p ys)) := by
  have c1 := fun (i : Nat) (w' : World) (h : Sl .u64 w' v xs) => ref9_at v xs i w' h
  have c2 := fun (i : Nat) (w' : World) (h : Sl .u64 w' u ys) => ref9_at u ys i w' h
  have C1 := Lib.hid c1; have C2 := Lib.hid c2; clear c1 c2
  obtain ⟨ao, ba, oa, ca, rfl, la, ka⟩ := s0
  have s0 : Sl .u64 w (.slice ao xs.length ca) xs := ⟨ao, ba, oa, ca, rfl, la, ka⟩
  obtain ⟨bo, bb, ob, cb, rfl, lb, kb⟩ := s1
  have s1 : Sl .u64 w (.slice bo ys.length cb) ys := ⟨bo, bb, ob, cb, rfl, lb, kb⟩
  clear ka kb
  have h1 := hp.1
  have h2 := hp.2
  have hz : ((p : Int) == 0) = false := by simpa using (show p ≠ 0 by omega)
  have hz1 : ¬ p = 0 := by omega
  have hz2 : ¬ (p : Int) = 0 := by omega
  have HP := Lib.hid hp; clear hp
  go_enter Try.func107, Try.ntmps107
  go_wp2
  go_loopw [7, 8] (fun ov iv wr => ∃ (i : Nat) (zs : List Nat), (i ≤ xs.length ∨ i ≤ ys.length) ∧ iv = .int .i64 i ∧ Own .u64 27 wr w.heap.size ov zs ∧ Below w.heap.size w wr ∧ zs.length = i ∧ pl p zs = pl p (xs.take i) + pl p (ys.take i)) (fun _ iv _ => xs.length + ys.length - (intOf iv).toNat)
  case atStart => exact ⟨0, [], Or.inl (by omega), rfl, Own.nil _ _ _ _, Below.refl _ _, rfl, by simp only [List.take_zero, pl_nil]; rw [CR.zero_add]⟩
  case round =>
    obtain ⟨i, zs, hi, rfl, ho, hb, hzl, hval⟩ := hrel
    have HV := Lib.hid hval; clear hval
    have HL := Lib.hid hzl
    have hzb : zs.length ≤ 1000000000 := by omega
    clear hzl
    by_cases hlt : i < xs.length ∨ i < ys.length
    · obtain ⟨x, ex⟩ : ∃ x, x = xs.getD i 0 := ⟨_, rfl⟩
      obtain ⟨y, ey⟩ : ∃ y, y = ys.getD i 0 := ⟨_, rfl⟩
      have c1 := C1.out i; rw [← ex] at c1
      have c2 := C2.out i; rw [← ey] at c2
      have D1 := Lib.hid c1; have D2 := Lib.hid c2
      have ar : pl p (zs ++ [(x % p + y % p) % p]) = pl p (xs.take (i + 1)) + pl p (ys.take (i + 1)) := by
        rw [pl_snoc, HV.out, HL.out, pl_take_succ, pl_take_succ, ← ex, ← ey, Zp.of_mod, Zp.of_add, Zp.of_mod, Zp.of_mod, mon_add]
        exact by_ring [pl p (xs.take i), pl p (ys.take i), mon (Zp.of p x) i, mon (Zp.of p y) i] (X0 + X1 + (X2 + X3)) (X0 + X2 + (X1 + X3)) rfl
      have AR := Lib.hid ar
      have hxp := Nat.mod_lt x (show 0 < p by omega)
      have hyp := Nat.mod_lt y (show 0 < p by omega)
      have hzp := Nat.mod_lt (x % p + y % p) (show 0 < p by omega)
      have w1 : IntKind.u64.wrap ((x : Int) % (p : Int) + (y : Int) % (p : Int)) = ((x % p + y % p : Nat) : Int) := by
        rw [show (x : Int) % (p : Int) + (y : Int) % (p : Int) = ((x % p + y % p : Nat) : Int) by simp]; exact wrap_u64 _ (by omega)
      have hyv : (IntKind.u64.wrap ((x : Int).tmod (p : Int) + (y : Int).tmod (p : Int))).tmod (p : Int) = (((x % p + y % p) % p : Nat) : Int) := by
        rw [show (x : Int).tmod (p : Int) = ((x % p : Nat) : Int) from rfl, show (y : Int).tmod (p : Int) = ((y % p : Nat) : Int) from rfl, ← Int.natCast_add, wrap_u64 _ (by omega)]; rfl
      have HYV := Lib.hid hyv
      clear c1 c2 ex ey ar hyv
      have i0 : (0 : Int) ≤ (i : Int) := Int.natCast_nonneg _
      have hd := hb.trans (Drawn.below (w := wr) (w' := wr.drew) ⟨1, rfl⟩ _)
      have hod := ho.drew
      have hbase := hd.size
      clear ho hb
      by_cases hlx : i < xs.length
      · go_upto_region 5 with (fail)
        refine startL (S := (fun w' => Below w.heap.size w w')) (by kernel_rfl) hd (fun hHeld => ?_)
        refine takeL 0 (v := ?_) rfl (by kernel_rfl) (by kernel_rfl) (by kernel_rfl) (fun _ _ _ h => h) ⟨by rfl, ?_⟩ (by assumption) ?_
        rotate_left
        · intro w hS; go_simp <;> with_reducible rfl
        simp only [Act.put, List.setIfInBounds_toArray, List.set_cons_zero, List.set_cons_succ]
        refine takeL 1 (v := ?_) rfl (by kernel_rfl) (by kernel_rfl) (by kernel_rfl) (fun _ _ _ h => h) ⟨by rfl, ?_⟩ (by assumption) ?_
        rotate_left
        · intro w hS; go_simp <;> with_reducible rfl
        simp only [Act.put, List.setIfInBounds_toArray, List.set_cons_zero, List.set_cons_succ]
        refine takeL 2 (v := ?_) rfl (by kernel_rfl) (by kernel_rfl) (by kernel_rfl) (fun _ _ _ h => h) ⟨by rfl, ?_⟩ (by assumption) ?_
        rotate_left
        · intro w hS; go_simp <;> with_reducible rfl
        simp only [Act.put, List.setIfInBounds_toArray, List.set_cons_zero, List.set_cons_succ]
        refine takeL 4 (v := ?_) rfl (by kernel_rfl) (by kernel_rfl) (by kernel_rfl) (fun _ _ _ h => h) ⟨by rfl, ?_⟩ (by assumption) ?_
        rotate_left
        · intro w hS; go_simp <;> with_reducible rfl
        simp only [Act.put, List.setIfInBounds_toArray, List.set_cons_zero, List.set_cons_succ]
        refine takeL 6 (v := ?_) rfl (by kernel_rfl) (by kernel_rfl) (by kernel_rfl) (fun _ _ _ h => h) ⟨by rfl, ?_⟩ (by assumption) ?_
        rotate_left
        · intro w hS; go_simp <;> with_reducible rfl
        simp only [Act.put, List.setIfInBounds_toArray, List.set_cons_zero, List.set_cons_succ]
        refine takeL 7 (v := ?_) rfl (by kernel_rfl) (by kernel_rfl) (by kernel_rfl) (fun _ _ _ h => h) ⟨by rfl, ?_⟩ (by assumption) ?_
        rotate_left
        · intro w hS; go_simp <;> with_reducible rfl
        simp only [Act.put, List.setIfInBounds_toArray, List.set_cons_zero, List.set_cons_succ]
        refine takeL 9 (v := ?_) rfl (by kernel_rfl) (by kernel_rfl) (by kernel_rfl) (fun _ _ _ h => h) ⟨by rfl, ?_⟩ (by assumption) ?_
        rotate_left
        · intro w hS; go_simp <;> with_reducible rfl
        simp only [Act.put, List.setIfInBounds_toArray, List.set_cons_zero, List.set_cons_succ]
        refine takeL 12 (v := ?_) rfl (by kernel_rfl) (by kernel_rfl) (by kernel_rfl) (fun _ _ _ h => h) ⟨by rfl, ?_⟩ (by assumption) ?_
        rotate_left
        · intro w hS; go_simp <;> with_reducible rfl
        simp only [Act.put, List.setIfInBounds_toArray, List.set_cons_zero, List.set_cons_succ]
        refine oneL 3 rfl (by kernel_rfl) (by rfl) (fun K hK => ?_)
        go_simp
        go_at_call 132
        refine (D1.out _ (s0.next hHeld)).mono ?_; rintro e w2 ⟨rfl, rfl⟩
        refine hK.out _ _ (hHeld) (fun hHeld => ?_)
        clear hK K
        try simp only [Act.put, List.setIfInBounds_toArray, List.set_cons_zero, List.set_cons_succ]
        refine takeL 5 (v := ?_) rfl (by kernel_rfl) (by kernel_rfl) (by kernel_rfl) (fun _ _ _ h => h) ⟨by rfl, ?_⟩ (by assumption) ?_
        rotate_left
        · intro w hS; go_simp <;> with_reducible rfl
        simp only [Act.put, List.setIfInBounds_toArray, List.set_cons_zero, List.set_cons_succ]
        refine oneL 8 rfl (by kernel_rfl) (by rfl) (fun K hK => ?_)
        go_simp
        go_at_call 132
        refine (D2.out _ (s1.next hHeld)).mono ?_; rintro e w2 ⟨rfl, rfl⟩
        refine hK.out _ _ (hHeld) (fun hHeld => ?_)
        clear hK K
        try simp only [Act.put, List.setIfInBounds_toArray, List.set_cons_zero, List.set_cons_succ]
        refine takeL 10 (v := ?_) rfl (by kernel_rfl) (by kernel_rfl) (by kernel_rfl) (fun _ _ _ h => h) ⟨by rfl, ?_⟩ (by assumption) ?_
        rotate_left
        · intro w hS; go_simp <;> with_reducible rfl
        simp only [Act.put, List.setIfInBounds_toArray, List.set_cons_zero, List.set_cons_succ]
        refine takeL 11 (v := ?_) rfl (by kernel_rfl) (by kernel_rfl) (by kernel_rfl) (fun _ _ _ h => h) ⟨by rfl, ?_⟩ (by assumption) ?_
        rotate_left
        · intro w hS; go_simp <;> with_reducible rfl
        simp only [Act.put, List.setIfInBounds_toArray, List.set_cons_zero, List.set_cons_succ]
        refine takeL 13 (v := ?_) rfl (by kernel_rfl) (by kernel_rfl) (by kernel_rfl) (fun _ _ _ h => h) ⟨by rfl, ?_⟩ (by assumption) ?_
        rotate_left
        · intro w hS; go_simp <;> with_reducible rfl
        simp only [Act.put, List.setIfInBounds_toArray, List.set_cons_zero, List.set_cons_succ]
        refine oneL 14 rfl (by kernel_rfl) (by rfl) (fun K hK => ?_)
        go_simp
        refine hK.out _ _ (hHeld.alloc hHeld.size _) (fun hHeld => ?_)
        clear hK K
        try simp only [Act.put, List.setIfInBounds_toArray, List.set_cons_zero, List.set_cons_succ]
        refine oneL 15 rfl (by kernel_rfl) (by rfl) (fun K hK => ?_)
        refine ap2 (ops := #[]) .u64 32 27 8 Try.underlying32 (by kernel_rfl) (by decide) rfl _ _ rfl wr.drew w.heap.size _ zs ((x % p + y % p) % p) _ HYV.out hod hzb hbase rfl rfl ?_
        intro gg cap1 w5 hown' hbel'
        refine hK.out _ _ (hd.trans hbel') (fun hHeld => ?_)
        clear hK K
        try simp only [Act.put, List.setIfInBounds_toArray, List.set_cons_zero, List.set_cons_succ]
        refine takeL 16 (v := ?_) rfl (by kernel_rfl) (by kernel_rfl) (by kernel_rfl) (fun _ _ _ h => h) ⟨by rfl, ?_⟩ (by assumption) ?_
        rotate_left
        · intro w hS; go_simp <;> with_reducible rfl
        simp only [Act.put, List.setIfInBounds_toArray, List.set_cons_zero, List.set_cons_succ]
        refine doneL (by kernel_rfl) ?_ _
        clear hod hd w1 hbase
        go_wp2
        go_roundw
        case rel => exact ⟨i + 1, _, by omega, by go_num, hown', hHeld, by rw [List.length_append, HL.out]; rfl, AR.out⟩
        case measure => simp [intOf] <;> omega
      · have hly : i < ys.length := by omega
        go_upto_region 5 with (fail)
        refine startL (S := (fun w' => Below w.heap.size w w')) (by kernel_rfl) hd (fun hHeld => ?_)
        refine takeL 0 (v := ?_) rfl (by kernel_rfl) (by kernel_rfl) (by kernel_rfl) (fun _ _ _ h => h) ⟨by rfl, ?_⟩ (by assumption) ?_
        rotate_left
        · intro w hS; go_simp <;> with_reducible rfl
        simp only [Act.put, List.setIfInBounds_toArray, List.set_cons_zero, List.set_cons_succ]
        refine takeL 1 (v := ?_) rfl (by kernel_rfl) (by kernel_rfl) (by kernel_rfl) (fun _ _ _ h => h) ⟨by rfl, ?_⟩ (by assumption) ?_
        rotate_left
        · intro w hS; go_simp <;> with_reducible rfl
        simp only [Act.put, List.setIfInBounds_toArray, List.set_cons_zero, List.set_cons_succ]
        refine takeL 2 (v := ?_) rfl (by kernel_rfl) (by kernel_rfl) (by kernel_rfl) (fun _ _ _ h => h) ⟨by rfl, ?_⟩ (by assumption) ?_
        rotate_left
        · intro w hS; go_simp <;> with_reducible rfl
        simp only [Act.put, List.setIfInBounds_toArray, List.set_cons_zero, List.set_cons_succ]
        refine takeL 4 (v := ?_) rfl (by kernel_rfl) (by kernel_rfl) (by kernel_rfl) (fun _ _ _ h => h) ⟨by rfl, ?_⟩ (by assumption) ?_
        rotate_left
        · intro w hS; go_simp <;> with_reducible rfl
        simp only [Act.put, List.setIfInBounds_toArray, List.set_cons_zero, List.set_cons_succ]
        refine takeL 6 (v := ?_) rfl (by kernel_rfl) (by kernel_rfl) (by kernel_rfl) (fun _ _ _ h => h) ⟨by rfl, ?_⟩ (by assumption) ?_
        rotate_left
        · intro w hS; go_simp <;> with_reducible rfl
        simp only [Act.put, List.setIfInBounds_toArray, List.set_cons_zero, List.set_cons_succ]
        refine takeL 7 (v := ?_) rfl (by kernel_rfl) (by kernel_rfl) (by kernel_rfl) (fun _ _ _ h => h) ⟨by rfl, ?_⟩ (by assumption) ?_
        rotate_left
        · intro w hS; go_simp <;> with_reducible rfl
        simp only [Act.put, List.setIfInBounds_toArray, List.set_cons_zero, List.set_cons_succ]
        refine takeL 9 (v := ?_) rfl (by kernel_rfl) (by kernel_rfl) (by kernel_rfl) (fun _ _ _ h => h) ⟨by rfl, ?_⟩ (by assumption) ?_
        rotate_left
        · intro w hS; go_simp <;> with_reducible rfl
        simp only [Act.put, List.setIfInBounds_toArray, List.set_cons_zero, List.set_cons_succ]
        refine takeL 12 (v := ?_) rfl (by kernel_rfl) (by kernel_rfl) (by kernel_rfl) (fun _ _ _ h => h) ⟨by rfl, ?_⟩ (by assumption) ?_
        rotate_left
        · intro w hS; go_simp <;> with_reducible rfl
        simp only [Act.put, List.setIfInBounds_toArray, List.set_cons_zero, List.set_cons_succ]
        refine oneL 3 rfl (by kernel_rfl) (by rfl) (fun K hK => ?_)
        go_simp
        go_at_call 132
        refine (D1.out _ (s0.next hHeld)).mono ?_; rintro e w2 ⟨rfl, rfl⟩
        refine hK.out _ _ (hHeld) (fun hHeld => ?_)
        clear hK K
        try simp only [Act.put, List.setIfInBounds_toArray, List.set_cons_zero, List.set_cons_succ]
        refine takeL 5 (v := ?_) rfl (by kernel_rfl) (by kernel_rfl) (by kernel_rfl) (fun _ _ _ h => h) ⟨by rfl, ?_⟩ (by assumption) ?_
        rotate_left
        · intro w hS; go_simp <;> with_reducible rfl
        simp only [Act.put, List.setIfInBounds_toArray, List.set_cons_zero, List.set_cons_succ]
        refine oneL 8 rfl (by kernel_rfl) (by rfl) (fun K hK => ?_)
        go_simp
        go_at_call 132
        refine (D2.out _ (s1.next hHeld)).mono ?_; rintro e w2 ⟨rfl, rfl⟩
        refine hK.out _ _ (hHeld) (fun hHeld => ?_)
        clear hK K
        try simp only [Act.put, List.setIfInBounds_toArray, List.set_cons_zero, List.set_cons_succ]
        refine takeL 10 (v := ?_) rfl (by kernel_rfl) (by kernel_rfl) (by kernel_rfl) (fun _ _ _ h => h) ⟨by rfl, ?_⟩ (by assumption) ?_
        rotate_left
        · intro w hS; go_simp <;> with_reducible rfl
        simp only [Act.put, List.setIfInBounds_toArray, List.set_cons_zero, List.set_cons_succ]
        refine takeL 11 (v := ?_) rfl (by kernel_rfl) (by kernel_rfl) (by kernel_rfl) (fun _ _ _ h => h) ⟨by rfl, ?_⟩ (by assumption) ?_
        rotate_left
        · intro w hS; go_simp <;> with_reducible rfl
        simp only [Act.put, List.setIfInBounds_toArray, List.set_cons_zero, List.set_cons_succ]
        refine takeL 13 (v := ?_) rfl (by kernel_rfl) (by kernel_rfl) (by kernel_rfl) (fun _ _ _ h => h) ⟨by rfl, ?_⟩ (by assumption) ?_
        rotate_left
        · intro w hS; go_simp <;> with_reducible rfl
        simp only [Act.put, List.setIfInBounds_toArray, List.set_cons_zero, List.set_cons_succ]
        refine oneL 14 rfl (by kernel_rfl) (by rfl) (fun K hK => ?_)
        go_simp
        refine hK.out _ _ (hHeld.alloc hHeld.size _) (fun hHeld => ?_)
        clear hK K
        try simp only [Act.put, List.setIfInBounds_toArray, List.set_cons_zero, List.set_cons_succ]
        refine oneL 15 rfl (by kernel_rfl) (by rfl) (fun K hK => ?_)
        refine ap2 (ops := #[]) .u64 32 27 8 Try.underlying32 (by kernel_rfl) (by decide) rfl _ _ rfl wr.drew w.heap.size _ zs ((x % p + y % p) % p) _ HYV.out hod hzb hbase rfl rfl ?_
        intro gg cap1 w5 hown' hbel'
        refine hK.out _ _ (hd.trans hbel') (fun hHeld => ?_)
        clear hK K
        try simp only [Act.put, List.setIfInBounds_toArray, List.set_cons_zero, List.set_cons_succ]
        refine takeL 16 (v := ?_) rfl (by kernel_rfl) (by kernel_rfl) (by kernel_rfl) (fun _ _ _ h => h) ⟨by rfl, ?_⟩ (by assumption) ?_
        rotate_left
        · intro w hS; go_simp <;> with_reducible rfl
        simp only [Act.put, List.setIfInBounds_toArray, List.set_cons_zero, List.set_cons_succ]
        refine doneL (by kernel_rfl) ?_ _
        clear hod hd w1 hbase
        go_wp2
        go_roundw
        case rel => exact ⟨i + 1, _, by omega, by go_num, hown', hHeld, by rw [List.length_append, HL.out]; rfl, AR.out⟩
        case measure => simp [intOf] <;> omega
    · have hend : pl p zs = pl p xs + pl p ys := by rw [HV.out, pl_take_all p xs i (by omega), pl_take_all p ys i (by omega)]
      have hzl : zs.length ≤ max xs.length ys.length := by have := HL.out; omega
      have HE := Lib.hid hend; clear hend
      have n1 : ¬ i < xs.length := fun h => hlt (Or.inl h)
      have n2 : ¬ i < ys.length := fun h => hlt (Or.inr h)
      clear hlt
      go_wp2_with fail
      refine (ref9_Norm p _ zs _ HP.out ho.sl (by omega)).mono ?_; rintro e w2 ⟨r, z2, rfl, o2, m2, v2, l2, b2⟩
      have V2 := Lib.hid v2; clear v2
      go_wp2
      go_ret
      exact ⟨r, z2, rfl, o2.mono hb.size, m2, by rw [V2.out, HE.out], by omega, hb.trans (b2.mono hb.size)⟩

def EvR (p c : Nat) (xs : List Nat) (i y q : Nat) : Prop := q = (pw (Zp.of p c) i).val ∧ Zp.of p y + evl p (Zp.of p c) (xs.drop i) * pw (Zp.of p c) i = evl p (Zp.of p c) xs ∧ y < p

theorem mul_mod_val {p a b : Nat} (hp : FP p) : a * b % p = (Zp.of p a * Zp.of p b).val := by
  rw [← Zp.of_mul, Zp.val_of]; have := hp.1; rw [show p - 1 + 1 = p by omega]

theorem ref9_Monic (v : Value) (xs : List Nat) (β : Bool) (w : World) (hv : Sl .u64 w v xs) (hm : xs.length ≤ 1000000) (hβ : β = decide (xs = [] ∨ xs.getD (xs.length - 1) 0 = 1)) :
    Calls Try.prog 64 #[v] w fun e w' => e = .returned (.bool β) ∧ w = w' := by
  obtain ⟨ao, b, off, cap, rfl, hl, hcs⟩ := hv
  by_cases h0 : xs.length = 0
  · obtain rfl : xs = [] := List.length_eq_zero_iff.mp h0
    obtain rfl : β = true := by rw [hβ]; exact decide_eq_true (Or.inl rfl)
    clear hβ h0
    go_enter Try.func64, Try.ntmps64
    go_wp2
    go_ret
    exact ⟨rfl, rfl⟩
  · obtain ⟨j, hj⟩ : ∃ j, xs.length = j + 1 := ⟨xs.length - 1, by omega⟩
    have hcx := hcs.cell j (by omega)
    obtain rfl := hcs.ao (by intro h; subst h; simp at h0)
    have hz : ((xs.length : Int) == 0) = false := beq_eq_false_iff_ne.mpr (by omega)
    have s1 : IntKind.i64.wrap (j : Int) = (j : Int) := IntWalk.i64_in _ ⟨by omega, by omega⟩
    have s2 : (xs.length : Int) - 1 = (j : Int) := by omega
    have s3 : (j : Int) < (xs.length : Int) := by omega
    rw [show xs.length - 1 = j by omega] at hβ
    obtain ⟨x, ex⟩ : ∃ x, x = xs.getD j 0 := ⟨_, rfl⟩
    rw [← ex] at hcx hβ
    have hne : xs ≠ [] := by intro h; subst h; simp at h0
    clear ex h0 hj
    have i0 : (0 : Int) ≤ (j : Int) := Int.natCast_nonneg _
    by_cases hx : x = 1
    · obtain rfl : β = true := by rw [hβ]; exact decide_eq_true (Or.inr hx)
      subst hx
      clear hβ hne
      go_enter Try.func64, Try.ntmps64
      go_wp2
      go_ret
      exact ⟨rfl, rfl⟩
    · obtain rfl : β = false := by rw [hβ]; exact decide_eq_false (by rintro (h | h); exact hne h; exact hx h)
      have hx1 : ((x : Int) == 1) = false := beq_eq_false_iff_ne.mpr (by omega)
      clear hβ hne hx
      go_enter Try.func64, Try.ntmps64
      go_wp2
      go_ret
      exact ⟨rfl, rfl⟩

end Go.Proofs.Ythghdjpjbngllaa
