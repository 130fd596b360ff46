/- The reference of chapter 25: Going. -/
import Derived.Test.YtkmfhabgempjiaaQjM2
import Derived.Test.YtkmfhabgempjiaaQjM7
import Derived.Test.YtkmfhabgempjiaaQjM18
import Derived.Test.YtkmfhabgempjiaaQjM9
import Derived.Test.YtkmfhabgempjiaaQjM17
namespace Go.Proofs.Ytkmfhabgempjiaa
set_option maxHeartbeats 4000000
open Go.RowKit
section
open CR
variable {p : Nat}
def goE (a : Nat → Nat → Zp p) (n i k j1 j2 c : Nat) : Zp p := (if c % n = k ∧ c / n < j1 then a i (c / n) else 0) - (if c / n = i ∧ c % n < j2 then a (c % n) k else 0)
def goT (a : Nat → Nat → Zp p) (n row j1 j2 : Nat) : Nat → Nat → Nat := fun r c => (if r < row then goE a n (r / n) (r % n) n n c else if r = row then goE a n (row / n) (row % n) j1 j2 c else (0 : Zp p)).val
theorem goE_zero (a : Nat → Nat → Zp p) (n i k c : Nat) : goE a n i k 0 0 c = 0 := by
 unfold goE; rw [if_neg (fun h => absurd h.2 (Nat.not_lt_zero _)), if_neg (fun h => absurd h.2 (Nat.not_lt_zero _)), sub_self]
theorem goT_next (a : Nat → Nat → Zp p) (n row : Nat) : goT a n row n n = goT a n (row + 1) 0 0 := by
 funext r c
 unfold goT
 rw [goE_zero]
 by_cases h1 : r < row
 ·rw [if_pos h1, if_pos (by omega)]
 ·by_cases h2 : r = row
  ·rw [if_neg h1, if_pos h2, if_pos (by omega), h2]
  ·rw [if_neg h1, if_neg h2, if_neg (by omega)]; split <;> rfl
theorem goT_start (a : Nat → Nat → Zp p) (n N : Nat) : List.replicate (N * N) 0 = ftab N (goT a n 0 0 0) (N * N) := by
 refine List.ext_getElem (by rw [ftab_length]; simp) fun i h1 h2 => ?_
 unfold ftab goT
 simp [goE_zero, Zp.zero_val]
theorem ftab_gd (N : Nat) (T : Nat → Nat → Nat) {t : Nat} (h : t < N * N) : (ftab N T (N * N)).getD t 0 = T (t / N) (t % N) := by
 unfold ftab
 simp only [List.getD, List.getElem?_map, List.getElem?_range h, Option.map_some, Option.getD_some]
theorem ftab_setT {N r c x : Nat} (T T' : Nat → Nat → Nat) (hr : r < N) (hc : c < N) (hx : x = T' r c) (h : ∀ r' c', r' < N → c' < N → ¬ (r' = r ∧ c' = c) → T r' c' = T' r' c') : (ftab N T (N * N)).set (r * N + c) x = ftab N T' (N * N) := by
 have hlt : r * N + c < N * N := at_lt rfl hr hc
 refine List.ext_getElem (by rw [List.length_set, ftab_length, ftab_length]) fun t h1 h2 => ?_
 have hN : t < N * N := by rwa [ftab_length] at h2
 have hd : ∀ l : List Nat, ∀ h : t < l.length, l[t] = l.getD t 0 := fun l h => by simp [List.getD, List.getElem?_eq_getElem h]
 rw [hd _ h1, hd _ h2, getD_set1 _ _ _ _ (by rw [ftab_length]; exact hlt), ftab_gd _ _ hN, ftab_gd _ _ hN]
 have hN0 : 0 < N := by omega
 have hdm := Nat.div_add_mod t N
 have hml := Nat.mod_lt t hN0
 have hdl : t / N < N := Nat.div_lt_of_lt_mul hN
 by_cases e : t = r * N + c
 ·have e1 : t / N = r := by rw [e, Nat.mul_comm, Nat.mul_add_div hN0, Nat.div_eq_of_lt hc, Nat.add_zero]
  have e2 : t % N = c := by rw [e, Nat.mul_comm, Nat.mul_add_mod, Nat.mod_eq_of_lt hc]
  rw [if_pos e, e1, e2, hx]
 ·rw [if_neg e]
  refine h _ _ hdl hml fun ⟨e1, e2⟩ => e ?_
  rw [← hdm, e1, e2, Nat.mul_comm]
theorem goT_sum (a : Nat → Nat → Zp p) {n i k j : Nat} (hi : i < n) (hk : k < n) (hj : j < n) {x : Nat} (hx : x = (Zp.of p (goT a n (i * n + k) j j (i * n + k) (j * n + k)) + a i j).val) :
  (ftab (n * n) (goT a n (i * n + k) j j) (n * n * (n * n))).set ((i * n + k) * (n * n) + (j * n + k)) x = ftab (n * n) (goT a n (i * n + k) (j + 1) j) (n * n * (n * n)) := by
 have hn : 0 < n := by omega
 have d1 : (i * n + k) / n = i := by rw [Nat.mul_comm, Nat.mul_add_div hn, Nat.div_eq_of_lt hk, Nat.add_zero]
 have d2 : (i * n + k) % n = k := by rw [Nat.mul_comm, Nat.mul_add_mod, Nat.mod_eq_of_lt hk]
 have d3 : (j * n + k) / n = j := by rw [Nat.mul_comm, Nat.mul_add_div hn, Nat.div_eq_of_lt hk, Nat.add_zero]
 have d4 : (j * n + k) % n = k := by rw [Nat.mul_comm, Nat.mul_add_mod, Nat.mod_eq_of_lt hk]
 refine ftab_setT _ _ (at_lt rfl hi hk) (at_lt rfl hj hk) ?_ fun r' c' _ _ hne => ?_
 ·rw [hx]; unfold goT
  rw [if_neg (Nat.lt_irrefl _), if_pos rfl, if_neg (Nat.lt_irrefl _), if_pos rfl, Zp.of_val, d1, d2]
  congr 1
  unfold goE
  rw [d3, d4, if_neg (show ¬ (k = k ∧ j < j) by omega), if_pos (show k = k ∧ j < j + 1 from ⟨rfl, by omega⟩), sub_eq, sub_eq, zero_add, add_comm]
 ·unfold goT
  by_cases h1 : r' < i * n + k
  ·rw [if_pos h1, if_pos h1]
  ·by_cases h2 : r' = i * n + k
   ·rw [if_neg h1, if_pos h2, if_neg h1, if_pos h2, d1, d2]
    congr 1
    unfold goE
    congr 1
    by_cases h3 : c' % n = k ∧ c' / n < j
    ·rw [if_pos h3, if_pos ⟨h3.1, by omega⟩]
    ·rw [if_neg h3, if_neg]
     rintro ⟨h4, h5⟩
     refine hne ⟨h2, ?_⟩
     have := Nat.div_add_mod c' n
     have h6 : c' / n = j := by omega
     rw [← this, h6, h4, Nat.mul_comm]
   ·rw [if_neg h1, if_neg h2, if_neg h1, if_neg h2]
theorem goT_dif (a : Nat → Nat → Zp p) {n i k j : Nat} (hi : i < n) (hk : k < n) (hj : j < n) {x : Nat} (hx : x = (Zp.of p (goT a n (i * n + k) (j + 1) j (i * n + k) (i * n + j)) - a j k).val) :
  (ftab (n * n) (goT a n (i * n + k) (j + 1) j) (n * n * (n * n))).set ((i * n + k) * (n * n) + (i * n + j)) x = ftab (n * n) (goT a n (i * n + k) (j + 1) (j + 1)) (n * n * (n * n)) := by
 have hn : 0 < n := by omega
 have d1 : (i * n + k) / n = i := by rw [Nat.mul_comm, Nat.mul_add_div hn, Nat.div_eq_of_lt hk, Nat.add_zero]
 have d2 : (i * n + k) % n = k := by rw [Nat.mul_comm, Nat.mul_add_mod, Nat.mod_eq_of_lt hk]
 have d3 : (i * n + j) / n = i := by rw [Nat.mul_comm, Nat.mul_add_div hn, Nat.div_eq_of_lt hj, Nat.add_zero]
 have d4 : (i * n + j) % n = j := by rw [Nat.mul_comm, Nat.mul_add_mod, Nat.mod_eq_of_lt hj]
 refine ftab_setT _ _ (at_lt rfl hi hk) (at_lt rfl hi hj) ?_ fun r' c' _ _ hne => ?_
 ·rw [hx]; unfold goT
  rw [if_neg (Nat.lt_irrefl _), if_pos rfl, if_neg (Nat.lt_irrefl _), if_pos rfl, Zp.of_val, d1, d2]
  congr 1
  unfold goE
  rw [d3, d4, if_neg (show ¬ (i = i ∧ j < j) by omega), if_pos (show i = i ∧ j < j + 1 from ⟨rfl, by omega⟩), sub_zero]
 ·unfold goT
  by_cases h1 : r' < i * n + k
  ·rw [if_pos h1, if_pos h1]
  ·by_cases h2 : r' = i * n + k
   ·rw [if_neg h1, if_pos h2, if_neg h1, if_pos h2, d1, d2]
    congr 1
    unfold goE
    congr 1
    by_cases h3 : c' / n = i ∧ c' % n < j
    ·rw [if_pos h3, if_pos ⟨h3.1, by omega⟩]
    ·rw [if_neg h3, if_neg]
     rintro ⟨h4, h5⟩
     refine hne ⟨h2, ?_⟩
     have := Nat.div_add_mod c' n
     have h6 : c' % n = j := by omega
     rw [← this, h6, h4, Nat.mul_comm]
   ·rw [if_neg h1, if_neg h2, if_neg h1, if_neg h2]
variable {n : Nat}
def goM (A : MT (Zp p) n n) : MT (Zp p) (n * n) (n * n) := MT.of _ _ fun r c => goE A.e n (r / n) (r % n) n n c
theorem goT_end (A : MT (Zp p) n n) : ftab (n * n) (goT A.e n (n * n) 0 0) (n * n * (n * n)) = tbv (goM A) := by
 unfold tbv
 refine ftab_congr fun r c hr hc => ?_
 unfold goT goM
 rw [if_pos hr, MT.of_e _ hr hc]
end
theorem add_mod_val {p : Nat} (hp : FP p) (y u : Nat) : (y + u % p) % p = (Zp.of p y + Zp.of p u).val := by
 have e : p - 1 + 1 = p := by have := hp.1; omega
 rw [← Zp.of_mod (x := u), ← Zp.of_add, Zp.val_of, e]
theorem sub_mod_val {p : Nat} (hp : FP p) (y u : Nat) : (y + p - u % p) % p = (Zp.of p y - Zp.of p u).val := by
 have e : p - 1 + 1 = p := by have := hp.1; omega
 have hlt : u % p < p := Nat.mod_lt _ hp.pos
 have h1 : Zp.of p (y + p - u % p) + Zp.of p u = Zp.of p y := by
  rw [← Zp.of_mod (x := u), ← Zp.of_add, show y + p - u % p + u % p = y + p by omega, ← Zp.of_mod (x := y + p), Nat.add_mod_right, Zp.of_mod]
 have h2 : Zp.of p (y + p - u % p) = Zp.of p y - Zp.of p u := by rw [← h1, CR.sub_eq, CR.add_assoc, CR.add_neg, CR.add_zero]
 rw [← h2, Zp.val_of, e]
def GgR (p n N NN : Nat) (a : Nat → Nat → Zp p) (we wr : World) (gE gM row j1 j2 : Nat) : Prop := Blk 63 wr gM [.int .i64 N, .int .i64 N, .slice (some ⟨gE, 0, none⟩) NN NN] ∧ Own .u64 27 wr gE (.slice (some ⟨gE, 0, none⟩) NN NN) (ftab (n * n) (goT a n row j1 j2) (n * n * (n * n))) ∧ Below gE we wr
set_option maxRecDepth 20000 in
theorem rf25_Going (p : Nat) (a : Value) (n : Nat) (xs : List Nat) (w : World) (hp : FP p) (hA : Fm w a n n xs) (hn : n ≤ 3) (hx : xs.length = n * n) :
  Calls Try.prog 56 #[a, .int .u64 p] w (RetFm p w (n * n) (n * n) (goM (mx p n n xs))) := by
 obtain ⟨aA, cA, rfl⟩ := hA.agg
 obtain ⟨wb, ew, KA, KR, B0, hsz⟩ := boxes2 w 63 63 [.int .i64 n, .int .i64 n, .slice aA xs.length cA] [.int .i64 0, .int .i64 0, .slice none 0 0]
 clear hsz
 replace hA := hA.next B0
 have hp1 := hp.1; have hp2 := hp.2
 have hz1 : ¬ p = 0 := by omega
 have hz2 : ¬ (p : Int) = 0 := by omega
 have hz0 : ((p : Int) == 0) = false := by simpa using (show p ≠ 0 by omega)
 obtain ⟨N, eN⟩ : ∃ N, N = n * n := ⟨_, rfl⟩
 obtain ⟨NN, eNN⟩ : ∃ NN, NN = N * N := ⟨_, rfl⟩
 obtain ⟨N3, eN3⟩ : ∃ N3, N3 = N * n := ⟨_, rfl⟩
 have hN9 : N ≤ 9 := by rw [eN]; exact Nat.mul_le_mul hn hn
 have hNN81 : NN ≤ 81 := by rw [eNN]; exact Nat.mul_le_mul hN9 hN9
 have hN27 : N3 ≤ 27 := by rw [eN3]; exact Nat.mul_le_mul hN9 hn
 have v1 : IntKind.i64.wrap ((n : Int) * (n : Int)) = (N : Int) := by rw [eN, ← Int.natCast_mul]; exact IntWalk.i64_in _ ⟨by omega, by omega⟩
 have v2 : IntKind.i64.wrap ((N : Int) * (n : Int)) = (N3 : Int) := by
  have e : (N : Int) * (n : Int) = (N3 : Int) := by rw [eN3, Int.natCast_mul]
  rw [e]; exact IntWalk.i64_in _ ⟨by omega, by omega⟩
 have v3 : IntKind.i64.wrap ((N3 : Int) * (n : Int)) = (NN : Int) := by
  have e : (N3 : Int) * (n : Int) = (NN : Int) := by rw [eNN, eN3, ← Int.natCast_mul, Nat.mul_assoc, ← eN]
  rw [e]; exact IntWalk.i64_in _ ⟨by omega, by omega⟩
 obtain ⟨A, eA⟩ : ∃ A, A = mx p n n xs := ⟨_, rfl⟩
 rw [← eA]
 have HX := Lib.hid hx; have HP := Lib.hid hp; have EA := Lib.hid eA; have EN := Lib.hid eN; have ENN := Lib.hid eNN
 clear hx hp eA eN3 eNN
 go_enter Try.func56, Try.ntmps56
 go_upto_region 1 with (fail)
 rw [← ew]
 obtain ⟨g, eg⟩ : ∃ g, g = w.heap.size := ⟨_, rfl⟩
 rw [← eg] at KA KR ⊢
 have hgw : w.heap.size ≤ g := by omega
 have hgb : g + 1 < wb.heap.size := KR.lt
 clear ew eg eN
 have f0 := KA.cell 0
 go_upto_region 3 with (at_make; refine wp_make .u64 41 27 8 Try.underlying41 (by kernel_rfl) (by decide) rfl _ _ rfl .i64 .i64 NN (by omega) _ _ _ rfl rfl (by omega) (by omega) ?_; intro w3 hq hbel hsz)
 obtain ⟨w4, e4, KM, b4, hs4⟩ := boxes1 w3 63 [.int .i64 N, .int .i64 N, .slice (some ⟨wb.heap.size, 0, none⟩) NN NN]
 rw [← e4]
 obtain ⟨gE, egE⟩ : ∃ g, g = wb.heap.size := ⟨_, rfl⟩
 obtain ⟨gM, egM⟩ : ∃ g, g = w3.heap.size := ⟨_, rfl⟩
 have hEM : gE < gM := by omega
 have hbE : g + 1 < gE := by omega
 have HGE := Lib.hid egE
 rw [← egE] at hq hbel KM ⊢
 rw [← egM] at KM ⊢
 have st : GgR p n N NN A.e wb w4 gE gM (0 * n) 0 0 := ⟨KM, by rw [Nat.zero_mul, ← goT_start, ← EN.out, ← ENN.out]; exact hq.next b4, hbel.trans (b4.mono (by omega))⟩
 have HKA := Lib.hid KA; have HKR := Lib.hid KR; have HA := Lib.hid hA; have HB0 := Lib.hid B0
 clear e4 KM b4 hs4 egE egM hq hbel hsz KA KR hA B0 f0 v2 v3
 go_wp2
 go_loopw [7] (fun iv wr => ∃ i : Nat, i ≤ n ∧ iv = .int .i64 i ∧ GgR p n N NN A.e wb wr gE gM (i * n) 0 0) (fun iv _ => n - (intOf iv).toNat)
 case atStart => exact ⟨0, by omega, rfl, st⟩
 case round =>
  clear st
  obtain ⟨i, hi, rfl, st⟩ := hrel
  by_cases hin : i < n
  ·go_wp2
   go_loopw [8] (fun kv wr => ∃ k : Nat, k ≤ n ∧ kv = .int .i64 k ∧ GgR p n N NN A.e wb wr gE gM (i * n + k) 0 0) (fun kv _ => n - (intOf kv).toNat)
   case atStart => exact ⟨0, by omega, rfl, st⟩
   case round =>
    clear st
    obtain ⟨k, hk, rfl, st⟩ := hrel
    by_cases hkn : k < n
    ·obtain ⟨lo, elo⟩ : ∃ x, x = i * n := ⟨_, rfl⟩
     obtain ⟨row, erow⟩ : ∃ x, x = lo + k := ⟨_, rfl⟩
     have hrow : row < N := by rw [erow, elo, EN.out]; exact at_lt rfl hin hkn
     have hlo : lo ≤ 9 := by omega
     have a1 : IntKind.i64.wrap ((i : Int) * (n : Int)) = (lo : Int) := by
      have e : (i : Int) * (n : Int) = (lo : Int) := by rw [elo, Int.natCast_mul]
      rw [e]; exact IntWalk.i64_in _ ⟨by omega, by omega⟩
     have a2 : IntKind.i64.wrap ((lo : Int) + (k : Int)) = (row : Int) := by rw [erow, ← Int.natCast_add]; exact IntWalk.i64_in _ ⟨by omega, by omega⟩
     rw [← elo, ← erow] at st
     have ELO := Lib.hid elo; have EROW := Lib.hid erow
     clear elo erow
     go_wp2
     clear a2
     go_loopw [10] (fun jv wr => ∃ j : Nat, j ≤ n ∧ jv = .int .i64 j ∧ GgR p n N NN A.e wb wr gE gM row j j) (fun jv _ => n - (intOf jv).toNat)
     case atStart => exact ⟨0, by omega, rfl, st⟩
     case round =>
      clear st
      obtain ⟨j, hj, rfl, KM, ho, B1⟩ := hrel
      by_cases hjn : j < n
      ·obtain ⟨r1, er1⟩ : ∃ x, x = row * n := ⟨_, rfl⟩
       obtain ⟨r2, er2⟩ : ∃ x, x = r1 * n := ⟨_, rfl⟩
       obtain ⟨jn, ejn⟩ : ∃ x, x = j * n := ⟨_, rfl⟩
       obtain ⟨r3, er3⟩ : ∃ x, x = r2 + jn := ⟨_, rfl⟩
       obtain ⟨t1, et1⟩ : ∃ x, x = r3 + k := ⟨_, rfl⟩
       obtain ⟨r4, er4⟩ : ∃ x, x = r2 + lo := ⟨_, rfl⟩
       obtain ⟨t2, et2⟩ : ∃ x, x = r4 + j := ⟨_, rfl⟩
       have hr27 : r1 ≤ 27 := by rw [er1]; exact Nat.mul_le_mul (show row ≤ 9 by omega) hn
       have hr81 : r2 ≤ 81 := by rw [er2]; exact Nat.mul_le_mul hr27 hn
       have hjn9 : jn ≤ 9 := by rw [ejn]; exact Nat.mul_le_mul (show j ≤ 3 by omega) hn
       have hr2 : r2 = row * (n * n) := by rw [er2, er1, Nat.mul_assoc]
       have ht1 : t1 = row * (n * n) + (j * n + k) := by rw [et1, er3, hr2, ejn]; omega
       have ht2 : t2 = row * (n * n) + (i * n + j) := by rw [et2, er4, hr2, ELO.out]; omega
       have hl1 : t1 < NN := by rw [ht1, ENN.out, EN.out]; exact at_lt rfl (by rw [← EN.out]; exact hrow) (at_lt rfl hjn hkn)
       have hl2 : t2 < NN := by rw [ht2, ENN.out, EN.out]; exact at_lt rfl (by rw [← EN.out]; exact hrow) (at_lt rfl hin hjn)
       have b1 : IntKind.i64.wrap ((row : Int) * (n : Int)) = (r1 : Int) := by
        have e : (row : Int) * (n : Int) = (r1 : Int) := by rw [er1, Int.natCast_mul]
        rw [e]; exact IntWalk.i64_in _ ⟨by omega, by omega⟩
       have b2 : IntKind.i64.wrap ((r1 : Int) * (n : Int)) = (r2 : Int) := by
        have e : (r1 : Int) * (n : Int) = (r2 : Int) := by rw [er2, Int.natCast_mul]
        rw [e]; exact IntWalk.i64_in _ ⟨by omega, by omega⟩
       have b3 : IntKind.i64.wrap ((j : Int) * (n : Int)) = (jn : Int) := by
        have e : (j : Int) * (n : Int) = (jn : Int) := by rw [ejn, Int.natCast_mul]
        rw [e]; exact IntWalk.i64_in _ ⟨by omega, by omega⟩
       have b4 : IntKind.i64.wrap ((r2 : Int) + (jn : Int)) = (r3 : Int) := by rw [er3, ← Int.natCast_add]; exact IntWalk.i64_in _ ⟨by omega, by omega⟩
       have b5 : IntKind.i64.wrap ((r3 : Int) + (k : Int)) = (t1 : Int) := by rw [et1, ← Int.natCast_add]; exact IntWalk.i64_in _ ⟨by omega, by omega⟩
       have b6 : IntKind.i64.wrap ((r2 : Int) + (lo : Int)) = (r4 : Int) := by rw [er4, ← Int.natCast_add]; exact IntWalk.i64_in _ ⟨by omega, by omega⟩
       have b7 : IntKind.i64.wrap ((r4 : Int) + (j : Int)) = (t2 : Int) := by rw [et2, ← Int.natCast_add]; exact IntWalk.i64_in _ ⟨by omega, by omega⟩
       have HT1 := Lib.hid ht1; have HT2 := Lib.hid ht2
       clear er1 er2 ejn er3 et1 er4 et2 hr2 ht1 ht2 hr27 hr81 hjn9
       go_upto_region 14 with (fail)
       have bd := dw wr
       replace KM := KM.next bd; replace ho := ho.next bd
       have hgx : gE ≤ wr.heap.size := by rw [HGE.out]; exact B1.size
       replace B1 := B1.trans (bd.mono hgx)
       have hgx : gE ≤ wr.drew.heap.size := hgx
       clear bd
       have B1' : Below wb.heap.size wb wr.drew := by rw [← HGE.out]; exact B1
       have KA := HKA.out.next B1'
       have hA := HA.out.next B1'
       obtain ⟨L1, eL1⟩ : ∃ L, L = ftab (n * n) (goT A.e n row j j) (n * n * (n * n)) := ⟨_, rfl⟩
       rw [← eL1] at ho
       have hlL : L1.length = NN := by rw [eL1, ftab_length, ENN.out, EN.out]
       obtain ⟨y, ey⟩ : ∃ y, y = L1.getD t1 0 := ⟨_, rfl⟩
       have qy := ho.cellAt t1 (by omega)
       rw [← ey] at qy
       have hyv : y = goT A.e n row j j row (j * n + k) := by
        rw [ey, eL1, HT1.out]
        exact ftab_get _ (by rw [← EN.out]; exact hrow) (at_lt rfl hjn hkn)
       have hyp : y < p := by rw [hyv]; unfold goT; have h9 := Zp.lt (if row < row then goE A.e n (row / n) (row % n) n n (j * n + k) else if row = row then goE A.e n (row / n) (row % n) j j (j * n + k) else (0 : Zp p)); omega
       obtain ⟨x1, ex1⟩ : ∃ z, z = xs.getD (i * n + j) 0 % p := ⟨_, rfl⟩
       have hx1p : x1 < p := by rw [ex1]; exact Nat.mod_lt _ (by omega)
       obtain ⟨s1, es1⟩ : ∃ s, s = y + x1 := ⟨_, rfl⟩
       obtain ⟨x, ex⟩ : ∃ z, z = s1 % p := ⟨_, rfl⟩
       have hs : IntKind.u64.wrap ((y : Int) + (x1 : Int)) = (s1 : Int) := by rw [es1, ← Int.natCast_add]; exact wrap_u64 _ (by omega)
       have hm1 : (s1 : Int).tmod (p : Int) = (x : Int) := by rw [ex]; rfl
       have hm2 : (s1 : Int) % (p : Int) = (x : Int) := by rw [ex]; rfl
       have hxx : x = (Zp.of p y + A.e i j).val := by rw [ex, es1, ex1, EA.out, mx_e _ hin hjn]; exact add_mod_val HP.out _ _
       have hat := Lib.hid (fun w' (hb : Below wr.drew.heap.size wr.drew w') => rf21_At _ n n i j p xs w' (by omega) (hA.next hb) (by omega) (by omega) (by omega) (at_lt HX.out hin hjn) x1 ex1)
       have hset := Lib.hid (show L1.set t1 x = ftab (n * n) (goT A.e n row (j + 1) j) (n * n * (n * n)) by
        rw [eL1, HT1.out, EROW.out, ELO.out]
        exact goT_sum A.e hin hkn hjn (by rw [hxx, hyv, EROW.out, ELO.out]))
       have lE : gE < wr.drew.heap.size := Own.headlt ho
       clear eL1 ey hyv hyp ex1 hx1p es1 ex hxx hA
       have z0 := Lib.hid fun (w : World) (hS : Below (wr.drew).heap.size (wr.drew) w) => And.intro ((KA.at hS) 0) (And.intro ((KA.at hS) 1) (And.intro ((KA.at hS) 2) (And.intro ((KM.at hS) 2) ((hS.cell (p := ⟨gE, t1, none⟩) lE).trans qy))))
       refine startP (S := (fun w' => Below (wr.drew).heap.size (wr.drew) w')) (by kernel_rfl) _ rfl rfl rfl (by kernel_rfl) (Below.refl _ _) (fun hHeld => ?_)
       refine tk 0 ?_
       refine tf 1 z0.out ?_
       refine tk 2 ?_
       refine tk 3 ?_
       refine tf 4 z0.out ?_
       refine tk 5 ?_
       refine tk 6 ?_
       refine tf 7 z0.out ?_
       refine tf 8 z0.out ?_
       refine tk 9 ?_
       refine tk 10 ?_
       refine tk 11 ?_
       refine tk 14 ?_
       refine on 12 fun K hK => ?_
       go_simp
       go_at_call 112
       (refine (hat.out _ hHeld).mono ?_); rintro e w5 ⟨rfl, b5⟩
       refine hK.out _ _ (hHeld.trans (b5.mono hHeld.size)) (fun hHeld => ?_)
       clear hK K
       try simp only [Act.put, zq1, zq2, zq3]
       refine tk 13 ?_
       refine tk 15 ?_
       refine tk 16 ?_
       clear z0; refine doneL (by kernel_rfl) ?_ _
       refine lastL rfl (by rfl) ?_
       replace KM := KM.next hHeld; replace ho := ho.next hHeld
       replace B1 := B1.trans (hHeld.mono hgx)
       clear hHeld hat KA B1' qy hs hm1 hm2 lE hgx
       have qe := ho.cellAt t1 (by omega)
       have fe := ho.frozenAt t1
       obtain ⟨ho3, -⟩ := ho.store t1 x
       rw [hset.out] at ho3
       have KM3 := KM.far (a := ⟨gE, t1, none⟩) (by show gM ≠ gE; omega) (.int .u64 (x : Int))
       have B3 := B1.setCell (p := ⟨gE, t1, none⟩) (Nat.le_refl _) (.int .u64 (x : Int))
       obtain ⟨ws, ews⟩ : ∃ ws, ws = w5.setCell ⟨gE, t1, none⟩ (.int .u64 (x : Int)) := ⟨_, rfl⟩
       go_upto_region 16 with (fail)
       rw [← ews]
       rw [← ews] at ho3 KM3 B3
       clear ews qe fe ho KM B1 hset hlL
       have bd := dw ws
       replace KM3 := KM3.next bd; replace ho3 := ho3.next bd
       have hgx : gE ≤ ws.heap.size := by rw [HGE.out]; exact B3.size
       replace B3 := B3.trans (bd.mono hgx)
       have hgx : gE ≤ ws.drew.heap.size := hgx
       clear bd
       have B3' : Below wb.heap.size wb ws.drew := by rw [← HGE.out]; exact B3
       have KA := HKA.out.next B3'
       have hA := HA.out.next B3'
       obtain ⟨L2, eL2⟩ : ∃ L, L = ftab (n * n) (goT A.e n row (j + 1) j) (n * n * (n * n)) := ⟨_, rfl⟩
       rw [← eL2] at ho3
       have hlL : L2.length = NN := by rw [eL2, ftab_length, ENN.out, EN.out]
       obtain ⟨y2, ey⟩ : ∃ y, y = L2.getD t2 0 := ⟨_, rfl⟩
       have qy := ho3.cellAt t2 (by omega)
       rw [← ey] at qy
       have hyv : y2 = goT A.e n row (j + 1) j row (i * n + j) := by
        rw [ey, eL2, HT2.out]
        exact ftab_get _ (by rw [← EN.out]; exact hrow) (at_lt rfl hin hjn)
       have hyp : y2 < p := by rw [hyv]; unfold goT; have h9 := Zp.lt (if row < row then goE A.e n (row / n) (row % n) n n (i * n + j) else if row = row then goE A.e n (row / n) (row % n) (j + 1) j (i * n + j) else (0 : Zp p)); omega
       obtain ⟨x2, ex2⟩ : ∃ z, z = xs.getD (j * n + k) 0 % p := ⟨_, rfl⟩
       have hx2p : x2 < p := by rw [ex2]; exact Nat.mod_lt _ (by omega)
       obtain ⟨s2, es2⟩ : ∃ s, s = y2 + p := ⟨_, rfl⟩
       obtain ⟨s3, es3⟩ : ∃ s, s = s2 - x2 := ⟨_, rfl⟩
       obtain ⟨z, ez⟩ : ∃ z, z = s3 % p := ⟨_, rfl⟩
       have hs2 : IntKind.u64.wrap ((y2 : Int) + (p : Int)) = (s2 : Int) := by rw [es2, ← Int.natCast_add]; exact wrap_u64 _ (by omega)
       have hs3 : IntKind.u64.wrap ((s2 : Int) - (x2 : Int)) = (s3 : Int) := by
        rw [show (s2 : Int) - (x2 : Int) = (s3 : Int) by omega]; exact wrap_u64 _ (by omega)
       have hm1 : (s3 : Int).tmod (p : Int) = (z : Int) := by rw [ez]; rfl
       have hm2 : (s3 : Int) % (p : Int) = (z : Int) := by rw [ez]; rfl
       have hzz : z = (Zp.of p y2 - A.e j k).val := by rw [ez, es3, es2, ex2, EA.out, mx_e _ hjn hkn]; exact sub_mod_val HP.out _ _
       have hat := Lib.hid (fun w' (hb : Below ws.drew.heap.size ws.drew w') => rf21_At _ n n j k p xs w' (by omega) (hA.next hb) (by omega) (by omega) (by omega) (at_lt HX.out hjn hkn) x2 ex2)
       have hset := Lib.hid (show L2.set t2 z = ftab (n * n) (goT A.e n row (j + 1) (j + 1)) (n * n * (n * n)) by
        rw [eL2, HT2.out, EROW.out, ELO.out]
        exact goT_dif A.e hin hkn hjn (by rw [hzz, hyv, EROW.out, ELO.out]))
       have lE : gE < ws.drew.heap.size := Own.headlt ho3
       clear eL2 ey hyv hyp ex2 hx2p es2 es3 ez hzz hA
       have z0 := Lib.hid fun (w : World) (hS : Below (ws.drew).heap.size (ws.drew) w) => And.intro ((KA.at hS) 0) (And.intro ((KA.at hS) 1) (And.intro ((KA.at hS) 2) (And.intro ((KM3.at hS) 2) ((hS.cell (p := ⟨gE, t2, none⟩) lE).trans qy))))
       refine startP (S := (fun w' => Below (ws.drew).heap.size (ws.drew) w')) (by kernel_rfl) _ rfl rfl rfl (by kernel_rfl) (Below.refl _ _) (fun hHeld => ?_)
       refine tk 0 ?_
       refine tf 1 z0.out ?_
       refine tk 2 ?_
       refine tk 3 ?_
       refine tf 4 z0.out ?_
       refine tk 5 ?_
       refine tk 6 ?_
       refine tf 7 z0.out ?_
       refine tk 8 ?_
       refine tk 9 ?_
       refine tf 10 z0.out ?_
       refine tk 11 ?_
       refine tk 12 ?_
       refine tk 13 ?_
       refine tk 16 ?_
       refine on 14 fun K hK => ?_
       go_simp
       go_at_call 112
       (refine (hat.out _ hHeld).mono ?_); rintro e w6 ⟨rfl, b6⟩
       refine hK.out _ _ (hHeld.trans (b6.mono hHeld.size)) (fun hHeld => ?_)
       clear hK K
       try simp only [Act.put, zq1, zq2, zq3]
       refine tk 15 ?_
       refine tk 17 ?_
       refine tk 18 ?_
       clear z0; refine doneL (by kernel_rfl) ?_ _
       refine lastL rfl (by rfl) ?_
       replace KM3 := KM3.next hHeld; replace ho3 := ho3.next hHeld
       replace B3 := B3.trans (hHeld.mono hgx)
       clear hHeld hat KA B3' qy hs2 hs3 hm1 hm2 lE hgx
       have qe := ho3.cellAt t2 (by omega)
       have fe := ho3.frozenAt t2
       obtain ⟨ho4, -⟩ := ho3.store t2 z
       rw [hset.out] at ho4
       have KM4 := KM3.far (a := ⟨gE, t2, none⟩) (by show gM ≠ gE; omega) (.int .u64 (z : Int))
       have B4 := B3.setCell (p := ⟨gE, t2, none⟩) (Nat.le_refl _) (.int .u64 (z : Int))
       clear ho3 KM3 B3 hset hlL
       go_wp2
       go_roundw
       case rel => exact ⟨j + 1, by omega, by go_num, KM4, ho4, B4⟩
       case measure => simp [intOf] <;> omega
      ·obtain rfl : n = j := by omega
       have hgt : goT A.e n row n n = goT A.e n (i * n + (k + 1)) 0 0 := by
        rw [goT_next, EROW.out, ELO.out, Nat.add_assoc]
       rw [hgt] at ho
       have st2 : GgR p n N NN A.e wb wr gE gM (i * n + (k + 1)) 0 0 := ⟨KM, ho, B1⟩
       clear KM ho B1 hgt
       go_wp2
       go_roundw
       case rel => exact ⟨k + 1, by omega, by go_num, st2⟩
       case measure => simp [intOf] <;> omega
    ·obtain rfl : n = k := by omega
     go_wp2
     go_roundw
     case rel => exact ⟨i + 1, by omega, by go_num, by rw [Nat.succ_mul]; exact st⟩
     case measure => simp [intOf] <;> omega
  ·obtain rfl : n = i := by omega
   obtain ⟨KM, ho, B1⟩ := st
   rw [goT_end] at ho
   obtain ⟨M, eM⟩ : ∃ M, M = goM A := ⟨_, rfl⟩
   rw [← eM] at ho
   have hlM : (tbv M).length = NN := by rw [tbv_length, ENN.out, EN.out]
   have B2 : Below wb.heap.size wb wr := by rw [← HGE.out]; exact B1
   have KR := HKR.out.next B2
   have BW := HB0.out.trans (B2.mono HB0.out.size)
   have k0 := KM.cell 0; have k1 := KM.cell 1; have k2 := KM.cell 2
   have f0 := KR.free 0; have f1 := KR.free 1; have f2 := KR.free 2
   have r0 := KR.cell 0; have r1 := KR.cell 1; have r2 := KR.cell 2
   have KF := ((KR.set 0 (.int .i64 N)).set 1 (.int .i64 N)).set 2 (.slice (some ⟨gE, 0, none⟩) NN NN)
   have d0 := KF.cell 0; have d1 := KF.cell 1; have d2 := KF.cell 2
   have hgy : w.heap.size ≤ g + 1 := by omega
   have hof := ((ho.low (a := ⟨g + 1, 0, none⟩) hbE (.int .i64 N)).low (a := ⟨g + 1, 1, none⟩) hbE (.int .i64 N)).low (a := ⟨g + 1, 2, none⟩) hbE (.slice (some ⟨gE, 0, none⟩) NN NN)
   have BF := ((BW.setCell (p := ⟨g + 1, 0, none⟩) hgy (.int .i64 N)).setCell (p := ⟨g + 1, 1, none⟩) hgy (.int .i64 N)).setCell (p := ⟨g + 1, 2, none⟩) hgy (.slice (some ⟨gE, 0, none⟩) NN NN)
   have FR := Lib.hid (show RetFm p w (n * n) (n * n) (goM A) (.returned (.agg #[.int .i64 N, .int .i64 N, .slice (some ⟨gE, 0, none⟩) NN NN])) (((wr.setCell ⟨g + 1, 0, none⟩ (.int .i64 N)).setCell ⟨g + 1, 1, none⟩ (.int .i64 N)).setCell ⟨g + 1, 2, none⟩ (.slice (some ⟨gE, 0, none⟩) NN NN)) from by
    rw [← eM]
    exact ⟨some ⟨gE, 0, none⟩, NN, by rw [hlM, EN.out], by rw [hlM]; exact hof.mono (by omega), BF⟩)
   clear KF KR hof BF BW B2 B1 ho KM hlM eM
   go_wp2
   exact bodyPost_ret (v := .agg #[.int .i64 N, .int .i64 N, .slice (some ⟨gE, 0, none⟩) NN NN]) (by simp [results, Try.results56, go_sem, d0, d1, d2]) rfl FR.out
end Go.Proofs.Ytkmfhabgempjiaa
/- The reference of chapter 25: lists of polynomials, degrees, the form. -/
namespace Go.Proofs.Ytkmfhabgempjiaa
set_option maxHeartbeats 4000000
open Go.RowKit
section
open CR
variable {p n : Nat}
end
theorem Ns.get {w : World} {az : Option Addr} {cz M : Nat} {qs : List (List Nat)} (h : Ns w (.slice az M cz) qs) (hM : M = qs.length) {i : Nat} (hi : i < M) : ∃ b o ak ck, az = some ⟨b, o, none⟩ ∧ b < w.heap.size ∧ w.cell? ⟨b, o + i, none⟩ = some (.slice ak (qs.getD i []).length ck) ∧ Sl .u64 w (.slice ak (qs.getD i []).length ck) (qs.getD i []) := by
 obtain ⟨az', b, o, cz', U, ez, -, hz1, hz2⟩ := h
 simp only [Value.slice.injEq] at ez
 obtain ⟨rfl, -, rfl⟩ := ez
 obtain ⟨rfl, lz⟩ := hz1 (by omega)
 obtain ⟨qz, sz, -⟩ := hz2 i (by omega)
 obtain ⟨ak, ck, eu⟩ : ∃ ao c, U i = .slice ao (qs.getD i []).length c := by
  obtain ⟨a', b', o', c', e', -⟩ := sz; exact ⟨a', c', e'⟩
 rw [eu] at qz sz
 exact ⟨b, o, ak, ck, rfl, lz, qz, sz⟩
theorem Ns.slice {w : World} {v : Value} {qs : List (List Nat)} (h : Ns w v qs) : ∃ az cz, v = .slice az qs.length cz := by
 obtain ⟨ao, b, off, cap, U, e, -⟩ := h; exact ⟨ao, cap, e⟩
end Go.Proofs.Ytkmfhabgempjiaa
/- Layer 25: Commutes. -/
namespace Go.Proofs.Ytkmfhabgempjiaa
set_option maxHeartbeats 4000000
open Go.RowKit
def sN (f : Nat → Nat) : Nat → Nat
 | 0 => 0
 | k + 1 => sN f k + f k
theorem sN_le {f : Nat → Nat} {B : Nat} : ∀ k, (∀ i, i < k → f i ≤ B) → sN f k ≤ k * B
 | 0, _ => Nat.zero_le _
 | k + 1, h => by
  have h1 := sN_le k fun i hi => h i (by omega)
  have h2 := h k (by omega)
  show sN f k + f k ≤ (k + 1) * B
  rw [Nat.succ_mul]; omega
theorem sN_congr {f g : Nat → Nat} : ∀ k, (∀ i, i < k → f i = g i) → sN f k = sN g k
 | 0, _ => rfl
 | k + 1, h => by
  show sN f k + f k = sN g k + g k
  rw [sN_congr k fun i hi => h i (by omega), h k (by omega)]
def cmT (zz : List (List Nat)) (i j : Nat) : Nat := min (zz.getD i []).length (zz.getD j []).length - 1
def RetCm (p : Nat) (w : World) (n : Nat) (A : MT (Zp p) n n) (e : Ending) (w' : World) : Prop :=
 ∃ (W U V : (Nat → Nat → Pol (Zp p))) (X : MT (Pol (Zp p)) n n) (zz : List (List Nat)), SmF A W U V X ∧ IvL n W zz ∧ e = .returned (.tuple #[.int .i64 (sN (fun i => sN (cmT zz i) zz.length) zz.length : Nat), .int .i64 0]) ∧ Below w.heap.size w w'
set_option maxRecDepth 20000 in
theorem fb_Commutes (p : Nat) (a : Value) (n : Nat) (xs : List Nat) (w : World) (hp : FP p) (tr : Trial p) (hA : Fm w a n n xs) (hn : n ≤ 4) (hx : xs.length = n * n) :
  Calls Try.prog 53 #[.agg #[.int .u64 p], a] w (RetCm p w n (mx p n n xs)) := by
 obtain ⟨aA, cA, rfl⟩ := hA.agg
 obtain ⟨wb, ew, KF, KA, B0, hsz⟩ := boxes2 w 29 63 [.int .u64 p] [.int .i64 n, .int .i64 n, .slice aA xs.length cA]
 clear hsz
 replace hA := hA.next B0
 have HX := Lib.hid hx; have HP := Lib.hid hp; have HT := Lib.hid tr; clear hx hp tr
 go_enter Try.func53, Try.ntmps53
 go_upto_region 1 with (fail)
 rw [← ew]
 clear ew
 have qKF0 := KF.cell 0
 have qKA0 := KA.cell 0
 have qKA1 := KA.cell 1
 have qKA2 := KA.cell 2
 go_wp2_with fail
 refine (fb_Invariants p _ n xs _ HP.out HT.out hA hn HX.out).mono ?_; rintro e w1 ⟨W, U, V, X, h1, h2, h3, h4, h5, iv, us, rfl, QI, b1⟩
 clear qKF0 qKA0 qKA1 qKA2
 replace KF := KF.next b1
 replace KA := KA.next b1
 replace hA := hA.next b1
 replace B0 := B0.trans (b1.mono B0.size)
 clear b1
 have HSF := Lib.hid (show SmF (mx p n n xs) W U V X from ⟨h1, h2, h3, h4, h5⟩)
 obtain ⟨zz, zl, nz, hz⟩ := QI.ns HP.out
 have HIV := Lib.hid (show IvL n W zz from ⟨zl, fun j hj => ⟨(hz j hj).1, (hz j hj).2.1⟩⟩)
 obtain ⟨m, em⟩ : ∃ m, m = zz.length := ⟨_, rfl⟩
 have hm4 : m ≤ 4 := by rw [em, zl]; have := pks_len W n; omega
 have HLE := Lib.hid (show ∀ j, j < m → (zz.getD j []).length ≤ 255 ∧ 1 ≤ (zz.getD j []).length from fun j hj => by
  have hj2 : j < (pks W n).length := by omega
  obtain ⟨k1, k2, k3⟩ := hz j hj2
  have k4 := (pks_getD W n j hj2).2
  rw [pln_nrm HP.out.pos k1 k2] at k4
  exact ⟨k3, by omega⟩)
 clear h1 h2 h3 h4 h5 QI hz us zl KF KA hA
 obtain ⟨az, cz, rfl⟩ := nz.slice
 rw [← em] at nz ⊢
 have HEM := Lib.hid em; have HNS := Lib.hid nz; have HB0 := Lib.hid B0
 obtain ⟨G, eG⟩ : ∃ G : Nat → Nat, G = fun i => sN (cmT zz i) m := ⟨_, rfl⟩
 have hT : ∀ i j, i < m → j < m → cmT zz i j ≤ 255 := fun i j hi hj => by
  unfold cmT
  have := (HLE.out i hi).1
  have := Nat.min_le_left (zz.getD i []).length (zz.getD j []).length
  omega
 have hS : ∀ i j, i < m → j ≤ m → sN (cmT zz i) j ≤ 1020 := fun i j hi hj => by
  have h1 := sN_le (f := cmT zz i) (B := 255) j fun k hk => hT i k hi (by omega)
  have h2 : j * 255 ≤ 4 * 255 := Nat.mul_le_mul_right _ (by omega)
  omega
 have hG : ∀ i, i ≤ m → sN G i ≤ 4080 := fun i hi => by
  have h1 := sN_le (f := G) (B := 1020) i fun k hk => by rw [eG]; exact hS k m (by omega) (Nat.le_refl _)
  have h2 : i * 1020 ≤ 4 * 1020 := Nat.mul_le_mul_right _ (by omega)
  omega
 have HT2 := Lib.hid hT; have HS2 := Lib.hid hS; have HG2 := Lib.hid hG; have EG := Lib.hid eG
 clear em nz B0 hT hS hG eG
 go_wp2
 go_loopw [8, 24] (fun nv jv wr => ∃ i s : Nat, i ≤ m ∧ jv = .int .i64 i ∧ nv = .int .i64 s ∧ Hid (s = sN G i) ∧ Below w1.heap.size w1 wr) (fun _ jv _ => m - (intOf jv).toNat)
 case atStart => exact ⟨0, 0, by omega, rfl, rfl, Lib.hid rfl, Below.refl _ _⟩
 case round =>
  obtain ⟨i, s, hi, rfl, rfl, HS, B⟩ := hrel
  by_cases him : i < m
  ·obtain ⟨b, o, ak, ck, rfl, lb, qz, sz⟩ := (HNS.out.next B).get HEM.out him
   obtain ⟨li, eli⟩ : ∃ l, l = (zz.getD i []).length := ⟨_, rfl⟩
   rw [← eli] at qz
   have HLI := Lib.hid eli
   clear sz eli lb
   go_wp2
   clear qz
   go_loopw [8, 30] (fun nv jv wr => ∃ j s : Nat, j ≤ m ∧ jv = .int .i64 j ∧ nv = .int .i64 s ∧ Hid (s = sN G i + sN (cmT zz i) j) ∧ Below w1.heap.size w1 wr) (fun _ jv _ => m - (intOf jv).toNat)
   case atStart => exact ⟨0, s, by omega, rfl, rfl, HS, B⟩
   case round =>
    clear HS B
    obtain ⟨j, s, hj, rfl, rfl, HS, B⟩ := hrel
    by_cases hjm : j < m
    ·obtain ⟨b', o', ak2, ck2, e2, lb, qz, sz⟩ := (HNS.out.next B).get HEM.out hjm
     simp only [Option.some.injEq, Addr.mk.injEq, and_true] at e2
     obtain ⟨rfl, rfl⟩ := e2
     obtain ⟨lj, elj⟩ : ∃ l, l = (zz.getD j []).length := ⟨_, rfl⟩
     rw [← elj] at qz
     have hl1 := HLE.out i him; have hl2 := HLE.out j hjm
     rw [← HLI.out] at hl1
     rw [← elj] at hl2
     obtain ⟨t, et⟩ : ∃ t, t = cmT zz i j := ⟨_, rfl⟩
     have ht : t = min li lj - 1 := by rw [et, HLI.out, elj]; rfl
     have hs1 : s ≤ 5100 := by have h1 := HS.out; have h2 := HG2.out i hi; have h3 := HS2.out i j him hj; omega
     have HN := Lib.hid (show s + t = sN G i + sN (cmT zz i) (j + 1) by
      rw [HS.out, et]; show _ = sN G i + (sN (cmT zz i) j + cmT zz i j); omega)
     clear sz elj lb et HS
     by_cases hc : li ≤ lj
     ·have hmin : t = li - 1 := by rw [ht, Nat.min_eq_left hc]
      have t1 : decide ((lj : Int) < (li : Int)) = false := by simp; omega
      have w1 : IntKind.i64.wrap ((li : Int) - 1) = (t : Int) := by rw [IntWalk.i64_in _ ⟨by omega, by omega⟩]; omega
      have w2 : IntKind.i64.wrap ((s : Int) + (t : Int)) = ((s + t : Nat) : Int) := by rw [IntWalk.i64_in _ ⟨by omega, by omega⟩]; omega
      have hmi : min (li : Int) (lj : Int) = (li : Int) := by omega
      clear ht hmin
      go_wp2
      go_roundw
      case rel => exact ⟨j + 1, s + t, by omega, by go_num, by go_num, HN, B⟩
      case measure => simp [intOf] <;> omega
     ·have hmin : t = lj - 1 := by rw [ht, Nat.min_eq_right (by omega)]
      have t1 : decide ((lj : Int) < (li : Int)) = true := by simp; omega
      have w1 : IntKind.i64.wrap ((lj : Int) - 1) = (t : Int) := by rw [IntWalk.i64_in _ ⟨by omega, by omega⟩]; omega
      have w2 : IntKind.i64.wrap ((s : Int) + (t : Int)) = ((s + t : Nat) : Int) := by rw [IntWalk.i64_in _ ⟨by omega, by omega⟩]; omega
      have hmi : min (li : Int) (lj : Int) = (lj : Int) := by omega
      clear ht hmin
      go_wp2
      go_roundw
      case rel => exact ⟨j + 1, s + t, by omega, by go_num, by go_num, HN, B⟩
      case measure => simp [intOf] <;> omega
    ·obtain rfl : m = j := by omega
     have HN := Lib.hid (show s = sN G (i + 1) by rw [HS.out]; show _ = sN G i + G i; rw [EG.out])
     clear HS
     go_wp2
     go_roundw
     case rel => exact ⟨i + 1, s, by omega, by go_num, rfl, HN, B⟩
     case measure => simp [intOf] <;> omega
  ·obtain rfl : m = i := by omega
   have FIN := Lib.hid (show RetCm p w n (mx p n n xs) (.returned (.tuple #[.int .i64 (s : Nat), .int .i64 0])) wr from ⟨W, U, V, X, zz, HSF.out, HIV.out, by rw [HS.out, EG.out, ← HEM.out], HB0.out.trans (B.mono HB0.out.size)⟩)
   clear B HS
   go_wp2
   exact bodyPost_ret (v := .tuple #[.int .i64 (s : Nat), .int .i64 0]) (by simp [results, Try.results53, go_sem]) rfl FIN.out
set_option maxRecDepth 20000 in
theorem fb_Commutes_no (p : Nat) (a : Value) (R C : Int) (xs : List Nat) (w : World) (hA : Fm w a R C xs) (hno : ¬ (Fd R C xs.length ∧ R = C)) :
  Calls Try.prog 53 #[.agg #[.int .u64 p], a] w (RetW w (.tuple #[.int .i64 0, .int .i64 2])) := by
 obtain ⟨aA, cA, rfl⟩ := hA.agg
 obtain ⟨wb, ew, KF, KA, B0, hsz⟩ := boxes2 w 29 63 [.int .u64 p] [.int .i64 R, .int .i64 C, .slice aA xs.length cA]
 clear hsz
 replace hA := hA.next B0
 have HNO := Lib.hid hno; clear hno
 go_enter Try.func53, Try.ntmps53
 go_upto_region 1 with (fail)
 rw [← ew]
 clear ew
 have f0 := KF.cell 0; have f1 := KA.cell 0; have f2 := KA.cell 1; have f3 := KA.cell 2
 go_wp2_with fail
 refine (fb_Invariants_no p _ R C xs _ hA HNO.out).mono ?_; rintro e w2 ⟨rfl, b2⟩
 have B2 := B0.trans (b2.mono B0.size)
 clear f0 f1 f2 f3 KF KA hA
 go_wp2
 exact bodyPost_ret (v := .tuple #[.int .i64 0, .int .i64 2]) (by simp [results, Try.results53, go_sem]) rfl ⟨rfl, B2⟩
end Go.Proofs.Ytkmfhabgempjiaa
/- Layer 25: how many matrices go with a matrix. -/
namespace Go.Proofs.Ytkmfhabgempjiaa
set_option maxHeartbeats 4000000
open Go.RowKit
section
open CR
theorem sm_flat {R : Type} [CR R] (n : Nat) (f : Nat → R) : ∀ a, sm (a * n) f = sm a fun i => sm n fun b => f (i * n + b)
 | 0 => by rw [Nat.zero_mul]; rfl
 | a + 1 => by
  rw [Nat.succ_mul, sm_split, sm_flat n f a]; rfl
theorem ms_flat {R : Type} [CR R] {l m : Nat} (n : Nat) (f : Nat → MT R l m) : ∀ a, ms (a * n) f = ms a fun i => ms n fun b => f (i * n + b)
 | 0 => by rw [Nat.zero_mul]; rfl
 | a + 1 => by
  rw [Nat.succ_mul, ms_cat, ms_flat n f a]; rfl
theorem dm {n i k : Nat} (hk : k < n) : (i * n + k) / n = i ∧ (i * n + k) % n = k := by
 have hn : 0 < n := by omega
 exact ⟨by rw [Nat.mul_comm, Nat.mul_add_div hn, Nat.div_eq_of_lt hk, Nat.add_zero], by rw [Nat.mul_comm, Nat.mul_add_mod, Nat.mod_eq_of_lt hk]⟩
theorem dml {n r : Nat} (h : r < n * n) : r / n < n ∧ r % n < n ∧ r / n * n + r % n = r := by
 have hn : 0 < n := by
  rcases Nat.eq_zero_or_pos n with e | e
  ·subst e; omega
  ·exact e
 exact ⟨Nat.div_lt_of_lt_mul h, Nat.mod_lt _ hn, by rw [Nat.mul_comm]; exact Nat.div_add_mod r n⟩
variable {p n : Nat}
theorem subm (a b c : Zp p) : (a - b) * c = a * c - b * c := by rw [sub_eq, add_mul, neg_mul, ← sub_eq]
def vec (T : MT (Zp p) n n) : MT (Zp p) (n * n) 1 := MT.of (n * n) 1 fun r _ => T.e (r / n) (r % n)
theorem vec_e (T : MT (Zp p) n n) {r : Nat} (h : r < n * n) : (vec T).e r 0 = T.e (r / n) (r % n) := MT.of_e _ h (by omega)
theorem vec_add (S T : MT (Zp p) n n) : vec (S + T) = vec S + vec T := mt1_ext fun r hr => by rw [vec_e _ hr, MT.e_add, MT.e_add, vec_e _ hr, vec_e _ hr]
theorem vec_sc (c : Zp p) (T : MT (Zp p) n n) : vec (T.sc c) = (vec T).sc c := mt1_ext fun r hr => by rw [vec_e _ hr, MT.e_sc, MT.e_sc, vec_e _ hr]
theorem vec_zero : vec (0 : MT (Zp p) n n) = 0 := mt1_ext fun r hr => by rw [vec_e _ hr]; rfl
theorem vec_ms (f : Nat → MT (Zp p) n n) : ∀ N, vec (ms N f) = ms N fun j => vec (f j)
 | 0 => vec_zero
 | N + 1 => by show vec (ms N f + f N) = ms N _ + _; rw [vec_add, vec_ms f N]
theorem vec_inj {S T : MT (Zp p) n n} (h : vec S = vec T) : S = T := MT.ext fun i k hi hk => by
 have h1 := congrArg (fun v : MT (Zp p) (n * n) 1 => v.e (i * n + k) 0) h
 have hl : i * n + k < n * n := at_lt rfl hi hk
 obtain ⟨e1, e2⟩ := dm (i := i) hk
 have h2 : (vec S).e (i * n + k) 0 = (vec T).e (i * n + k) 0 := h1
 rwa [vec_e _ hl, vec_e _ hl, e1, e2] at h2
theorem vec_unv (v : MT (Zp p) (n * n) 1) : vec (MT.of n n fun i k => v.e (i * n + k) 0) = v := mt1_ext fun r hr => by
 obtain ⟨h1, h2, h3⟩ := dml hr
 rw [vec_e _ hr, MT.of_e _ h1 h2, h3]
def lft (A : MT (Zp p) n n) : MT (Zp p) (n * n) (n * n) := MT.of _ _ fun r c => if c % n = r % n then A.e (r / n) (c / n) else 0
theorem lft_vec (A T : MT (Zp p) n n) : lft A * vec T = vec (A * T) := mt1_ext fun r hr => by
 obtain ⟨h1, h2, h3⟩ := dml hr
 rw [MT.e_mul, sm_flat, vec_e _ hr, MT.e_mul]
 refine sm_congr fun i hi => ?_
 rw [sm_one h2 fun b hb hne => by
  rw [vec_e _ (at_lt rfl hi hb)]; unfold lft
  rw [MT.of_e _ hr (at_lt rfl hi hb), (dm (i := i) hb).2, if_neg hne, zero_mul]]
 unfold lft
 rw [MT.of_e _ hr (at_lt rfl hi h2), vec_e _ (at_lt rfl hi h2), (dm (i := i) h2).2, (dm (i := i) h2).1, if_pos rfl]
theorem lft_pow (A T : MT (Zp p) n n) : ∀ k, (lft A).pow k * vec T = vec (A.pow k * T)
 | 0 => by rw [show (lft A).pow 0 = MT.one _ from rfl, show A.pow 0 = MT.one n from rfl, MT.one_mul, MT.one_mul]
 | k + 1 => by rw [MT.pow_succ, MT.pow_succ, MT.mul_assoc, lft_vec, lft_pow A (A * T) k, MT.mul_assoc]
theorem lft_pev (A T : MT (Zp p) n n) (f : Pol (Zp p)) : pev f (lft A) * vec T = vec (pev f A * T) := by
 obtain ⟨N, hN⟩ := f.fin
 have hd : f.dlt N := fun i hi => hN i hi
 rw [pev_col hd, pev_col hd, vec_ms]
 exact ms_congr fun i _ => by rw [lft_pow, vec_sc]
theorem goM_vec (A T : MT (Zp p) n n) : goM A * vec T = vec (A * T - T * A) := mt1_ext fun r hr => by
 obtain ⟨h1, h2, h3⟩ := dml hr
 rw [MT.e_mul, vec_e _ hr, MT.e_sub, MT.e_mul, MT.e_mul]
 have e1 : ∀ a b, a < n → b < n → (goM A).e r (a * n + b) * (vec T).e (a * n + b) 0 = (if b = r % n then A.e (r / n) a * T.e a b else 0) - (if a = r / n then A.e b (r % n) * T.e a b else 0) := fun a b ha hb => by
  have hl := at_lt (n := n * n) rfl ha hb
  obtain ⟨d1, d2⟩ := dm (i := a) hb
  rw [vec_e _ hl]; unfold goM
  rw [MT.of_e _ hr hl]; unfold goE
  rw [d1, d2]
  by_cases c1 : b = r % n
  ·by_cases c2 : a = r / n
   ·rw [if_pos ⟨c1, ha⟩, if_pos ⟨c2, hb⟩, if_pos c1, if_pos c2, subm]
   ·rw [if_pos ⟨c1, ha⟩, if_neg (fun h => c2 h.1), if_pos c1, if_neg c2, subm, zero_mul]
  ·by_cases c2 : a = r / n
   ·rw [if_neg (fun h => c1 h.1), if_pos ⟨c2, hb⟩, if_neg c1, if_pos c2, subm, zero_mul]
   ·rw [if_neg (fun h => c1 h.1), if_neg (fun h => c2 h.1), if_neg c1, if_neg c2, subm, zero_mul]
 have e2 : sm (n * n) (fun j => (goM A).e r j * (vec T).e j 0) = (sm n fun a => sm n fun b => if b = r % n then A.e (r / n) a * T.e a b else 0) - sm n fun a => sm n fun b => if a = r / n then A.e b (r % n) * T.e a b else 0 := by
  rw [sm_flat, sub_eq, ← sm_neg, ← sm_add]
  refine sm_congr fun a ha => ?_
  rw [← sm_neg, ← sm_add]
  exact sm_congr fun b hb => by rw [e1 a b ha hb, sub_eq]
 rw [e2]
 congr 1
 ·exact sm_congr fun a _ => by rw [sm_one h2 fun b _ hne => if_neg hne, if_pos rfl]
 ·rw [sm_one h1 fun a _ hne => sm_zero' fun b _ => if_neg hne]
  exact sm_congr fun b _ => by rw [if_pos rfl, mul_comm]
theorem com_iff (A T : MT (Zp p) n n) : goM A * vec T = 0 ↔ T * A = A * T := by
 rw [goM_vec]
 constructor
 ·intro h
  exact (MT.sub_zero' (vec_inj (h.trans vec_zero.symm))).symm
 ·intro h
  rw [h, MT.sub_self, vec_zero]
theorem c_sm_mon (y : Nat → Zp p) : ∀ N i, (sm N fun t => mon (y t) t).c i = if i < N then y i else 0
 | 0, i => by rw [if_neg (Nat.not_lt_zero _)]; rfl
 | N + 1, i => by
  show ((sm N fun t => mon (y t) t) + mon (y N) N).c i = _
  rw [Pol.c_add, c_sm_mon y N, c_mon]
  by_cases h1 : i < N
  ·rw [if_pos h1, if_neg (show ¬ i = N by omega), if_pos (show i < N + 1 by omega), add_zero]
  ·by_cases h2 : i = N
   ·rw [if_neg h1, if_pos h2, if_pos (show i < N + 1 by omega), zero_add, h2]
   ·rw [if_neg h1, if_neg h2, if_neg (show ¬ i < N + 1 by omega), add_zero]
theorem bcl_poly (A : MT (Zp p) n n) : ∀ (l : List (Prt p n)) (y : Nat → Zp p), ∃ r : Nat → Pol (Zp p), (∀ i (h : i < l.length), (r i).dlt ((l[i]).1)) ∧ (ms (bdm l) fun s => (bcl A l s).sc (y s)) = (ms l.length fun i => pev (r i) A * (l.getD i (0, fun _ => 0, 0)).2.2) ∧ ((∀ i, i < l.length → r i = 0) → ∀ s, s < bdm l → y s = 0)
 | [], _ => ⟨fun _ => 0, fun i h => by simp at h, rfl, fun _ s hs => absurd hs (Nat.not_lt_zero _)⟩
 | x :: l, y => by
  obtain ⟨r, h1, h2, h3⟩ := bcl_poly A l fun s => y (x.1 + s)
  obtain ⟨r0, e0⟩ : ∃ r0 : Pol (Zp p), r0 = sm x.1 fun t => mon (y t) t := ⟨_, rfl⟩
  have hc : ∀ t, r0.c t = if t < x.1 then y t else 0 := fun t => by rw [e0, c_sm_mon]
  have hd0 : r0.dlt x.1 := fun t ht => by rw [hc, if_neg (by omega)]
  refine ⟨fun i => match i with | 0 => r0 | i + 1 => r i, fun i h => ?_, ?_, fun hz s hs => ?_⟩
  ·cases i with
   | zero => exact hd0
   | succ i => exact h1 i (by simpa using h)
  ·show ms (x.1 + bdm l) _ = ms (l.length + 1) _
   rw [ms_head, ms_cat]
   congr 1
   ·show _ = pev r0 A * x.2.2
    rw [pev_col hd0]
    refine ms_congr fun s hs => ?_
    show MT.sc (y s) (if s < x.1 then A.pow s * x.2.2 else bcl A l (s - x.1)) = _
    rw [if_pos hs, hc, if_pos hs]
   ·refine Eq.trans (ms_congr fun s _ => ?_) (h2.trans (ms_congr fun i _ => rfl))
    show MT.sc (y (x.1 + s)) (if x.1 + s < x.1 then _ else bcl A l (x.1 + s - x.1)) = _
    rw [if_neg (by omega), Nat.add_sub_cancel_left]
  ·by_cases hsx : s < x.1
   ·have h4 : r0 = 0 := hz 0 (by simp)
    have h5 := hc s
    rw [if_pos hsx, h4] at h5
    exact h5.symm
   ·have hs' : s < x.1 + bdm l := hs
    have h4 := h3 (fun i hi => hz (i + 1) (by simp; omega)) (s - x.1) (by omega)
    rwa [show x.1 + (s - x.1) = s by omega] at h4
theorem ker_dim2 (h01 : (1 : Zp p) ≠ 0) {C N : Nat} {A : MT (Zp p) n C} {W : Nat → Nat → Zp p} {P : List Nat} {d : Zp p} (h : RedF n C C A.e W P d) {M : MT (Zp p) C N} (hi : ∀ y : MT (Zp p) N 1, M * y = 0 → y = 0) (h2 : A * M = 0)
  (h3 : ∀ v : MT (Zp p) C 1, A * v = 0 → ∃ y : MT (Zp p) N 1, v = M * y) : (free C P).length = N := by
 have hz := ker_zero h
 obtain ⟨K, eK⟩ : ∃ K, K = MT.of C (free C P).length (kerM W C P) := ⟨_, rfl⟩
 rw [← eK] at hz
 have clm : ∀ {a b q : Nat} (B : MT (Zp p) a b) (D : MT (Zp p) b q) (c : Nat), B * cl D c = cl (B * D) c := fun B D c => mt1_ext fun i hi' => by
  rw [MT.e_mul, cl_e _ hi', MT.e_mul]; exact sm_congr fun j hj => by rw [cl_e _ hj]
 have hc0 : ∀ {a q : Nat} {B : MT (Zp p) a q}, (∀ c, c < q → cl B c = 0) → B = 0 := fun {a q B} hc => MT.zero_of fun i c hi' hc' => by
  have := congrArg (fun v : MT (Zp p) a 1 => v.e i 0) (hc c hc')
  have h9 : (cl B c).e i 0 = 0 := this
  rwa [cl_e _ hi'] at h9
 have cl0 : ∀ {a q : Nat} (c : Nat), cl (0 : MT (Zp p) a q) c = 0 := fun c => mt1_ext fun i hi' => by rw [cl_e _ hi']; rfl
 obtain ⟨y, hy⟩ : ∃ y : Nat → MT (Zp p) N 1, ∀ c, cl K c = M * y c := ⟨fun c => (h3 (cl K c) (by rw [clm, hz, cl0])).choose, fun c => (h3 (cl K c) (by rw [clm, hz, cl0])).choose_spec⟩
 obtain ⟨Z, eZ⟩ : ∃ Z : MT (Zp p) N (free C P).length, Z = MT.of _ _ fun s c => (y c).e s 0 := ⟨_, rfl⟩
 have hZ : K = M * Z := MT.ext fun i c hi' hc' => by
  have := congrArg (fun v : MT (Zp p) C 1 => v.e i 0) (hy c)
  have h9 : (cl K c).e i 0 = (M * y c).e i 0 := this
  rw [cl_e _ hi', MT.e_mul] at h9
  rw [h9, MT.e_mul]
  exact sm_congr fun s hs => by rw [eZ, MT.of_e _ hs hc']
 have hY := ker_all h h2
 rw [← eK] at hY
 refine Inv.same h01 (A := (kerL C P : MT (Zp p) _ C) * M) (B := Z) ⟨?_, ?_⟩
 ·rw [MT.mul_assoc, ← hZ, eK, ker_left]
 ·refine MT.sub_zero' (hc0 fun c _ => hi _ ?_)
  rw [clm, MT.mul_sub, MT.mul_one, ← MT.mul_assoc, ← hZ, ← hY, MT.sub_self, cl0]
end
end Go.Proofs.Ytkmfhabgempjiaa
/- Layer 25: the number of matrices that go with a matrix. -/
namespace Go.Proofs.Ytkmfhabgempjiaa
set_option maxHeartbeats 4000000
open Go.RowKit
section
open CR
theorem sN_add (f : Nat → Nat) (a : Nat) : ∀ b, sN f (a + b) = sN f a + sN (fun i => f (a + i)) b
 | 0 => rfl
 | b + 1 => by show sN f (a + b) + f (a + b) = sN f a + (sN (fun i => f (a + i)) b + f (a + b)); rw [sN_add f a b]; omega
theorem sN_flat (n : Nat) (f : Nat → Nat) : ∀ a, sN f (a * n) = sN (fun i => sN (fun b => f (i * n + b)) n) a
 | 0 => by rw [Nat.zero_mul]; rfl
 | a + 1 => by rw [Nat.succ_mul, sN_add, sN_flat n f a]; rfl
variable {p n : Nat}
theorem bdm_app (l : List (Prt p n)) (x : Prt p n) : bdm (l ++ [x]) = bdm l + x.1 := by
 induction l with
 | nil => show x.1 + 0 = 0 + x.1; omega
 | cons y l ih => show y.1 + bdm (l ++ [x]) = y.1 + bdm l + x.1; rw [ih]; omega
theorem bdm_range (f : Nat → Prt p n) : ∀ N, bdm ((List.range N).map f) = sN (fun s => (f s).1) N
 | 0 => rfl
 | N + 1 => by
  rw [List.range_succ, List.map_append]
  show bdm ((List.range N).map f ++ [f N]) = sN (fun s => (f s).1) N + (f N).1
  rw [bdm_app, bdm_range f N]
variable {A : MT (Zp p) n n} {W U V : (Nat → Nat → Pol (Zp p))} {X : MT (Pol (Zp p)) n n}
theorem T_ex (tr : Trial p) (h : SmF A W U V X) : ∃ (E : Nat → Nat → Pol (Zp p)) (T : Nat → Nat → MT (Zp p) n n), ∀ i j, i < n → j < n → T i j * A = A * T i j ∧ (∀ k, k < n → T i j * gv A X k = if k = i then pev (E i j) A * gv A X j else 0) ∧
  (∀ q : Pol (Zp p), q.dlt (dgr W j) → Dv (W j j) (W i i * q) → ∃ r : Pol (Zp p), r.dlt (min (dgr W i) (dgr W j)) ∧ q = r * E i j) ∧ (∀ r : Pol (Zp p), r.dlt (min (dgr W i) (dgr W j)) → Dv (W j j) (r * E i j) → r = 0) := by
 have key : ∀ i j, ∃ (E : Pol (Zp p)) (T : MT (Zp p) n n), i < n → j < n → T * A = A * T ∧ (∀ k, k < n → T * gv A X k = if k = i then pev E A * gv A X j else 0) ∧
  (∀ q : Pol (Zp p), q.dlt (dgr W j) → Dv (W j j) (W i i * q) → ∃ r : Pol (Zp p), r.dlt (min (dgr W i) (dgr W j)) ∧ q = r * E) ∧ (∀ r : Pol (Zp p), r.dlt (min (dgr W i) (dgr W j)) → Dv (W j j) (r * E) → r = 0) := fun i j => by
  by_cases hi : i < n
  ·by_cases hj : j < n
   ·obtain ⟨E, h1, h2, h3⟩ := E_ex tr h hi hj
    obtain ⟨T, hT⟩ := ext_T h (fun k => if k = i then pev E A * gv A X j else 0) fun k _ => by
     show pev (W k k) A * (if k = i then pev E A * gv A X j else 0) = 0
     by_cases e : k = i
     ·rw [if_pos e, ← MT.mul_assoc, ← pev_mul, e]; exact pev_dvc h1 (gv_kill h hj)
     ·rw [if_neg e, MT.mul_zero]
    exact ⟨E, T, fun _ _ => ⟨T_comm h hT, fun k hk => T_v hT hk, h2, h3⟩⟩
   ·exact ⟨0, 0, fun _ h => absurd h hj⟩
  ·exact ⟨0, 0, fun h => absurd h hi⟩
 exact ⟨fun i j => (key i j).choose, fun i j => (key i j).choose_spec.choose, fun i j hi hj => (key i j).choose_spec.choose_spec hi hj⟩
theorem S_gv {E : Nat → Nat → Pol (Zp p)} {T : Nat → Nat → MT (Zp p) n n} (hT : ∀ i j, i < n → j < n → ∀ k, k < n → T i j * gv A X k = if k = i then pev (E i j) A * gv A X j else 0) (r : Nat → Nat → Pol (Zp p)) {k : Nat} (hk : k < n) :
  (ms n fun i => ms n fun j => pev (r i j) A * T i j) * gv A X k = Fi A X fun j => r k j * E k j := by
 rw [mul_ms, ms_one hk fun i hi hne => by
  rw [mul_ms]
  exact ms_zero fun j hj => by rw [MT.mul_assoc, hT i j hi hj k hk, if_neg (Ne.symm hne), MT.mul_zero]]
 rw [mul_ms]
 exact ms_congr fun j hj => by rw [MT.mul_assoc, hT k j hk hj k hk, if_pos rfl, ← MT.mul_assoc, ← pev_mul]
theorem S_comm {T : Nat → Nat → MT (Zp p) n n} (hT : ∀ i j, i < n → j < n → T i j * A = A * T i j) (r : Nat → Nat → Pol (Zp p)) : (ms n fun i => ms n fun j => pev (r i j) A * T i j) * A = A * ms n fun i => ms n fun j => pev (r i j) A * T i j := by
 rw [mul_ms, ms_mul]
 refine ms_congr fun i hi => ?_
 rw [mul_ms, ms_mul]
 refine ms_congr fun j hj => ?_
 have e : pev (r i j) A * A = A * pev (r i j) A := by
  have := pev_comm (r i j) (mon 1 1) A
  rwa [pev_x] at this
 rw [MT.mul_assoc, hT i j hi hj, ← MT.mul_assoc, e, MT.mul_assoc]
theorem com_span (tr : Trial p) (h : SmF A W U V X) {E : Nat → Nat → Pol (Zp p)} {T : Nat → Nat → MT (Zp p) n n} (hT : ∀ i j, i < n → j < n → T i j * A = A * T i j ∧ (∀ k, k < n → T i j * gv A X k = if k = i then pev (E i j) A * gv A X j else 0) ∧
  (∀ q : Pol (Zp p), q.dlt (dgr W j) → Dv (W j j) (W i i * q) → ∃ r : Pol (Zp p), r.dlt (min (dgr W i) (dgr W j)) ∧ q = r * E i j) ∧ (∀ r : Pol (Zp p), r.dlt (min (dgr W i) (dgr W j)) → Dv (W j j) (r * E i j) → r = 0))
  {S : MT (Zp p) n n} (hS : S * A = A * S) : ∃ r : Nat → Nat → Pol (Zp p), (∀ i j, i < n → j < n → (r i j).dlt (min (dgr W i) (dgr W j))) ∧ S = ms n fun i => ms n fun j => pev (r i j) A * T i j := by
 have hq : ∀ i, ∃ q : Nat → Pol (Zp p), i < n → (∀ j, j < n → (q j).dlt (dgr W j)) ∧ S * gv A X i = Fi A X q := fun i => by
  obtain ⟨q, h1, h2⟩ := smith_red tr h.1 h.2.1 h.2.2.1 (d := dgr W) (fun k hk => (smF_ln tr h hk).2) (S * gv A X i)
  exact ⟨q, fun _ => ⟨h1, h2⟩⟩
 obtain ⟨q, hq⟩ : ∃ q : Nat → Nat → Pol (Zp p), ∀ i, i < n → (∀ j, j < n → (q i j).dlt (dgr W j)) ∧ S * gv A X i = Fi A X (q i) := ⟨fun i => (hq i).choose, fun i => (hq i).choose_spec⟩
 have hdv : ∀ i, i < n → ∀ j, j < n → Dv (W j j) (W i i * q i j) := fun i hi => by
  refine Fi_ker h (f := fun j => W i i * q i j) ?_
  rw [Fi_mul, ← (hq i hi).2, ← MT.mul_assoc, ← pev_conj hS, MT.mul_assoc, gv_kill h hi, MT.mul_zero]
 have hr : ∀ i j, ∃ r : Pol (Zp p), i < n → j < n → r.dlt (min (dgr W i) (dgr W j)) ∧ q i j = r * E i j := fun i j => by
  by_cases hi : i < n
  ·by_cases hj : j < n
   ·obtain ⟨r, h1, h2⟩ := (hT i j hi hj).2.2.1 (q i j) ((hq i hi).1 j hj) (hdv i hi j hj)
    exact ⟨r, fun _ _ => ⟨h1, h2⟩⟩
   ·exact ⟨0, fun _ h => absurd h hj⟩
  ·exact ⟨0, fun h => absurd h hi⟩
 obtain ⟨r, hr⟩ : ∃ r : Nat → Nat → Pol (Zp p), ∀ i j, i < n → j < n → (r i j).dlt (min (dgr W i) (dgr W j)) ∧ q i j = r i j * E i j := ⟨fun i j => (hr i j).choose, fun i j => (hr i j).choose_spec⟩
 refine ⟨r, fun i j hi hj => (hr i j hi hj).1, com_eq h hS (S_comm (fun i j hi hj => (hT i j hi hj).1) r) fun k hk => ?_⟩
 rw [S_gv (fun i j hi hj => (hT i j hi hj).2.1) r hk, (hq k hk).2]
 exact ms_congr fun j hj => by rw [(hr k j hk hj).2]
theorem com_inj (h : SmF A W U V X) {E : Nat → Nat → Pol (Zp p)} {T : Nat → Nat → MT (Zp p) n n} (hT : ∀ i j, i < n → j < n → T i j * A = A * T i j ∧ (∀ k, k < n → T i j * gv A X k = if k = i then pev (E i j) A * gv A X j else 0) ∧
  (∀ q : Pol (Zp p), q.dlt (dgr W j) → Dv (W j j) (W i i * q) → ∃ r : Pol (Zp p), r.dlt (min (dgr W i) (dgr W j)) ∧ q = r * E i j) ∧ (∀ r : Pol (Zp p), r.dlt (min (dgr W i) (dgr W j)) → Dv (W j j) (r * E i j) → r = 0))
  {r : Nat → Nat → Pol (Zp p)} (hr : ∀ i j, i < n → j < n → (r i j).dlt (min (dgr W i) (dgr W j))) (h0 : (ms n fun i => ms n fun j => pev (r i j) A * T i j) = 0) : ∀ i j, i < n → j < n → r i j = 0 := fun i j hi hj => by
 have e := S_gv (fun i j hi hj => (hT i j hi hj).2.1) r hi
 rw [h0, MT.zero_mul] at e
 exact (hT i j hi hj).2.2.2 (r i j) (hr i j hi hj) (Fi_ker h e.symm j hj)
theorem com_dim (tr : Trial p) (h : SmF A W U V X) {Wk : Nat → Nat → Zp p} {P : List Nat} {d : Zp p} (hR : RedF (n * n) (n * n) (n * n) (goM A).e Wk P d) : (free (n * n) P).length = sN (fun i => sN (fun j => min (dgr W i) (dgr W j)) n) n := by
 obtain ⟨E, T, hT⟩ := T_ex tr h
 obtain ⟨f, ef⟩ : ∃ f : Nat → Prt p (n * n), f = fun s => (min (dgr W (s / n)) (dgr W (s % n)), (fun _ => 0), vec (T (s / n) (s % n))) := ⟨_, rfl⟩
 obtain ⟨L, eL⟩ : ∃ L, L = (List.range (n * n)).map f := ⟨_, rfl⟩
 have hl : L.length = n * n := by rw [eL, List.length_map, List.length_range]
 have hgt : ∀ s, s < n * n → L.getD s (0, fun _ => 0, 0) = f s := fun s hs => by
  rw [eL]; simp [List.getD, hs]
 have hg1 : ∀ s (hs : s < L.length), (L[s]).1 = min (dgr W (s / n)) (dgr W (s % n)) := fun s hs => by
  have e1 : L[s] = f s := by subst eL; simp
  rw [e1, ef]
 have hdim : bdm L = sN (fun i => sN (fun j => min (dgr W i) (dgr W j)) n) n := by
  rw [eL, bdm_range, sN_flat]
  refine sN_congr n fun i _ => sN_congr n fun j hj => ?_
  rw [ef]
  show min (dgr W ((i * n + j) / n)) (dgr W ((i * n + j) % n)) = _
  rw [(dm hj).1, (dm hj).2]
 have hpoly : ∀ r : Nat → Pol (Zp p), (ms L.length fun s => pev (r s) (lft A) * (L.getD s (0, fun _ => 0, 0)).2.2) = vec (ms n fun i => ms n fun j => pev (r (i * n + j)) A * T i j) := fun r => by
  rw [hl, ms_flat, vec_ms]
  refine ms_congr fun i hi => ?_
  rw [vec_ms]
  refine ms_congr fun j hj => ?_
  rw [hgt _ (at_lt rfl hi hj), ef]
  show pev (r (i * n + j)) (lft A) * vec (T ((i * n + j) / n) ((i * n + j) % n)) = _
  rw [(dm hj).1, (dm hj).2, lft_pev]
 obtain ⟨M, eM⟩ : ∃ M : MT (Zp p) (n * n) (bdm L), M = MT.of _ _ fun r s => (bcl (lft A) L s).e r 0 := ⟨_, rfl⟩
 have hcol : ∀ y : MT (Zp p) (bdm L) 1, M * y = ms (bdm L) fun s => (bcl (lft A) L s).sc (y.e s 0) := fun y => mt1_ext fun i hi => by
  rw [MT.e_mul, ms_e]
  exact sm_congr fun s hs => by rw [eM, MT.of_e _ hi hs, MT.e_sc, mul_comm]
 have hdl : ∀ (r : Nat → Pol (Zp p)), (∀ s (hs : s < L.length), (r s).dlt ((L[s]).1)) → ∀ i j, i < n → j < n → (r (i * n + j)).dlt (min (dgr W i) (dgr W j)) := fun r hr i j hi hj => by
  have h1 := hr (i * n + j) (by rw [hl]; exact at_lt rfl hi hj)
  rwa [hg1, (dm hj).1, (dm hj).2] at h1
 rw [← hdim]
 refine ker_dim2 (Zp.one_ne tr) hR (M := M) (fun y hy => ?_) ?_ fun v hv => ?_
 ·obtain ⟨r, h1, h2, h3⟩ := bcl_poly (lft A) L fun s => y.e s 0
  rw [← hcol, hy, hpoly] at h2
  have h4 := com_inj h hT (r := fun i j => r (i * n + j)) (hdl r h1) (vec_inj (h2.symm.trans vec_zero.symm))
  have h5 := h3 fun s hs => by
   obtain ⟨k1, k2, k3⟩ := dml (n := n) (r := s) (by rw [← hl]; exact hs)
   have h6 := h4 (s / n) (s % n) k1 k2
   have h7 : r (s / n * n + s % n) = 0 := h6
   rwa [k3] at h7
  exact mt1_ext fun s hs => h5 s hs
 ·refine mt_ext_v fun y => ?_
  obtain ⟨r, h1, h2, -⟩ := bcl_poly (lft A) L fun s => y.e s 0
  rw [MT.mul_assoc, hcol, h2, hpoly, MT.zero_mul]
  exact (com_iff A _).2 (S_comm (fun i j hi hj => (hT i j hi hj).1) fun i j => r (i * n + j))
 ·have hv2 := vec_unv v
  obtain ⟨S, eS⟩ : ∃ S : MT (Zp p) n n, S = MT.of n n fun i k => v.e (i * n + k) 0 := ⟨_, rfl⟩
  rw [← eS] at hv2
  rw [← hv2] at hv
  obtain ⟨r, h1, h2⟩ := com_span tr h hT ((com_iff A S).1 hv)
  obtain ⟨y, hy⟩ := bcl_sum (lft A) L (fun s => r (s / n) (s % n)) fun s hs => by
   obtain ⟨k1, k2, -⟩ := dml (n := n) (r := s) (by rw [← hl]; exact hs)
   rw [hg1]; exact h1 _ _ k1 k2
  refine ⟨MT.of _ 1 fun s _ => y s, ?_⟩
  rw [hcol, ← hv2, h2]
  have e1 : vec (ms n fun i => ms n fun j => pev (r i j) A * T i j) = ms L.length fun s => pev (r (s / n) (s % n)) (lft A) * (L.getD s (0, fun _ => 0, 0)).2.2 := by
   rw [hpoly fun s => r (s / n) (s % n)]
   congr 1
   refine ms_congr fun i _ => ms_congr fun j hj => ?_
   show _ = pev (r ((i * n + j) / n) ((i * n + j) % n)) A * T i j
   rw [(dm hj).1, (dm hj).2]
  rw [e1, hy]
  exact ms_congr fun s hs => by rw [MT.of_e _ hs (by omega)]
theorem sN_pks {f : Nat → Nat} (W : (Nat → Nat → Pol (Zp p))) : ∀ i, (∀ k, k < i → dgr W k = 0 → f k = 0) → sN f i = sN (fun t => f ((pks W i).getD t 0)) (pks W i).length
 | 0, _ => rfl
 | i + 1, h => by
  have ih := sN_pks W i fun k hk => h k (by omega)
  show sN f i + f i = _
  rw [pks_succ, ih]
  by_cases h1 : 1 < pln (W i i)
  ·rw [if_pos h1, List.length_append]
   show _ = sN (fun t => f ((pks W i ++ [i]).getD t 0)) (pks W i).length + f ((pks W i ++ [i]).getD (pks W i).length 0)
   have e1 : (pks W i ++ [i]).getD (pks W i).length 0 = i := by simp [List.getD]
   rw [e1]
   congr 1
   refine sN_congr _ fun t ht => ?_
   have e2 : (pks W i ++ [i]).getD t 0 = (pks W i).getD t 0 := by simp [List.getD, List.getElem?_append_left ht]
   rw [e2]
  ·rw [if_neg h1, List.append_nil, h i (by omega) (by unfold dgr; omega), Nat.add_zero]
theorem cm_count (hp : FP p) {zz : List (List Nat)} (hz : IvL n W zz) : sN (fun i => sN (cmT zz i) zz.length) zz.length = sN (fun i => sN (fun j => min (dgr W i) (dgr W j)) n) n := by
 have hln : ∀ t, t < (pks W n).length → (zz.getD t []).length = dgr W ((pks W n).getD t 0) + 1 := fun t ht => by
  obtain ⟨k1, k2⟩ := hz.2 t ht
  have k3 := (pks_getD W n t ht).2
  rw [pln_nrm hp.pos k1 k2] at k3
  unfold dgr
  rw [pln_nrm hp.pos k1 k2]
  omega
 have e1 : ∀ i, sN (fun j => min (dgr W i) (dgr W j)) n = sN (fun t => min (dgr W i) (dgr W ((pks W n).getD t 0))) (pks W n).length := fun i =>
  sN_pks W n fun k _ h0 => by show min (dgr W i) (dgr W k) = 0; rw [h0]; exact Nat.min_zero _
 rw [sN_pks W n (f := fun i => sN (fun j => min (dgr W i) (dgr W j)) n) fun k _ h0 => by
  show sN (fun j => min (dgr W k) (dgr W j)) n = 0
  have := sN_le (f := fun j => min (dgr W k) (dgr W j)) (B := 0) n fun j _ => by
   show min (dgr W k) (dgr W j) ≤ 0
   rw [h0]; exact Nat.le_of_eq (Nat.zero_min _)
  omega]
 rw [hz.1]
 refine sN_congr _ fun i hi => ?_
 rw [e1]
 refine sN_congr _ fun j hj => ?_
 unfold cmT
 rw [hln i hi, hln j hj]
 omega
end
end Go.Proofs.Ytkmfhabgempjiaa
/- What the laws of layer 25 begin with: awake. -/
namespace Go.Proofs.Ytkmfhabgempjiaa
set_option maxHeartbeats 4000000
open Go.RowKit
set_option maxRecDepth 20000 in
theorem law25_awake (w : World) : Calls Try.prog 42 #[] w (LawOk w) := by
 obtain ⟨p, ep⟩ : ∃ p, p = Ps 3 := ⟨_, rfl⟩
 have hp : FP p := by rw [ep]; exact Ps_FP (by omega)
 have ht : Trial p := by rw [ep]; exact Ps_trial (by omega)
 have c0 : ∀ w : World, Calls Try.prog 17 #[.int .u8 3] w fun e w' => e = .returned (.agg #[.int .u64 (p : Nat)]) ∧ Below w.heap.size w w' := fun w => by rw [ep]; exact law9_Of 3 w
 have h5 : Zp.of p 5 = -Zp.of p 2 := by rw [ep]; rfl
 have hn1 : Nrm p [5, 1] := by rw [ep]; exact ⟨wf_cons (by decide) (wf_cons (by decide) (wf_nil _)), rfl⟩
 have C0 := Lib.hid c0; have HP := Lib.hid hp; have HT := Lib.hid ht; have H5 := Lib.hid h5; have HN1 := Lib.hid hn1
 clear c0 hp ht h5 hn1 ep
 go_enter Try.func42, Try.ntmps42
 go_wp2_with fail
 refine (C0.out _).mono ?_; rintro e w1 ⟨rfl, b1⟩
 go_wp2_with fail
 obtain ⟨w2, e2, k1, B2, -⟩ := boxes1 w1 27 [.int .u64 2, .int .u64 0, .int .u64 0, .int .u64 2]
 rw [← e2]
 have B3 := b1.trans (B2.mono b1.size)
 have hA : Fm w2 (.agg #[.int .i64 2, .int .i64 2, .slice (some ⟨w1.heap.size, 0, none⟩) 4 4]) (2 : Nat) (2 : Nat) [2, 0, 0, 2] := ⟨_, rfl, Blk.sl (xs := [2, 0, 0, 2]) k1⟩
 refine (fb_Invariants p _ 2 [2, 0, 0, 2] w2 HP.out HT.out hA (by omega) rfl).mono ?_
 rintro e w3 ⟨W, U, V, X, h1, -, h3, h4, -, iv, us, rfl, QI, b3⟩
 obtain ⟨e0, e1, e4⟩ := awk25 HT.out H5.out h1 h3 h4
 rw [e0] at QI
 have B4 := B3.trans (b3.mono B3.size)
 obtain ⟨hrow, hul, hel⟩ := QI
 obtain ⟨u0, u1, rfl⟩ : ∃ u0 u1, us = [u0, u1] := by
  match us, hul with
  | [a, b], _ => exact ⟨a, b, rfl⟩
 obtain ⟨z0, o0, n0, v0, -⟩ := hel 0 u0 rfl
 obtain ⟨z1, o1, n1, v1, -⟩ := hel 1 u1 rfl
 obtain rfl : z0 = [5, 1] := pl_inj HP.out.pos n0 HN1.out (v0.trans e1)
 obtain rfl : z1 = [5, 1] := pl_inj HP.out.pos n1 HN1.out (v1.trans e4)
 obtain ⟨gb, cap, rfl⟩ : ∃ b cap, iv = .slice (some ⟨b, 0, none⟩) 2 cap := by
  rcases rowOwn_shape hrow with ⟨_, e2⟩ | ⟨b, cap, e1, _⟩
  ·simp at e2
  ·exact ⟨b, cap, e1⟩
 have q0 : w3.cell? ⟨gb, 0, none⟩ = some u0 := World.ownsRow.cellAt hrow 0 (by decide)
 have q1 : w3.cell? ⟨gb, 1, none⟩ = some u1 := World.ownsRow.cellAt hrow 1 (by decide)
 obtain ⟨a0, c0, h0⟩ := o0.sliced
 obtain ⟨a1, c1, h1⟩ := o1.sliced
 rw [h0] at q0 o0; rw [h1] at q1 o1
 have gl : gb < w3.heap.size := (rowOwn_tyb hrow rfl).2.2
 have HS0 := Lib.hid o0; have HS1 := Lib.hid o1
 clear hrow hel h3 h4 o0 o1 n0 v0 n1 v1 e0 e1 e4 h0 h1 B3 b3 hA e2 k1 b1 B2
 have b7 := (Below.refl w3.heap.size w3).alloc (Nat.le_refl _) (.cells #[.int .u64 5, .int .u64 1] 27)
 have l7 := own_lit2 w3 5 1
 have q1' := (b7.cell (p := ⟨gb, 1, none⟩) gl).trans q1
 go_wp2_with fail
 refine (ref9_Same _ _ [5, 1] [5, 1] true _ (HS0.out.next b7).sl l7.sl (by simp) (by simp) (decide_eq_true rfl).symm).mono ?_; rintro e w8 ⟨rfl, q8⟩
 have b8 := b7.trans (q8.below w3.heap.size)
 have HS1' := HS1.out.next b8
 have B5 := B4.trans (b8.mono B4.size)
 have q1'' := (q8.below _).cell (p := ⟨gb, 1, none⟩) (by have := b7.size; omega) |>.trans q1'
 clear HS0 HS1 l7 q0 q1 q1' b7 q8 b8 B4
 have b9 := (Below.refl w8.heap.size w8).alloc (Nat.le_refl _) (.cells #[.int .u64 5, .int .u64 1] 27)
 have l9 := own_lit2 w8 5 1
 go_wp2_with fail
 refine (ref9_Same _ _ [5, 1] [5, 1] true _ (HS1'.next b9).sl l9.sl (by simp) (by simp) (decide_eq_true rfl).symm).mono ?_; rintro e w10 ⟨rfl, q10⟩
 have FIN := Lib.hid (show LawOk w (.returned (.bool true)) w10 from ⟨rfl, (B5.trans (b9.mono B5.size)).trans (q10.below w.heap.size)⟩)
 clear HS1' q1'' l9 b9 q10 B5
 go_wp2
 go_ret
 exact FIN.out
end Go.Proofs.Ytkmfhabgempjiaa
