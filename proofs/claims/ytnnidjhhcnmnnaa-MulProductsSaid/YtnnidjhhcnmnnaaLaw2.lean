/- What the statements of layer 2 share: awake, is; Pow whatever it is given. -/
import Derived.Test.YtnnidjhhcnmnnaaPow
import Derived.Test.YtnnidjhhcnmnnaaRef6
import Derived.Test.YtnnidjhhcnmnnaaRef4
import Derived.Test.YtnnidjhhcnmnnaaLaw1
namespace Go.Proofs.Ytnnidjhhcnmnnaa
open Go.RowKit

theorem mul_Pow_ok (v : Value) (xs : List Nat) (n : Nat) (w : World) (hv : Sl .u64 w v xs) (hm : xs.length ≤ 20000) (hx : wf W64 xs) (hn2 : (n : Int) ≤ 9223372036854775807)
    (h : bl (nv W64 xs) = 0 ∨ (n : Int) ≤ 1048576 / (bl (nv W64 xs) : Nat)) :
    Calls Try.prog 40 #[v, .int .i64 n] w (RetPB w (nv W64 xs ^ n)) := by
  by_cases hs : 0 < n ∧ bl (nv W64 xs) ≤ 1
  · exact mul_Pow_small v xs n w hv (by omega) hx hs.1 hn2 hs.2 h
  · refine mul_Pow_loop v xs n w hv hm hx (by omega) (by omega) ?_
    rcases h with h | h
    · rw [h]; simp
    · by_cases h0 : bl (nv W64 xs) = 0
      · rw [h0]; simp
      · rw [Int.le_ediv_iff_mul_le (by omega), ← Int.natCast_mul, Nat.mul_comm] at h
        exact Int.ofNat_le.mp h

set_option maxHeartbeats 800000 in
theorem law2_is (v u : Value) (xs d : List Nat) (w : World) (hv : Sl .u64 w v xs) (hu : Sl .i64 w u d) (hm : xs.length ≤ 1000000000) (hn : d.length ≤ 100000000) (hd : wf D16 d) (hx : Nrm W64 xs) (he : nv W64 xs = nv D16 d) :
    Calls Try.prog 36 #[v, u] w (LawOk w) := by
  have HE := Lib.hid he; clear he
  go_enter Try.func36, Try.ntmps36
  go_wp2_with fail
  refine (ref_To u d _ hu hn hd).mono ?_; rintro e w1 ⟨r, z, rfl, hr, nr, vr, br⟩
  have hz : z = xs := nrm_inj (by decide) nr hx (by rw [vr, HE.out])
  subst hz
  clear vr
  go_wp2_with fail
  refine (ref_Same_yes v r z _ (hv.next br) hr.sl hm).mono ?_; rintro e w2 ⟨rfl, q2⟩
  go_wp2
  go_ret
  exact ⟨rfl, br.trans (q2.below _)⟩

set_option maxHeartbeats 400000 in
theorem law2_awake (w : World) : Calls Try.prog 35 #[] w (LawOk w) := by
  go_enter Try.func35, Try.ntmps35
  go_wp2_with fail
  refine (nat_Of 3 (by decide) w).mono ?_; rintro e w1 ⟨r1, z1, rfl, o1, n1, v1, l1, b1⟩
  have hb3 : bl (nv W64 z1) = 2 := by rw [v1]; exact (isBl_bl 3).unique ⟨by decide, fun _ => by decide⟩
  have hp := mul_Pow_loop r1 z1 4 w1 o1.sl (by omega) n1.1 (by omega) (by omega) (by omega)
  rw [v1] at hp
  have HP := Lib.hid hp; clear hp hb3 v1
  go_wp2_with fail
  refine HP.out.mono ?_; rintro e w2 ⟨r2, z2, rfl, o2, n2, v2, l2, b2⟩
  have V2 := Lib.hid v2; clear v2
  go_wp2_with fail
  refine (nat_Of 81 (by decide) w2).mono ?_; rintro e w3 ⟨r3, z3, rfl, o3, n3, v3, l3, b3⟩
  have V3 := Lib.hid v3; clear v3
  go_wp2_with fail
  refine (nat_Cmp_is r2 r3 z2 z3 w3 (o2.next b3).sl o3.sl (by omega) (by omega) n2.1 n3.1 0 (by rw [V2.out, V3.out]; rfl)).mono ?_; rintro e w4 ⟨rfl, q4⟩
  go_wp2
  go_ret
  exact ⟨rfl, ((b1.trans (b2.mono b1.size)).trans (b3.mono (Nat.le_trans b1.size b2.size))).trans (q4.below _)⟩

end Go.Proofs.Ytnnidjhhcnmnnaa
