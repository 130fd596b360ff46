/- The reference's Next; Irreducible. -/
import Derived.Test.YtjpioijlpgmlfaaFirr
namespace Go.Proofs.Ytjpioijlpgmlfaa
open Go.RowKit

def nextL (i : Nat) (bs : List Nat) : List Nat := List.replicate i 0 ++ (bs.drop i ++ [1])

theorem nextL_len (i : Nat) (bs : List Nat) (h : i ≤ bs.length) : (nextL i bs).length = bs.length + 1 := by simp [nextL]; omega

theorem nextL_at {i : Nat} {bs : List Nat} (h : i < bs.length) : nextL i bs = List.replicate i 0 ++ (bs.getD i 0 :: (bs.drop (i + 1) ++ [1])) := by
  unfold nextL; rw [List.drop_eq_getElem_cons h, getD_lt bs i h]; rfl

theorem nextL_get {i : Nat} {bs : List Nat} (h : i < bs.length) : (nextL i bs).getD i 0 = bs.getD i 0 := by
  rw [nextL_at h]; simp [List.getD]

theorem nextL_set {i y : Nat} {bs : List Nat} (h : i < bs.length) : (nextL i bs).set i y = List.replicate i 0 ++ (y :: (bs.drop (i + 1) ++ [1])) := by
  rw [nextL_at h, List.set_append_right _ _ (by simp)]; simp

theorem nextL_zero {i : Nat} {bs : List Nat} (h : i < bs.length) : (nextL i bs).set i 0 = nextL (i + 1) bs := by
  rw [nextL_set h]; unfold nextL
  rw [List.replicate_succ']; simp

theorem nv_fail {p i : Nat} {bs : List Nat} (h : i < bs.length) (hx : bs.getD i 0 + 1 = p) (hv : nv p (bs.take i) + 1 = p ^ i) : nv p (bs.take (i + 1)) + 1 = p ^ (i + 1) := by
  rw [take_snoc bs i h, nv_snoc, List.length_take, Nat.min_eq_left (Nat.le_of_lt h), Nat.pow_succ]
  have h2 : p ^ i * p = p ^ i * bs.getD i 0 + p ^ i := by rw [← hx]; rw [Nat.mul_add, Nat.mul_one, hx]
  omega

theorem nv_good {p i : Nat} {bs : List Nat} (h : i < bs.length) (hv : nv p (bs.take i) + 1 = p ^ i) :
    nv p (List.replicate i 0 ++ ((bs.getD i 0 + 1) :: bs.drop (i + 1))) = nv p bs + 1 := by
  have e : bs = bs.take i ++ (bs.getD i 0 :: bs.drop (i + 1)) := by
    have := (List.take_append_drop i bs).symm
    rwa [List.drop_eq_getElem_cons h, ← getD_lt bs i h] at this
  have e2 : nv p bs = nv p (bs.take i) + p ^ i * (bs.getD i 0 + p * nv p (bs.drop (i + 1))) := by
    conv => lhs; rw [e]
    rw [nv_append, List.length_take, Nat.min_eq_left (Nat.le_of_lt h), nv_cons]
  rw [nv_append, nv_replicate0, List.length_replicate, nv_cons, e2, Nat.mul_add, Nat.mul_add, Nat.mul_add, Nat.mul_one]
  omega

def RetNext (p : Nat) (w : World) (bs : List Nat) (e : Ending) (w' : World) : Prop :=
  (∃ r cs, e = .returned (.tuple #[r, .bool true]) ∧ Own .u64 26 w' w.heap.size r (cs ++ [1]) ∧ cs.length = bs.length ∧ wf p cs ∧ nv p cs = nv p bs + 1 ∧ Below w.heap.size w w') ∨
  (∃ r zs, e = .returned (.tuple #[r, .bool false]) ∧ Own .u64 26 w' w.heap.size r zs ∧ nv p bs + 1 = p ^ bs.length ∧ Below w.heap.size w w')

set_option maxHeartbeats 1000000 in
theorem ref9_Next (p : Nat) (v : Value) (bs : List Nat) (w : World) (hp : FP p) (hv : Sl .u64 w v (bs ++ [1])) (hm : bs.length ≤ 1000) (hw : wf p bs) :
    Calls Try.prog 38 #[v, .int .u64 p] w (RetNext p w bs) := by
  obtain ⟨ao, b, off, cap, rfl, hl, hcs⟩ := hv
  obtain rfl := hcs.ao (by simp)
  have h1 := hp.1
  have h2 := hp.2
  have hlen : (bs ++ [1]).length = bs.length + 1 := by simp
  have HLEN := Lib.hid hlen; clear hlen
  obtain ⟨XS, eXS⟩ : ∃ XS, XS = bs ++ [1] := ⟨_, rfl⟩
  rw [← eXS] at hcs hl ⊢
  have hxl : XS.length = bs.length + 1 := by rw [eXS]; exact HLEN.out
  have HXL := Lib.hid hxl
  have EXS := Lib.hid eXS
  have hxm : XS.length ≤ 2000 := by omega
  have HP := Lib.hid hp; clear hp hxl eXS
  go_enter Try.func38, Try.ntmps38
  go_wp2_with (at_builtin; refine wp_appS .u64 22 26 8 Try.underlying22 (by kernel_rfl) (by decide) rfl _ _ rfl w w.heap.size _ [] XS (Own.nil _ _ _ _) (by simp; omega) (Nat.le_refl _) rfl ⟨b, off, none⟩ b off cap rfl hcs ?_; intro v' w1 hown hbel hgr)
  rw [List.nil_append] at hown
  have hnx : nextL 0 bs = XS := by rw [EXS.out]; rfl
  rcases hown.shape with ⟨_, h⟩ | ⟨g, c2, rfl, hg, _, _, _⟩
  · exfalso; have := HXL.out; rw [h] at this; simp at this
  replace hown : Own .u64 26 w1 w.heap.size (.slice (some ⟨g, 0, none⟩) XS.length c2) (nextL 0 bs) := by rw [hnx]; exact hown
  have HN0 := Lib.hid hnx
  clear hnx hgr
  go_wp2_with fail
  go_loopw [7] (fun iv wr => ∃ i : Nat, i ≤ bs.length ∧ iv = .int .i64 i ∧ Own .u64 26 wr w.heap.size (.slice (some ⟨g, 0, none⟩) XS.length c2) (nextL i bs) ∧ Below w.heap.size w wr ∧ nv p (bs.take i) + 1 = p ^ i) (fun iv _ => XS.length - (intOf iv).toNat)
  case atStart => exact ⟨0, Nat.zero_le _, rfl, hown, hbel, by simp [nv]⟩
  case round =>
    clear hown hbel
    obtain ⟨i, hi, rfl, ho, hb, hn⟩ := hrel
    have HN := Lib.hid hn; clear hn
    by_cases hlt : i < bs.length
    · have hcx := ho.cellAt i (by rw [nextL_len i bs hi]; omega)
      have hfx := ho.frozenAt i
      rw [nextL_get hlt] at hcx
      obtain ⟨x, ex⟩ : ∃ x, x = bs.getD i 0 := ⟨_, rfl⟩
      rw [← ex] at hcx
      have hxp : x < p := by rw [ex]; exact wf_getD hw (by omega) i
      have i0 : (0 : Int) ≤ (i : Int) := Int.natCast_nonneg _
      have hx1 := HXL.out
      have i1 : (i : Int) < (XS.length : Int) := by omega
      have i2 : decide ((i : Int) + 1 < (XS.length : Int)) = true := decide_eq_true (by omega)
      have i3 : (i : Int) + 1 < (XS.length : Int) := by omega
      have EX := Lib.hid ex
      clear ex hx1
      by_cases hgood : x + 1 < p
      · have t1 : (x : Int) + 1 < (p : Int) := by omega
        have o2 := (ho.store i (x + 1)).1
        rw [nextL_set hlt] at o2
        have t2 : IntKind.u64.wrap ((x : Int) + 1) = ((x + 1 : Nat) : Int) := by rw [show (x : Int) + 1 = ((x + 1 : Nat) : Int) by omega]; exact wrap_u64 _ (by omega)
        have O2 := Lib.hid o2; clear o2
        go_wp2
        refine bodyPost_ret (v := .tuple #[.slice (some ⟨g, 0, none⟩) XS.length c2, .bool true]) (by simp [results, Try.results38, go_sem]) rfl (Or.inl ⟨_, List.replicate i 0 ++ ((x + 1) :: bs.drop (i + 1)), rfl, ?_, ?_, ?_, ?_, hb.setCell (by omega) _⟩)
        · have := O2.out
          simpa using this
        · simp; omega
        · exact wf_append (wf_replicate0 (by omega) i) (wf_cons hgood (wf_drop hw _))
        · rw [EX.out]; exact nv_good hlt HN.out
      · have hx2 : x + 1 = p := by omega
        have t1 : ¬ (x : Int) + 1 < (p : Int) := by omega
        have t2 : decide ((x : Int) + 1 < (p : Int)) = false := decide_eq_false t1
        have o2 := (ho.store i 0).1
        rw [nextL_zero hlt] at o2
        have nf := nv_fail hlt (by rw [← EX.out]; exact hx2) HN.out
        have NF := Lib.hid nf
        clear nf hx2 hgood
        have b2 := hb.setCell (p := ⟨g, i, none⟩) hg (.int .u64 ((0 : Nat) : Int))
        clear hb ho
        go_wp2
        go_roundw
        case rel => exact ⟨i + 1, by omega, by go_num, o2, b2, NF.out⟩
        case measure => simp [intOf] <;> omega
    · obtain rfl : i = bs.length := by omega
      have hx1 := HXL.out
      have i2 : decide ((bs.length : Int) + 1 < (XS.length : Int)) = false := decide_eq_false (by omega)
      have i3 : ¬ (bs.length : Int) + 1 < (XS.length : Int) := by omega
      clear hx1
      go_wp2
      refine bodyPost_ret (v := .tuple #[.slice (some ⟨g, 0, none⟩) XS.length c2, .bool false]) (by simp [results, Try.results38, go_sem]) rfl (Or.inr ⟨_, _, rfl, ho, ?_, hb⟩)
      have := HN.out; rwa [List.take_length] at this

end Go.Proofs.Ytjpioijlpgmlfaa
