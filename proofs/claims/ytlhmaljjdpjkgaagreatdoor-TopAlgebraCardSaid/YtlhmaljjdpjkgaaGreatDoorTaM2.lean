/- More functions of package nat: Shl, Shr. -/
import Derived.ChangeSame
import Derived.Lib.SmallJoins
import Derived.Test.YtlhmaljjdpjkgaaGreatDoorProg
import Derived.Below
import Derived.Lib.Hide
import Derived.Maps.AppendAt
import Derived.OrdersHeld
import Derived.WalkKit
import Derived.WalkLawsBesides
import Derived.WalkSpells
import Derived.Test.YtlhmaljjdpjkgaaGreatDoorTaM1
namespace Go.Proofs.YtlhmaljjdpjkgaaGreatDoor
open Go.RowKit
def ShlRel (w wr : World) (g n : Nat) (X : List Nat) (wd s i h : Nat) (zs : List Nat) : Prop:=
 Own .u64 51 wr g (.slice (some ⟨g,0,none⟩) n n) zs ∧ Below g w wr ∧ zs.length = n ∧ wf W64 zs ∧ zs.getD (wd + i) 0 = h ∧ h < 2 ^ s ∧ (∀ j,wd + i < j → zs.getD j 0 = 0) ∧
  nv W64 (zs.take (wd + i)) + W64 ^ (wd + i) * h = nv W64 (X.take i) * 2 ^ s * W64 ^ wd
theorem or_add (h x s : Nat) (hs : s < 64) (hh : h < 2 ^ s) : bits BinOp.or IntKind.u64 (h : Int) (IntKind.u64.wrap ((x : Int) * 2 ^ s)) = ((h + x * 2 ^ s % W64 : Nat) : Int):=by
 have e1 : IntKind.u64.wrap ((x : Int) * 2 ^ s) = ((x * 2 ^ s % W64 : Nat) : Int):=by
  rw [IntKind.wrap_u64,show ((x : Int) * 2 ^ s) = ((x * 2 ^ s : Nat) : Int) from by simp]; rfl
 have hl : x * 2 ^ s % W64 < W64:=Nat.mod_lt _ (by decide)
 have hhl : h < W64:=Nat.lt_of_lt_of_le hh (by rw [show W64 = 2 ^ 64 from rfl]; exact Nat.pow_le_pow_right (by decide) (by omega))
 rw [e1,bits_or_u64_nat h _ hhl hl]
 have e2 : x * 2 ^ s % W64 = 2 ^ s * (x % 2 ^ (64 - s)):=by
  rw [show W64 = 2 ^ s * 2 ^ (64 - s) from by rw [← Nat.pow_add,show s + (64 - s) = 64 from by omega]; rfl,Nat.mul_comm x,Nat.mul_mod_mul_left]
 rw [e2,Nat.or_comm,← Nat.two_pow_add_eq_or_of_lt hh,Nat.add_comm]
theorem shl_split (x s : Nat) (hs : s < 64) : x * 2 ^ s % W64 + W64 * (x / 2 ^ (64 - s)) = x * 2 ^ s:=by
 have e : x / 2 ^ (64 - s) = x * 2 ^ s / W64:=by
  rw [show W64 = 2 ^ (64 - s) * 2 ^ s from by rw [← Nat.pow_add,show (64 - s) + s = 64 from by omega]; rfl,Nat.mul_div_mul_right _ _ (Nat.two_pow_pos s)]
 rw [e]; exact Nat.mod_add_div _ _
theorem shl_lo_lt (h x s : Nat) (hs : s < 64) (hh : h < 2 ^ s) : h + x * 2 ^ s % W64 < W64:=by
 have e2 : x * 2 ^ s % W64 = 2 ^ s * (x % 2 ^ (64 - s)):=by
  rw [show W64 = 2 ^ s * 2 ^ (64 - s) from by rw [← Nat.pow_add,show s + (64 - s) = 64 from by omega]; rfl,Nat.mul_comm x,Nat.mul_mod_mul_left]
 have h1 : x % 2 ^ (64 - s) + 1 ≤ 2 ^ (64 - s):=Nat.mod_lt _ (Nat.two_pow_pos _)
 have h2 : 2 ^ s * (x % 2 ^ (64 - s) + 1) ≤ 2 ^ s * 2 ^ (64 - s):=Nat.mul_le_mul_left _ h1
 rw [← Nat.pow_add,show s + (64 - s) = 64 from by omega,Nat.mul_succ] at h2
 have h3 : (2 : Nat) ^ 64 = W64:=rfl
 omega
theorem shl_hi_lt (x s : Nat) (hs : s < 64) (hx : x < W64) : x / 2 ^ (64 - s) < 2 ^ s:=by
 refine Nat.div_lt_of_lt_mul ?_
 rw [← Nat.pow_add,show (64 - s) + s = 64 from by omega]; exact hx
theorem getD_replicate0 (n j : Nat) : (List.replicate n 0).getD j 0 = 0:=by
 simp only [List.getD,List.getElem?_replicate]; split <;> rfl
theorem gdsn (zs : List Nat) (i j x : Nat) (h : i ≠ j) : (zs.set i x).getD j 0 = zs.getD j 0:=by
 simp [List.getD,h]
theorem getD_set_eq (zs : List Nat) (i x : Nat) (h : i < zs.length) : (zs.set i x).getD i 0 = x:=by
 simp [List.getD,h]
theorem ShlRel.step {w wr : World} {g n : Nat} {X : List Nat} {wd s i h x q : Nat} {zs : List Nat} (ho : Own .u64 51 wr g (.slice (some ⟨g,0,none⟩) n n) zs) (hb : Below g w wr) (hl : zs.length = n) (hw : wf W64 zs)
  (hz : ∀ j,wd + i < j → zs.getD j 0 = 0) (hv : nv W64 (zs.take (wd + i)) + W64 ^ (wd + i) * h = nv W64 (X.take i) * 2 ^ s * W64 ^ wd)
  (hs : s < 64) (hh : h < 2 ^ s) (hx : x < W64) (ex : x = X.getD i 0) (eq : q = h + x * 2 ^ s % W64) (hi : wd + i + 1 < n) :
  ShlRel w ((wr.setCell ⟨g,wd + i,none⟩ (.int .u64 (q : Nat))).setCell ⟨g,wd + i + 1,none⟩ (.int .u64 (x / 2 ^ (64 - s) : Nat))) g n X wd s (i + 1) (x / 2 ^ (64 - s)) ((zs.set (wd + i) q).set (wd + i + 1) (x / 2 ^ (64 - s))):=by
 have hq : q < W64:=by rw [eq]; exact shl_lo_lt h x s hs hh
 have hhi:=shl_hi_lt x s hs hx
 have hhw : x / 2 ^ (64 - s) < W64:=Nat.lt_of_le_of_lt (Nat.div_le_self _ _) hx
 refine ⟨((ho.store _ _).1.store _ _).1,(hb.setCell (Nat.le_refl _) _).setCell (Nat.le_refl _) _,by simp [hl],wf_set (wf_set hw _ _ hq) _ _ hhw,?_,hhi,?_,?_⟩
 ·rw [show wd + (i + 1) = wd + i + 1 from by omega,getD_set_eq _ _ _ (by simp [hl]; omega)]
 ·intro j hj
  rw [gdsn _ _ _ _ (by omega),gdsn _ _ _ _ (by omega)]; exact hz j (by omega)
 ·rw [show wd + (i + 1) = wd + i + 1 from by omega,List.take_set,List.set_eq_of_length_le (by simp; omega),nv_set_succ _ _ _ _ (by omega),nv_take_succ',← ex,Nat.add_mul,Nat.add_mul,← hv,eq,Nat.pow_succ]
  have h1:=shl_split x s hs
  have h2 : W64 ^ (wd + i) * (x * 2 ^ s % W64 + W64 * (x / 2 ^ (64 - s))) = W64 ^ (wd + i) * (x * 2 ^ s):=by rw [h1]
  have h3 : W64 ^ i * x * 2 ^ s * W64 ^ wd = W64 ^ (wd + i) * (x * 2 ^ s):=by rw [Nat.pow_add]; simp [Nat.mul_assoc,Nat.mul_comm,Nat.mul_left_comm]
  simp only [Nat.mul_add,Nat.mul_assoc] at h2 h3 ⊢
  omega
theorem set_same (zs : List Nat) (j : Nat) (h : zs.getD j 0 = 0) : zs.set j 0 = zs:=by
 apply List.ext_getElem?
 intro i
 rw [List.getElem?_set]
 split
 ·rename_i e; subst e
  split
  ·rename_i h2; simp only [List.getD,List.getElem?_eq_getElem h2,Option.getD_some] at h; rw [List.getElem?_eq_getElem h2,h]
  ·rename_i h2; rw [List.getElem?_eq_none (by omega)]
 ·rfl
theorem ShlRel.step0 {w wr : World} {g n : Nat} {X : List Nat} {wd i h x q : Nat} {zs : List Nat} (ho : Own .u64 51 wr g (.slice (some ⟨g,0,none⟩) n n) zs) (hb : Below g w wr) (hl : zs.length = n) (hw : wf W64 zs)
  (hz : ∀ j,wd + i < j → zs.getD j 0 = 0) (hv : nv W64 (zs.take (wd + i)) + W64 ^ (wd + i) * h = nv W64 (X.take i) * 2 ^ 0 * W64 ^ wd)
  (hh : h < 2 ^ 0) (hx : x < W64) (ex : x = X.getD i 0) (eq : q = h + x * 2 ^ 0 % W64) (hi : wd + i + 1 < n) :
  ShlRel w (wr.setCell ⟨g,wd + i,none⟩ (.int .u64 (q : Nat))) g n X wd 0 (i + 1) 0 (zs.set (wd + i) q):=by
 have hd : x / 2 ^ (64 - 0) = 0:=Nat.div_eq_of_lt hx
 obtain ⟨_,_,h3,h4,h5,h6,h7,h8⟩:=ShlRel.step ho hb hl hw hz hv (by omega) hh hx ex eq hi
 have e : (zs.set (wd + i) q).set (wd + i + 1) 0 = zs.set (wd + i) q:=set_same _ _ (by rw [gdsn _ _ _ _ (by omega)]; exact hz _ (by omega))
 rw [hd] at h3 h4 h5 h6 h7 h8
 rw [e] at h3 h4 h5 h7 h8
 exact ⟨(ho.store _ _).1,hb.setCell (Nat.le_refl _) _,h3,h4,h5,h6,h7,h8⟩
set_option maxHeartbeats 800000 in
theorem nat_Shl (v : Value) (xs : List Nat) (n : Nat) (w : World) (hv : Sl .u64 w v xs) (hm : xs.length ≤ 100000000) (hx : wf W64 xs) (hn : n ≤ 1048576) :
  Calls Tryz.prog 222 #[v,.int .i64 n] w (RetNB w (xs.length + n / 64 + 1) (nv W64 xs * 2 ^ n)):=by
 obtain ⟨ao,b,off,cap,rfl,hl,hcs⟩:=hv
 have hlx:=tr_len xs
 obtain ⟨X,eX⟩ : ∃ X,X = tr xs:=⟨_,rfl⟩
 have wX : wf W64 X:=by rw [eX]; exact wf_tr hx
 have hX : Cs .u64 w ao b off X:=by rw [eX]; exact hcs.trim
 have e1 : nv W64 xs = nv W64 X:=by rw [eX,nv_tr]
 rw [e1]
 have c1:=nat_trim ao b off cap xs w hcs hl (by omega)
 rw [← eX] at c1 hlx
 have C1:=Lib.hid c1
 clear c1 e1 eX hcs
 obtain ⟨wd,ewd⟩ : ∃ wd,wd = n / 64:=⟨_,rfl⟩
 obtain ⟨s,es⟩ : ∃ s,s = n % 64:=⟨_,rfl⟩
 have hs : s < 64:=by omega
 have hwd : wd ≤ 16384:=by omega
 have d1 : (n : Int) / 64 = wd:=by omega
 have d2 : (n : Int) % 64 = s:=by omega
 have EW:=Lib.hid ewd
 have ES:=Lib.hid es
 clear ewd es
 go_enter Tryz.func222,Tryz.ntmps222
 go_wp2_with (first | (at_make; refine wp_make .u64 45 51 8 Tryz.underlying45 (by kernel_rfl) (by decide) rfl _ _ rfl .i64 .i64 (X.length + wd + 1) (by omega) _ _ _ rfl rfl (by omega) (by omega) ?_; intro w1 hown hbel hsz) | (go_at_call 87; refine C1.out.mono ?_; rintro e w' ⟨rfl,rfl⟩))
 go_loopw [32] (fun ix wr=>∃ i h zs,i ≤ X.length ∧ ix = .int .i64 (i : Nat) ∧ ShlRel w wr w.heap.size (X.length + wd + 1) X wd s i h zs) (fun ix _=>X.length - (intOf ix).toNat)
 case atStart=>exact ⟨0,0,List.replicate (X.length + wd + 1) 0,by omega,rfl,hown,hbel,by simp,wf_replicate0 (by decide) _,getD_replicate0 _ _,Nat.two_pow_pos _,fun j _=>getD_replicate0 _ _,by rw [List.take_replicate,nv_replicate0]; simp [nv]⟩
 case round=>
  obtain ⟨i,h,zs,hi,rfl,ho,hb,hl2,hw,hh,hhl,hz0,hzv⟩:=hrel
  by_cases hlt : i < X.length
  ·obtain rfl:=hX.ao (by intro h; subst h; simp at hlt)
   obtain ⟨x,ex⟩ : ∃ x,x = X.getD i 0:=⟨_,rfl⟩
   have hcx:=(hX.below hb (Nat.le_refl _)).cell i hlt
   have hco:=ho.cellAt (wd + i) (by omega)
   have hfo:=ho.frozenAt (wd + i)
   rw [hh] at hco
   rw [← ex] at hcx
   have hxl : x < W64:=by rw [ex]; exact wf_getD wX (by decide) i
   have hor:=or_add h x s hs hhl
   obtain ⟨q,eq⟩ : ∃ q,q = h + x * 2 ^ s % W64:=⟨_,rfl⟩
   rw [← eq] at hor
   have HV:=Lib.hid hzv
   have HL:=Lib.hid hl2
   have HH:=Lib.hid hh
   have HZ:=Lib.hid hz0
   have HHL:=Lib.hid hhl
   have EX:=Lib.hid ex
   have EQ:=Lib.hid eq
   clear hzv hl2 hh hz0 hhl ex eq
   by_cases h0 : 0 < s
   ·have ho1:=(ho.store (wd + i) q).1
    have hc2:=ho1.cellAt (wd + i + 1) (by simp [HL.out]; omega)
    have hf2:=ho1.frozenAt (wd + i + 1)
    have hz1 : (zs.set (wd + i) q).getD (wd + i + 1) 0 = 0:=by
     have:=HZ.out (wd + i + 1) (by omega)
     simpa [List.getD,List.getElem?_set] using this
    rw [hz1] at hc2
    clear hz1
    go_wp2
    go_roundw
    case rel=>exact ⟨i + 1,x / 2 ^ (64 - s),_,by omega,by go_num,by
     have R:=ShlRel.step ho hb HL.out hw HZ.out HV.out hs HHL.out hxl EX.out EQ.out (by omega)
     simpa using R⟩
    case measure=>simp [intOf]; omega
   ·obtain rfl : s = 0:=by omega
    rw [show ((x : Int) * 2 ^ 0) = x from by simp] at hor
    go_wp2
    go_roundw
    case rel=>exact ⟨i + 1,0,_,by omega,by go_num,ShlRel.step0 ho hb HL.out hw HZ.out HV.out HHL.out hxl EX.out EQ.out (by omega)⟩
    case measure=>simp [intOf]; omega
  ·obtain rfl : i = X.length:=by omega
   have HV:=Lib.hid hzv
   have HL:=Lib.hid hl2
   have HH:=Lib.hid hh
   clear hzv hl2 hh hz0
   go_wp2_with (go_at_call 89; refine (nat_normal_own _ _ _ _ _ _ ho HL.out (Nat.le_refl _) (by omega)).mono ?_; rintro e w' ⟨r,rfl,hr,rfl⟩)
   go_ret2
   refine ⟨_,tr zs,rfl,hr,nrm_tr hw,?_,by have:=tr_len zs; rw [HL.out] at this; omega,hb⟩
   have e3:=nv_take_succ' W64 zs (wd + X.length)
   rw [List.take_of_length_le (by rw [HL.out]; omega),HH.out,HV.out,List.take_length] at e3
   rw [nv_tr,e3,Nat.mul_assoc,show W64 = 2 ^ 64 from rfl,← Nat.pow_mul,← Nat.pow_add]
   congr 2
   have:=EW.out; have:=ES.out; omega
def ShrRel (w wr : World) (g n : Nat) (A : List Nat) (s i : Nat) (zs : List Nat) : Prop:=
 Own .u64 51 wr g (.slice (some ⟨g,0,none⟩) n n) zs ∧ Below g w wr ∧ zs.length = n ∧ wf W64 zs ∧
  2 ^ s * nv W64 (zs.take i) + A.getD 0 0 % 2 ^ s = nv W64 (A.take i) + W64 ^ i * (A.getD i 0 % 2 ^ s)
theorem ShrRel.arith {zs A : List Nat} {s i x y z : Nat} (hs : s < 64) (hl : i < zs.length) (hw : wf W64 zs) (hv : 2 ^ s * nv W64 (zs.take i) + A.getD 0 0 % 2 ^ s = nv W64 (A.take i) + W64 ^ i * (A.getD i 0 % 2 ^ s))
  (hx : x = A.getD i 0) (hy : y = A.getD (i + 1) 0) (hxl : x < W64) (hz : z = x / 2 ^ s + 2 ^ (64 - s) * (y % 2 ^ s)) :
  z < W64 ∧ wf W64 (zs.set i z) ∧ 2 ^ s * nv W64 ((zs.set i z).take (i + 1)) + A.getD 0 0 % 2 ^ s = nv W64 (A.take (i + 1)) + W64 ^ (i + 1) * (A.getD (i + 1) 0 % 2 ^ s):=by
 have hW : W64 = 2 ^ s * 2 ^ (64 - s):=by rw [← Nat.pow_add,show s + (64 - s) = 64 from by omega]; rfl
 have h1 : x / 2 ^ s < 2 ^ (64 - s):=Nat.div_lt_of_lt_mul (by rw [← hW]; exact hxl)
 have h2 : y % 2 ^ s + 1 ≤ 2 ^ s:=Nat.mod_lt _ (Nat.two_pow_pos _)
 have h3 : 2 ^ (64 - s) * (y % 2 ^ s + 1) ≤ W64:=by rw [hW,Nat.mul_comm (2 ^ s)]; exact Nat.mul_le_mul_left _ h2
 have hzl : z < W64:=by rw [Nat.mul_succ] at h3; omega
 refine ⟨hzl,wf_set hw _ _ hzl,?_⟩
 rw [nv_set_succ _ _ _ _ hl,nv_take_succ',← hx,← hy,Nat.pow_succ]
 have h4 : 2 ^ s * z + x % 2 ^ s = x + W64 * (y % 2 ^ s):=by
  rw [hz,hW,Nat.mul_add,← Nat.mul_assoc]
  have:=Nat.mod_add_div x (2 ^ s)
  omega
 have h5 : W64 ^ i * (2 ^ s * z + x % 2 ^ s) = W64 ^ i * (x + W64 * (y % 2 ^ s)):=by rw [h4]
 rw [← hx] at hv
 have h6 : 2 ^ s * (W64 ^ i * z) = W64 ^ i * (2 ^ s * z):=by simp [Nat.mul_left_comm]
 simp only [Nat.mul_add,Nat.mul_assoc] at h5 hv ⊢
 rw [h6]
 omega
theorem shr_end {zs A : List Nat} {s : Nat} (hv : 2 ^ s * nv W64 (zs.take A.length) + A.getD 0 0 % 2 ^ s = nv W64 (A.take A.length) + W64 ^ A.length * (A.getD A.length 0 % 2 ^ s)) (hl : zs.length = A.length) : nv W64 zs = nv W64 A / 2 ^ s:=by
 have h0 : A.getD A.length 0 = 0:=by unfold List.getD; rw [List.getElem?_eq_none (by omega)]; rfl
 rw [h0,List.take_length,List.take_of_length_le (by omega),Nat.zero_mod,Nat.mul_zero,Nat.add_zero] at hv
 rw [← hv]
 have h1 : A.getD 0 0 % 2 ^ s < 2 ^ s:=Nat.mod_lt _ (Nat.two_pow_pos _)
 rw [Nat.mul_comm,Nat.add_comm,Nat.add_mul_div_right _ _ (Nat.two_pow_pos _),Nat.div_eq_of_lt h1,Nat.zero_add]
theorem nv_drop (xs : List Nat) (k : Nat) (hx : wf W64 xs) : nv W64 (xs.drop k) = nv W64 xs / W64 ^ k:=by
 by_cases hk : k ≤ xs.length
 ·rw [nv_take_drop W64 xs k hk,Nat.add_mul_div_left _ _ (Nat.pow_pos (by decide))]
  have h1:=nv_lt (xs.take k) (wf_take hx k)
  have e1 : (xs.take k).length = k:=by simp; omega
  rw [e1] at h1
  rw [Nat.div_eq_of_lt h1]; simp
 ·rw [List.drop_eq_nil_of_le (by omega)]
  have h1:=nv_lt xs hx
  have h2 : W64 ^ xs.length ≤ W64 ^ k:=Nat.pow_le_pow_right (by decide) (by omega)
  rw [Nat.div_eq_of_lt (by omega)]; rfl
set_option maxHeartbeats 1600000 in
theorem nat_Shr (v : Value) (xs : List Nat) (n : Nat) (w : World) (hv : Sl .u64 w v xs) (hm : xs.length ≤ 100000000) (hx : wf W64 xs) (hn : (n : Int) ≤ 9223372036854775807) :
  Calls Tryz.prog 224 #[v,.int .i64 n] w (RetNB w xs.length (nv W64 xs / 2 ^ n)):=by
 obtain ⟨ao,b,off,cap,rfl,hl,hcs⟩:=hv
 have hlx:=tr_len xs
 obtain ⟨X,eX⟩ : ∃ X,X = tr xs:=⟨_,rfl⟩
 have wX : wf W64 X:=by rw [eX]; exact wf_tr hx
 have hX : Cs .u64 w ao b off X:=by rw [eX]; exact hcs.trim
 have e1 : nv W64 xs = nv W64 X:=by rw [eX,nv_tr]
 rw [e1]
 have c1:=nat_trim ao b off cap xs w hcs hl (by omega)
 rw [← eX] at c1 hlx
 have C1:=Lib.hid c1
 clear c1 e1 eX hcs
 obtain ⟨wd,ewd⟩ : ∃ wd,wd = n / 64:=⟨_,rfl⟩
 obtain ⟨s,es⟩ : ∃ s,s = n % 64:=⟨_,rfl⟩
 have hs : s < 64:=by omega
 have d1 : (n : Int) / 64 = wd:=by omega
 have d2 : (n : Int) % 64 = s:=by omega
 have hpow : nv W64 X / 2 ^ n = nv W64 (X.drop wd) / 2 ^ s:=by
  rw [nv_drop X wd wX,Nat.div_div_eq_div_mul,show W64 = 2 ^ 64 from rfl,← Nat.pow_mul,← Nat.pow_add]
  congr 2; omega
 rw [hpow]
 have hn0 : (0 : Int) ≤ (n : Int):=Int.natCast_nonneg _
 clear ewd es hpow
 by_cases hge : X.length ≤ wd
 ·have hz : X.drop wd = []:=List.drop_eq_nil_of_le hge
  rw [hz]
  clear hz
  go_enter Tryz.func224,Tryz.ntmps224
  go_wp2_with (go_at_call 87; refine C1.out.mono ?_; rintro e w' ⟨rfl,rfl⟩)
  go_ret2
  exact ⟨_,[],rfl,Own.nil _ _ _ _,nrm_nil _,by simp [nv],by simp,Below.refl _ _⟩
 ·obtain ⟨A,eA⟩ : ∃ A,A = X.drop wd:=⟨_,rfl⟩
  rw [← eA]
  have lA : A.length = X.length - wd:=by rw [eA]; simp
  have hA0 : 0 < A.length:=by omega
  have hA : ∀ j,j < A.length → A.getD j 0 = X.getD (wd + j) 0:=fun j _=>by rw [eA]; simp [List.getD,List.getElem?_drop]
  have wA : wf W64 A:=by rw [eA]; exact wf_drop wX wd
  obtain rfl:=hX.ao (by intro h; subst h; simp at hge)
  have LA:=Lib.hid lA
  have HA:=Lib.hid hA
  have hXA : X.length = wd + A.length:=by omega
  rw [hXA] at C1
  have hcA : Cs .u64 w (some ⟨b,off + wd,none⟩) b (off + wd) A:=⟨fun _=>rfl,fun j hj=>by rw [hA j hj,Nat.add_assoc]; exact hX.cell (wd + j) (by omega)⟩
  have hcap : wd + A.length ≤ cap:=by omega
  have hAx : A.length ≤ xs.length:=by omega
  clear lA hA eA hX wX hge hXA
  have hlA : A.length ≤ 100000000:=by have:=LA.out; omega
  go_enter Tryz.func224,Tryz.ntmps224
  go_wp2_with (first | (at_make; refine wp_make .u64 45 51 8 Tryz.underlying45 (by kernel_rfl) (by decide) rfl _ _ rfl .i64 .i64 A.length (by omega) _ _ _ rfl rfl (by omega) (by omega) ?_; intro w1 hown hbel hsz) | (go_at_call 87; refine C1.out.mono ?_; rintro e w' ⟨rfl,rfl⟩))
  go_loopw [32] (fun ix wr=>∃ i zs,i ≤ A.length ∧ ix = .int .i64 (i : Nat) ∧ ShrRel w wr w.heap.size A.length A s i zs) (fun ix _=>A.length - (intOf ix).toNat)
  case atStart=>exact ⟨0,List.replicate A.length 0,by omega,rfl,hown,hbel,by simp,wf_replicate0 (by decide) _,by simp [nv]⟩
  case round=>
   obtain ⟨i,zs,hi,rfl,ho,hb,hl2,hw,hzv⟩:=hrel
   have HV:=Lib.hid hzv; clear hzv
   have HL:=Lib.hid hl2; clear hl2
   by_cases hlt : i < A.length
   ·obtain ⟨x,ex⟩ : ∃ x,x = A.getD i 0:=⟨_,rfl⟩
    obtain ⟨y,ey⟩ : ∃ y,y = A.getD (i + 1) 0:=⟨_,rfl⟩
    have hcx:=(hcA.below hb (Nat.le_refl _)).cell i hlt
    have hco:=ho.cellAt i (by rw [HL.out]; omega)
    have hfo:=ho.frozenAt i
    rw [← ex] at hcx
    have hxl : x < W64:=by rw [ex]; exact wf_getD wA (by decide) i
    have EX:=Lib.hid ex; clear ex
    have hbw : b < w.heap.size:=by have:=hcA.lt (by intro h; rw [h] at hlt; simp at hlt); exact this
    by_cases h0 : 0 < s
    ·by_cases hlt2 : i + 1 < A.length
     ·have hcy:=(hcA.below hb (Nat.le_refl _)).cell (i + 1) hlt2
      rw [← ey] at hcy
      have EY:=Lib.hid ey; clear ey
      obtain ⟨h,eh⟩ : ∃ h,h = x / 2 ^ s:=⟨_,rfl⟩
      have hdv : (x : Int) / 2 ^ s = (h : Int):=by rw [eh]; simp
      have hhl : h < 2 ^ (64 - s):=by rw [eh]; exact Nat.div_lt_of_lt_mul (by rw [← Nat.pow_add,show s + (64 - s) = 64 from by omega]; exact hxl)
      obtain ⟨z,ez⟩ : ∃ z,z = h + y * 2 ^ (64 - s) % W64:=⟨_,rfl⟩
      have hor:=or_add h y (64 - s) (by omega) hhl
      rw [← ez] at hor
      have hzv2 : z = x / 2 ^ s + 2 ^ (64 - s) * (y % 2 ^ s):=by
       rw [ez,eh,show W64 = 2 ^ s * 2 ^ (64 - s) from by rw [← Nat.pow_add,show s + (64 - s) = 64 from by omega]; rfl,Nat.mul_mod_mul_right,Nat.mul_comm (y % 2 ^ s)]
      have AR:=ShrRel.arith hs (by rw [HL.out]; omega) hw HV.out EX.out EY.out hxl hzv2
      have HAR:=Lib.hid AR
      have EH:=Lib.hid eh
      have HHL:=Lib.hid hhl
      clear AR eh hhl ez hzv2
      have i0 : (0 : Int) ≤ (i : Int):=Int.natCast_nonneg _
      have i1 : (i : Int) < (A.length : Int):=by omega
      have i2 : (i : Int) + 1 < (A.length : Int):=by omega
      go_upto_region 14 with (fail)
      have ho1:=(ho.store i h).1
      have hb1 : Below w.heap.size w (wr.setCell ⟨w.heap.size,i,none⟩ (.int .u64 (h : Int))):=hb.setCell (Nat.le_refl _) _
      have hco1:=ho1.cellAt i (by simp [HL.out]; omega)
      have hfo1:=ho1.frozenAt i
      rw [getD_set_eq _ _ _ (by rw [HL.out]; omega)] at hco1
      have hcy1 : (wr.setCell ⟨w.heap.size,i,none⟩ (.int .u64 (h : Int))).cell? ⟨b,off + wd + (i + 1),none⟩ = some (.int .u64 y):=(World.cell?_setCell_other _ _ _ _ (by intro e; simp at e <;> omega)).trans hcy
      clear ho hb hco hfo hcx hcy
      generalize wr.setCell ⟨w.heap.size,i,none⟩ (.int .u64 (h : Int)) = w1 at *
      go_region
      have hs2:=ho1.store i z
      go_wp2
      go_roundw
      case rel=>
       refine ⟨i + 1,zs.set i z,by omega,by go_num,?_,?_,by simp [HL.out],HAR.out.2.1,HAR.out.2.2⟩
       ·have e : (zs.set i h).set i z = zs.set i z:=by simp
        rw [e] at hs2
        exact hs2.1.drawn ⟨1,rfl⟩
       ·exact (hb1.setCell (Nat.le_refl _) _).trans (Drawn.below ⟨1,rfl⟩ _)
      case measure=>simp [intOf]; omega
     ·have hy0 : y = 0:=by rw [ey]; unfold List.getD; rw [List.getElem?_eq_none (by omega)]; rfl
      have AR:=ShrRel.arith (z:=x / 2 ^ s) hs (by rw [HL.out]; omega) hw HV.out EX.out ey hxl (by rw [hy0]; simp)
      have HAR:=Lib.hid AR
      clear AR ey hy0
      have hnl : ¬ ((i : Int) + 1 < (A.length : Int)):=by omega
      go_wp2
      go_roundw
      case rel=>exact ⟨i + 1,zs.set i (x / 2 ^ s),by omega,by go_num,by have R:=(ho.store i (x / 2 ^ s)).1; simpa using R,hb.setCell (Nat.le_refl _) _,by simp [HL.out],HAR.out.2.1,HAR.out.2.2⟩
      case measure=>simp [intOf]; omega
    ·obtain rfl : s = 0:=by omega
     have AR:=ShrRel.arith (z:=x) hs (by rw [HL.out]; omega) hw HV.out EX.out ey hxl (by simp [Nat.mod_one])
     have HAR:=Lib.hid AR
     clear AR ey
     go_wp2
     go_roundw
     case rel=>exact ⟨i + 1,zs.set i x,by omega,by go_num,(ho.store i x).1,hb.setCell (Nat.le_refl _) _,by simp [HL.out],HAR.out.2.1,HAR.out.2.2⟩
     case measure=>simp [intOf]; omega
   ·obtain rfl : i = A.length:=by omega
    go_wp2_with (go_at_call 89; refine (nat_normal_own _ _ _ _ _ _ ho HL.out (Nat.le_refl _) (by omega)).mono ?_; rintro e w' ⟨r,rfl,hr,rfl⟩)
    go_ret2
    exact ⟨_,tr zs,rfl,hr,nrm_tr hw,by rw [nv_tr]; exact shr_end HV.out HL.out,by have h1:=tr_len zs; have h2:=HL.out; omega,hb⟩
end Go.Proofs.YtlhmaljjdpjkgaaGreatDoor
namespace Go.Proofs.YtlhmaljjdpjkgaaGreatDoor
open Go.ChangeShapes Go.WideShapes Go.ChangeAt Go.RowKit Go.Deep Go.Joins
section
variable {H : Type} {enc : TypeId × Value → H} {P : Program} {w : World} {base : Nat} {spare : Nat → Bool} {held : Bool}
theorem open_slice_fields {t e : TypeId} {fs : Array Field} {fuel : Nat} {cs : List Value} {x : DataW H × List MemPlace} (ht : P.underlying t = some (.slice e)) (he : P.underlying e = some (.struct fs))
  (hone : oneCellFields P fs = true) (hC : P.cellsOf e = fs.size) (h : DataW.trod enc P w base spare held fuel t cs = some x) :
  (cs = [.slice none 0 0] ∧ x = (.nil,[])) ∨
  ∃ (a : Addr) (len cap m : Nat) (D : Nat → DataW H) (Pl : Nat → List MemPlace),cs = [.slice (some a) len cap] ∧ base ≤ a.block ∧ len ≤ cap ∧ cap ≤ maxLen ∧ m = (if spare a.block then cap else len) ∧
   x = (.slice ((List.range len).map D) ((List.range (m - len)).map fun j=>D (len + j)),MemPlace.row a (m * fs.size) ++ (List.range m).flatMap Pl) ∧
   ∀ i,i < m → ∃ (ys : List (DataW H × List MemPlace)) (n : Nat),D i = .agg (ys.map (·.1)) ∧ Pl i = ys.flatMap (·.2) ∧ ys.length = fs.size ∧
    ∀ (j : Nat) (f : Field),fs[j]? = some f → ∃ (v : Value) (y : DataW H × List MemPlace),w.cell? (a.add (i * fs.size + j)) = some v ∧ ys[j]? = some y ∧ DataW.trod enc P w base spare held n f.type [v] = some y:=by
 rcases open_slice ht h with h0 | ⟨a,len,cap,m,n,D,Pl,hcs,hb,hl,hm,hmm,hx,hi⟩
 ·exact .inl h0
 ·refine .inr ⟨a,len,cap,m,D,Pl,hcs,hb,hl,hm,hmm,by rw [hC] at hx; exact hx,fun i him=>?_⟩
  obtain ⟨cs',hc,ht'⟩:=hi i him
  rw [hC] at hc
  obtain ⟨ys,n',hn',hy,hlen,hyl,hf⟩:=DataW.trod_struct he ht'
  obtain ⟨_,hcl,hat⟩:=World.cells?_some hc
  simp only [Prod.mk.injEq] at hy
  refine ⟨ys,n',hy.1,hy.2,hyl,fun j f hj=>?_⟩
  obtain ⟨ho,hk⟩:=hone_of hone j f hj
  have hjl : j < fs.size:=(Array.getElem?_eq_some_iff.1 hj).1
  have hcell:=hat j hjl
  have hv : cs'[j]? = some (cs'[j]'(by omega)):=List.getElem?_eq_getElem (by omega)
  have h1:=hf j f hj
  rw [ho,hk] at h1
  have hone' : (cs'.drop j).take 1 = [cs'[j]'(by omega)]:=by
   rw [List.drop_eq_getElem_cons (by omega)]
   rfl
  rw [hone'] at h1
  have hys : ys[j]? = some (ys[j]'(by omega)):=List.getElem?_eq_getElem (by omega)
  refine ⟨_,_,?_,hys,h1.trans hys⟩
  rw [← Go.Deep.add_add,hcell,hv]
theorem trod_words {t e : TypeId} {fuel : Nat} {v : Value} {x : DataW H × List MemPlace} (ht : P.underlying t = some (.slice e)) (he : P.underlying e = some (.int .u64)) (hc : P.cellsOf e = 1)
  (hf : DataW.trod enc P w base spare held fuel t [v] = some x) : ∃ xs,Sl .u64 w v xs ∧ wf W64 xs:=by
 rcases open_ints ht he hc hf with ⟨hcs,_⟩ | ⟨x,l,c,zs,hcs,_,hl,hm,hz,_,hcell,hwz⟩
 ·simp at hcs
  subst hcs
  exact ⟨[],Sl.nil _ _,wf_nil _⟩
 ·simp at hcs
  subst hcs
  have hlz : l ≤ zs.length:=by rw [hz]; split <;> omega
  have hlen : ((zs.take l).map Int.toNat).length = l:=by simp; omega
  have hget : ∀ j,j < l → ((zs.take l).map Int.toNat).getD j 0 = (zs.getD j 0).toNat:=by
   intro j hj
   simp [List.getD,hj]
   cases zs[j]? <;> rfl
  refine ⟨(zs.take l).map Int.toNat,⟨some x,x.block,x.off,c,by rw [hlen],by rw [hlen]; exact hl,?_,?_⟩,?_⟩
  ·intro hne
   have h0 : 0 < zs.length:=by
    by_cases h : zs = []
    ·subst h; simp at hne
    ·exact List.length_pos_iff.2 h
   have:=World.cell?_spot (hcell 0 h0)
   simp [Addr.add] at this
   obtain ⟨b,o,s⟩:=x
   simp at this; rw [this]
  ·intro j hj
   rw [hlen] at hj
   have hjz : j < zs.length:=by omega
   have h1:=hcell j hjz
   have hwj:=wf_u64_bounds (hwz (zs.getD j 0) (by simp [List.getD,List.getElem?_eq_getElem hjz]))
   rw [hget j hj]
   have e1 : (((zs.getD j 0).toNat : Nat) : Int) = zs.getD j 0:=by omega
   rw [e1,← h1]
   congr 1
   have h0 : 0 < zs.length:=by omega
   have:=World.cell?_spot (hcell 0 h0)
   simp [Addr.add] at this
   obtain ⟨b,o,s⟩:=x
   simp at this; subst this
   unfold Addr.add; split
   ·rename_i h; subst h; rfl
   ·rfl
  ·intro y hy
   simp only [List.mem_map] at hy
   obtain ⟨z,hz1,rfl⟩:=hy
   have:=wf_u64_bounds (hwz z (List.mem_of_mem_take hz1))
   unfold W64; omega
end
structure Zd (w : World) (ao : Option Addr) (b off : Nat) (ps : List (Bool × List Nat)) : Prop where
 ao : ps ≠ [] → ao = some ⟨b,off,none⟩
 cell : ∀ j,j < ps.length → ∃ u,w.cell? ⟨b,off + j * 2,none⟩ = some (.bool (ps.getD j (false,[])).1) ∧ w.cell? ⟨b,off + j * 2 + 1,none⟩ = some u ∧ Sl .u64 w u (ps.getD j (false,[])).2 ∧ wf W64 (ps.getD j (false,[])).2
def Zw (w : World) (v : Value) (ps : List (Bool × List Nat)) : Prop:=∃ ao b off cap,v = .slice ao ps.length cap ∧ ps.length ≤ cap ∧ Zd w ao b off ps
def Mw (w : World) (v : Value) (R C : Int) (ps : List (Bool × List Nat)) : Prop:=∃ u,v = .agg #[.int .i64 R,.int .i64 C,u] ∧ Zw w u ps
section
variable {H : Type} {enc : TypeId × Value → H} {w : World} {base : Nat} {spare : Nat → Bool} {held : Bool}
theorem open_zs {fuel : Nat} {v : Value} {x : DataW H × List MemPlace} (h : DataW.trod enc Tryz.prog w base spare held fuel 22 [v] = some x) : ∃ ps,Zw w v ps:=by
 rcases open_slice_fields Tryz.underlying22 Tryz.underlying47 (by kernel_rfl) (by kernel_rfl) h with ⟨hcs,-⟩ | ⟨a,len,cap,m,D,Pl,hcs,hb,hl,hm,hmm,-,hi⟩
 ·simp at hcs; subst hcs
  exact ⟨[],none,0,0,0,rfl,Nat.le_refl _,fun h=>absurd rfl h,fun j hj=>absurd hj (Nat.not_lt_zero _)⟩
 ·simp at hcs; subst hcs
  have hlm : len ≤ m:=by rw [hmm]; split <;> omega
  have key : ∀ j,∃ p : Bool × List Nat,j < len → ∃ u,w.cell? (a.add (j * 2)) = some (.bool p.1) ∧ w.cell? (a.add (j * 2 + 1)) = some u ∧ Sl .u64 w u p.2 ∧ wf W64 p.2:=by
   intro j
   by_cases hj : j < len
   ·obtain ⟨ys,n,-,-,hys,hf⟩:=hi j (by omega)
    obtain ⟨v0,y0,hc0,-,ht0⟩:=hf 0 _ rfl
    obtain ⟨v1,y1,hc1,-,ht1⟩:=hf 1 _ rfl
    obtain ⟨b,hb0,-⟩:=DataW.trod_bool Tryz.underlying4 ht0
    simp at hb0; subst hb0
    obtain ⟨xs,hxs,hwx⟩:=trod_words Tryz.underlying45 Tryz.underlying51 (by kernel_rfl) ht1
    exact ⟨(b,xs),fun _=>⟨v1,hc0,hc1,hxs,hwx⟩⟩
   ·exact ⟨(false,[]),fun h=>absurd h hj⟩
  have spot : len ≠ 0 → ∃ b off,a = ⟨b,off,none⟩:=by
   intro h0
   obtain ⟨p,hp⟩:=key 0
   obtain ⟨u,h1,-⟩:=hp (by omega)
   have:=World.cell?_spot h1
   obtain ⟨b,o,s⟩:=a
   simp [Addr.add] at this
   exact ⟨b,o,by rw [this]⟩
  refine ⟨(List.range len).map fun j=>Classical.choose (key j),some a,a.block,a.off,cap,by simp,by simpa using hl,fun hne=>?_,fun j hj=>?_⟩
  ·obtain ⟨b,off,rfl⟩:=spot (by intro h; subst h; simp at hne)
   rfl
  ·simp at hj
   have e1 : ((List.range len).map fun j=>Classical.choose (key j)).getD j (false,[]) = Classical.choose (key j):=by simp [List.getD,hj]
   rw [e1]
   have ch:=Classical.choose_spec (key j) hj
   have sp:=spot (by omega)
   generalize Classical.choose (key j) = q at ch ⊢
   clear key e1 spot
   obtain ⟨b,off,rfl⟩:=sp
   obtain ⟨u,h1,h2,h3,h4⟩:=ch
   have ad : ∀ k,(⟨b,off,none⟩ : Addr).add k = ⟨b,off + k,none⟩:=by
    intro k; unfold Addr.add; split
    ·rename_i h; subst h; rfl
    ·rfl
   rw [ad] at h1 h2
   exact ⟨u,h1,by rw [← h2,Nat.add_assoc],h3,h4⟩
set_option maxRecDepth 100000 in
theorem open_mat {r : Reach} {b0 : Nat} {v : Value} {d : DataW H} {p : List MemPlace} (hv : Value.okWide Tryz.prog w r b0 24 v) (h : DataW.Trod enc Tryz.prog w base spare held 24 v d p) :
  ∃ (R C : Int) (ps : List (Bool × List Nat)),Mw w v R C ps ∧ (-9223372036854775808 ≤ R ∧ R ≤ 9223372036854775807) ∧ (-9223372036854775808 ≤ C ∧ C ≤ 9223372036854775807):=by
 obtain ⟨v0,v1,v2,y0,y1,y2,n,rfl,-,-,h0,h1,h2⟩:=open_agg3 Tryz.underlying24 (by kernel_rfl) (by kernel_rfl) hv h
 obtain ⟨R,e0,-,w0⟩:=DataW.trod_int Tryz.underlying3 h0
 obtain ⟨C,e1,-,w1⟩:=DataW.trod_int Tryz.underlying3 h1
 obtain ⟨ps,hps⟩:=open_zs h2
 simp at e0 e1; subst e0 e1
 exact ⟨R,C,ps,⟨v2,rfl,hps⟩,wf_i64_bounds w0,wf_i64_bounds w1⟩
end
end Go.Proofs.YtlhmaljjdpjkgaaGreatDoor
namespace Go.Proofs.YtlhmaljjdpjkgaaGreatDoor
open Go Go.RowKit
inductive IV where
 | raw (v : Value)
 | any
 | sl (n k : Nat) (cs : List IV)
 | ip (cs : List IV)
 | agg (cs : List IV)
 | tup (cs : List IV)
 | fn (f : Nat) (a b : List IV)
inductive AV where
 | im (x : IV)
 | ref (i o : Nat)
 | own (i : Nat)
 | sub (i o k n : Nat)
 | agg (cs : List AV)
 | tup (cs : List AV)
 | fn (f : Nat) (a b : List AV)
inductive AO where
 | box (e : Nat) (cs : List AV)
 | row (e k n : Nat) (cs : List IV)
 | rowa (e k n : Nat) (cs : List AV)
 | mp (es : List (ByteArray × AV))
 | dead
def AO.live : AO → Bool
 | .dead=>false
 | _=>true
def blk : Value → Option Nat
 | .pointer (some a)=>some a.block
 | .slice (some a) _ _=>some a.block
 | .map (some r)=>some r
 | _=>none
inductive Ci (M : Nat → Prop) (w : World) : IV → Value → Prop
 | raw (v : Value) : Ci M w (.raw v) v
 | any (v : Value) : Ci M w .any v
 | sl {n k cap : Nat} {cs : List IV} {ao : Option Addr} {b o : Nat} {vs : Nat → Value} (hn : n * k = cs.length) (hc : n ≤ cap) (ha : cs ≠ [] → ao = some ⟨b,o,none⟩ ∧ ¬ M b)
   (h1 : ∀ j,j < cs.length → w.cell? ⟨b,o + j,none⟩ = some (vs j)) (h2 : ∀ (j : Nat) x,cs[j]? = some x → Ci M w x (vs j)) (h3 : ∀ j,j < cs.length → (vs j).oneCell' = true) : Ci M w (.sl n k cs) (.slice ao n cap)
 | ip {cs : List IV} {b o : Nat} {vs : Nat → Value} (ha : cs ≠ [] → ¬ M b)
   (h1 : ∀ j,j < cs.length → w.cell? ⟨b,o + j,none⟩ = some (vs j)) (h2 : ∀ (j : Nat) x,cs[j]? = some x → Ci M w x (vs j)) (h3 : ∀ j,j < cs.length → (vs j).oneCell' = true) : Ci M w (.ip cs) (.pointer (some ⟨b,o,none⟩))
 | agg {cs : List IV} {vs : List Value} (hl : vs.length = cs.length) (h : ∀ (j : Nat) x v,cs[j]? = some x → vs[j]? = some v → Ci M w x v) (h1 : ∀ v ∈ vs,v.oneCell' = true) : Ci M w (.agg cs) (.agg vs.toArray)
 | tup {cs : List IV} {vs : List Value} (hl : vs.length = cs.length) (h : ∀ (j : Nat) x v,cs[j]? = some x → vs[j]? = some v → Ci M w x v) : Ci M w (.tup cs) (.tuple vs.toArray)
 | fn {f : Nat} {a b : List IV} {az bs : List Value} (hl : az.length = a.length) (h : ∀ (j : Nat) x v,a[j]? = some x → az[j]? = some v → Ci M w x v)
   (kl : bs.length = b.length) (k : ∀ (j : Nat) x v,b[j]? = some x → bs[j]? = some v → Ci M w x v) : Ci M w (.fn f a b) (.func (.func f) az.toArray bs.toArray)
theorem Ci.keep {M M' : Nat → Prop} {w w' : World} (hk : ∀ b,b < w.heap.size → ¬ M b → ¬ M' b ∧ w'.heap[b]? = w.heap[b]?) {x : IV} {v : Value} (h : Ci M w x v) : Ci M' w' x v:=by
 induction h with
 | raw v=>exact .raw v
 | any v=>exact .any v
 | sl hn hc ha h1 _ h3 ih=>
  rename_i n k cap cs ao b o vs h2
  refine .sl (b:=b) (o:=o) hn hc (fun hne=>?_) (fun j hj=>?_) ih h3
  ·have hb:=World.block_lt_of_cell? w _ (h1 0 (List.length_pos_iff.2 hne))
   exact ⟨(ha hne).1,(hk b hb (ha hne).2).1⟩
  ·have hb:=World.block_lt_of_cell? w _ (h1 j hj)
   rw [World.cell?_of_block (w:=w) (hk b hb (ha (by intro e; subst e; simp at hj)).2).2]; exact h1 j hj
 | ip ha h1 _ h3 ih=>
  rename_i cs b o vs h2
  refine .ip (b:=b) (o:=o) (fun hne=>?_) (fun j hj=>?_) ih h3
  ·exact (hk b (World.block_lt_of_cell? w _ (h1 0 (List.length_pos_iff.2 hne))) (ha hne)).1
  ·rw [World.cell?_of_block (w:=w) (hk b (World.block_lt_of_cell? w _ (h1 j hj)) (ha (by intro e; subst e; simp at hj))).2]; exact h1 j hj
 | agg hl _ h1 ih=>exact .agg hl ih h1
 | tup hl _ ih=>exact .tup hl ih
 | fn hl _ kl _ ih ik=>exact .fn hl ih kl ik
theorem Ci.mono {M M' : Nat → Prop} {w : World} (hk : ∀ b,M' b → M b) {x : IV} {v : Value} (h : Ci M w x v) : Ci M' w x v:=
 h.keep fun b _ hb=>⟨fun h=>hb (hk b h),rfl⟩
inductive Cn (μ : List Value) (M : Nat → Prop) (w : World) : AV → Value → Prop
 | im {x : IV} {v : Value} (h : Ci M w x v) : Cn μ M w (.im x) v
 | ref {i o g : Nat} {u : Value} (h : μ[i]? = some u) (hb : blk u = some g) : Cn μ M w (.ref i o) (.pointer (some ⟨g,o,none⟩))
 | own {i : Nat} {u : Value} (h : μ[i]? = some u) : Cn μ M w (.own i) u
 | sub {i o k n g m cap : Nat} (h : μ[i]? = some (.slice (some ⟨g,0,none⟩) m cap)) : Cn μ M w (.sub i o k n) (.slice (some ⟨g,o * k,none⟩) n (cap - o))
 | agg {cs : List AV} {vs : List Value} (hl : vs.length = cs.length) (h : ∀ (j : Nat) x v,cs[j]? = some x → vs[j]? = some v → Cn μ M w x v) (h1 : ∀ v ∈ vs,v.oneCell' = true) : Cn μ M w (.agg cs) (.agg vs.toArray)
 | tup {cs : List AV} {vs : List Value} (hl : vs.length = cs.length) (h : ∀ (j : Nat) x v,cs[j]? = some x → vs[j]? = some v → Cn μ M w x v) : Cn μ M w (.tup cs) (.tuple vs.toArray)
 | fn {f : Nat} {a b : List AV} {az bs : List Value} (hl : az.length = a.length) (h : ∀ (j : Nat) x v,a[j]? = some x → az[j]? = some v → Cn μ M w x v)
   (kl : bs.length = b.length) (k : ∀ (j : Nat) x v,b[j]? = some x → bs[j]? = some v → Cn μ M w x v) : Cn μ M w (.fn f a b) (.func (.func f) az.toArray bs.toArray)
theorem Cn.keep {μ μ' : List Value} {M M' : Nat → Prop} {w w' : World} (hm : ∀ (i : Nat) u,μ[i]? = some u → μ'[i]? = some u) (hk : ∀ b,b < w.heap.size → ¬ M b → ¬ M' b ∧ w'.heap[b]? = w.heap[b]?)
  {x : AV} {v : Value} (h : Cn μ M w x v) : Cn μ' M' w' x v:=by
 induction h with
 | im h=>exact .im (h.keep hk)
 | ref h hb=>exact .ref (hm _ _ h) hb
 | own h=>exact .own (hm _ _ h)
 | sub h=>exact .sub (hm _ _ h)
 | agg hl _ h1 ih=>exact .agg hl ih h1
 | tup hl _ ih=>exact .tup hl ih
 | fn hl _ kl _ ih ik=>exact .fn hl ih kl ik
def CnL (μ : List Value) (M : Nat → Prop) (w : World) (cs : List AV) (vs : List Value) : Prop:=vs.length = cs.length ∧ ∀ (j : Nat) x v,cs[j]? = some x → vs[j]? = some v → Cn μ M w x v
def CiL (M : Nat → Prop) (w : World) (cs : List IV) (vs : List Value) : Prop:=vs.length = cs.length ∧ ∀ (j : Nat) x v,cs[j]? = some x → vs[j]? = some v → Ci M w x v
theorem CnL.keep {μ μ' : List Value} {M M' : Nat → Prop} {w w' : World} (hm : ∀ (i : Nat) u,μ[i]? = some u → μ'[i]? = some u) (hk : ∀ b,b < w.heap.size → ¬ M b → ¬ M' b ∧ w'.heap[b]? = w.heap[b]?)
  {x : List AV} {v : List Value} (h : CnL μ M w x v) : CnL μ' M' w' x v:=⟨h.1,fun j x v a b=>(h.2 j x v a b).keep hm hk⟩
theorem CiL.keep {M M' : Nat → Prop} {w w' : World} (hk : ∀ b,b < w.heap.size → ¬ M b → ¬ M' b ∧ w'.heap[b]? = w.heap[b]?)
  {x : List IV} {v : List Value} (h : CiL M w x v) : CiL M' w' x v:=⟨h.1,fun j x v a b=>(h.2 j x v a b).keep hk⟩
theorem CnL.nil {μ : List Value} {M : Nat → Prop} {w : World} : CnL μ M w [] []:=⟨rfl,by intro j x v h; simp at h⟩
theorem CnL.cons {μ : List Value} {M : Nat → Prop} {w : World} {x : AV} {v : Value} {cs : List AV} {vs : List Value} (h : Cn μ M w x v) (hs : CnL μ M w cs vs) : CnL μ M w (x :: cs) (v :: vs):=by
 refine ⟨by simp [hs.1],fun j x' v' a b=>?_⟩
 cases j with
 | zero=>simp at a b; subst a b; exact h
 | succ j=>simp at a b; exact hs.2 j _ _ a b
theorem CnL.uncons {μ : List Value} {M : Nat → Prop} {w : World} {x : AV} {cs : List AV} {vs : List Value} (h : CnL μ M w (x :: cs) vs) : ∃ v us,vs = v :: us ∧ Cn μ M w x v ∧ CnL μ M w cs us:=by
 cases vs with
 | nil=>have:=h.1; simp at this
 | cons v us=>exact ⟨v,us,rfl,h.2 0 _ _ rfl rfl,by have:=h.1; simpa using this,fun j x v a b=>h.2 (j + 1) x v (by simpa using a) (by simpa using b)⟩
theorem CnL.append {μ : List Value} {M : Nat → Prop} {w : World} {az bs : List AV} {us vs : List Value} (h : CnL μ M w az us) (k : CnL μ M w bs vs) : CnL μ M w (az ++ bs) (us ++ vs):=by
 refine ⟨by simp [h.1,k.1],fun j x v a b=>?_⟩
 by_cases hj : j < az.length
 ·rw [List.getElem?_append_left hj] at a; rw [List.getElem?_append_left (by rw [h.1]; exact hj)] at b; exact h.2 j x v a b
 ·rw [List.getElem?_append_right (by omega)] at a; rw [List.getElem?_append_right (by rw [h.1]; omega),h.1] at b; exact k.2 _ x v a b
theorem CiL.append {M : Nat → Prop} {w : World} {az bs : List IV} {us vs : List Value} (h : CiL M w az us) (k : CiL M w bs vs) : CiL M w (az ++ bs) (us ++ vs):=by
 refine ⟨by simp [h.1,k.1],fun j x v a b=>?_⟩
 by_cases hj : j < az.length
 ·rw [List.getElem?_append_left hj] at a; rw [List.getElem?_append_left (by rw [h.1]; exact hj)] at b; exact h.2 j x v a b
 ·rw [List.getElem?_append_right (by omega)] at a; rw [List.getElem?_append_right (by rw [h.1]; omega),h.1] at b; exact k.2 _ x v a b
theorem CnL.drop {μ : List Value} {M : Nat → Prop} {w : World} {cs : List AV} {vs : List Value} (h : CnL μ M w cs vs) (n : Nat) : CnL μ M w (cs.drop n) (vs.drop n):=
 ⟨by simp [h.1],fun j x v a b=>h.2 (n + j) x v (by simpa using a) (by simpa using b)⟩
theorem CnL.take {μ : List Value} {M : Nat → Prop} {w : World} {cs : List AV} {vs : List Value} (h : CnL μ M w cs vs) (n : Nat) : CnL μ M w (cs.take n) (vs.take n):=by
 refine ⟨by simp [h.1],fun j x v a b=>?_⟩
 rw [List.getElem?_take] at a b
 by_cases hj : j < n
 ·rw [if_pos hj] at a b; exact h.2 j x v a b
 ·rw [if_neg hj] at a; cases a
theorem CiL.drop {M : Nat → Prop} {w : World} {cs : List IV} {vs : List Value} (h : CiL M w cs vs) (n : Nat) : CiL M w (cs.drop n) (vs.drop n):=
 ⟨by simp [h.1],fun j x v a b=>h.2 (n + j) x v (by simpa using a) (by simpa using b)⟩
theorem CiL.take {M : Nat → Prop} {w : World} {cs : List IV} {vs : List Value} (h : CiL M w cs vs) (n : Nat) : CiL M w (cs.take n) (vs.take n):=by
 refine ⟨by simp [h.1],fun j x v a b=>?_⟩
 rw [List.getElem?_take] at a b
 by_cases hj : j < n
 ·rw [if_pos hj] at a b; exact h.2 j x v a b
 ·rw [if_neg hj] at a; cases a
theorem CiL.cn {μ : List Value} {M : Nat → Prop} {w : World} {cs : List IV} {vs : List Value} (h : CiL M w cs vs) : CnL μ M w (cs.map .im) vs:=
 ⟨by simp [h.1],fun j x v a b=>by
  simp only [List.getElem?_map,Option.map_eq_some_iff] at a; obtain ⟨y,hy,rfl⟩:=a; exact .im (h.2 j y v hy b)⟩
def Ones (vs : List Value) : Prop:=∀ v ∈ vs,v.oneCell' = true
def Mut (μ : List Value) (B : Nat → Prop) (H : List AO) (b : Nat) : Prop:=B b ∨ ∃ (i : Nat) (o : AO) (u : Value),H[i]? = some o ∧ o.live = true ∧ μ[i]? = some u ∧ blk u = some b
def LieO (μ : List Value) (M : Nat → Prop) (w : World) (v : Value) : AO → Prop
 | .box e cs=>∃ (g : Nat) (vs : List Value),v = .pointer (some ⟨g,0,none⟩) ∧ w.heap[g]? = some (.cells vs.toArray e (0,0)) ∧ CnL μ M w cs vs ∧ Ones vs
 | .row e k n cs=>∃ vs,w.ownsRow 0 e k v n vs ∧ CiL M w cs vs ∧ Ones vs
 | .rowa e k n cs=>∃ vs,w.ownsRow 0 e k v n vs ∧ CnL μ M w cs vs ∧ Ones vs
 | .mp es=>∃ (r : Nat) (ents : List MapEntry) (clock : Nat),v = .map (some r) ∧ w.heap[r]? = some (.map ents.toArray clock) ∧ ents.length = es.length ∧
   ∀ (j : Nat) (p : ByteArray × AV) (m : MapEntry),es[j]? = some p → ents[j]? = some m → m.key = .string p.1 ∧ Cn μ M w p.2 m.val
 | .dead=>True
def gB : Nat:=0
def Gl (M : Nat → Prop) (w : World) : Prop:=(∃ m,w.cell? ⟨gB,0,none⟩ = some (.int .i64 m)) ∧ ¬ M gB
theorem Gl.keep {M M' : Nat → Prop} {w w' : World} (h : Gl M w) (hk : ∀ b,b < w.heap.size → ¬ M b → ¬ M' b ∧ w'.heap[b]? = w.heap[b]?) : Gl M' w':=by
 obtain ⟨⟨m,h1⟩,h2⟩:=h
 have hb:=hk gB (World.block_lt_of_cell? w _ h1) h2
 exact ⟨⟨m,by rw [World.cell?_of_block (w:=w) hb.2]; exact h1⟩,hb.1⟩
structure Lies (μ : List Value) (B : Nat → Prop) (w : World) (H : List AO) : Prop where
 len : μ.length = H.length
 obj : ∀ (i : Nat) (o : AO) (u : Value),H[i]? = some o → μ[i]? = some u → LieO μ (Mut μ B H) w u o
 out : ∀ b,B b → b < w.heap.size
 sep : ∀ (i : Nat) (o : AO) (u : Value) g,H[i]? = some o → o.live = true → μ[i]? = some u → blk u = some g → ¬ B g
 one : ∀ (i : Nat) u,μ[i]? = some u → u.oneCell' = true
 inj : ∀ (i j : Nat) (o p : AO) (u v : Value) g,H[i]? = some o → H[j]? = some p → o.live = true → p.live = true → μ[i]? = some u → μ[j]? = some v → blk u = some g → blk v = some g → i = j
 gl : Gl (Mut μ B H) w
structure Kept (L : Nat → Prop) (w w' : World) : Prop where
 os : w'.os = w.os
 tape : w'.tape = w.tape
 output : w'.output = w.output
 size : w.heap.size ≤ w'.heap.size
 block : ∀ k,k < w.heap.size → ¬ L k → w'.heap[k]? = w.heap[k]?
theorem Kept.refl (L : Nat → Prop) (w : World) : Kept L w w:=⟨rfl,rfl,rfl,Nat.le_refl _,fun _ _ _=>rfl⟩
theorem Kept.trans {L : Nat → Prop} {a b c : World} (h : Kept L a b) (k : Kept L b c) : Kept L a c:=
 ⟨k.os.trans h.os,k.tape.trans h.tape,k.output.trans h.output,Nat.le_trans h.size k.size,fun i hi hl=>(k.block i (Nat.lt_of_lt_of_le hi h.size) hl).trans (h.block i hi hl)⟩
theorem Kept.mono {L L' : Nat → Prop} {a b : World} (h : Kept L a b) (hl : ∀ x,x < a.heap.size → L x → L' x) : Kept L' a b:=⟨h.os,h.tape,h.output,h.size,fun k hk hn=>h.block k hk fun hx=>hn (hl k hk hx)⟩
theorem Kept.below {w w' : World} (h : Kept (fun _=>False) w w') : Below w.heap.size w w':=⟨h.os,h.tape,h.output,h.size,fun k hk=>h.block k hk id⟩
theorem Kept.of_below {L : Nat → Prop} {w w' : World} (h : Below w.heap.size w w') : Kept L w w':=⟨h.os,h.tape,h.output,h.size,fun k hk _=>h.block k hk⟩
theorem Kept.alloc (L : Nat → Prop) (w : World) (o : Obj) : Kept L w (w.alloc o):=Kept.of_below ((Below.refl _ _).alloc (Nat.le_refl _) o)
theorem LieO.keep {μ μ' : List Value} {M M' : Nat → Prop} {w w' : World} (hm : ∀ (i : Nat) u,μ[i]? = some u → μ'[i]? = some u) (hk : ∀ b,b < w.heap.size → ¬ M b → ¬ M' b ∧ w'.heap[b]? = w.heap[b]?)
  {u : Value} {o : AO} (hu : ∀ g,o.live = true → blk u = some g → w'.heap[g]? = w.heap[g]?) (h : LieO μ M w u o) : LieO μ' M' w' u o:=by
 cases o with
 | box e cs=>obtain ⟨g,vs,rfl,h1,h2,h3⟩:=h; exact ⟨g,vs,rfl,(hu g rfl rfl).trans h1,h2.keep hm hk,h3⟩
 | row e k n cs=>
  obtain ⟨vs,h1,h2,h3⟩:=h
  refine ⟨vs,⟨h1.1,?_⟩,h2.keep hk,h3⟩
  rcases h1.2 with h | ⟨g,cap,cur,rfl,a,b,c⟩
  ·exact .inl h
  ·exact .inr ⟨g,cap,cur,rfl,a,(hu g rfl rfl).trans b,c⟩
 | rowa e k n cs=>
  obtain ⟨vs,h1,h2,h3⟩:=h
  refine ⟨vs,⟨h1.1,?_⟩,h2.keep hm hk,h3⟩
  rcases h1.2 with h | ⟨g,cap,cur,rfl,a,b,c⟩
  ·exact .inl h
  ·exact .inr ⟨g,cap,cur,rfl,a,(hu g rfl rfl).trans b,c⟩
 | mp es=>obtain ⟨r,ents,c,rfl,h1,h2,h3⟩:=h; exact ⟨r,ents,c,rfl,(hu r rfl rfl).trans h1,h2,fun j p m a b=>⟨(h3 j p m a b).1,(h3 j p m a b).2.keep hm hk⟩⟩
 | dead=>trivial
theorem Lies.lt {μ : List Value} {B : Nat → Prop} {w : World} {H : List AO} (h : Lies μ B w H) {i : Nat} {o : AO} {u : Value} {g : Nat} (ho : H[i]? = some o) (hl : o.live = true) (hu : μ[i]? = some u) (hb : blk u = some g) : g < w.heap.size:=by
 have:=h.obj i o u ho hu
 have key : ∀ x : Obj,w.heap[g]? = some x → g < w.heap.size:=fun x hx=>(Array.getElem?_eq_some_iff.1 hx).1
 cases o with
 | box e cs=>obtain ⟨g',vs,rfl,h1,-⟩:=this; simp [blk] at hb; subst hb; exact key _ h1
 | row e k n cs=>
  obtain ⟨vs,h1,-⟩:=this
  rcases h1.2 with ⟨rfl,-⟩ | ⟨g',cap,cur,rfl,-,h2,-⟩
  ·simp [blk] at hb
  ·simp [blk] at hb; subst hb; exact key _ h2
 | rowa e k n cs=>
  obtain ⟨vs,h1,-⟩:=this
  rcases h1.2 with ⟨rfl,-⟩ | ⟨g',cap,cur,rfl,-,h2,-⟩
  ·simp [blk] at hb
  ·simp [blk] at hb; subst hb; exact key _ h2
 | mp es=>obtain ⟨r,ents,c,rfl,h1,-⟩:=this; simp [blk] at hb; subst hb; exact key _ h1
 | dead=>cases hl
theorem Lies.mut_lt {μ : List Value} {B : Nat → Prop} {w : World} {H : List AO} (h : Lies μ B w H) {b : Nat} (hb : Mut μ B H b) : b < w.heap.size:=by
 rcases hb with hb | ⟨i,o,u,h1,h2,h3,h4⟩
 ·exact h.out b hb
 ·exact h.lt h1 h2 h3 h4
theorem Lies.same {μ : List Value} {B : Nat → Prop} {w w' : World} {H : List AO} (h : Lies μ B w H) (hs : w.heap.size ≤ w'.heap.size) (hb : ∀ b,b < w.heap.size → w'.heap[b]? = w.heap[b]?) : Lies μ B w' H:=
 ⟨h.len,fun i o u ho hu=>(h.obj i o u ho hu).keep (fun _ _ h=>h) (fun b hb' hn=>⟨hn,hb b hb'⟩) (fun g hl hg=>hb g (h.lt ho hl hu hg)),fun b hB=>Nat.lt_of_lt_of_le (h.out b hB) hs,h.sep,h.one,h.inj,h.gl.keep fun b hb' hn=>⟨hn,hb b hb'⟩⟩
inductive Sh where
 | ce
 | bo
 | str
 | int (k : IntKind)
 | st (fs : List (Nat × Nat × Bool))
 | ar (n k : Nat) (ag : Bool)
 | sc (e k : Nat) (ag : Bool) (z : List Value) (bt : Nat)
 | mp (ag : Bool) (z : List Value)
 | po
structure TD where
 size : Nat
 ag : Bool
 zero : List Value
 sh : Sh
def isag (P : Program) (t : Nat) : Bool:=
 match P.underlying t with
 | some (.struct _) | some (.array _ _)=>true
 | _=>false
def zof (P : Program) (t : Nat) : Option (List Value):=(P.info? t).bind fun i=>i.zero.bind fun z=>if z.cells.size = i.size ∧ z.cells.toList.all (·.oneCell') = true then some z.cells.toList else none
def shof (P : Program) (t : Nat) : Option Sh:=
 match P.underlying t with
 | some (.struct fs)=>if fs.all (fun f=>(P.info? f.type).isSome && (P.underlying f.type).isSome) then some (.st (fs.toList.map fun f=>(f.offset,P.cellsOf f.type,isag P f.type))) else none
 | some (.array n e)=>if (P.info? e).isSome && (P.underlying e).isSome then some (.ar n (P.cellsOf e) (isag P e)) else none
 | some (.slice e)=>(zof P e).map fun z=>.sc e z.length (isag P e) z (P.bytesOf e)
 | some (.map k e)=>match P.underlying k with
  | some .string=>(zof P e).map fun z=>.mp (isag P e) z
  | _=>none
 | some .string=>some .str
 | some .bool=>some .bo
 | some (.int k)=>some (.int k)
 | some (.pointer e)=>if (P.info? e).any (fun i=>i.size != 0) = true then some .po else some .ce
 | some _=>some .ce
 | none=>none
def td (P : Program) (t : Nat) : Option TD:=(zof P t).bind fun z=>(shof P t).map fun s=>⟨z.length,isag P t,z,s⟩
def lookL : List (Nat × TD) → Nat → Option TD
 | [],_=>none
 | (a,d) :: l,t=>bif Nat.beq a t then some d else lookL l t
structure TT where
 tb : List (Nat × TD)
 mv : Nat → Bool
def look (T : TT) (t : Nat) : Option TD:=lookL T.tb t
def TdOKL (P : Program) (T : List (Nat × TD)) : Prop:=T.map (fun p=>td P p.1) = T.map (fun p=>some p.2)
def TdOK (P : Program) (T : TT) : Prop:=TdOKL P T.tb
theorem TdOKL.at {P : Program} {T : List (Nat × TD)} (h : TdOKL P T) {t : Nat} {d : TD} (hl : lookL T t = some d) : td P t = some d:=by
 unfold TdOKL at h
 induction T with
 | nil=>simp [lookL] at hl
 | cons p l ih=>
  simp only [List.map_cons,List.cons.injEq] at h
  obtain ⟨a,d'⟩:=p
  simp only [lookL] at hl
  by_cases e : a = t
  ·subst e; simp at hl; subst hl; exact h.1
  ·have : Nat.beq a t = false:=Bool.eq_false_iff.2 fun h=>e (Nat.eq_of_beq_eq_true h)
   rw [this] at hl; exact ih h.2 hl
theorem TdOK.at {P : Program} {T : TT} (h : TdOK P T) {t : Nat} {d : TD} (hl : look T t = some d) : td P t = some d:=TdOKL.at h hl
theorem zof_parts {P : Program} {t : Nat} {l : List Value} (h : zof P t = some l) : ∃ i z,P.info? t = some i ∧ i.zero = some z ∧ z.cells.size = i.size ∧ z.cells.toList = l ∧ i.size = l.length ∧ (∀ v ∈ l,v.oneCell' = true):=by
 unfold zof at h
 rw [Option.bind_eq_some_iff] at h
 obtain ⟨i,hi,h⟩:=h
 rw [Option.bind_eq_some_iff] at h
 obtain ⟨z,hz,h⟩:=h
 split at h
 ·rename_i hs; simp only [Option.some.injEq] at h; subst h; exact ⟨i,z,hi,hz,hs.1,rfl,by simp [hs.1],List.all_eq_true.1 hs.2⟩
 ·cases h
theorem td_parts {P : Program} {t : Nat} {d : TD} (h : td P t = some d) : ∃ i z,P.info? t = some i ∧ i.zero = some z ∧ z.cells.size = i.size ∧ z.cells.toList = d.zero ∧ i.size = d.size ∧ d.size = d.zero.length ∧ isag P t = d.ag ∧ shof P t = some d.sh ∧ (∀ v ∈ d.zero,v.oneCell' = true):=by
 unfold td at h
 rw [Option.bind_eq_some_iff] at h
 obtain ⟨l,hl,h⟩:=h
 rw [Option.map_eq_some_iff] at h
 obtain ⟨s,hs,rfl⟩:=h
 obtain ⟨i,z,h1,h2,h3,h4,h5,h6⟩:=zof_parts hl
 exact ⟨i,z,h1,h2,h3,h4,h5,rfl,rfl,hs,h6⟩
def takeO {α : Type} : Nat → List α → Option (List α)
 | 0,_=>some []
 | n + 1,c :: cs=>(takeO n cs).map (c :: ·)
 | _ + 1,[]=>none
theorem takeO_eq {α : Type} : ∀ (n : Nat) (cs l : List α),takeO n cs = some l → l = cs.take n ∧ n ≤ cs.length
 | 0,_,_,h=>by simp [takeO] at h; subst h; simp
 | n + 1,c :: cs,l,h=>by
  simp only [takeO,Option.map_eq_some_iff] at h
  obtain ⟨l',h1,rfl⟩:=h
  have:=takeO_eq n cs l' h1
  simp [this.1,this.2]
 | _ + 1,[],_,h=>by simp [takeO] at h
inductive QR where
 | no
 | ok (x : AV)
 | need (p : Prop) (x : AV)
 | gen (p : Prop) (ds : List IV) (k : List IV → Option AV)
 | gena (p : Prop) (ds : List AV) (k : List AV → Option AV)
def QR.val : QR → AV → Prop
 | .no,_=>False
 | .ok y,x=>x = y
 | .need p y,x=>p ∧ x = y
 | .gen p ds k,x=>p ∧ k ds = some x
 | .gena p ds k,x=>p ∧ k ds = some x
def orF {α : Type} (o : Option α) (K : α → Prop) : Prop:=
 match o with
 | some x=>K x
 | none=>False
structure Nd (p q : Prop) : Prop where
 l : p
 r : q
structure Gn {α : Type} (p : Prop) (ds : List α) (k : List α → Option AV) (K : AV → Prop) : Prop where
 l : p
 r : ∀ l,l = ds → orF (k l) K
def force1 (x : AV) (K : AV → Prop) : Prop:=
 match x with
 | .im y=>K (.im y)
 | .ref i o=>K (.ref i o)
 | .own i=>K (.own i)
 | .sub i o k n=>K (.sub i o k n)
 | .agg cs=>K (.agg cs)
 | .tup cs=>K (.tup cs)
 | .fn f a b=>K (.fn f a b)
def forceL : List AV → (List AV → Prop) → Prop
 | [],K=>K []
 | x :: l,K=>force1 x fun y=>forceL l fun r=>K (y :: r)
def force (x : AV) (K : AV → Prop) : Prop:=
 match x with
 | .im y=>K (.im y)
 | .ref i o=>K (.ref i o)
 | .own i=>K (.own i)
 | .sub i o k n=>K (.sub i o k n)
 | .agg cs=>K (.agg cs)
 | .tup cs=>K (.tup cs)
 | .fn f a b=>forceL a fun a=>forceL b fun b=>K (.fn f a b)
theorem force1_eq (x : AV) (K : AV → Prop) : force1 x K = K x:=by cases x <;> rfl
theorem forceL_eq : ∀ (l : List AV) (K : List AV → Prop),forceL l K = K l
 | [],_=>rfl
 | x :: l,K=>by rw [forceL,force1_eq,forceL_eq l]
theorem force_eq (x : AV) (K : AV → Prop) : force x K = K x:=by
 cases x <;> try rfl
 rw [force,forceL_eq,forceL_eq]
def vcQ : QR → (AV → Prop) → Prop
 | .no,_=>False
 | .ok x,K=>force x K
 | .need p x,K=>Nd p (force x K)
 | .gen p ds k,K=>Gn p ds k K
 | .gena p ds k,K=>Gn p ds k K
theorem vcQ_iff {q : QR} {K : AV → Prop} : vcQ q K ↔ ∃ x, q.val x ∧ K x := by
  cases q with
  | no => simp [vcQ, QR.val]
  | ok y => simp [vcQ, QR.val, force_eq]
  | need p y => simp only [vcQ, QR.val, force_eq]; constructor
                · rintro ⟨a, b⟩; exact ⟨y, ⟨a, rfl⟩, b⟩
                · rintro ⟨x, ⟨a, rfl⟩, b⟩; exact ⟨a, b⟩
  | gen p ds k =>
    simp only [vcQ, QR.val]; constructor
    · rintro ⟨a, b⟩; have := b ds rfl; unfold orF at this; split at this
      · rename_i x hx; exact ⟨x, ⟨a, hx⟩, this⟩
      · exact this.elim
    · rintro ⟨x, ⟨a, hx⟩, b⟩; exact ⟨a, fun l e => by subst e; unfold orF; rw [hx]; exact b⟩
  | gena p ds k =>
    simp only [vcQ, QR.val]; constructor
    · rintro ⟨a, b⟩; have := b ds rfl; unfold orF at this; split at this
      · rename_i x hx; exact ⟨x, ⟨a, hx⟩, this⟩
      · exact this.elim
    · rintro ⟨x, ⟨a, hx⟩, b⟩; exact ⟨a, fun l e => by subst e; unfold orF; rw [hx]; exact b⟩
def ldI (ag : Bool) (k : Nat) (cs : List IV) : Option AV:=
 match ag with
 | true=>(takeO k cs).map fun l=>.im (.agg l)
 | false=>match cs with
  | c :: _=>some (.im c)
  | []=>none
def ldA (ag : Bool) (k : Nat) (cs : List AV) : Option AV:=
 match ag with
 | true=>(takeO k cs).map .agg
 | false=>match cs with
  | c :: _=>some c
  | []=>none
def okO : Option AV → QR
 | some x=>.ok x
 | none=>.no
def ri (k : IntKind) (n : Int) : AV:=.im (.raw (.int k n))
def rb (b : Bool) : AV:=.im (.raw (.bool b))
def rs (s : ByteArray) : AV:=.im (.raw (.string s))
def ofV : Value → IV
 | .agg cs=>bif cs.toList.all (·.oneCell') then .agg (cs.toList.map .raw) else .raw (.agg cs)
 | v=>.raw v
def ev (t : Nat → AV) : Operand → AV
 | .tmp j=>t j
 | .const v=>.im (ofV v)
 | .global _=>.im .any
 | .func f=>.im (.fn f [] [])
def cellI : IV → Option (List IV)
 | .agg cs=>some cs
 | .raw (.agg _)=>none
 | .raw (.tuple _)=>none
 | .raw v=>some [.raw v]
 | .any=>none
 | .tup _=>none
 | x=>some [x]
def cellA : AV → Option (List AV)
 | .agg cs=>some cs
 | .im x=>(cellI x).map (·.map .im)
 | .tup _=>none
 | x=>some [x]
def wr {α : Type} : List α → Nat → List α → List α
 | [],_,_=>[]
 | c :: cs,o + 1,us=>c :: wr cs o us
 | c :: cs,0,[]=>c :: cs
 | _ :: cs,0,u :: us=>u :: wr cs 0 us
def putAt {α : Type} (cs : List α) (o : Nat) (us : List α) : List α:=match us with
 | []=>cs
 | [x]=>cs.set o x
 | x :: y :: xs=>wr cs o (x :: y :: xs)
def fillA (place : Nat → Option (Nat × Nat)) (cs : List AV) : List (Nat × AV) → Option (List AV)
 | []=>some cs
 | (i,x) :: rest=>
  match place i,cellA x with
  | some (o,k),some l=>bif Nat.beq l.length k && Nat.ble (o + k) cs.length then fillA place (putAt cs o l) rest else none
  | _,_=>none
def arith (op : BinOp) (k : IntKind) (a b : Int) : QR:=
 match op with
 | .add=>.ok (ri k (k.wrap (a + b)))
 | .sub=>.ok (ri k (k.wrap (a - b)))
 | .mul=>.ok (ri k (k.wrap (a * b)))
 | .quo=>.need (b ≠ 0) (ri k (k.wrap (a.tdiv b)))
 | .rem=>.need (b ≠ 0) (ri k (a.tmod b))
 | .eql=>.ok (rb (a == b))
 | .neq=>.ok (rb (a != b))
 | .lss=>.ok (rb (a < b))
 | .leq=>.ok (rb (a ≤ b))
 | .gtr=>.ok (rb (a > b))
 | .geq=>.ok (rb (a ≥ b))
 | .and=>.ok (ri k (k.wrap (BitVec.ofInt k.bits a &&& BitVec.ofInt k.bits b).toNat))
 | .or=>.ok (ri k (k.wrap (BitVec.ofInt k.bits a ||| BitVec.ofInt k.bits b).toNat))
 | .xor=>.ok (ri k (k.wrap (BitVec.ofInt k.bits a ^^^ BitVec.ofInt k.bits b).toNat))
 | _=>.no
def arith2 (op : BinOp) (k : IntKind) (a : Int) (k' : IntKind) (b : Int) : QR:=
 match op with
 | .shl=>.need (0 ≤ b) (ri k (k.wrap (a * 2 ^ (min b.toNat k.bits))))
 | .shr=>.need (0 ≤ b) (ri k (a.fdiv (2 ^ (min b.toNat k.bits))))
 | op=>if k = k' then arith op k a b else .no
def strop (op : BinOp) (a b : ByteArray) : QR:=
 match op with
 | .add=>.need (a.size + b.size ≤ 9223372036854775807) (rs (a ++ b))
 | .eql=>.ok (rb (a.toList == b.toList))
 | .neq=>.ok (rb (!(a.toList == b.toList)))
 | _=>.no
def boolop (op : BinOp) (a b : Bool) : QR:=
 match op with
 | .eql=>.ok (rb (a == b))
 | .neq=>.ok (rb (!(a == b)))
 | _=>.no
def isIn (l : List Nat) (i : Nat) : Bool:=
 match l with
 | []=>false
 | a :: l=>Nat.beq a i || isIn l i
def qload (H : List AO) (fb : List Nat) (d : TD) (a : AV) : QR:=
 match a with
 | .ref i o=>bif isIn fb i then .no else
  match H[i]? with
  | some (.box _ cs)=>okO (ldA d.ag d.size (cs.drop o))
  | some (.row _ _ _ cs)=>.gen True (cs.drop o) (ldI d.ag d.size)
  | some (.rowa _ _ _ cs)=>.gena True (cs.drop o) (ldA d.ag d.size)
  | _=>.no
 | .im (.ip cs)=>okO (ldI d.ag d.size cs)
 | _=>.no
def qfield (fs : List (Nat × Nat × Bool)) (f : Nat) (a : AV) : QR:=
 match fs[f]? with
 | none=>.no
 | some (o,k,ag)=>
  match a with
  | .agg cs=>okO (ldA ag k (cs.drop o))
  | .im (.agg cs)=>okO (ldI ag k (cs.drop o))
  | _=>.no
def qfieldAddr (fs : List (Nat × Nat × Bool)) (f : Nat) (a : AV) : QR:=
 match fs[f]? with
 | none=>.no
 | some (o,k,_)=>bif Nat.beq k 0 then .no else
  match a with
  | .ref i o'=>.ok (.ref i (o' + o))
  | .im (.ip cs)=>.ok (.im (.ip (cs.drop o)))
  | _=>.no
def qindexAddr (H : List AO) (fb : List Nat) (s : Sh) (a : AV) (j : Int) : QR:=
 match s with
 | .sc _ k _ _ _=>
  match a with
  | .im (.sl n k' cs)=>bif Nat.beq k k' && Nat.ble 1 k then .gen (0 ≤ j ∧ j < n) (cs.drop (j.toNat * k)) (fun l=>some (.im (.ip l))) else .no
  | .own i=>bif isIn fb i then .no else
   match H[i]? with
   | some (.row _ k' n _)=>bif Nat.beq k k' then .need (0 ≤ j ∧ j < n) (.ref i (j.toNat * k)) else .no
   | some (.rowa _ k' n _)=>bif Nat.beq k k' then .need (0 ≤ j ∧ j < n) (.ref i (j.toNat * k)) else .no
   | _=>.no
  | .sub i o k' n=>bif Nat.beq k k' then .need (0 ≤ j ∧ j < n) (.ref i ((o + j.toNat) * k)) else .no
  | _=>.no
 | .ar n k _=>
  match a with
  | .ref i o=>.need (0 ≤ j ∧ j < n) (.ref i (o + j.toNat * k))
  | .im (.ip cs)=>.gen (0 ≤ j ∧ j < n) (cs.drop (j.toNat * k)) (fun l=>some (.im (.ip l)))
  | _=>.no
 | _=>.no
def qindex (s : Sh) (a : AV) (j : Int) : QR:=
 match s with
 | .str=>
  match a with
  | .im (.raw (.string b))=>.need (0 ≤ j ∧ j < b.size) (ri .u8 (b.data.toList.getD j.toNat 0).toNat)
  | _=>.no
 | .ar n k ag=>
  match a with
  | .im (.agg cs)=>.gen (0 ≤ j ∧ j < n) (cs.drop (j.toNat * k)) (ldI ag k)
  | .agg cs=>.gena (0 ≤ j ∧ j < n) (cs.drop (j.toNat * k)) (ldA ag k)
  | _=>.no
 | _=>.no
def intA : Option AV → Option Int
 | some (.im (.raw (.int _ j)))=>some j
 | _=>none
def subR (H : List AO) (k i : Nat) (l h : Int) : QR:=
 match H[i]? with
 | some (.row _ k' n _)=>bif Nat.beq k k' then .need (0 ≤ l ∧ l < h ∧ h ≤ n) (.sub i l.toNat k (h.toNat - l.toNat)) else .no
 | some (.rowa _ k' n _)=>bif Nat.beq k k' then .need (0 ≤ l ∧ l < h ∧ h ≤ n) (.sub i l.toNat k (h.toNat - l.toNat)) else .no
 | _=>.no
def rowN (H : List AO) (i : Nat) : Int:=
 match H[i]? with
 | some (.row _ _ n _)=>n
 | some (.rowa _ _ n _)=>n
 | _=>0
def qslice (H : List AO) (fb : List Nat) (s : Sh) (a : AV) (lo hi : Option AV) : QR:=
 match s,a with
 | .sc _ k _ _ _,.own i=>bif isIn fb i then .no else
  match lo,hi with
  | some x,none=>match intA (some x) with
   | some l=>subR H k i l (rowN H i)
   | none=>.no
  | none,some y=>match intA (some y) with
   | some h=>subR H k i 0 h
   | none=>.no
  | some x,some y=>match intA (some x),intA (some y) with
   | some l,some h=>subR H k i l h
   | _,_=>.no
  | _,_=>.no
 | .str,.im (.raw (.string b))=>
  match lo,hi with
  | none,none=>.ok (rs (b.extract 0 b.size))
  | some x,none=>match intA (some x) with
   | some l=>.need (0 ≤ l ∧ l ≤ b.size) (rs (b.extract l.toNat b.size))
   | none=>.no
  | none,some y=>match intA (some y) with
   | some h=>.need (0 ≤ h ∧ h ≤ b.size) (rs (b.extract 0 h.toNat))
   | none=>.no
  | some x,some y=>match intA (some x),intA (some y) with
   | some l,some h=>.need (0 ≤ l ∧ l ≤ h ∧ h ≤ b.size) (rs (b.extract l.toNat h.toNat))
   | _,_=>.no
 | .sc _ k _ _ _,.im (.sl n k' cs)=>bif Nat.beq k k' then
  match lo,hi with
  | some x,none=>match intA (some x) with
   | some l=>.need (0 ≤ l ∧ l ≤ n) (.im (.sl (n - l.toNat) k (cs.drop (l.toNat * k))))
   | none=>.no
  | none,some y=>match intA (some y) with
   | some h=>.need (0 ≤ h ∧ h ≤ n) (.im (.sl h.toNat k (cs.take (h.toNat * k))))
   | none=>.no
  | _,_=>.no
  else .no
 | _,_=>.no
def qlen (H : List AO) (fb : List Nat) (s : Sh) (a : AV) : QR:=
 match s with
 | .str=>match a with
  | .im (.raw (.string b))=>.ok (ri .i64 b.size)
  | _=>.no
 | .sc _ _ _ _ _=>match a with
  | .im (.sl n _ _)=>.ok (ri .i64 n)
  | .im (.raw (.slice none 0 0))=>.ok (ri .i64 0)
  | .own i=>bif isIn fb i then .no else
   match H[i]? with
   | some (.row _ _ n _)=>.ok (ri .i64 n)
   | some (.rowa _ _ n _)=>.ok (ri .i64 n)
   | _=>.no
  | .sub _ _ _ n=>.ok (ri .i64 n)
  | _=>.no
 | _=>.no
def qmm (mx : Bool) (a b : AV) : QR:=
 match a,b with
 | .im (.raw (.int k a)),.im (.raw (.int _ b))=>.ok (ri k (match mx with | true=>if b > a then b else a | false=>if b < a then b else a))
 | _,_=>.no
def qextract (a : AV) (i : Nat) : QR:=
 match a with
 | .im (.tup cs)=>okO (cs[i]?.map .im)
 | .tup cs=>okO (cs[i]?)
 | _=>.no
def bytesI : List IV → Option (List Int)
 | []=>some []
 | .raw (.int .u8 n) :: l=>(bytesI l).map (n :: ·)
 | _=>none
def txt (ns : List Int) : ByteArray:=ns.foldl (fun r n=>r.push (UInt8.ofNat n.toNat)) ByteArray.empty
def qbytes (T : TT) (H : List AO) (fb : List Nat) (s : Sh) (x : AV) : QR:=
 match s with
 | .sc el 1 _ _ _=>match look T el with
  | some ⟨_,_,_,.int .u8⟩=>match x with
   | .im (.sl _ 1 cs)=>.gen True cs fun l=>(bytesI l).map fun ns=>rs (txt ns)
   | .own i=>bif isIn fb i then .no else
    match H[i]? with
    | some (.row _ 1 _ cs)=>.gen True cs fun l=>(bytesI l).map fun ns=>rs (txt ns)
    | _=>.no
   | _=>.no
  | _=>.no
 | _=>.no
def findA (s : ByteArray) : List (ByteArray × AV) → Option AV
 | []=>none
 | (k,v) :: l=>bif s == k then some v else findA s l
def lookA (z : List Value) (s : ByteArray) (es : List (ByteArray × AV)) : AV:=
 match findA s es with
 | some v=>.tup [v,rb true]
 | none=>.tup [.im (.agg (z.map .raw)),rb false]
def updA (s : ByteArray) (x : AV) : List (ByteArray × AV) → List (ByteArray × AV)
 | []=>[(s,x)]
 | (k,v) :: l=>bif s == k then (s,x) :: l else (k,v) :: updA s x l
def sameP (a b : AV) : Option Bool:=
 match a,b with
 | .ref i o,.ref j p=>bif Nat.beq i j then some (Nat.beq o p) else none
 | .ref _ _,.im (.raw (.pointer none))=>some false
 | .im (.raw (.pointer none)),.ref _ _=>some false
 | .im (.raw (.pointer none)),.im (.raw (.pointer none))=>some true
 | _,_=>none
def qptr (op : BinOp) (a b : AV) : QR:=
 match sameP a b,op with
 | some b,.eql=>.ok (rb b)
 | some b,.neq=>.ok (rb (!b))
 | _,_=>.no
def qlookup (H : List AO) (fb : List Nat) (z : List Value) (j : Nat) (s : ByteArray) : QR:=
 bif isIn fb j || Nat.ble z.length 1 then .no else
 match H[j]? with
 | some (.mp es)=>.gena True [lookA z s es] (fun l=>l.head?)
 | _=>.no
def qsdata (H : List AO) (fb : List Nat) (a : AV) : QR:=
 match a with
 | .own i=>bif isIn fb i then .no else
  match H[i]? with
  | some (.row _ k n _)=>bif Nat.ble 1 k then .need (0 < n) (.ref i 0) else .no
  | _=>.no
 | _=>.no
def qv (T : TT) (e : Operand → AV) (H : List AO) (fb : List Nat) : Op → QR
 | .move x=>.ok (e x)
 | .assign x=>.ok (e x)
 | .load t a=>match look T t with
  | some d=>qload H fb d (e a)
  | none=>.no
 | .fieldAddr s x f=>match look T s with
  | some d=>match d.sh with
   | .st fs=>qfieldAddr fs f (e x)
   | _=>.no
  | none=>.no
 | .field s x f=>match look T s with
  | some d=>match d.sh with
   | .st fs=>qfield fs f (e x)
   | _=>.no
  | none=>.no
 | .indexAddr t x i=>match look T t,e i with
  | some d,.im (.raw (.int _ j))=>qindexAddr H fb d.sh (e x) j
  | _,_=>.no
 | .index t x i=>match look T t,e i with
  | some d,.im (.raw (.int _ j))=>qindex d.sh (e x) j
  | _,_=>.no
 | .slice t x lo hi none=>match look T t with
  | some d=>qslice H fb d.sh (e x) (lo.map e) (hi.map e)
  | none=>.no
 | .binOp op t x y _=>match e x,e y with
  | .im (.raw (.int k a)),.im (.raw (.int k' b))=>arith2 op k a k' b
  | .im (.raw (.string a)),.im (.raw (.string b))=>strop op a b
  | .im (.raw (.bool a)),.im (.raw (.bool b))=>match look T t with
   | some ⟨_,_,_,.bo⟩=>boolop op a b
   | _=>.no
  | a,b=>match look T t with
   | some ⟨_,_,_,.po⟩=>qptr op a b
   | _=>.no
 | .unOp op _ x=>match op,e x with
  | .not,.im (.raw (.bool b))=>.ok (rb (!b))
  | .neg,.im (.raw (.int k n))=>.ok (ri k (k.wrap (0 - n)))
  | _,_=>.no
 | .convert s d x=>match look T s,look T d,e x with
  | some _,some ⟨_,_,_,.int k⟩,.im (.raw (.int _ n))=>.ok (ri k (k.wrap n))
  | some _,some ⟨_,_,_,.str⟩,.im (.raw (.string b))=>.ok (rs b)
  | some d,some ⟨_,_,_,.str⟩,x=>qbytes T H fb d.sh x
  | _,_,_=>.no
 | .extract x i=>qextract (e x) i
 | .lookup t x i true=>match look T t,e x,e i with
  | some ⟨_,_,_,.mp _ z⟩,.own j,.im (.raw (.string s))=>qlookup H fb z j s
  | _,_,_=>.no
 | .build t ps=>match look T t with
  | some d=>match d.sh with
   | .st fs=>match fillA (fun i=>(fs[i]?).map fun f=>(f.1,f.2.1)) (d.zero.map fun z=>.im (.raw z)) (ps.toList.map fun p=>(p.1,e p.2)) with
    | some cs=>.ok (.agg cs)
    | none=>.no
   | .ar _ k _=>match fillA (fun i=>some (i * k,k)) (d.zero.map fun z=>.im (.raw z)) (ps.toList.map fun p=>(p.1,e p.2)) with
    | some cs=>.ok (.agg cs)
    | none=>.no
   | _=>.no
  | none=>.no
 | .makeFunc fn a b=>match fn with
  | .func f=>.ok (.fn f (a.toList.map e) (b.toList.map e))
  | _=>.no
 | .nilCheck x=>match e x with
  | .ref i o=>.ok (.ref i o)
  | .im (.ip cs)=>.ok (.im (.ip cs))
  | .im (.fn f a b)=>.ok (.im (.fn f a b))
  | .fn f a b=>.ok (.fn f a b)
  | _=>.no
 | .call c=>match c.callee with
  | .builtin .len=>match c.args,c.argTypes with
   | ⟨[x]⟩,⟨[t]⟩=>match look T t with
    | some d=>qlen H fb d.sh (e x)
    | none=>.no
   | _,_=>.no
  | .builtin .max=>match c.args with
   | ⟨[x,y]⟩=>qmm true (e x) (e y)
   | _=>.no
  | .builtin .min=>match c.args with
   | ⟨[x,y]⟩=>qmm false (e x) (e y)
   | _=>.no
  | .builtin .unsafeSliceData=>match c.args with
   | ⟨[x]⟩=>qsdata H fb (e x)
   | _=>.no
  | _=>.no
 | _=>.no
end Go.Proofs.YtlhmaljjdpjkgaaGreatDoor
