/- Plain: what stands in the rows as elimination without fractions goes on; the determinant. -/
import Derived.Test.YtlhmaljjdpjkgaaGreatDoorTaM11
import Derived.Test.YtlhmaljjdpjkgaaGreatDoorTaM12
namespace Go.Proofs.YtlhmaljjdpjkgaaGreatDoor
open Go Go.RowKit
theorem domInt : Dom Int:=fun a b h=>Int.mul_eq_zero.1 h
def cls (P : List Nat) (x y : Nat) : Nat → Nat:=fun b=>if b < P.length then P.getD b 0 else if b = P.length then x else y
def minr (P : List Nat) (B : Nat → Nat → Int) (i k : Nat) : Int:=bm P.length (fun a b=>B a (cls P k k b)) i P.length
def lead (P : List Nat) (B : Nat → Nat → Int) : Int:=dn P.length fun a b=>B a (P.getD b 0)
theorem bix_lt {k i a : Nat} (h : a < k) : bix k i a = a:=if_pos h
theorem bix_ge {k i a : Nat} (h : k ≤ a) : bix k i a = i:=if_neg (by omega)
theorem minr_a (P : List Nat) (B : Nat → Nat → Int) (i x y : Nat) : bm P.length (fun a b=>B a (cls P x y b)) i P.length = minr P B i x:=by
 unfold minr bm
 refine dn_congr _ fun a b _ hb=>?_
 refine congrArg (B (bix P.length i a)) ?_
 by_cases h : b < P.length
 ·rw [bix_lt h]; unfold cls; rw [if_pos h,if_pos h]
 ·rw [bix_ge (by omega)]; unfold cls; simp
theorem minr_b (P : List Nat) (B : Nat → Nat → Int) (i x y : Nat) : bm P.length (fun a b=>B a (cls P x y b)) i (P.length + 1) = minr P B i y:=by
 unfold minr bm
 refine dn_congr _ fun a b _ hb=>?_
 refine congrArg (B (bix P.length i a)) ?_
 by_cases h : b < P.length
 ·rw [bix_lt h,bix_lt h]; unfold cls; rw [if_pos h,if_pos h]
 ·rw [bix_ge (by omega),bix_ge (by omega)]; unfold cls; rw [if_neg (by omega),if_neg (by omega),if_neg (by omega),if_pos rfl]
theorem minr_c (P : List Nat) (B : Nat → Nat → Int) (i x y : Nat) : bm (P.length + 1) (fun a b=>B a (cls P x y b)) i (P.length + 1) = minr (P ++ [x]) B i y:=by
 unfold minr bm
 have e : (P ++ [x]).length = P.length + 1:=by simp
 rw [e]
 refine dn_congr _ fun a b _ hb=>?_
 refine congrArg (B (bix (P.length + 1) i a)) ?_
 by_cases h : b < P.length
 ·rw [bix_lt (by omega)]; unfold cls; rw [if_pos h,if_pos (by omega)]
  simp [List.getD,List.getElem?_append_left h]
 ·by_cases h2 : b = P.length
  ·subst h2; rw [bix_lt (by omega)]; unfold cls; rw [if_neg (by omega),if_pos rfl,if_pos (by omega)]; simp [List.getD]
  ·rw [bix_ge (by omega)]; unfold cls; rw [if_neg (by omega),if_neg (by omega),if_neg (by omega),if_pos (by omega)]
theorem lead_a (P : List Nat) (B : Nat → Nat → Int) (x y : Nat) : dn P.length (fun a b=>B a (cls P x y b)) = lead P B:=
 dn_congr _ fun a b _ hb=>by unfold cls; rw [if_pos hb]
theorem lead_next (P : List Nat) (B : Nat → Nat → Int) (x : Nat) : lead (P ++ [x]) B = minr P B P.length x:=by
 unfold lead minr
 rw [bm_next]
 have e : (P ++ [x]).length = P.length + 1:=by simp
 rw [e]
 refine dn_congr _ fun a b _ hb=>?_
 refine congrArg (B a) ?_
 by_cases h : b < P.length
 ·unfold cls; rw [if_pos h]; simp [List.getD,List.getElem?_append_left h]
 ·have h2 : b = P.length:=by omega
  subst h2; unfold cls; rw [if_neg (by omega),if_pos rfl]; simp [List.getD]
theorem sylv {P : List Nat} {B : Nat → Nat → Int} (hd : lead P B ≠ 0) (i x y : Nat) : minr P B i y * minr P B P.length x - minr P B i x * minr P B P.length y = lead P B * minr (P ++ [x]) B i y:=by
 have e:=sylvester domInt (by decide) (k:=P.length) (A:=fun a b=>B a (cls P x y b)) (by rw [lead_a]; exact hd) i (P.length + 1)
 rw [lead_a,minr_c,minr_b,minr_a,minr_a,minr_b] at e
 exact e.symm
theorem minr_swp {P : List Nat} {B : Nat → Nat → Int} {i r k : Nat} (hi : P.length ≤ i) (hr : P.length ≤ r) : minr P (swp B P.length i) r k = minr P B (if r = P.length then i else if r = i then P.length else r) k:=by
 unfold minr
 refine bm_swap P.length (fun a b=>B a (cls P k k b)) (fun a b=>swp B P.length i a (cls P k k b)) (fun r=>if r = P.length then i else if r = i then P.length else r) (fun a ha=>?_) (fun a ha=>?_) hr
 ·funext b; unfold swp; rw [if_neg (by omega),if_neg (by omega)]
 ·funext b
  show swp B P.length i a _ = _
  unfold swp
  split
  ·rfl
  ·split <;> rfl
theorem lead_swp {P : List Nat} {B : Nat → Nat → Int} {i : Nat} (hi : P.length ≤ i) : lead P (swp B P.length i) = lead P B:=
 dn_congr _ fun a b ha _=>by unfold swp; rw [if_neg (by omega),if_neg (by omega)]
theorem dn_swp {n : Nat} (B : Nat → Nat → Int) {p i : Nat} (hp : p < n) (hi : i < n) : dn n (swp B p i) = if i = p then dn n B else -dn n B:=by
 by_cases h : i = p
 ·subst h; rw [swp_self,if_pos rfl]
 ·rw [if_neg h]; exact dn_swap B (fun e=>h e.symm) hp hi
structure BarI (n col : Nat) (A W : Nat → Nat → Int) (P : List Nat) (d : Int) (odd : Bool) : Prop where
 ex : ∃ B,dn n B = (if odd = true then -dn n A else dn n A) ∧ d = lead P B ∧ ∀ i k,P.length ≤ i → i < n → col ≤ k → k < n → W i k = minr P B i k
 len : P.length ≤ n
 d0 : d ≠ 0
 lt : ∀ t,t < P.length → P.getD t 0 < col
 inc : ∀ s t,s < t → t < P.length → P.getD s 0 < P.getD t 0
 zero : ∀ i k,P.length ≤ i → i < n → k < col → W i k = 0
 full : P.length = col ∨ dn n A = 0
theorem inc_ge {P : List Nat} (inc : ∀ s t,s < t → t < P.length → P.getD s 0 < P.getD t 0) : ∀ t,t < P.length → t ≤ P.getD t 0
 | 0,_=>Nat.zero_le _
 | t + 1,h=>by have:=inc_ge inc t (by omega); have:=inc t (t + 1) (by omega) h; omega
theorem inc_id {P : List Nat} {col : Nat} (inc : ∀ s t,s < t → t < P.length → P.getD s 0 < P.getD t 0) (lt : ∀ t,t < P.length → P.getD t 0 < col) (h : col ≤ P.length) : ∀ t,t < P.length → P.getD t 0 = t:=by
 intro t ht
 have key : ∀ k,t + k < P.length → P.getD t 0 + k ≤ P.getD (t + k) 0:=by
  intro k
  induction k with
  | zero=>intro _; exact Nat.le_refl _
  | succ k ih=>intro hk; have:=ih (by omega); have:=inc (t + k) (t + (k + 1)) (by omega) hk; omega
 have h1:=key (P.length - 1 - t) (by omega)
 have h2:=lt (t + (P.length - 1 - t)) (by omega)
 have h3:=inc_ge inc t ht
 omega
theorem BarI.start (n : Nat) (A : Nat → Nat → Int) : BarI n 0 A A [] 1 false:=by
 refine ⟨⟨A,rfl,rfl,fun i k _ _ _ _=>?_⟩,Nat.zero_le _,by decide,fun t h=>by simp at h,fun s t _ h=>by simp at h,fun i k _ _ h=>by omega,.inl rfl⟩
 exact (bm_zero (fun a b=>A a (cls [] k k b)) i 0).symm
theorem BarI.none {n col : Nat} {A W : Nat → Nat → Int} {P : List Nat} {d : Int} {odd : Bool} (h : BarI n col A W P d odd) (hc : col < n) (h0 : ∀ i,P.length ≤ i → i < n → W i col = 0) : BarI n (col + 1) A W P d odd:=by
 obtain ⟨B,e1,e2,e3⟩:=h.ex
 refine ⟨⟨B,e1,e2,fun i k a b c e=>e3 i k a b (by omega) e⟩,h.len,h.d0,fun t ht=>Nat.lt_succ_of_lt (h.lt t ht),h.inc,fun i k a b c=>?_,.inr ?_⟩
 ·by_cases e : k = col
  ·rw [e]; exact h0 i a b
  ·exact h.zero i k a b (by omega)
 ·rcases h.full with hf | hf
  ·have hid:=inc_id h.inc h.lt (by omega)
   obtain ⟨m,hm⟩ : ∃ m,n = P.length + (m + 1):=⟨n - P.length - 1,by omega⟩
   have hB : dn P.length B ≠ 0:=by
    have : lead P B = dn P.length B:=dn_congr _ fun a b _ hb=>by rw [hid b hb]
    rw [← this,← e2]; exact h.d0
   have hz : dn (P.length + (m + 1)) B = 0:=dn_nopivot domInt (by decide) hB fun i g1 g2=>by
    have h1:=h0 i g1 (by omega)
    rw [e3 i col g1 (by omega) (by omega) hc] at h1
    rw [← h1]
    unfold minr bm
    refine dn_congr _ fun a b _ hb=>?_
    refine congrArg (B (bix P.length i a)) ?_
    by_cases g : b < P.length
    ·rw [bix_lt g]; unfold cls; rw [if_pos g,hid b g]
    ·rw [bix_ge (by omega)]; unfold cls; simp [hf]
   rw [← hm,e1] at hz
   cases odd with
   | false=>exact hz
   | true=>rw [if_pos rfl] at hz; omega
  ·exact hf
theorem BarI.step {n col i : Nat} {A W : Nat → Nat → Int} {P : List Nat} {d : Int} {odd : Bool} (h : BarI n col A W P d odd) (hc : col < n) (hi : P.length ≤ i) (hin : i < n) (h0 : W i col ≠ 0) :
  (∀ r k,P.length < r → r < n → k < n → d ∣ swp W P.length i r k * swp W P.length i P.length col - swp W P.length i r col * swp W P.length i P.length k) ∧
  BarI n (col + 1) A (brs (swp W P.length i) P.length col d) (P ++ [col]) (swp W P.length i P.length col) (odd != decide (i ≠ P.length)):=by
 obtain ⟨B,e1,e2,e3⟩:=h.ex
 have hp : P.length < n:=by omega
 have hV : ∀ r k,P.length ≤ r → r < n → col ≤ k → k < n → swp W P.length i r k = minr P (swp B P.length i) r k:=by
  intro r k g1 g2 g3 g4
  rw [minr_swp hi g1]
  unfold swp
  split
  ·exact e3 i k hi hin g3 g4
  ·split
   ·exact e3 _ k (Nat.le_refl _) hp g3 g4
   ·exact e3 r k g1 g2 g3 g4
 have hZ : ∀ r k,P.length ≤ r → r < n → k < col → swp W P.length i r k = 0:=by
  intro r k g1 g2 g3
  unfold swp
  split
  ·exact h.zero i k hi hin g3
  ·split
   ·exact h.zero _ k (Nat.le_refl _) hp g3
   ·exact h.zero r k g1 g2 g3
 have hl : d = lead P (swp B P.length i):=by rw [lead_swp hi]; exact e2
 have hd : lead P (swp B P.length i) ≠ 0:=by rw [← hl]; exact h.d0
 have hS : ∀ r k,P.length < r → r < n → col ≤ k → k < n → swp W P.length i r k * swp W P.length i P.length col - swp W P.length i r col * swp W P.length i P.length k = d * minr (P ++ [col]) (swp B P.length i) r k:=by
  intro r k g1 g2 g3 g4
  rw [hV r k (by omega) g2 g3 g4,hV _ col (Nat.le_refl _) hp (Nat.le_refl _) hc,hV r col (by omega) g2 (Nat.le_refl _) hc,hV _ k (Nat.le_refl _) hp g3 g4,hl]
  exact sylv hd r col k
 have h00 : ∀ r k,P.length < r → r < n → k < col → swp W P.length i r k * swp W P.length i P.length col - swp W P.length i r col * swp W P.length i P.length k = 0:=by
  intro r k g1 g2 g3
  rw [hZ r k (by omega) g2 g3,hZ _ k (Nat.le_refl _) hp g3]; simp
 refine ⟨fun r k g1 g2 g3=>?_,?_⟩
 ·by_cases g : k < col
  ·rw [h00 r k g1 g2 g]; exact Int.dvd_zero _
  ·rw [hS r k g1 g2 (by omega) g3]; exact Int.dvd_mul_right _ _
 ·have hlen : (P ++ [col]).length = P.length + 1:=by simp
  refine ⟨⟨swp B P.length i,?_,?_,fun r k g1 g2 g3 g4=>?_⟩,by omega,?_,fun t ht=>?_,fun s t hst ht=>?_,fun r k g1 g2 g3=>?_,?_⟩
  ·rw [dn_swp B hp hin,e1]
   by_cases hi2 : i = P.length
   ·simp [hi2]
   ·cases odd <;> simp [hi2]
  ·rw [lead_next]; exact hV _ col (Nat.le_refl _) hp (Nat.le_refl _) hc
  ·unfold brs; rw [if_pos (by omega),hS r k (by omega) g2 (by omega) g4]
   exact Int.mul_ediv_cancel_left _ h.d0
  ·show swp W P.length i P.length col ≠ 0
   unfold swp; rw [if_pos rfl]; exact h0
  ·rcases getD_app ht with ⟨a,b⟩ | ⟨a,b⟩
   ·rw [b]; exact Nat.lt_succ_of_lt (h.lt t a)
   ·rw [b]; exact Nat.lt_succ_self _
  ·rcases getD_app ht with ⟨a,b⟩ | ⟨a,b⟩
   ·rcases getD_app (show s < (P ++ [col]).length by omega) with ⟨c,e⟩ | ⟨c,e⟩
    ·rw [b,e]; exact h.inc s t hst a
    ·omega
   ·rcases getD_app (show s < (P ++ [col]).length by omega) with ⟨c,e⟩ | ⟨c,e⟩
    ·rw [b,e]; exact h.lt s c
    ·omega
  ·unfold brs; rw [if_pos (by omega)]
   by_cases g : k < col
   ·rw [h00 r k (by omega) g2 g]; simp
   ·have : k = col:=by omega
    subst this
    rw [Int.sub_self]; simp
  ·rcases h.full with g | g
   ·exact .inl (by omega)
   ·exact .inr g
theorem BarI.done {n col : Nat} {A W : Nat → Nat → Int} {P : List Nat} {d : Int} {odd : Bool} (h : BarI n col A W P d odd) (hc : col ≤ n) : (P.length < n → col = n → dn n A = 0) ∧ (P.length = n → dn n A = if odd = true then -d else d):=by
 obtain ⟨B,e1,e2,e3⟩:=h.ex
 refine ⟨fun g1 g2=>?_,fun g=>?_⟩
 ·rcases h.full with f | f
  ·omega
  ·exact f
 ·have hid:=inc_id h.inc h.lt (by omega)
  have : lead P B = dn n B:=by
   unfold lead; rw [g]; exact dn_congr _ fun a b _ hb=>by rw [hid b (by omega)]
  rw [e2,this,e1]
  cases odd <;> simp
set_option maxHeartbeats 4000000
structure At5 {α β γ δ ε : Type} (I : α → β → γ → δ → ε → Prop) (l : α → β → γ → δ → ε → List (Nat × AV)) (h : α → β → γ → δ → ε → List AO) (s : α × β × γ × δ × ε) (t : Nat → AV) (H : List AO) : Prop where
 i : I s.1 s.2.1 s.2.2.1 s.2.2.2.1 s.2.2.2.2
 t : Ts (l s.1 s.2.1 s.2.2.1 s.2.2.2.1 s.2.2.2.2) t
 h : H = h s.1 s.2.1 s.2.2.1 s.2.2.2.1 s.2.2.2.2
def ms5 {α β γ δ ε : Type} (m : α → β → γ → δ → ε → Nat) (s : α × β × γ × δ × ε) : Nat:=m s.1 s.2.1 s.2.2.1 s.2.2.2.1 s.2.2.2.2
theorem lpt5 {α β γ δ ε : Type} (I : α → β → γ → δ → ε → Prop) (l : α → β → γ → δ → ε → List (Nat × AV)) (h : α → β → γ → δ → ε → List AO) (m : α → β → γ → δ → ε → Nat) (a : α) (b : β) (c : γ) (d : δ) (e : ε) {R : Nat → Bool} {F : (Nat → AV) → List AO → KK → Prop} {t : Nat → AV} {H : List AO} {K : KK} (h0 : I a b c d e) (ht : Ts (l a b c d e) t) (hh : H = h a b c d e)
  (hr : ∀ a b c d e t,I a b c d e → F (mkT (l a b c d e) t) (h a b c d e) (rndK R (At5 I l h) (ms5 m) (a,b,c,d,e) K)) : Loop R F t H K:=
 lp (At5 I l h) (ms5 m) (a,b,c,d,e) ⟨h0,ht,hh⟩ fun s t H hs=>by
  obtain ⟨a,b,c,d,e⟩:=s
  have e':=hs.t.mk
  rw [e',hs.h]; exact hr a b c d e t hs.i
theorem nx5 {α β γ δ ε : Type} {I : α → β → γ → δ → ε → Prop} {l : α → β → γ → δ → ε → List (Nat × AV)} {h : α → β → γ → δ → ε → List AO} {m : α → β → γ → δ → ε → Nat} {a : α} {b : β} {c : γ} {d : δ} {e : ε} {R : Nat → Bool} {t : Nat → AV} {H : List AO} (a' : α) (b' : β) (c' : γ) (d' : δ) (e' : ε) (hm : m a' b' c' d' e' < m a b c d e) (h0 : I a' b' c' d' e') (ht : Ts (l a' b' c' d' e') t) (hh : H = h a' b' c' d' e') : Nx R (At5 I l h) (ms5 m) (a,b,c,d,e) t H:=
 nx (a',b',c',d',e') hm ⟨h0,ht,hh⟩
def LZ : Nat → Nat
 | 0=>5
 | k + 1=>2 * LZ k + 2
theorem LZ_le : ∀ {k : Nat},k ≤ 4 → LZ k ≤ 300:=by
 have : ∀ k : Nat,k < 5 → LZ k ≤ 300:=by decide
 exact fun {k} h=>this k (by omega)
theorem li_ediv {a b : Int} (h : b ∣ a) : li (a / b) ≤ li a:=by
 obtain ⟨c,rfl⟩:=h
 by_cases hb : b = 0
 ·subst hb; simp [Int.ediv_zero]
 ·rw [Int.mul_ediv_cancel_left _ hb]
  refine li_le ?_
  rw [Int.natAbs_mul]
  exact Nat.le_mul_of_pos_left _ (by omega)
theorem swp_zb {n m L p i : Nat} {W : Nat → Nat → Int} (hp : p < n) (hi : i < n) (h : ZB L n m W) : ZB L n m (swp W p i):=by
 intro r k hr hk
 unfold swp; (repeat' split) <;> first | exact h i k hi hk | exact h p k hp hk | exact h r k hr hk
theorem brs_zb {n L p col : Nat} {W : Nat → Nat → Int} {d : Int} (hp : p < n) (hc : col < n) (h : ZB L n n W) (hx : ∀ r k,p < r → r < n → k < n → d ∣ W r k * W p col - W r col * W p k) : ZB (2 * L + 2) n n (brs W p col d):=by
 intro r k hr hk
 unfold brs
 split
 ·rename_i g
  refine Nat.le_trans (li_ediv (hx r k g hr hk)) (Nat.le_trans (li_sub _ _) ?_)
  have a1:=li_mul (W r k) (W p col); have a2:=li_mul (W r col) (W p k)
  have b1:=h r k hr hk; have b2:=h p col hp hc; have b3:=h r col hr hc; have b4:=h p k hp hk
  omega
 ·have:=h r k hr hk; omega
theorem b_fd1 {m col : Nat} {W : Nat → Nat → Int} {P : List Nat} {d : Int} {odd : Bool} (hq : P.length < 1) (hm : m ≤ 64) (hc : col < m) (hl : ∀ i,i < 1 → li (W i col) ≤ 100000) :
  Ec Tryz.prog 563 (fun i=>(Nat.ble 1 i && Nat.ble i 1) || Nat.ble 4 i) (hb1 m W P.length P d odd) [.ref 3 0,ri .i64 col]
   (fun x H'=>(x = rb false ∧ H' = hb1 m W P.length P d odd ∧ ∀ i,P.length ≤ i → i < 1 → W i col = 0) ∨ ∃ i,P.length ≤ i ∧ i < 1 ∧ W i col ≠ 0 ∧ x = rb true ∧ H' = hb1 m (swp W P.length i) P.length P d (odd != decide (i ≠ P.length))):=by
 obtain ⟨q,e⟩ : ∃ q,q = P.length:=⟨_,rfl⟩
 rw [← e] at hq ⊢
 match q,hq with
 | 0,_=>exact b_find1_0 hm hc hl
theorem b_cl1 {m col : Nat} {W : Nat → Nat → Int} {P : List Nat} {d : Int} {odd : Bool} (hq : P.length < 1) (hm : m ≤ 64) (hc : col < m) (hl : ZB 2000 1 m W) (hd : d ≠ 0) (hdl : li d ≤ 2000) (hx : ∀ i k,P.length < i → i < 1 → k < m → d ∣ W i k * W P.length col - W i col * W P.length k) :
  Ec Tryz.prog 564 (fun i=>Nat.beq i 0 || Nat.ble 4 i) (hb1 m W P.length P d odd) [.ref 3 0,ri .i64 col] (Is (.tup []) (hb1 m (brs W P.length col d) (P.length + 1) (P ++ [col]) (W P.length col) odd)):=by
 obtain ⟨q,e⟩ : ∃ q,q = P.length:=⟨_,rfl⟩
 rw [← e] at hq hx ⊢
 match q,hq,hx with
 | 0,_,hx=>exact b_clear1_0 hm hc hl hd hdl hx
theorem b_fd2 {m col : Nat} {W : Nat → Nat → Int} {P : List Nat} {d : Int} {odd : Bool} (hq : P.length < 2) (hm : m ≤ 64) (hc : col < m) (hl : ∀ i,i < 2 → li (W i col) ≤ 100000) :
  Ec Tryz.prog 563 (fun i=>(Nat.ble 1 i && Nat.ble i 2) || Nat.ble 5 i) (hb2 m W P.length P d odd) [.ref 4 0,ri .i64 col]
   (fun x H'=>(x = rb false ∧ H' = hb2 m W P.length P d odd ∧ ∀ i,P.length ≤ i → i < 2 → W i col = 0) ∨ ∃ i,P.length ≤ i ∧ i < 2 ∧ W i col ≠ 0 ∧ x = rb true ∧ H' = hb2 m (swp W P.length i) P.length P d (odd != decide (i ≠ P.length))):=by
 obtain ⟨q,e⟩ : ∃ q,q = P.length:=⟨_,rfl⟩
 rw [← e] at hq ⊢
 match q,hq with
 | 0,_=>exact b_find2_0 hm hc hl
 | 1,_=>exact b_find2_1 hm hc hl
theorem b_cl2 {m col : Nat} {W : Nat → Nat → Int} {P : List Nat} {d : Int} {odd : Bool} (hq : P.length < 2) (hm : m ≤ 64) (hc : col < m) (hl : ZB 2000 2 m W) (hd : d ≠ 0) (hdl : li d ≤ 2000) (hx : ∀ i k,P.length < i → i < 2 → k < m → d ∣ W i k * W P.length col - W i col * W P.length k) :
  Ec Tryz.prog 564 (fun i=>Nat.beq i 0 || Nat.ble 5 i) (hb2 m W P.length P d odd) [.ref 4 0,ri .i64 col] (Is (.tup []) (hb2 m (brs W P.length col d) (P.length + 1) (P ++ [col]) (W P.length col) odd)):=by
 obtain ⟨q,e⟩ : ∃ q,q = P.length:=⟨_,rfl⟩
 rw [← e] at hq hx ⊢
 match q,hq,hx with
 | 0,_,hx=>exact b_clear2_0 hm hc hl hd hdl hx
 | 1,_,hx=>exact b_clear2_1 hm hc hl hd hdl hx
theorem b_fd3 {m col : Nat} {W : Nat → Nat → Int} {P : List Nat} {d : Int} {odd : Bool} (hq : P.length < 3) (hm : m ≤ 64) (hc : col < m) (hl : ∀ i,i < 3 → li (W i col) ≤ 100000) :
  Ec Tryz.prog 563 (fun i=>(Nat.ble 1 i && Nat.ble i 3) || Nat.ble 6 i) (hb3 m W P.length P d odd) [.ref 5 0,ri .i64 col]
   (fun x H'=>(x = rb false ∧ H' = hb3 m W P.length P d odd ∧ ∀ i,P.length ≤ i → i < 3 → W i col = 0) ∨ ∃ i,P.length ≤ i ∧ i < 3 ∧ W i col ≠ 0 ∧ x = rb true ∧ H' = hb3 m (swp W P.length i) P.length P d (odd != decide (i ≠ P.length))):=by
 obtain ⟨q,e⟩ : ∃ q,q = P.length:=⟨_,rfl⟩
 rw [← e] at hq ⊢
 match q,hq with
 | 0,_=>exact b_find3_0 hm hc hl
 | 1,_=>exact b_find3_1 hm hc hl
 | 2,_=>exact b_find3_2 hm hc hl
theorem b_cl3 {m col : Nat} {W : Nat → Nat → Int} {P : List Nat} {d : Int} {odd : Bool} (hq : P.length < 3) (hm : m ≤ 64) (hc : col < m) (hl : ZB 2000 3 m W) (hd : d ≠ 0) (hdl : li d ≤ 2000) (hx : ∀ i k,P.length < i → i < 3 → k < m → d ∣ W i k * W P.length col - W i col * W P.length k) :
  Ec Tryz.prog 564 (fun i=>Nat.beq i 0 || Nat.ble 6 i) (hb3 m W P.length P d odd) [.ref 5 0,ri .i64 col] (Is (.tup []) (hb3 m (brs W P.length col d) (P.length + 1) (P ++ [col]) (W P.length col) odd)):=by
 obtain ⟨q,e⟩ : ∃ q,q = P.length:=⟨_,rfl⟩
 rw [← e] at hq hx ⊢
 match q,hq,hx with
 | 0,_,hx=>exact b_clear3_0 hm hc hl hd hdl hx
 | 1,_,hx=>exact b_clear3_1 hm hc hl hd hdl hx
 | 2,_,hx=>exact b_clear3_2 hm hc hl hd hdl hx
theorem b_fd4 {m col : Nat} {W : Nat → Nat → Int} {P : List Nat} {d : Int} {odd : Bool} (hq : P.length < 4) (hm : m ≤ 64) (hc : col < m) (hl : ∀ i,i < 4 → li (W i col) ≤ 100000) :
  Ec Tryz.prog 563 (fun i=>(Nat.ble 1 i && Nat.ble i 4) || Nat.ble 7 i) (hb4 m W P.length P d odd) [.ref 6 0,ri .i64 col]
   (fun x H'=>(x = rb false ∧ H' = hb4 m W P.length P d odd ∧ ∀ i,P.length ≤ i → i < 4 → W i col = 0) ∨ ∃ i,P.length ≤ i ∧ i < 4 ∧ W i col ≠ 0 ∧ x = rb true ∧ H' = hb4 m (swp W P.length i) P.length P d (odd != decide (i ≠ P.length))):=by
 obtain ⟨q,e⟩ : ∃ q,q = P.length:=⟨_,rfl⟩
 rw [← e] at hq ⊢
 match q,hq with
 | 0,_=>exact b_find4_0 hm hc hl
 | 1,_=>exact b_find4_1 hm hc hl
 | 2,_=>exact b_find4_2 hm hc hl
 | 3,_=>exact b_find4_3 hm hc hl
theorem b_cl4 {m col : Nat} {W : Nat → Nat → Int} {P : List Nat} {d : Int} {odd : Bool} (hq : P.length < 4) (hm : m ≤ 64) (hc : col < m) (hl : ZB 2000 4 m W) (hd : d ≠ 0) (hdl : li d ≤ 2000) (hx : ∀ i k,P.length < i → i < 4 → k < m → d ∣ W i k * W P.length col - W i col * W P.length k) :
  Ec Tryz.prog 564 (fun i=>Nat.beq i 0 || Nat.ble 7 i) (hb4 m W P.length P d odd) [.ref 6 0,ri .i64 col] (Is (.tup []) (hb4 m (brs W P.length col d) (P.length + 1) (P ++ [col]) (W P.length col) odd)):=by
 obtain ⟨q,e⟩ : ∃ q,q = P.length:=⟨_,rfl⟩
 rw [← e] at hq hx ⊢
 match q,hq,hx with
 | 0,_,hx=>exact b_clear4_0 hm hc hl hd hdl hx
 | 1,_,hx=>exact b_clear4_1 hm hc hl hd hdl hx
 | 2,_,hx=>exact b_clear4_2 hm hc hl hd hdl hx
 | 3,_,hx=>exact b_clear4_3 hm hc hl hd hdl hx
theorem b_run1 {A : Nat → Nat → Int} (ha : ZB 5 1 1 A) : Ec Tryz.prog 526 (fun i=>!Nat.beq i 3) (ho1 1 A) [.ref 3 0]
  (fun x H'=>x = .tup [] ∧ ∃ col W P d odd,H' = hb1 1 W P.length P d odd ∧ BarI 1 col A W P d odd ∧ col ≤ 1 ∧ (P.length = 1 ∨ col = 1) ∧ li d ≤ 300):=by
 have h1 : li 1 = 1:=ln_one
 refine ec Tryz.func526 ?_
 refine lfb 3 2 3 1 rfl rfl ?_
 refine lgc [4,1,2,3] rfl ?_
 refine lpt5 (fun (col : Nat) (W : Nat → Nat → Int) (P : List Nat) (d : Int) (odd : Bool)=>BarI 1 col A W P d odd ∧ col ≤ 1 ∧ ZB (LZ col) 1 1 W ∧ li d ≤ LZ col) (fun col _ _ _ _=>[(0,.ref 3 0),(2,ri .i64 col)])
  (fun _ W P d odd=>hb1 1 W P.length P d odd) (fun col _ _ _ _=>1 - col) 0 A [] 1 false ⟨BarI.start 1 A,by decide,ha,by rw [h1]; decide⟩ (tsr rfl) rfl ?_
 rintro col W P d odd t ⟨hR,hc,hl,hdl⟩
 have hL:=LZ_le (k:=col) (by omega)
 by_cases hcm : col < 1
 ·have hb : decide ((col : Int) < (1 : Int)) = true:=decide_eq_true (by omega)
  refine rq [0,1,2,3,4,5,6,7,8,9,10,11,12,13,14,15,16,17,18] ?_
  iterate 11 refine gt hb ?_
  refine tw hb ?_
  refine ifs rfl (fun hp=>?_) (fun hp=>?_)
  ·have hp:=of_decide_eq_true hp
   have hp : P.length < 1:=by omega
   refine cxg [0,1,2,3] 4 [1] (b_fd1 hp (m:=1) (by decide) hcm (fun i hi=>by have:=hl i col hi hcm; omega)) rfl rfl rfl rfl ?_
   rintro _ _ (⟨rfl,rfl,h0⟩ | ⟨i,h1,h2,h3,rfl,rfl⟩)
   ·refine ⟨.inl rfl,?_⟩
    refine iff_ rfl rfl ?_
    exact nx5 (col + 1) W P d odd (by omega) ⟨hR.none hcm h0,by omega,hl.mono (by show LZ col ≤ 2 * LZ col + 2; omega),by show li d ≤ 2 * LZ col + 2; omega⟩ ⟨rfl,congrArg (ri .i64) (i64s (by omega)).symm,trivial⟩ rfl
   ·refine ⟨.inl rfl,?_⟩
    obtain ⟨s1,s2⟩:=hR.step hcm h1 h2 h3
    have hV:=swp_zb hp h2 hl
    refine ift rfl rfl ?_
    refine cxg [0,1,2,3] 4 [0] (b_cl1 hp (m:=1) (by decide) hcm (hV.mono (by omega)) hR.d0 (by omega) s1) rfl rfl rfl rfl ?_
    rintro _ _ ⟨rfl,rfl⟩
    refine ⟨.inl rfl,?_⟩
    refine nx5 (col + 1) (brs (swp W P.length i) P.length col d) (P ++ [col]) (swp W P.length i P.length col) (odd != decide (i ≠ P.length)) (by omega) ⟨s2,by omega,brs_zb hp hcm hV s1,?_⟩ ⟨rfl,congrArg (ri .i64) (i64s (by omega)).symm,trivial⟩ ?_
    ·show li _ ≤ 2 * LZ col + 2
     have:=hV P.length col hp hcm; omega
    ·exact congrArg (fun k=>hb1 1 (brs (swp W P.length i) P.length col d) k (P ++ [col]) (swp W P.length i P.length col) (odd != decide (i ≠ P.length))) (by simp)
  ·have hp:=of_decide_eq_false hp
   exact fin0 ⟨rfl,col,W,P,d,odd,rfl,hR,hc,.inl (Nat.le_antisymm hR.len (by omega)),by omega⟩
 ·have hb : decide ((col : Int) < (1 : Int)) = false:=decide_eq_false (by omega)
  refine rq [0,1,2,3,4,5,6,7,8,9,10,11,12,13,14,15,16,17,18] ?_
  iterate 11 refine gf hb ?_
  refine tf hb ?_
  refine iff_ rfl rfl ?_
  exact fin0 ⟨rfl,col,W,P,d,odd,rfl,hR,hc,.inr (by omega),by omega⟩
theorem b_done1 {A : Nat → Nat → Int} (ha : ZB 5 1 1 A) : Pc Tryz.prog 462 [zM 1 1 A] (fun r=>∃ (W : Nat → Nat → Int) (P : List Nat) (d : Int) (odd : Bool),r = .tup [.ip [.sl 1 1 [.sl 1 2 (zC 1 (W 0))],.raw (.int .i64 (1 : Nat)),.sl P.length 1 (pvs P),.raw (.bool (decide (d < 0))),na d.natAbs,.raw (.bool odd)],.raw (.int .i64 0)] ∧ P.length ≤ 1 ∧ (P.length < 1 → dn 1 A = 0) ∧ (P.length = 1 → dn 1 A = if odd = true then -d else d) ∧ li d ≤ 300):=by
 refine pc Tryz.func462 ?_
 refine ce (z_Formed (r:=1) (c:=1) (es:=(tq 1 A (1 * 1)).map zc) (by decide) (by decide) (by rw [List.length_map,tq_len])) rfl ?_
 refine iff_ rfl rfl ?_
 refine cxg [] 0 [] (b_begun1 (m:=1) (A:=A) (by decide) (ha.mono (by decide))) rfl rfl rfl rfl ?_
 rintro _ _ ⟨rfl,rfl⟩
 refine ⟨.inr rfl,?_⟩
 refine cxg [0,1,2,3] 4 [0,1,2] (b_run1 ha) rfl rfl rfl rfl ?_
 rintro _ _ ⟨rfl,col,W,P,d,odd,rfl,hR,hc,hf,hdl⟩
 refine ⟨.inl rfl,?_⟩
 obtain ⟨d1,d2⟩:=hR.done hc
 exact ⟨W,P,d,odd,rfl,hR.len,fun h=>d1 h (by omega),d2,hdl⟩
theorem b_Det1 {A : Nat → Nat → Int} (ha : ZB 5 1 1 A) : Pc Tryz.prog 370 [zM 1 1 A] (· = .tup [iz (dn 1 A),.raw (.int .i64 0)]):=by
 refine Pc.weak ?_
 refine pc Tryz.func370 ?_
 refine iff_ rfl rfl ?_
 refine cl (b_done1 ha) rfl ?_
 rintro _ ⟨W,P,d,odd,rfl,h1,h2,h3,h4⟩
 refine iff_ rfl rfl ?_
 refine rq [0,1,2,3,4,5,6,7,8] ?_
 refine ifs rfl (fun h=>?_) (fun h=>?_)
 ·have h:=of_decide_eq_true h
  rw [h2 (by omega)]
  exact Sub.tup ⟨z_nil,Sub.refl _,trivial⟩
 ·have h:=of_decide_eq_false h
  rw [h3 (by omega)]
  cases odd with
  | true=>
   refine ift rfl rfl ?_
   refine ce (z_Neg (z:=d) (by omega)) rfl ?_
   exact Sub.refl _
  | false=>
   refine iff_ rfl rfl ?_
   exact Sub.refl _
theorem b_run2 {A : Nat → Nat → Int} (ha : ZB 5 2 2 A) : Ec Tryz.prog 526 (fun i=>!Nat.beq i 4) (ho2 2 A) [.ref 4 0]
  (fun x H'=>x = .tup [] ∧ ∃ col W P d odd,H' = hb2 2 W P.length P d odd ∧ BarI 2 col A W P d odd ∧ col ≤ 2 ∧ (P.length = 2 ∨ col = 2) ∧ li d ≤ 300):=by
 have h1 : li 1 = 1:=ln_one
 refine ec Tryz.func526 ?_
 refine lfb 4 2 3 1 rfl rfl ?_
 refine lgc [5,1,2,3,4] rfl ?_
 refine lpt5 (fun (col : Nat) (W : Nat → Nat → Int) (P : List Nat) (d : Int) (odd : Bool)=>BarI 2 col A W P d odd ∧ col ≤ 2 ∧ ZB (LZ col) 2 2 W ∧ li d ≤ LZ col) (fun col _ _ _ _=>[(0,.ref 4 0),(2,ri .i64 col)])
  (fun _ W P d odd=>hb2 2 W P.length P d odd) (fun col _ _ _ _=>2 - col) 0 A [] 1 false ⟨BarI.start 2 A,by decide,ha,by rw [h1]; decide⟩ (tsr rfl) rfl ?_
 rintro col W P d odd t ⟨hR,hc,hl,hdl⟩
 have hL:=LZ_le (k:=col) (by omega)
 by_cases hcm : col < 2
 ·have hb : decide ((col : Int) < (2 : Int)) = true:=decide_eq_true (by omega)
  refine rq [0,1,2,3,4,5,6,7,8,9,10,11,12,13,14,15,16,17,18] ?_
  iterate 11 refine gt hb ?_
  refine tw hb ?_
  refine ifs rfl (fun hp=>?_) (fun hp=>?_)
  ·have hp:=of_decide_eq_true hp
   have hp : P.length < 2:=by omega
   refine cxg [0,1,2,3,4] 5 [1,2] (b_fd2 hp (m:=2) (by decide) hcm (fun i hi=>by have:=hl i col hi hcm; omega)) rfl rfl rfl rfl ?_
   rintro _ _ (⟨rfl,rfl,h0⟩ | ⟨i,h1,h2,h3,rfl,rfl⟩)
   ·refine ⟨.inl rfl,?_⟩
    refine iff_ rfl rfl ?_
    exact nx5 (col + 1) W P d odd (by omega) ⟨hR.none hcm h0,by omega,hl.mono (by show LZ col ≤ 2 * LZ col + 2; omega),by show li d ≤ 2 * LZ col + 2; omega⟩ ⟨rfl,congrArg (ri .i64) (i64s (by omega)).symm,trivial⟩ rfl
   ·refine ⟨.inl rfl,?_⟩
    obtain ⟨s1,s2⟩:=hR.step hcm h1 h2 h3
    have hV:=swp_zb hp h2 hl
    refine ift rfl rfl ?_
    refine cxg [0,1,2,3,4] 5 [0] (b_cl2 hp (m:=2) (by decide) hcm (hV.mono (by omega)) hR.d0 (by omega) s1) rfl rfl rfl rfl ?_
    rintro _ _ ⟨rfl,rfl⟩
    refine ⟨.inl rfl,?_⟩
    refine nx5 (col + 1) (brs (swp W P.length i) P.length col d) (P ++ [col]) (swp W P.length i P.length col) (odd != decide (i ≠ P.length)) (by omega) ⟨s2,by omega,brs_zb hp hcm hV s1,?_⟩ ⟨rfl,congrArg (ri .i64) (i64s (by omega)).symm,trivial⟩ ?_
    ·show li _ ≤ 2 * LZ col + 2
     have:=hV P.length col hp hcm; omega
    ·exact congrArg (fun k=>hb2 2 (brs (swp W P.length i) P.length col d) k (P ++ [col]) (swp W P.length i P.length col) (odd != decide (i ≠ P.length))) (by simp)
  ·have hp:=of_decide_eq_false hp
   exact fin0 ⟨rfl,col,W,P,d,odd,rfl,hR,hc,.inl (Nat.le_antisymm hR.len (by omega)),by omega⟩
 ·have hb : decide ((col : Int) < (2 : Int)) = false:=decide_eq_false (by omega)
  refine rq [0,1,2,3,4,5,6,7,8,9,10,11,12,13,14,15,16,17,18] ?_
  iterate 11 refine gf hb ?_
  refine tf hb ?_
  refine iff_ rfl rfl ?_
  exact fin0 ⟨rfl,col,W,P,d,odd,rfl,hR,hc,.inr (by omega),by omega⟩
theorem b_done2 {A : Nat → Nat → Int} (ha : ZB 5 2 2 A) : Pc Tryz.prog 462 [zM 2 2 A] (fun r=>∃ (W : Nat → Nat → Int) (P : List Nat) (d : Int) (odd : Bool),r = .tup [.ip [.sl 2 1 [.sl 2 2 (zC 2 (W 0)),.sl 2 2 (zC 2 (W 1))],.raw (.int .i64 (2 : Nat)),.sl P.length 1 (pvs P),.raw (.bool (decide (d < 0))),na d.natAbs,.raw (.bool odd)],.raw (.int .i64 0)] ∧ P.length ≤ 2 ∧ (P.length < 2 → dn 2 A = 0) ∧ (P.length = 2 → dn 2 A = if odd = true then -d else d) ∧ li d ≤ 300):=by
 refine pc Tryz.func462 ?_
 refine ce (z_Formed (r:=2) (c:=2) (es:=(tq 2 A (2 * 2)).map zc) (by decide) (by decide) (by rw [List.length_map,tq_len])) rfl ?_
 refine iff_ rfl rfl ?_
 refine cxg [] 0 [] (b_begun2 (m:=2) (A:=A) (by decide) (ha.mono (by decide))) rfl rfl rfl rfl ?_
 rintro _ _ ⟨rfl,rfl⟩
 refine ⟨.inr rfl,?_⟩
 refine cxg [0,1,2,3,4] 5 [0,1,2,3] (b_run2 ha) rfl rfl rfl rfl ?_
 rintro _ _ ⟨rfl,col,W,P,d,odd,rfl,hR,hc,hf,hdl⟩
 refine ⟨.inl rfl,?_⟩
 obtain ⟨d1,d2⟩:=hR.done hc
 exact ⟨W,P,d,odd,rfl,hR.len,fun h=>d1 h (by omega),d2,hdl⟩
theorem b_Det2 {A : Nat → Nat → Int} (ha : ZB 5 2 2 A) : Pc Tryz.prog 370 [zM 2 2 A] (· = .tup [iz (dn 2 A),.raw (.int .i64 0)]):=by
 refine Pc.weak ?_
 refine pc Tryz.func370 ?_
 refine iff_ rfl rfl ?_
 refine cl (b_done2 ha) rfl ?_
 rintro _ ⟨W,P,d,odd,rfl,h1,h2,h3,h4⟩
 refine iff_ rfl rfl ?_
 refine rq [0,1,2,3,4,5,6,7,8] ?_
 refine ifs rfl (fun h=>?_) (fun h=>?_)
 ·have h:=of_decide_eq_true h
  rw [h2 (by omega)]
  exact Sub.tup ⟨z_nil,Sub.refl _,trivial⟩
 ·have h:=of_decide_eq_false h
  rw [h3 (by omega)]
  cases odd with
  | true=>
   refine ift rfl rfl ?_
   refine ce (z_Neg (z:=d) (by omega)) rfl ?_
   exact Sub.refl _
  | false=>
   refine iff_ rfl rfl ?_
   exact Sub.refl _
theorem b_run3 {A : Nat → Nat → Int} (ha : ZB 5 3 3 A) : Ec Tryz.prog 526 (fun i=>!Nat.beq i 5) (ho3 3 A) [.ref 5 0]
  (fun x H'=>x = .tup [] ∧ ∃ col W P d odd,H' = hb3 3 W P.length P d odd ∧ BarI 3 col A W P d odd ∧ col ≤ 3 ∧ (P.length = 3 ∨ col = 3) ∧ li d ≤ 300):=by
 have h1 : li 1 = 1:=ln_one
 refine ec Tryz.func526 ?_
 refine lfb 5 2 3 1 rfl rfl ?_
 refine lgc [6,1,2,3,4,5] rfl ?_
 refine lpt5 (fun (col : Nat) (W : Nat → Nat → Int) (P : List Nat) (d : Int) (odd : Bool)=>BarI 3 col A W P d odd ∧ col ≤ 3 ∧ ZB (LZ col) 3 3 W ∧ li d ≤ LZ col) (fun col _ _ _ _=>[(0,.ref 5 0),(2,ri .i64 col)])
  (fun _ W P d odd=>hb3 3 W P.length P d odd) (fun col _ _ _ _=>3 - col) 0 A [] 1 false ⟨BarI.start 3 A,by decide,ha,by rw [h1]; decide⟩ (tsr rfl) rfl ?_
 rintro col W P d odd t ⟨hR,hc,hl,hdl⟩
 have hL:=LZ_le (k:=col) (by omega)
 by_cases hcm : col < 3
 ·have hb : decide ((col : Int) < (3 : Int)) = true:=decide_eq_true (by omega)
  refine rq [0,1,2,3,4,5,6,7,8,9,10,11,12,13,14,15,16,17,18] ?_
  iterate 11 refine gt hb ?_
  refine tw hb ?_
  refine ifs rfl (fun hp=>?_) (fun hp=>?_)
  ·have hp:=of_decide_eq_true hp
   have hp : P.length < 3:=by omega
   refine cxg [0,1,2,3,4,5] 6 [1,2,3] (b_fd3 hp (m:=3) (by decide) hcm (fun i hi=>by have:=hl i col hi hcm; omega)) rfl rfl rfl rfl ?_
   rintro _ _ (⟨rfl,rfl,h0⟩ | ⟨i,h1,h2,h3,rfl,rfl⟩)
   ·refine ⟨.inl rfl,?_⟩
    refine iff_ rfl rfl ?_
    exact nx5 (col + 1) W P d odd (by omega) ⟨hR.none hcm h0,by omega,hl.mono (by show LZ col ≤ 2 * LZ col + 2; omega),by show li d ≤ 2 * LZ col + 2; omega⟩ ⟨rfl,congrArg (ri .i64) (i64s (by omega)).symm,trivial⟩ rfl
   ·refine ⟨.inl rfl,?_⟩
    obtain ⟨s1,s2⟩:=hR.step hcm h1 h2 h3
    have hV:=swp_zb hp h2 hl
    refine ift rfl rfl ?_
    refine cxg [0,1,2,3,4,5] 6 [0] (b_cl3 hp (m:=3) (by decide) hcm (hV.mono (by omega)) hR.d0 (by omega) s1) rfl rfl rfl rfl ?_
    rintro _ _ ⟨rfl,rfl⟩
    refine ⟨.inl rfl,?_⟩
    refine nx5 (col + 1) (brs (swp W P.length i) P.length col d) (P ++ [col]) (swp W P.length i P.length col) (odd != decide (i ≠ P.length)) (by omega) ⟨s2,by omega,brs_zb hp hcm hV s1,?_⟩ ⟨rfl,congrArg (ri .i64) (i64s (by omega)).symm,trivial⟩ ?_
    ·show li _ ≤ 2 * LZ col + 2
     have:=hV P.length col hp hcm; omega
    ·exact congrArg (fun k=>hb3 3 (brs (swp W P.length i) P.length col d) k (P ++ [col]) (swp W P.length i P.length col) (odd != decide (i ≠ P.length))) (by simp)
  ·have hp:=of_decide_eq_false hp
   exact fin0 ⟨rfl,col,W,P,d,odd,rfl,hR,hc,.inl (Nat.le_antisymm hR.len (by omega)),by omega⟩
 ·have hb : decide ((col : Int) < (3 : Int)) = false:=decide_eq_false (by omega)
  refine rq [0,1,2,3,4,5,6,7,8,9,10,11,12,13,14,15,16,17,18] ?_
  iterate 11 refine gf hb ?_
  refine tf hb ?_
  refine iff_ rfl rfl ?_
  exact fin0 ⟨rfl,col,W,P,d,odd,rfl,hR,hc,.inr (by omega),by omega⟩
theorem b_done3 {A : Nat → Nat → Int} (ha : ZB 5 3 3 A) : Pc Tryz.prog 462 [zM 3 3 A] (fun r=>∃ (W : Nat → Nat → Int) (P : List Nat) (d : Int) (odd : Bool),r = .tup [.ip [.sl 3 1 [.sl 3 2 (zC 3 (W 0)),.sl 3 2 (zC 3 (W 1)),.sl 3 2 (zC 3 (W 2))],.raw (.int .i64 (3 : Nat)),.sl P.length 1 (pvs P),.raw (.bool (decide (d < 0))),na d.natAbs,.raw (.bool odd)],.raw (.int .i64 0)] ∧ P.length ≤ 3 ∧ (P.length < 3 → dn 3 A = 0) ∧ (P.length = 3 → dn 3 A = if odd = true then -d else d) ∧ li d ≤ 300):=by
 refine pc Tryz.func462 ?_
 refine ce (z_Formed (r:=3) (c:=3) (es:=(tq 3 A (3 * 3)).map zc) (by decide) (by decide) (by rw [List.length_map,tq_len])) rfl ?_
 refine iff_ rfl rfl ?_
 refine cxg [] 0 [] (b_begun3 (m:=3) (A:=A) (by decide) (ha.mono (by decide))) rfl rfl rfl rfl ?_
 rintro _ _ ⟨rfl,rfl⟩
 refine ⟨.inr rfl,?_⟩
 refine cxg [0,1,2,3,4,5] 6 [0,1,2,3,4] (b_run3 ha) rfl rfl rfl rfl ?_
 rintro _ _ ⟨rfl,col,W,P,d,odd,rfl,hR,hc,hf,hdl⟩
 refine ⟨.inl rfl,?_⟩
 obtain ⟨d1,d2⟩:=hR.done hc
 exact ⟨W,P,d,odd,rfl,hR.len,fun h=>d1 h (by omega),d2,hdl⟩
theorem b_Det3 {A : Nat → Nat → Int} (ha : ZB 5 3 3 A) : Pc Tryz.prog 370 [zM 3 3 A] (· = .tup [iz (dn 3 A),.raw (.int .i64 0)]):=by
 refine Pc.weak ?_
 refine pc Tryz.func370 ?_
 refine iff_ rfl rfl ?_
 refine cl (b_done3 ha) rfl ?_
 rintro _ ⟨W,P,d,odd,rfl,h1,h2,h3,h4⟩
 refine iff_ rfl rfl ?_
 refine rq [0,1,2,3,4,5,6,7,8] ?_
 refine ifs rfl (fun h=>?_) (fun h=>?_)
 ·have h:=of_decide_eq_true h
  rw [h2 (by omega)]
  exact Sub.tup ⟨z_nil,Sub.refl _,trivial⟩
 ·have h:=of_decide_eq_false h
  rw [h3 (by omega)]
  cases odd with
  | true=>
   refine ift rfl rfl ?_
   refine ce (z_Neg (z:=d) (by omega)) rfl ?_
   exact Sub.refl _
  | false=>
   refine iff_ rfl rfl ?_
   exact Sub.refl _
theorem b_run4 {A : Nat → Nat → Int} (ha : ZB 5 4 4 A) : Ec Tryz.prog 526 (fun i=>!Nat.beq i 6) (ho4 4 A) [.ref 6 0]
  (fun x H'=>x = .tup [] ∧ ∃ col W P d odd,H' = hb4 4 W P.length P d odd ∧ BarI 4 col A W P d odd ∧ col ≤ 4 ∧ (P.length = 4 ∨ col = 4) ∧ li d ≤ 300):=by
 have h1 : li 1 = 1:=ln_one
 refine ec Tryz.func526 ?_
 refine lfb 6 2 3 1 rfl rfl ?_
 refine lgc [7,1,2,3,4,5,6] rfl ?_
 refine lpt5 (fun (col : Nat) (W : Nat → Nat → Int) (P : List Nat) (d : Int) (odd : Bool)=>BarI 4 col A W P d odd ∧ col ≤ 4 ∧ ZB (LZ col) 4 4 W ∧ li d ≤ LZ col) (fun col _ _ _ _=>[(0,.ref 6 0),(2,ri .i64 col)])
  (fun _ W P d odd=>hb4 4 W P.length P d odd) (fun col _ _ _ _=>4 - col) 0 A [] 1 false ⟨BarI.start 4 A,by decide,ha,by rw [h1]; decide⟩ (tsr rfl) rfl ?_
 rintro col W P d odd t ⟨hR,hc,hl,hdl⟩
 have hL:=LZ_le (k:=col) (by omega)
 by_cases hcm : col < 4
 ·have hb : decide ((col : Int) < (4 : Int)) = true:=decide_eq_true (by omega)
  refine rq [0,1,2,3,4,5,6,7,8,9,10,11,12,13,14,15,16,17,18] ?_
  iterate 11 refine gt hb ?_
  refine tw hb ?_
  refine ifs rfl (fun hp=>?_) (fun hp=>?_)
  ·have hp:=of_decide_eq_true hp
   have hp : P.length < 4:=by omega
   refine cxg [0,1,2,3,4,5,6] 7 [1,2,3,4] (b_fd4 hp (m:=4) (by decide) hcm (fun i hi=>by have:=hl i col hi hcm; omega)) rfl rfl rfl rfl ?_
   rintro _ _ (⟨rfl,rfl,h0⟩ | ⟨i,h1,h2,h3,rfl,rfl⟩)
   ·refine ⟨.inl rfl,?_⟩
    refine iff_ rfl rfl ?_
    exact nx5 (col + 1) W P d odd (by omega) ⟨hR.none hcm h0,by omega,hl.mono (by show LZ col ≤ 2 * LZ col + 2; omega),by show li d ≤ 2 * LZ col + 2; omega⟩ ⟨rfl,congrArg (ri .i64) (i64s (by omega)).symm,trivial⟩ rfl
   ·refine ⟨.inl rfl,?_⟩
    obtain ⟨s1,s2⟩:=hR.step hcm h1 h2 h3
    have hV:=swp_zb hp h2 hl
    refine ift rfl rfl ?_
    refine cxg [0,1,2,3,4,5,6] 7 [0] (b_cl4 hp (m:=4) (by decide) hcm (hV.mono (by omega)) hR.d0 (by omega) s1) rfl rfl rfl rfl ?_
    rintro _ _ ⟨rfl,rfl⟩
    refine ⟨.inl rfl,?_⟩
    refine nx5 (col + 1) (brs (swp W P.length i) P.length col d) (P ++ [col]) (swp W P.length i P.length col) (odd != decide (i ≠ P.length)) (by omega) ⟨s2,by omega,brs_zb hp hcm hV s1,?_⟩ ⟨rfl,congrArg (ri .i64) (i64s (by omega)).symm,trivial⟩ ?_
    ·show li _ ≤ 2 * LZ col + 2
     have:=hV P.length col hp hcm; omega
    ·exact congrArg (fun k=>hb4 4 (brs (swp W P.length i) P.length col d) k (P ++ [col]) (swp W P.length i P.length col) (odd != decide (i ≠ P.length))) (by simp)
  ·have hp:=of_decide_eq_false hp
   exact fin0 ⟨rfl,col,W,P,d,odd,rfl,hR,hc,.inl (Nat.le_antisymm hR.len (by omega)),by omega⟩
 ·have hb : decide ((col : Int) < (4 : Int)) = false:=decide_eq_false (by omega)
  refine rq [0,1,2,3,4,5,6,7,8,9,10,11,12,13,14,15,16,17,18] ?_
  iterate 11 refine gf hb ?_
  refine tf hb ?_
  refine iff_ rfl rfl ?_
  exact fin0 ⟨rfl,col,W,P,d,odd,rfl,hR,hc,.inr (by omega),by omega⟩
theorem b_done4 {A : Nat → Nat → Int} (ha : ZB 5 4 4 A) : Pc Tryz.prog 462 [zM 4 4 A] (fun r=>∃ (W : Nat → Nat → Int) (P : List Nat) (d : Int) (odd : Bool),r = .tup [.ip [.sl 4 1 [.sl 4 2 (zC 4 (W 0)),.sl 4 2 (zC 4 (W 1)),.sl 4 2 (zC 4 (W 2)),.sl 4 2 (zC 4 (W 3))],.raw (.int .i64 (4 : Nat)),.sl P.length 1 (pvs P),.raw (.bool (decide (d < 0))),na d.natAbs,.raw (.bool odd)],.raw (.int .i64 0)] ∧ P.length ≤ 4 ∧ (P.length < 4 → dn 4 A = 0) ∧ (P.length = 4 → dn 4 A = if odd = true then -d else d) ∧ li d ≤ 300):=by
 refine pc Tryz.func462 ?_
 refine ce (z_Formed (r:=4) (c:=4) (es:=(tq 4 A (4 * 4)).map zc) (by decide) (by decide) (by rw [List.length_map,tq_len])) rfl ?_
 refine iff_ rfl rfl ?_
 refine cxg [] 0 [] (b_begun4 (m:=4) (A:=A) (by decide) (ha.mono (by decide))) rfl rfl rfl rfl ?_
 rintro _ _ ⟨rfl,rfl⟩
 refine ⟨.inr rfl,?_⟩
 refine cxg [0,1,2,3,4,5,6] 7 [0,1,2,3,4,5] (b_run4 ha) rfl rfl rfl rfl ?_
 rintro _ _ ⟨rfl,col,W,P,d,odd,rfl,hR,hc,hf,hdl⟩
 refine ⟨.inl rfl,?_⟩
 obtain ⟨d1,d2⟩:=hR.done hc
 exact ⟨W,P,d,odd,rfl,hR.len,fun h=>d1 h (by omega),d2,hdl⟩
theorem b_Det4 {A : Nat → Nat → Int} (ha : ZB 5 4 4 A) : Pc Tryz.prog 370 [zM 4 4 A] (· = .tup [iz (dn 4 A),.raw (.int .i64 0)]):=by
 refine Pc.weak ?_
 refine pc Tryz.func370 ?_
 refine iff_ rfl rfl ?_
 refine cl (b_done4 ha) rfl ?_
 rintro _ ⟨W,P,d,odd,rfl,h1,h2,h3,h4⟩
 refine iff_ rfl rfl ?_
 refine rq [0,1,2,3,4,5,6,7,8] ?_
 refine ifs rfl (fun h=>?_) (fun h=>?_)
 ·have h:=of_decide_eq_true h
  rw [h2 (by omega)]
  exact Sub.tup ⟨z_nil,Sub.refl _,trivial⟩
 ·have h:=of_decide_eq_false h
  rw [h3 (by omega)]
  cases odd with
  | true=>
   refine ift rfl rfl ?_
   refine ce (z_Neg (z:=d) (by omega)) rfl ?_
   exact Sub.refl _
  | false=>
   refine iff_ rfl rfl ?_
   exact Sub.refl _
end Go.Proofs.YtlhmaljjdpjkgaaGreatDoor
