import Derived.Test.YtlhmaljjdpjkgaaGreatDoorTaM8
namespace Go.Proofs.YtlhmaljjdpjkgaaGreatDoor
class CR (R : Type) extends Add R,Mul R,Neg R,_root_.Sub R,Zero R,One R where
 add_assoc : ∀ a b c : R,a + b + c = a + (b + c)
 add_comm : ∀ a b : R,a + b = b + a
 zero_add : ∀ a : R,0 + a = a
 neg_add : ∀ a : R,-a + a = 0
 sub_eq : ∀ a b : R,a - b = a + -b
 mul_assoc : ∀ a b c : R,a * b * c = a * (b * c)
 mul_comm : ∀ a b : R,a * b = b * a
 one_mul : ∀ a : R,1 * a = a
 mul_add : ∀ a b c : R,a * (b + c) = a * b + a * c
namespace CR
variable {R : Type} [CR R]
theorem add_zero (a : R) : a + 0 = a:=by rw [add_comm,zero_add]
theorem add_neg (a : R) : a + -a = 0:=by rw [add_comm,neg_add]
theorem mul_one (a : R) : a * 1 = a:=by rw [mul_comm,one_mul]
theorem add_mul (a b c : R) : (a + b) * c = a * c + b * c:=by rw [mul_comm,mul_add,mul_comm c,mul_comm c]
theorem add_left_cancel {a b c : R} (h : a + b = a + c) : b = c:=by
 have h1 : -a + (a + b) = -a + (a + c):=by rw [h]
 rwa [← add_assoc,← add_assoc,neg_add,zero_add,zero_add] at h1
theorem mul_zero (a : R) : a * 0 = 0:=by
 apply add_left_cancel (a:=a * 0)
 rw [← mul_add,zero_add,add_zero]
theorem zero_mul (a : R) : 0 * a = 0:=by rw [mul_comm,mul_zero]
theorem neg_unique {a b : R} (h : a + b = 0) : b = -a:=by
 apply add_left_cancel (a:=a); rw [h,add_neg]
theorem neg_neg (a : R) : - -a = a:=(neg_unique (neg_add a)).symm
theorem neg_mul (a b : R) : -a * b = -(a * b):=by
 apply neg_unique; rw [← add_mul,add_neg,zero_mul]
theorem mul_neg (a b : R) : a * -b = -(a * b):=by rw [mul_comm,neg_mul,mul_comm]
theorem neg_zero : -(0 : R) = 0:=(neg_unique (zero_add 0)).symm
theorem neg_distrib (a b : R) : -(a + b) = -a + -b:=by
 symm; apply neg_unique
 rw [add_assoc,← add_assoc b,add_comm b,add_assoc (-a),add_neg,add_zero,add_neg]
theorem sub_self (a : R) : a - a = 0:=by rw [sub_eq,add_neg]
theorem sub_zero (a : R) : a - 0 = a:=by rw [sub_eq,neg_zero,add_zero]
theorem sub_add_cancel (a b : R) : a - b + b = a:=by rw [sub_eq,add_assoc,neg_add,add_zero]
theorem add_left_comm (a b c : R) : a + (b + c) = b + (a + c):=by rw [← add_assoc,add_comm a,add_assoc]
theorem mul_left_comm (a b c : R) : a * (b * c) = b * (a * c):=by rw [← mul_assoc,mul_comm a,mul_assoc]
theorem sub_eq_zero {a b : R} (h : a - b = 0) : a = b:=by
 have:=sub_add_cancel a b
 rw [h,zero_add] at this; exact this.symm
end CR
inductive RE where
 | v (i : Nat) | zero | one | add (a b : RE) | mul (a b : RE) | neg (a : RE) | sub (a b : RE)
instance : Add RE:=⟨.add⟩
instance : Mul RE:=⟨.mul⟩
instance : Neg RE:=⟨.neg⟩
instance : _root_.Sub RE:=⟨.sub⟩
instance : Zero RE:=⟨.zero⟩
instance : One RE:=⟨.one⟩
def RE.den {R : Type} [CR R] (r : List R) : RE → R
 | .v i=>r.getD i 0
 | .zero=>0
 | .one=>1
 | .add a b=>a.den r + b.den r
 | .mul a b=>a.den r * b.den r
 | .neg a=>-a.den r
 | .sub a b=>a.den r - b.den r
def insV (i : Nat) : List Nat → List Nat
 | []=>[i]
 | j :: l=>if i ≤ j then i :: j :: l else j :: insV i l
def leM : List Nat → List Nat → Bool
 | [],_=>true
 | _ :: _,[]=>false
 | a :: l,b :: m=>if a < b then true else if b < a then false else leM l m
def insT (s : Bool) (t : List Nat) : List (Bool × List Nat) → List (Bool × List Nat)
 | []=>[(s,t)]
 | u :: us=>if t = u.2 then (if s = u.1 then (s,t) :: u :: us else us) else if leM t u.2 then (s,t) :: u :: us else u :: insT s t us
def RE.nf : RE → List (Bool × List Nat)
 | .v i=>[(true,[i])]
 | .zero=>[]
 | .one=>[(true,[])]
 | .add a b=>a.nf.foldr (fun t acc=>insT t.1 t.2 acc) b.nf
 | .sub a b=>a.nf.foldr (fun t acc=>insT t.1 t.2 acc) (b.nf.map fun t=>(!t.1,t.2))
 | .neg a=>a.nf.map fun t=>(!t.1,t.2)
 | .mul a b=>a.nf.foldr (fun t acc=>b.nf.foldr (fun u acc=>insT (t.1 == u.1) (t.2.foldr insV u.2) acc) acc) []
section
variable {R : Type} [CR R] (r : List R)
open CR
def denM : List Nat → R
 | []=>1
 | i :: l=>r.getD i 0 * denM l
def denT (t : Bool × List Nat) : R:=if t.1 then denM r t.2 else -denM r t.2
def denS : List (Bool × List Nat) → R
 | []=>0
 | t :: ts=>denT r t + denS ts
theorem denM_insV (i : Nat) : ∀ l,denM r (insV i l) = r.getD i 0 * denM r l
 | []=>rfl
 | j :: l=>by
  unfold insV; split
  ·rfl
  ·simp only [denM]; rw [denM_insV i l,mul_left_comm]
theorem denM_foldr (m : List Nat) : ∀ l,denM r (l.foldr insV m) = denM r l * denM r m
 | []=>by simp only [List.foldr,denM]; rw [one_mul]
 | i :: l=>by simp only [List.foldr,denM]; rw [denM_insV,denM_foldr m l,mul_assoc]
theorem denS_insT (s : Bool) (t : List Nat) : ∀ us,denS r (insT s t us) = denT r (s,t) + denS r us
 | []=>rfl
 | u :: us=>by
  unfold insT; split
  ·rename_i h
   split
   ·rfl
   ·rename_i h2
    simp only [denS]
    have e : denT r (s,t) + denT r u = 0:=by
     unfold denT; rw [← h]
     cases s <;> cases hu : u.1 <;> simp_all [neg_add,add_neg]
    rw [← add_assoc,e,zero_add]
  ·split
   ·rfl
   ·simp only [denS]; rw [denS_insT s t us,add_left_comm]
theorem denS_add (us : List (Bool × List Nat)) : ∀ ts,denS r (ts.foldr (fun t acc=>insT t.1 t.2 acc) us) = denS r ts + denS r us
 | []=>by simp only [List.foldr,denS]; rw [zero_add]
 | t :: ts=>by simp only [List.foldr,denS]; rw [denS_insT,denS_add us ts,add_assoc]
theorem denT_not (t : Bool × List Nat) : denT r (!t.1,t.2) = -denT r t:=by
 unfold denT; cases t.1 <;> simp [neg_neg]
theorem denS_neg : ∀ ts,denS r (ts.map fun t=>(!t.1,t.2)) = -denS r ts
 | []=>by simp only [List.map,denS]; rw [neg_zero]
 | t :: ts=>by simp only [List.map,denS]; rw [denS_neg ts,denT_not,neg_distrib]
theorem denT_mul (t u : Bool × List Nat) : denT r (t.1 == u.1,t.2.foldr insV u.2) = denT r t * denT r u:=by
 unfold denT; rw [denM_foldr]
 cases t.1 <;> cases u.1 <;> simp [neg_mul,mul_neg,neg_neg]
theorem denS_mul1 (t : Bool × List Nat) (us : List (Bool × List Nat)) : ∀ ts,denS r (ts.foldr (fun u acc=>insT (t.1 == u.1) (t.2.foldr insV u.2) acc) us) = denT r t * denS r ts + denS r us
 | []=>by simp only [List.foldr,denS]; rw [mul_zero,zero_add]
 | u :: ts=>by simp only [List.foldr,denS]; rw [denS_insT,denS_mul1 t us ts,denT_mul,mul_add,add_assoc]
theorem denS_mul (us : List (Bool × List Nat)) : ∀ ts,denS r (ts.foldr (fun t acc=>us.foldr (fun u acc=>insT (t.1 == u.1) (t.2.foldr insV u.2) acc) acc) []) = denS r ts * denS r us
 | []=>by simp only [List.foldr,denS]; rw [zero_mul]
 | t :: ts=>by simp only [List.foldr,denS]; rw [denS_mul1,denS_mul us ts,add_mul]
theorem den_nf : ∀ e : RE,e.den r = denS r e.nf
 | .v i=>by simp only [RE.den,RE.nf,denS,denT,denM,if_true]; rw [mul_one,add_zero]
 | .zero=>rfl
 | .one=>by simp only [RE.den,RE.nf,denS,denT,denM,if_true]; rw [add_zero]
 | .add a b=>by simp only [RE.den,RE.nf]; rw [denS_add,den_nf a,den_nf b]
 | .mul a b=>by simp only [RE.den,RE.nf]; rw [denS_mul,den_nf a,den_nf b]
 | .neg a=>by simp only [RE.den,RE.nf]; rw [denS_neg,den_nf a]
 | .sub a b=>by simp only [RE.den,RE.nf]; rw [denS_add,denS_neg,den_nf a,den_nf b,sub_eq]
theorem by_ring (a b : RE) (h : a.nf = b.nf) : a.den r = b.den r:=by rw [den_nf,den_nf,h]
end
abbrev X0 : RE:=.v 0
abbrev X1 : RE:=.v 1
abbrev X2 : RE:=.v 2
abbrev X3 : RE:=.v 3
abbrev X4 : RE:=.v 4
def sm {R : Type} [CR R] : Nat → (Nat → R) → R
 | 0,_=>0
 | n + 1,f=>sm n f + f n
section
variable {R : Type} [CR R]
open CR
theorem sm_congr {n : Nat} {f g : Nat → R} (h : ∀ i,i < n → f i = g i) : sm n f = sm n g:=by
 induction n with
 | zero=>rfl
 | succ n ih=>simp only [sm]; rw [ih (fun i hi=>h i (by omega)),h n (by omega)]
theorem sm_zero (n : Nat) : sm n (fun _=>(0 : R)) = 0:=by
 induction n with
 | zero=>rfl
 | succ n ih=>simp only [sm]; rw [ih,zero_add]
theorem sm_zero' {n : Nat} {f : Nat → R} (h : ∀ i,i < n → f i = 0) : sm n f = 0:=by
 rw [sm_congr h,sm_zero]
theorem sm_add (n : Nat) (f g : Nat → R) : sm n (fun i=>f i + g i) = sm n f + sm n g:=by
 induction n with
 | zero=>simp only [sm]; rw [zero_add]
 | succ n ih=>simp only [sm]; rw [ih]; exact by_ring [sm n f,sm n g,f n,g n] (X0 + X1 + (X2 + X3)) (X0 + X2 + (X1 + X3)) rfl
theorem sm_mul (n : Nat) (c : R) (f : Nat → R) : sm n (fun i=>c * f i) = c * sm n f:=by
 induction n with
 | zero=>simp only [sm]; rw [mul_zero]
 | succ n ih=>simp only [sm]; rw [ih,mul_add]
theorem sm_neg (n : Nat) (f : Nat → R) : sm n (fun i=>-f i) = -sm n f:=by
 induction n with
 | zero=>simp only [sm]; rw [neg_zero]
 | succ n ih=>simp only [sm]; rw [ih,neg_distrib]
theorem sm_swap (n m : Nat) (f : Nat → Nat → R) : sm n (fun i=>sm m (f i)) = sm m (fun j=>sm n (fun i=>f i j)):=by
 induction n with
 | zero=>simp only [sm]; rw [sm_zero]
 | succ n ih=>simp only [sm]; rw [ih,sm_add]
theorem sm_split (n m : Nat) (f : Nat → R) : sm (n + m) f = sm n f + sm m (fun i=>f (n + i)):=by
 induction m with
 | zero=>simp only [sm,Nat.add_zero]; rw [add_zero]
 | succ m ih=>rw [← Nat.add_assoc]; simp only [sm]; rw [ih,add_assoc]
theorem sm_head (n : Nat) (f : Nat → R) : sm (n + 1) f = f 0 + sm n (fun i=>f (i + 1)):=by
 rw [Nat.add_comm,sm_split]; simp only [sm]; rw [zero_add]
 congr 1; exact sm_congr fun i _=>by rw [Nat.add_comm]
theorem sm_one {n k : Nat} {f : Nat → R} (hk : k < n) (h : ∀ i,i < n → i ≠ k → f i = 0) : sm n f = f k:=by
 induction n with
 | zero=>omega
 | succ n ih=>
  simp only [sm]
  by_cases e : k = n
  ·subst e; rw [sm_zero' (fun i hi=>h i (by omega) (by omega)),zero_add]
  ·rw [ih (by omega) (fun i hi=>h i (by omega)),h n (by omega) (by omega),add_zero]
end
end Go.Proofs.YtlhmaljjdpjkgaaGreatDoor
namespace Go.Proofs.YtlhmaljjdpjkgaaGreatDoor
def sortN (c : Nat) : Nat:=
 if c = 32 ∨ c = 9 ∨ c = 10 ∨ c = 13 then 1 else if 48 ≤ c ∧ c ≤ 57 then 2 else if 97 ≤ c ∧ c ≤ 122 then 3 else if c = 95 then 4
 else if c ∈ [43,45,42,47,94,40,41,91,93,123,125,44,59,61,60,33,46] then 5 else 0
def wordB (c : Nat) : Bool:=sortN c == 2 || sortN c == 3 || sortN c == 4
def runL (l : List Nat) : Nat:=(l.takeWhile wordB).length
def numB (t : List Nat) : Bool:=decide (1 ≤ t.length) && decide (t.length ≤ 2000) && !(decide (1 < t.length) && t.headD 0 == 48) && t.all fun c=>sortN c == 2
def nameB (t : List Nat) : Bool:=decide (1 ≤ t.length) && decide (t.length ≤ 30) && sortN (t.headD 0) == 3 && t.all wordB
def twoB (t : List Nat) : Bool:=t == [61,61] || t == [33,61] || t == [60,61] || t == [46,46]
def oneB (t : List Nat) : Bool:=t.length == 1 && [43,45,42,47,94,40,41,91,93,123,125,44,59,61,60].contains (t.headD 0)
def firstL (l : List Nat) : Option (Nat × List Nat):=
 if numB (l.take (runL l)) then some (1,l.take (runL l)) else if nameB (l.take (runL l)) then some (2,l.take (runL l))
 else if decide (2 ≤ l.length) && twoB (l.take 2) then some (3,l.take 2) else if oneB (l.take 1) then some (3,l.take 1) else none
theorem takeWhile_all {p : Nat → Bool} {t s : List Nat} (h : t.all p = true) (hs : ∀ c,s.head? = some c → p c = false) : (t ++ s).takeWhile p = t:=by
 induction t with
 | nil=>
  cases s with
  | nil=>rfl
  | cons c s=>simp [hs c rfl]
 | cons a t ih=>
  simp only [List.all_cons,Bool.and_eq_true] at h
  simp [h.1,ih h.2]
theorem num_word {c : Nat} (h : sortN c = 2) : wordB c = true:=by simp [wordB,h]
theorem numB_all {t : List Nat} (h : numB t = true) : t.all wordB = true:=by
 simp only [numB,Bool.and_eq_true] at h
 have h:=h.2
 rw [List.all_eq_true] at h ⊢
 exact fun c hc=>num_word (by simpa using h c hc)
theorem nameB_all {t : List Nat} (h : nameB t = true) : t.all wordB = true:=by
 simp only [nameB,Bool.and_eq_true] at h
 exact h.2
theorem name_num {t : List Nat} (h : nameB t = true) : numB t = false:=by
 cases t with
 | nil=>rfl
 | cons c t=>
  simp only [nameB,Bool.and_eq_true,List.headD_cons] at h
  have h3 : sortN c = 3:=by simpa using h.1.2
  simp [numB,h3]
def sepB (k : Nat) (t : List Nat) (c : Option Nat) : Bool:=
 match k with
 | 1=>numB t && !(c.any wordB)
 | 2=>nameB t && !(c.any wordB)
 | _=>(twoB t || (oneB t && !(c.any fun d=>twoB (t ++ [d])))) && k == 3
theorem any_none {s : List Nat} {p : Nat → Bool} (h : (!(s.head?.any p)) = true) : ∀ c,s.head? = some c → p c = false:=by
 intro c hc
 rw [hc] at h
 simpa using h
theorem first_sep {k : Nat} {t s : List Nat} (h : sepB k t s.head? = true) : firstL (t ++ s) = some (k,t):=by
 unfold sepB at h
 split at h
 ·simp only [Bool.and_eq_true] at h
  have hr : runL (t ++ s) = t.length:=by unfold runL; rw [takeWhile_all (numB_all h.1) (any_none h.2)]
  unfold firstL
  rw [hr,List.take_left,if_pos h.1]
 ·simp only [Bool.and_eq_true] at h
  have hr : runL (t ++ s) = t.length:=by unfold runL; rw [takeWhile_all (nameB_all h.1) (any_none h.2)]
  unfold firstL
  rw [hr,List.take_left,if_neg (by rw [name_num h.1]; decide),if_pos h.1]
 ·simp only [Bool.and_eq_true,Bool.or_eq_true] at h
  obtain ⟨h,hk⟩:=h
  have hk : k = 3:=by simpa using hk
  subst hk
  rcases h with h | ⟨h,h'⟩
  ·have : t = [61,61] ∨ t = [33,61] ∨ t = [60,61] ∨ t = [46,46]:=by
    simp only [twoB,Bool.or_eq_true,beq_iff_eq] at h
    rcases h with ((h | h) | h) | h <;> simp [h]
   have hc : ∀ c,sortN c = 5 → wordB c = false:=fun c h=>by simp [wordB,h]
   rcases this with rfl | rfl | rfl | rfl <;> simp [firstL,runL,numB,nameB,twoB,List.takeWhile,wordB,sortN]
  ·have h0:=h
   simp only [oneB,Bool.and_eq_true,beq_iff_eq] at h
   obtain ⟨c,rfl⟩ : ∃ c,t = [c]:=List.length_eq_one_iff.1 h.1
   have hw : wordB c = false:=by
    have hm : c ∈ [43,45,42,47,94,40,41,91,93,123,125,44,59,61,60]:=by simpa using h.2
    have : ∀ x ∈ [43,45,42,47,94,40,41,91,93,123,125,44,59,61,60],wordB x = false:=by decide
    exact this c hm
   have hr : runL ([c] ++ s) = 0:=by simp [runL,hw]
   have ht : (decide (2 ≤ ([c] ++ s).length) && twoB (([c] ++ s).take 2)) = false:=by
    cases s with
    | nil=>rfl
    | cons d s=>simpa using h'
   unfold firstL
   rw [hr,ht]
   show (if numB [] = true then _ else if nameB [] = true then _ else if false = true then _ else if oneB [c] = true then _ else _) = _
   rw [if_neg (by decide),if_neg (by decide),if_neg (by decide),if_pos h0]
   rfl
abbrev Tok : Type:=Nat × List Nat × Nat
def gapL (l : List Nat) : Nat:=(l.takeWhile fun c=>sortN c == 1).length
def lexM : Nat → List Nat → Nat → Option (List Tok)
 | 0,_,_=>none
 | f + 1,l,a=>if l.isEmpty then some [] else
  match firstL l with
  | none=>none
  | some (k,t)=>if ((l.drop t.length).drop (gapL (l.drop t.length))).headD 0 = 35 then none else
   (lexM f ((l.drop t.length).drop (gapL (l.drop t.length))) (a + t.length + gapL (l.drop t.length))).map ((k,t,a) :: ·)
abbrev Wrd : Type:=Nat × List Nat × Nat
def spc (n : Nat) : List Nat:=List.replicate n 32
def cat : List Wrd → List Nat
 | []=>[]
 | (_,t,g) :: l=>t ++ (spc g ++ cat l)
def toks : List Wrd → Nat → List Tok
 | [],_=>[]
 | (k,t,g) :: l,a=>(k,t,a) :: toks l (a + t.length + g)
def wrdB : List Wrd → Bool
 | []=>true
 | (k,t,g) :: l=>sepB k t (spc g ++ cat l).head? && wrdB l
theorem sep_head {k : Nat} {t : List Nat} {c : Option Nat} (h : sepB k t c = true) : ∃ d,t.head? = some d ∧ sortN d ≠ 1 ∧ d ≠ 35:=by
 have key : ∀ d,sortN d = 2 ∨ sortN d = 3 → sortN d ≠ 1 ∧ d ≠ 35:=fun d hd=>⟨by omega,by rintro rfl; simp [sortN] at hd⟩
 unfold sepB at h
 split at h
 ·simp only [Bool.and_eq_true,numB] at h
  obtain ⟨⟨⟨⟨h1,-⟩,-⟩,h2⟩,-⟩:=h
  cases t with
  | nil=>simp at h1
  | cons d t=>simp only [List.all_cons,Bool.and_eq_true,beq_iff_eq] at h2; exact ⟨d,rfl,key d (.inl h2.1)⟩
 ·simp only [Bool.and_eq_true,nameB] at h
  obtain ⟨⟨⟨⟨h1,-⟩,h2⟩,-⟩,-⟩:=h
  cases t with
  | nil=>simp at h1
  | cons d t=>exact ⟨d,rfl,key d (.inr (by simpa using h2))⟩
 ·simp only [Bool.and_eq_true,Bool.or_eq_true] at h
  rcases h.1 with h | ⟨h,-⟩
  ·simp only [twoB,Bool.or_eq_true,beq_iff_eq] at h
   rcases h with ((h | h) | h) | h <;> subst h <;> exact ⟨_,rfl,by decide,by decide⟩
  ·simp only [oneB,Bool.and_eq_true,beq_iff_eq] at h
   obtain ⟨d,rfl⟩ : ∃ d,t = [d]:=List.length_eq_one_iff.1 h.1
   have hm : d ∈ [43,45,42,47,94,40,41,91,93,123,125,44,59,61,60]:=by simpa using h.2
   have : ∀ x ∈ [43,45,42,47,94,40,41,91,93,123,125,44,59,61,60],sortN x ≠ 1 ∧ x ≠ 35:=by decide
   exact ⟨d,rfl,this d hm⟩
theorem cat_head {l : List Wrd} (h : wrdB l = true) : ∀ c,(cat l).head? = some c → sortN c ≠ 1 ∧ c ≠ 35:=by
 intro c hc
 cases l with
 | nil=>simp [cat] at hc
 | cons p l=>
  obtain ⟨k,t,g⟩:=p
  simp only [wrdB,Bool.and_eq_true] at h
  obtain ⟨d,h1,h2⟩:=sep_head h.1
  have : (cat ((k,t,g) :: l)).head? = some d:=by
   cases t with
   | nil=>simp at h1
   | cons e t=>simpa [cat] using h1
  rw [this] at hc; cases hc; exact h2
theorem gap_spc {g : Nat} {s : List Nat} (h : ∀ c,s.head? = some c → sortN c ≠ 1) : gapL (spc g ++ s) = g:=by
 have:=takeWhile_all (p:=fun c=>sortN c == 1) (t:=spc g) (s:=s) (by simp [spc,sortN]) (fun c hc=>by simpa using h c hc)
 unfold gapL; rw [this]; simp [spc]
theorem lex_cat : ∀ (l : List Wrd) (f a : Nat),wrdB l = true → l.length < f → lexM f (cat l) a = some (toks l a)
 | [],f + 1,a,_,_=>rfl
 | (k,t,g) :: l,f + 1,a,h,hf=>by
  have h0:=h
  simp only [wrdB,Bool.and_eq_true] at h
  have hh:=cat_head h.2
  have ih:=lex_cat l f (a + t.length + g) h.2 (by simp at hf; omega)
  have h1:=first_sep h.1
  obtain ⟨d,hd,-⟩:=sep_head h.1
  have hne : (cat ((k,t,g) :: l)).isEmpty = false:=by
   cases t with
   | nil=>simp at hd
   | cons e t=>rfl
  rw [lexM,hne,if_neg (by decide)]
  show (match firstL (t ++ (spc g ++ cat l)) with
   | none=>none
   | some (k,t')=>if ((((t ++ (spc g ++ cat l))).drop t'.length).drop (gapL ((t ++ (spc g ++ cat l)).drop t'.length))).headD 0 = 35 then none else (lexM f ((((t ++ (spc g ++ cat l))).drop t'.length).drop (gapL ((t ++ (spc g ++ cat l)).drop t'.length))) (a + t'.length + gapL ((t ++ (spc g ++ cat l)).drop t'.length))).map ((k,t',a) :: ·)) = _
  rw [h1]
  dsimp only
  rw [List.drop_left,gap_spc fun c hc=>(hh c hc).1]
  have e2 : (spc g ++ cat l).drop g = cat l:=by
   have : g = (spc g).length:=by simp [spc]
   conv=>lhs; rw [this]
   rw [show (spc (spc g).length) = spc g by simp [spc]]; exact List.drop_left
  rw [e2,if_neg,ih]
  ·rfl
  ·intro e
   cases hc : cat l with
   | nil=>rw [hc] at e; simp at e
   | cons c s=>rw [hc] at e hh; simp at e; exact (hh c rfl).2 e
 | _,0,_,_,h=>by omega
def digs : Nat → Nat → List Nat
 | 0,_=>[]
 | k + 1,x=>x / 10 ^ k % 10 :: digs k x
theorem digs_len : ∀ (k x : Nat),(digs k x).length = k
 | 0,_=>rfl
 | k + 1,x=>by simp [digs,digs_len k]
theorem digs_lt : ∀ (k x : Nat),∀ d ∈ digs k x,d < 10
 | 0,_,d,h=>by simp [digs] at h
 | k + 1,x,d,h=>by
  simp only [digs,List.mem_cons] at h
  rcases h with rfl | h
  ·exact Nat.mod_lt _ (by decide)
  ·exact digs_lt k x d h
def dig8 (xs : List Nat) : List Nat:=xs.map (48 + ·)
theorem dig8_len (xs : List Nat) : (dig8 xs).length = xs.length:=by simp [dig8]
theorem dig8_append (a b : List Nat) : dig8 (a ++ b) = dig8 a ++ dig8 b:=by simp [dig8]
theorem digs_mod : ∀ (k m x : Nat),k ≤ m → digs k (x % 10 ^ m) = digs k x
 | 0,_,_,_=>rfl
 | k + 1,m,x,h=>by
  rw [digs,digs,digs_mod k m x (by omega)]
  congr 1
  have e : 10 ^ m = 10 ^ (k + 1) * 10 ^ (m - (k + 1)):=by rw [← Nat.pow_add]; congr 1; omega
  have h1 : x % 10 ^ m / 10 ^ k % 10 = x % 10 ^ m % 10 ^ (k + 1) / 10 ^ k:=by rw [Nat.pow_succ,Nat.mod_mul_right_div_self]
  have h2 : x / 10 ^ k % 10 = x % 10 ^ (k + 1) / 10 ^ k:=by rw [Nat.pow_succ,Nat.mod_mul_right_div_self]
  rw [h1,h2,e,Nat.mod_mul_right_mod]
theorem digs_add (k x : Nat) : ∀ j,digs (j + k) x = digs j (x / 10 ^ k) ++ digs k x
 | 0=>by simp [digs]
 | j + 1=>by
  rw [Nat.add_right_comm,digs,digs,digs_add k x j,Nat.div_div_eq_div_mul,← Nat.pow_add,Nat.add_comm k j]; rfl
theorem digs_two (k x : Nat) : digs k (x / 10 ^ k) ++ digs k (x % 10 ^ k) = digs (k + k) x:=by rw [digs_mod k k x (Nat.le_refl _),← digs_add]
def valF (v : Nat) (l : List Nat) : Nat:=l.foldl (fun v c=>10 * v + (c - 48)) v
def valD (l : List Nat) : Nat:=valF 0 l
theorem valF_cons (v c : Nat) (l : List Nat) : valF v (c :: l) = valF (10 * v + (c - 48)) l:=by unfold valF; rw [List.foldl_cons]
theorem valF_eq (l : List Nat) : ∀ v : Nat,valF v l = v * 10 ^ l.length + valD l:=by
 induction l with
 | nil=>intro v; show v = v * 1 + 0; omega
 | cons c l ih=>
  intro v
  have h1 : valD (c :: l) = (c - 48) * 10 ^ l.length + valD l:=by
   rw [valD,valF_cons,Nat.mul_zero,Nat.zero_add]; exact ih _
  have h2 : (c :: l).length = l.length + 1:=rfl
  have h3 : v * (10 ^ l.length * 10) = 10 * v * 10 ^ l.length:=by rw [Nat.mul_comm (10 ^ l.length),← Nat.mul_assoc,Nat.mul_comm v]
  rw [valF_cons,ih,h1,h2,Nat.pow_succ,h3,Nat.add_mul,Nat.add_assoc]
theorem valD_append (a b : List Nat) : valD (a ++ b) = valD a * 10 ^ b.length + valD b:=by
 rw [valD,valF,List.foldl_append]
 exact valF_eq b _
theorem valD_digs : ∀ (k x : Nat),valD (dig8 (digs k x)) = x % 10 ^ k
 | 0,x=>by simp [digs,dig8,valD,valF,Nat.mod_one]
 | k + 1,x=>by
  show valF 0 ((48 + x / 10 ^ k % 10) :: dig8 (digs k x)) = _
  rw [valF_cons,valF_eq,valD_digs k x,dig8_len,digs_len,Nat.mod_pow_succ,Nat.mul_zero,Nat.zero_add,Nat.add_sub_cancel_left,Nat.mul_comm,Nat.add_comm]
def trimL (l : List Nat) : List Nat:=l.dropWhile (· == 48)
theorem valD_trim : ∀ l,valD (trimL l) = valD l
 | []=>rfl
 | c :: l=>by
  unfold trimL
  rw [List.dropWhile_cons]
  split
  ·rename_i h
   have : c = 48:=by simpa using h
   subst this
   have:=valD_trim l
   unfold trimL at this
   rw [this]; rfl
  ·rfl
def dgs (x : Nat) : List Nat:=if x = 0 then [48] else trimL (dig8 (digs 36 x))
theorem valD_dgs {x : Nat} (h : x < 10 ^ 36) : valD (dgs x) = x:=by
 unfold dgs
 split
 ·rename_i e; subst e; rfl
 ·rw [valD_trim,valD_digs,Nat.mod_eq_of_lt h]
def digB (c : Nat) : Bool:=decide (48 ≤ c) && decide (c ≤ 57)
theorem digB_sort {c : Nat} (h : digB c = true) : sortN c = 2:=by
 simp only [digB,Bool.and_eq_true,decide_eq_true_eq] at h
 unfold sortN
 rw [if_neg (by omega),if_pos (by omega)]
theorem dig8_all (k x : Nat) : (dig8 (digs k x)).all digB = true:=by
 rw [List.all_eq_true]
 intro c hc
 simp only [dig8,List.mem_map] at hc
 obtain ⟨d,hd,rfl⟩:=hc
 have:=digs_lt k x d hd
 simp [digB]; omega
theorem trim_all {l : List Nat} {p : Nat → Bool} (h : l.all p = true) : (trimL l).all p = true:=by
 rw [List.all_eq_true] at h ⊢
 exact fun c hc=>h c ((List.dropWhile_sublist _).subset hc)
theorem trim_len (l : List Nat) : (trimL l).length ≤ l.length:=(List.dropWhile_sublist _).length_le
theorem trim_head : ∀ l : List Nat,trimL l = [] ∨ (trimL l).headD 0 ≠ 48
 | []=>.inl rfl
 | c :: l=>by
  unfold trimL
  rw [List.dropWhile_cons]
  split
  ·exact trim_head l
  ·rename_i h; exact .inr (by simpa using h)
theorem dgs_len (x : Nat) : 1 ≤ x ∧ x < 10 ^ 36 ∨ x = 0 → 1 ≤ (dgs x).length ∧ (dgs x).length ≤ 36:=by
 intro h
 unfold dgs
 split
 ·exact ⟨by decide,by decide⟩
 ·rename_i h0
  have h1:=trim_len (dig8 (digs 36 x))
  rw [dig8_len,digs_len] at h1
  refine ⟨?_,h1⟩
  rcases Nat.eq_zero_or_pos (trimL (dig8 (digs 36 x))).length with e | e
  ·have e:=List.length_eq_zero_iff.1 e
   have h2:=valD_trim (dig8 (digs 36 x))
   rw [e,valD_digs,Nat.mod_eq_of_lt (by omega)] at h2
   exact absurd h2.symm h0
  ·exact e
theorem dgs_all (x : Nat) : (dgs x).all digB = true:=by
 unfold dgs
 split
 ·rfl
 ·exact trim_all (dig8_all _ _)
theorem numB_dgs {x : Nat} (h : x < 10 ^ 36) : numB (dgs x) = true:=by
 obtain ⟨h1,h2⟩:=dgs_len x (by omega)
 have h3:=dgs_all x
 have h4 : (dgs x).all (fun c=>sortN c == 2) = true:=by
  rw [List.all_eq_true] at h3 ⊢
  exact fun c hc=>by rw [digB_sort (h3 c hc)]; rfl
 have h5 : (decide (1 < (dgs x).length) && (dgs x).headD 0 == 48) = false:=by
  unfold dgs
  split
  ·rfl
  ·rcases trim_head (dig8 (digs 36 x)) with e | e
   ·rw [e]; rfl
   ·have : ((trimL (dig8 (digs 36 x))).headD 0 == 48) = false:=by simpa using e
    rw [this,Bool.and_false]
 unfold numB
 rw [h4,h5,decide_eq_true h1,decide_eq_true (by omega)]; rfl
end Go.Proofs.YtlhmaljjdpjkgaaGreatDoor
namespace Go.Proofs.YtlhmaljjdpjkgaaGreatDoor
open Go Go.RowKit
def ub (x : Nat) : IV:=.raw (.int .u8 (x : Int))
def bs (xs : List Nat) : List IV:=xs.map ub
theorem bs_put (us : List Nat) (o x : Nat) : putAt (bs us) o [ub x] = bs (us.set o x):=by
 show (bs us).set o (ub x) = _
 simp [bs,List.map_set]
def Fb (f : Nat) (xs : List IV) (l : List Nat) : Prop:=Fc Tryz.prog f xs 5 1 (fun n us=>n = l.length ∧ us = l.map fun (c : Nat)=>Value.int .u8 (c : Int))
theorem bs_raw (l : List Nat) : (l.map fun (c : Nat)=>Value.int .u8 (c : Int)).map IV.raw = bs l:=by simp [bs,ub]
theorem fbe {l : List Nat} {i n : Nat} {H : List AO} (h : H[i]? = some (.row 5 1 n (bs l))) (hn : n = l.length) : EndF 5 1 (fun n us=>n = l.length ∧ us = l.map fun (c : Nat)=>Value.int .u8 (c : Int)) (.own i) H:=
 ⟨⟨i,n,_,rfl,by rw [bs_raw]; exact h,hn,rfl⟩⟩
theorem cfb {f : Nat} {ivs : List IV} {l : List Nat} (h : Fb f ivs l) {T : TT} {tc : Option (List Nat)} {xs : List AV} {H : List AO} {k : Mv → AV → List AO → Prop} (hz : fzL (fz H (isIn []) 6) xs = some ivs) (hk : k .no (.own H.length) (H ++ [.row 5 1 l.length (bs l)])) : callsP Tryz.prog T tc f xs H k:=
 cf h hz fun n us hq=>by obtain ⟨rfl,rfl⟩:=hq; rw [bs_raw]; exact hk
theorem c_word {a : Int} {x : Nat} (ha : a = x) (hx : x < W64) : Fb 182 [.raw (.int .u64 a)] (dig8 (digs 18 x)):=by
 subst ha
 refine fc Tryz.func182 ?_
 refine ⟨⟨rfl,by decide,by decide⟩,?_⟩
 refine lpt (fun J : Nat=>J ≤ 18) (fun J=>[(0,.im (uw (x / 10 ^ (18 - J)))),(3,.own 0),(4,ri .i64 ((J : Int) - 1))]) (fun J=>[.row 5 1 18 (bs (List.replicate J 0 ++ dig8 (digs (18 - J) x)))]) (fun J=>J) 18 (Nat.le_refl _) ?_ rfl ?_
 ·exact ⟨congrArg (fun z=>AV.im (uw z)) (Nat.div_one x).symm,rfl,rfl,trivial⟩
 intro J t hJ
 cases J with
 | zero=>
  refine iff_ rfl rfl ?_
  exact fbe (i:=0) rfl (by rw [dig8_len,digs_len])
 | succ j=>
  have ej : (((j + 1 : Nat)) : Int) - 1 = (j : Int):=by omega
  rw [ej]
  refine ift rfl (decide_eq_true (by omega)) ?_
  have hk : 18 - (j + 1) + 1 = 18 - j:=by omega
  have hd : digs (18 - j) x = x / 10 ^ (18 - (j + 1)) % 10 :: digs (18 - (j + 1)) x:=by rw [← hk]; rfl
  have hq : x / 10 ^ (18 - (j + 1)) / 10 = x / 10 ^ (18 - j):=by rw [Nat.div_div_eq_div_mul,← Nat.pow_succ,← hk]
  have hl : x / 10 ^ (18 - (j + 1)) < W64:=Nat.lt_of_le_of_lt (Nat.div_le_self _ _) hx
  generalize x / 10 ^ (18 - (j + 1)) = y at *
  have e1 : IntKind.u8.wrap (IntKind.u64.wrap (48 + (y : Int).tmod 10)) = ((48 + y % 10 : Nat) : Int):=by
   have h1 : (y : Int).tmod 10 = ((y % 10 : Nat) : Int):=rfl
   rw [h1,IntWalk.u64_in _ ⟨by omega,by omega⟩,IntWalk.u8_in _ ⟨by omega,by omega⟩]; rfl
  refine ⟨by decide,?_⟩
  refine ⟨⟨by omega,by omega⟩,?_⟩
  refine ⟨by simp [bs,dig8,digs_len],?_⟩
  refine ⟨by decide,?_⟩
  refine nx j (Nat.lt_succ_self j) ⟨by omega,⟨?_,rfl,congrArg (ri .i64) (IntWalk.i64_in _ (by omega)),trivial⟩,?_⟩
  ·show AV.im (.raw (.int .u64 (IntKind.u64.wrap ((y : Int).tdiv 10)))) = AV.im (uw (x / 10 ^ (18 - j)))
   rw [show (10 : Int) = ((10 : Nat) : Int) from rfl,quo_e hl (by decide),hq]; rfl
  ·show [AO.row 5 1 18 (putAt (bs _) (j * 1) [.raw (.int .u8 (IntKind.u8.wrap (IntKind.u64.wrap (48 + (y : Int).tmod 10))))])] = [AO.row 5 1 18 (bs (List.replicate j 0 ++ dig8 (digs (18 - j) x)))]
   rw [e1,show [IV.raw (.int .u8 ((48 + y % 10 : Nat) : Int))] = [ub (48 + y % 10)] from rfl,bs_put,hd]
   have e5 : List.replicate (j + 1) 0 ++ dig8 (digs (18 - (j + 1)) x) = List.replicate j 0 ++ ([] ++ (0 :: dig8 (digs (18 - (j + 1)) x))):=by rw [List.replicate_succ']; simp
   rw [e5,set2 (by simp)]; rfl
theorem bl_lt {x k : Nat} (h : x < 2 ^ k) : bl x ≤ k:=by
 have h1:=isBl_bl x
 rcases Nat.lt_or_ge k (bl x) with hlt | hge
 ·have h2:=h1.2 (by omega)
  have h3 : 2 ^ k ≤ 2 ^ (bl x - 1):=Nat.pow_le_pow_right (by decide) (by omega)
  omega
 ·exact hge
theorem bl_18 : bl 1000000000000000000 = 60:=(isBl_bl _).unique ⟨by decide,fun _=>by decide⟩
theorem c_powers {x : Nat} (hx : x < W64) : Pc Tryz.prog 151 [na x] (· = .sl 1 1 [na 1000000000000000000]):=by
 refine pc Tryz.func151 ?_
 refine ce (n_Of (x:=1000000000000000000) rfl (by decide)) rfl ?_
 refine lpn 1 ?_
 refine ⟨⟨by decide,by decide⟩,?_⟩
 refine ⟨trivial,?_⟩; rintro _ rfl
 refine ce (n_Bits (Nat.le_trans (ln_word (by decide)) (by decide))) rfl ?_
 refine ce (n_Bits (Nat.le_trans (ln_word hx) (by decide))) rfl ?_
 have hb : bl x ≤ 64:=bl_lt hx
 refine iff_ rfl (decide_eq_false ?_) ?_
 ·rw [bl_18,IntWalk.i64_in _ (by decide),IntWalk.i64_in _ (by omega)]; omega
 exact rfl
theorem c_digits0 {x : Nat} (hx : x < W64) : Fb 150 [na x,.sl 0 1 []] (dig8 (digs 18 x)):=by
 refine fc Tryz.func150 ?_
 refine ift rfl rfl ?_
 refine ce (n_Word hx) rfl ?_
 refine cfb (c_word rfl hx) rfl ?_
 exact fbe (i:=0) rfl rfl
theorem c_digits1 {x : Nat} (hx : x < W64) : Fb 150 [na x,.sl 1 1 [na 1000000000000000000]] (dig8 (digs 36 x)):=by
 have h1 : x / 1000000000000000000 < W64:=Nat.lt_of_le_of_lt (Nat.div_le_self _ _) hx
 have h2 : x % 1000000000000000000 < W64:=Nat.lt_trans (Nat.mod_lt _ (by decide)) (by decide)
 refine fc Tryz.func150 ?_
 refine iff_ rfl rfl ?_
 refine ⟨⟨by decide,by decide⟩,?_⟩
 rintro _ rfl
 refine ce (d_DivMod (by decide) (Nat.le_trans (ln_word hx) (by decide)) (Nat.le_trans (ln_word (by decide)) (by decide))) rfl ?_
 refine rq [0,1,2,3,5,6,7,8,4,9,10,11] ?_
 refine ⟨⟨by decide,by decide⟩,?_⟩
 refine ⟨⟨by decide,by decide⟩,?_⟩
 refine cfb (c_digits0 h1) rfl ?_
 refine cfb (c_digits0 h2) rfl ?_
 have hl : ∀ y,(dig8 (digs 18 y)).length = 18:=fun y=>by rw [dig8_len,digs_len]
 refine ⟨⟨by rw [hl,hl]; show (18 + 18) * 1 ≤ 140737488355328; decide,by rw [hl,hl]; show 18 + 18 ≤ 1000000000; decide⟩,?_⟩
 have e : bs (dig8 (digs 18 (x / 1000000000000000000))) ++ bs (dig8 (digs 18 (x % 1000000000000000000))) = bs (dig8 (digs 36 x)):=by
  have:=digs_two 18 x
  rw [show (10 : Nat) ^ 18 = 1000000000000000000 from rfl] at this
  rw [← show digs (18 + 18) x = digs 36 x from rfl,← this,dig8_append]; simp [bs]
 refine fbe (i:=0) (n:=(dig8 (digs 18 (x / 1000000000000000000))).length + (dig8 (digs 18 (x % 1000000000000000000))).length) ?_ (by rw [hl,hl,dig8_len,digs_len])
 rw [← e]; exact rfl
end Go.Proofs.YtlhmaljjdpjkgaaGreatDoor
namespace Go.Proofs.YtlhmaljjdpjkgaaGreatDoor
open CR
section
variable {R : Type}
def rows : Nat → (Nat → Nat → R) → List (Nat → R)
 | 0,_=>[]
 | n + 1,A=>A 0 :: rows n (fun i=>A (i + 1))
theorem rows_len : ∀ (n : Nat) (A : Nat → Nat → R),(rows n A).length = n
 | 0,_=>rfl
 | n + 1,A=>by simp [rows,rows_len n]
theorem rows_get : ∀ (n : Nat) (A : Nat → Nat → R) (i : Nat),i < n → (rows n A)[i]? = some (A i)
 | 0,_,_,h=>by omega
 | n + 1,A,0,_=>rfl
 | n + 1,A,i + 1,h=>by simp only [rows,List.getElem?_cons_succ]; exact rows_get n _ i (by omega)
theorem rows_ext {n : Nat} {A : Nat → Nat → R} {rs : List (Nat → R)} (hl : rs.length = n) (h : ∀ i,i < n → rs[i]? = some (A i)) : rs = rows n A:=by
 refine List.ext_getElem? fun i=>?_
 by_cases hi : i < n
 ·rw [h i hi,rows_get n A i hi]
 ·rw [List.getElem?_eq_none (by omega),List.getElem?_eq_none (by rw [rows_len]; omega)]
def upd (A : Nat → Nat → R) (i : Nat) (r : Nat → R) : Nat → Nat → R:=fun a=>if a = i then r else A a
theorem upd_same (A : Nat → Nat → R) (i : Nat) (r : Nat → R) : upd A i r i = r:=if_pos rfl
theorem upd_ne (A : Nat → Nat → R) {i a : Nat} (r : Nat → R) (h : a ≠ i) : upd A i r a = A a:=if_neg h
theorem upd_self (A : Nat → Nat → R) (i : Nat) : upd A i (A i) = A:=by
 funext a; unfold upd; split
 ·rename_i h; rw [h]
 ·rfl
theorem rows_upd (n : Nat) (A : Nat → Nat → R) (i : Nat) (hi : i < n) (r : Nat → R) : rows n (upd A i r) = (rows n A).set i r:=by
 refine (rows_ext (by rw [List.length_set,rows_len]) fun a ha=>?_).symm
 rw [List.getElem?_set]
 by_cases h : i = a
 ·subst h; rw [if_pos rfl,upd_same,if_pos (by rw [rows_len]; exact hi)]
 ·rw [if_neg h,upd_ne _ _ (fun e=>h e.symm),rows_get n A a ha]
theorem upd_comm (A : Nat → Nat → R) {i j : Nat} (h : i ≠ j) (r s : Nat → R) : upd (upd A i r) j s = upd (upd A j s) i r:=by
 funext a; unfold upd
 by_cases h1 : a = j
 ·rw [if_pos h1,if_neg (fun e=>h (e.symm.trans h1)),if_pos h1]
 ·rw [if_neg h1]; split <;> simp_all
theorem rows_map (g : (Nat → R) → Nat → R) : ∀ (n : Nat) (A : Nat → Nat → R),(rows n A).map g = rows n (fun i=>g (A i))
 | 0,_=>rfl
 | n + 1,A=>by simp only [rows,List.map_cons,rows_map g n]
theorem range_map_rows (n : Nat) (B : Nat → Nat → R) : (List.range n).map B = rows n B:=by
 refine rows_ext (by simp) fun i hi=>?_
 rw [List.getElem?_map,List.getElem?_range hi]; rfl
end
section
variable {R : Type} [CR R]
def io (r : Nat → R) : List Nat → (List Nat → R) → R
 | [],_=>0
 | c :: cs,F=>r c * F cs - io r cs (fun l=>F (c :: l))
theorem io_congr {r s : Nat → R} : ∀ (cs : List Nat) {F G : List Nat → R},(∀ c,c ∈ cs → r c = s c) → (∀ l : List Nat,(∀ x,x ∈ l → x ∈ cs) → F l = G l) → io r cs F = io s cs G
 | [],_,_,_,_=>rfl
 | c :: cs,F,G,h,k=>by
  simp only [io]
  rw [h c (by simp),k cs (fun x hx=>by simp [hx]),io_congr cs (F:=fun l=>F (c :: l)) (G:=fun l=>G (c :: l)) (fun c hc=>h c (by simp [hc])) (fun l hl=>k (c :: l) (fun x hx=>by
   rcases List.mem_cons.1 hx with rfl | hx
   ·simp
   ·simp [hl x hx]))]
theorem io_add (r s : Nat → R) : ∀ (cs : List Nat) (F : List Nat → R),io (fun c=>r c + s c) cs F = io r cs F + io s cs F
 | [],_=>by simp only [io]; rw [add_zero]
 | c :: cs,F=>by
  simp only [io]; rw [io_add r s cs]
  exact by_ring [r c,s c,F cs,io r cs (fun l=>F (c :: l)),io s cs (fun l=>F (c :: l))] ((X0 + X1) * X2 - (X3 + X4)) (X0 * X2 - X3 + (X1 * X2 - X4)) rfl
theorem io_mul (x : R) (r : Nat → R) : ∀ (cs : List Nat) (F : List Nat → R),io (fun c=>x * r c) cs F = x * io r cs F
 | [],_=>by simp only [io]; rw [mul_zero]
 | c :: cs,F=>by
  simp only [io]; rw [io_mul x r cs]
  exact by_ring [x,r c,F cs,io r cs (fun l=>F (c :: l))] (X0 * X1 * X2 - X0 * X3) (X0 * (X1 * X2 - X3)) rfl
theorem io_zero (cs : List Nat) (F : List Nat → R) : io (fun _=>(0 : R)) cs F = 0:=by
 exact (io_congr cs (fun c _=>(zero_mul (0 : R)).symm) (fun _ _=>rfl)).trans ((io_mul (0 : R) (fun _=>0) cs F).trans (zero_mul _))
theorem io_addF (r : Nat → R) : ∀ (cs : List Nat) (F G : List Nat → R),io r cs (fun l=>F l + G l) = io r cs F + io r cs G
 | [],_,_=>by simp only [io]; rw [add_zero]
 | c :: cs,F,G=>by
  simp only [io]; rw [io_addF r cs (fun l=>F (c :: l)) (fun l=>G (c :: l))]
  exact by_ring [r c,F cs,G cs,io r cs (fun l=>F (c :: l)),io r cs (fun l=>G (c :: l))] (X0 * (X1 + X2) - (X3 + X4)) (X0 * X1 - X3 + (X0 * X2 - X4)) rfl
theorem io_mulF (r : Nat → R) (x : R) : ∀ (cs : List Nat) (F : List Nat → R),io r cs (fun l=>x * F l) = x * io r cs F
 | [],_=>by simp only [io]; rw [mul_zero]
 | c :: cs,F=>by
  simp only [io]; rw [io_mulF r x cs (fun l=>F (c :: l))]
  exact by_ring [r c,x,F cs,io r cs (fun l=>F (c :: l))] (X0 * (X1 * X2) - X1 * X3) (X1 * (X0 * X2 - X3)) rfl
theorem io_zeroF (r : Nat → R) (cs : List Nat) : io r cs (fun _=>(0 : R)) = 0:=by
 exact (io_congr cs (fun c _=>rfl) (fun _ _=>(zero_mul (0 : R)).symm)).trans ((io_mulF r (0 : R) cs (fun _=>0)).trans (zero_mul _))
theorem io_negF (r : Nat → R) (cs : List Nat) (F : List Nat → R) : io r cs (fun l=>-F l) = -io r cs F:=by
 rw [io_congr cs (G:=fun l=>-1 * F l) (fun _ _=>rfl) (fun l _=>by rw [neg_mul,one_mul]),io_mulF,neg_mul,one_mul]
theorem io_subF (r : Nat → R) (cs : List Nat) (F G : List Nat → R) : io r cs (fun l=>F l - G l) = io r cs F - io r cs G:=by
 rw [io_congr cs (G:=fun l=>F l + -G l) (fun _ _=>rfl) (fun l _=>sub_eq _ _),io_addF,io_negF,← sub_eq]
theorem io_anti (r s : Nat → R) : ∀ (cs : List Nat) (F : List Nat → R),io r cs (fun l=>io s l F) = -io s cs (fun l=>io r l F)
 | [],_=>by simp only [io]; rw [neg_zero]
 | c :: cs,F=>by
  have h:=io_anti r s cs (fun l=>F (c :: l))
  simp only [io]
  rw [io_subF,io_mulF,io_subF,io_mulF,h]
  exact by_ring [r c,s c,io s cs F,io r cs F,io s cs (fun l=>io r l fun l=>F (c :: l))] (X0 * X2 - (X1 * X3 - -X4)) (-(X1 * X3 - (X0 * X2 - X4))) rfl
theorem io_self (r : Nat → R) : ∀ (cs : List Nat) (F : List Nat → R),io r cs (fun l=>io r l F) = 0
 | [],_=>by simp only [io]
 | c :: cs,F=>by
  have h:=io_self r cs (fun l=>F (c :: l))
  simp only [io]
  rw [io_subF,io_mulF,h]
  exact by_ring [r c,io r cs F] (X0 * X1 - (X0 * X1 - 0)) 0 rfl
def ops : List (Nat → R) → (List Nat → R) → List Nat → R
 | [],F,cs=>F cs
 | r :: rs,F,cs=>io r cs (ops rs F)
theorem ops_kill (r : Nat → R) : ∀ (rs : List (Nat → R)),r ∈ rs → ∀ (F : List Nat → R) (cs : List Nat),io r cs (ops rs F) = 0
 | [],h,_,_=>by simp at h
 | s :: rs,h,F,cs=>by
  show io r cs (fun l=>io s l (ops rs F)) = 0
  rcases List.mem_cons.1 h with rfl | h
  ·exact io_self _ _ _
  ·rw [io_anti,io_congr cs (G:=fun _=>0) (fun _ _=>rfl) (fun l _=>ops_kill r rs h F l),io_zeroF,neg_zero]
theorem ops_same : ∀ (rs : List (Nat → R)) (i j : Nat) (r : Nat → R),i < j → rs[i]? = some r → rs[j]? = some r → ∀ (F : List Nat → R) (cs : List Nat),ops rs F cs = 0
 | [],i,j,r,_,h,_,_,_=>by simp at h
 | s :: rs,0,j + 1,r,_,h,k,F,cs=>by
  simp at h; subst h
  exact ops_kill s rs (List.mem_of_getElem? (by simpa using k)) F cs
 | s :: rs,i + 1,j + 1,r,hij,h,k,F,cs=>by
  simp only [ops]
  rw [io_congr cs (G:=fun _=>0) (fun _ _=>rfl) (fun l _=>ops_same rs i j r (by omega) (by simpa using h) (by simpa using k) F l),io_zeroF]
theorem ops_lin (x y : R) (r s : Nat → R) : ∀ (rs : List (Nat → R)) (i : Nat),i < rs.length → ∀ (F : List Nat → R) (cs : List Nat),
  ops (rs.set i (fun c=>x * r c + y * s c)) F cs = x * ops (rs.set i r) F cs + y * ops (rs.set i s) F cs
 | [],i,h,_,_=>by simp at h
 | t :: rs,0,_,F,cs=>by simp only [List.set_cons_zero,ops]; rw [io_add,io_mul,io_mul]
 | t :: rs,i + 1,h,F,cs=>by
  simp only [List.set_cons_succ,ops]
  rw [← io_mulF,← io_mulF,← io_addF]
  exact io_congr cs (fun _ _=>rfl) (fun l _=>ops_lin x y r s rs i (by simpa using h) F l)
def sg (k : Nat) (x : R) : R:=if k % 2 = 1 then -x else x
theorem sg_zero (x : R) : sg 0 x = x:=rfl
theorem sg_succ (k : Nat) (x : R) : sg (k + 1) x = -sg k x:=by
 unfold sg
 rcases Nat.mod_two_eq_zero_or_one k with h | h
 ·rw [if_pos (by omega),if_neg (by omega)]
 ·rw [if_neg (by omega),if_pos h,neg_neg]
theorem sg_mul (k : Nat) (x y : R) : sg k (x * y) = x * sg k y:=by unfold sg; split <;> simp [mul_neg]
theorem sg_mul' (k : Nat) (x y : R) : sg k (x * y) = sg k x * y:=by unfold sg; split <;> simp [neg_mul]
theorem io_sum (r : Nat → R) : ∀ (cs : List Nat) (F : List Nat → R),io r cs F = sm cs.length (fun k=>sg k (r (cs.getD k 0) * F (cs.eraseIdx k)))
 | [],_=>rfl
 | c :: cs,F=>by
  simp only [io,List.length_cons]
  rw [sm_head,io_sum r cs (fun l=>F (c :: l)),sub_eq,← sm_neg]
  congr 1
  exact sm_congr fun i _=>by rw [sg_succ]; simp
def mnr (A : Nat → Nat → R) (k : Nat) : Nat → Nat → R:=fun i j=>A (i + 1) (if j < k then j else j + 1)
def dn : Nat → (Nat → Nat → R) → R
 | 0,_=>1
 | n + 1,A=>sm (n + 1) (fun k=>sg k (A 0 k * dn n (mnr A k)))
theorem dn_congr : ∀ (n : Nat) {A B : Nat → Nat → R},(∀ i j,i < n → j < n → A i j = B i j) → dn n A = dn n B
 | 0,_,_,_=>rfl
 | n + 1,A,B,h=>by
  simp only [dn]
  refine sm_congr fun k hk=>?_
  rw [h 0 k (by omega) hk,dn_congr n (A:=mnr A k) (B:=mnr B k) (fun i j hi hj=>h _ _ (by omega) (by split <;> omega))]
theorem ops_dn : ∀ (n : Nat) (A : Nat → Nat → R) (cs : List Nat),cs.length = n → ops (rows n A) (fun _=>1) cs = dn n (fun i j=>A i (cs.getD j 0))
 | 0,_,_,_=>rfl
 | n + 1,A,cs,h=>by
  simp only [rows,ops,dn]
  rw [io_sum,h]
  refine sm_congr fun k hk=>?_
  rw [ops_dn n _ _ (by rw [List.length_eraseIdx,if_pos (by omega)]; omega)]
  congr 2
  refine dn_congr n fun i j _ hj=>?_
  unfold mnr
  congr 1
  simp only [List.getD,List.getElem?_eraseIdx]
  split <;> rfl
theorem dn_ops (n : Nat) (A : Nat → Nat → R) : dn n A = ops (rows n A) (fun _=>1) (List.range n):=by
 rw [ops_dn n A _ (by simp)]
 exact dn_congr n fun i j _ hj=>by simp [List.getD,hj]
theorem dn_lin (n : Nat) (A : Nat → Nat → R) (i : Nat) (hi : i < n) (x y : R) (r s : Nat → R) :
  dn n (upd A i (fun c=>x * r c + y * s c)) = x * dn n (upd A i r) + y * dn n (upd A i s):=by
 rw [dn_ops,dn_ops,dn_ops,rows_upd n A i hi,rows_upd n A i hi,rows_upd n A i hi]
 exact ops_lin x y r s _ i (by rw [rows_len]; exact hi) _ _
theorem dn_rep {n : Nat} {A : Nat → Nat → R} {i j : Nat} (hij : i < j) (hj : j < n) (h : A i = A j) : dn n A = 0:=by
 rw [dn_ops]
 exact ops_same _ i j (A i) hij (rows_get n A i (by omega)) (by rw [rows_get n A j hj,h]) _ _
theorem dn_rep' {n : Nat} {A : Nat → Nat → R} {i j : Nat} (hij : i ≠ j) (hi : i < n) (hj : j < n) (h : A i = A j) : dn n A = 0:=by
 rcases Nat.lt_or_gt_of_ne hij with hl | hl
 ·exact dn_rep hl hj h
 ·exact dn_rep hl hi h.symm
theorem dn_scale (n : Nat) (A : Nat → Nat → R) (i : Nat) (hi : i < n) (x : R) (r : Nat → R) : dn n (upd A i (fun c=>x * r c)) = x * dn n (upd A i r):=by
 refine (dn_congr n fun a j _ _=>?_).trans ((dn_lin n A i hi x 0 r r).trans (by rw [zero_mul,add_zero]))
 unfold upd; split
 ·show x * r j = x * r j + 0 * r j
  rw [zero_mul,add_zero]
 ·rfl
theorem dn_mix (n : Nat) (A : Nat → Nat → R) {i j : Nat} (h : i ≠ j) (hi : i < n) (hj : j < n) (a b c d : R) :
  dn n (upd (upd A i (fun k=>a * A i k + b * A j k)) j (fun k=>c * A i k + d * A j k)) = (a * d - b * c) * dn n A:=by
 have lin2 : ∀ r s t x y,dn n (upd (upd A i r) j (fun k=>x * s k + y * t k)) = x * dn n (upd (upd A i r) j s) + y * dn n (upd (upd A i r) j t):=
  fun r s t x y=>dn_lin n _ j hj x y s t
 have lin1 : ∀ r s t x y,dn n (upd (upd A i (fun k=>x * s k + y * t k)) j r) = x * dn n (upd (upd A i s) j r) + y * dn n (upd (upd A i t) j r):=by
  intro r s t x y
  rw [upd_comm A h,upd_comm A h,upd_comm A h]; exact dn_lin n _ i hi x y s t
 have rep : ∀ r,dn n (upd (upd A i r) j r) = 0:=fun r=>dn_rep' h hi hj (by rw [upd_same,upd_ne _ _ h,upd_same])
 have e : upd (upd A i (A i)) j (A j) = A:=by rw [upd_self,upd_self]
 have sw : dn n A + dn n (upd (upd A i (A j)) j (A i)) = 0:=by
  have h1:=rep (fun k=>1 * A i k + 1 * A j k)
  rw [lin1,lin2,lin2,rep,rep,e] at h1
  rw [← h1]
  exact by_ring [dn n A,dn n (upd (upd A i (A j)) j (A i))] (X0 + X1) (1 * (1 * 0 + 1 * X0) + 1 * (1 * X1 + 1 * 0)) rfl
 rw [lin1,lin2,lin2,rep,rep,e,neg_unique sw]
 exact by_ring [a,b,c,d,dn n A] (X0 * (X2 * 0 + X3 * X4) + X1 * (X2 * -X4 + X3 * 0)) ((X0 * X3 - X1 * X2) * X4) rfl
def ls : List Nat → (Nat → R) → R
 | [],_=>0
 | j :: js,f=>f j + ls js f
theorem ls_range_aux (f : Nat → R) : ∀ n k,ls (List.range' k n) f = sm n (fun i=>f (k + i))
 | 0,_=>rfl
 | n + 1,k=>by
  rw [List.range'_succ,sm_head]; simp only [ls]
  rw [ls_range_aux f n (k + 1)]
  congr 1
  exact sm_congr fun i _=>by rw [show k + 1 + i = k + (i + 1) by omega]
theorem ls_range (f : Nat → R) (n : Nat) : ls (List.range n) f = sm n f:=by
 rw [List.range_eq_range',ls_range_aux]; exact sm_congr fun i _=>by rw [Nat.zero_add]
theorem ls_erase (f : Nat → R) : ∀ (js : List Nat) (k : Nat),k < js.length → ls js f = f (js.getD k 0) + ls (js.eraseIdx k) f
 | [],_,h=>by simp at h
 | j :: js,0,_=>rfl
 | j :: js,k + 1,h=>by
  simp only [ls,List.eraseIdx_cons_succ]
  rw [ls_erase f js k (by simpa using h),add_left_comm]; simp
theorem ops_blind (b : Nat → R) (x : (Nat → R) → R) (g : (Nat → R) → Nat → R) : ∀ (az : List (Nat → R)) (F : List Nat → R) (cs : List Nat),
  io b cs (ops (az.map fun a=>fun c=>g a c + x a * b c) F) = io b cs (ops (az.map g) F)
 | [],_,_=>rfl
 | a :: az,F,cs=>by
  simp only [List.map_cons]
  show io b cs (fun l=>io (fun c=>g a c + x a * b c) l (ops (az.map fun a=>fun c=>g a c + x a * b c) F)) = io b cs (fun l=>io (g a) l (ops (az.map g) F))
  have h : ∀ G : List Nat → R,io b cs (fun l=>io (fun c=>g a c + x a * b c) l G) = io b cs (fun l=>io (g a) l G):=by
   intro G
   rw [io_congr cs (G:=fun l=>io (g a) l G + x a * io b l G) (fun _ _=>rfl) (fun l _=>by rw [io_add,io_mul]),io_addF,io_mulF,io_self,mul_zero,add_zero]
  rw [h,io_anti,io_anti b]
  exact congrArg (fun z=>-z) (io_congr cs (fun _ _=>rfl) (fun l _=>ops_blind b x g az F l))
theorem ops_front (B : Nat → Nat → R) : ∀ (js : List Nat) (k : Nat),k < js.length → ∀ (F : List Nat → R) (cs : List Nat),
  io (B (js.getD k 0)) cs (ops ((js.eraseIdx k).map B) F) = sg k (ops (js.map B) F cs)
 | [],_,h,_,_=>by simp at h
 | j :: js,0,_,F,cs=>rfl
 | j :: js,k + 1,h,F,cs=>by
  simp only [List.eraseIdx_cons_succ,List.map_cons,List.getD_cons_succ]
  show io (B (js.getD k 0)) cs (fun l=>io (B j) l (ops ((js.eraseIdx k).map B) F)) = sg (k + 1) (io (B j) cs (ops (js.map B) F))
  rw [io_anti,io_congr cs (G:=fun l=>sg k (ops (js.map B) F l)) (fun _ _=>rfl) (fun l _=>ops_front B js k (by simpa using h) F l),sg_succ]
  congr 1
  unfold sg
  split
  ·exact io_negF _ _ _
  ·rfl
theorem io_sums (f : Nat → R) (B : Nat → Nat → R) (cs : List Nat) (F : List Nat → R) : ∀ n,io (fun c=>sm n (fun k=>f k * B k c)) cs F = sm n (fun k=>f k * io (B k) cs F)
 | 0=>io_zero cs F
 | n + 1=>by simp only [sm]; rw [io_add,io_mul,io_sums f B cs F n]
theorem ls_sm (f : Nat → R) : ∀ js : List Nat,ls js f = sm js.length (fun k=>f (js.getD k 0))
 | []=>rfl
 | j :: js=>by
  simp only [ls,List.length_cons]; rw [sm_head,ls_sm f js]
  rfl
theorem ops_comb (B : Nat → Nat → R) : ∀ (az : List (Nat → R)) (js : List Nat),az.length = js.length → ∀ (F : List Nat → R) (cs : List Nat),
  ops (az.map fun a=>fun c=>ls js fun j=>a j * B j c) F cs = ops az (fun _=>1) js * ops (js.map B) F cs
 | [],[],_,F,cs=>by simp only [List.map_nil,ops]; rw [one_mul]
 | [],_ :: _,h,_,_=>by simp at h
 | _ :: _,[],h,_,_=>by simp at h
 | a :: az,j0 :: js0,h,F,cs=>by
  generalize hjs : j0 :: js0 = js at h ⊢
  simp only [List.map_cons,ops]
  rw [io_congr cs (s:=fun c=>sm js.length (fun k=>a (js.getD k 0) * B (js.getD k 0) c)) (F:=ops (az.map fun a=>fun c=>ls js fun j=>a j * B j c) F) (fun c _=>ls_sm _ js) (fun _ _=>rfl),
   io_sums (fun k=>a (js.getD k 0)) (fun k=>B (js.getD k 0)),io_sum,mul_comm,← sm_mul]
  refine sm_congr fun k hk=>?_
  have e1 : (fun (a : Nat → R)=>fun c=>ls js fun j=>a j * B j c) = (fun a=>fun c=>(fun c=>ls (js.eraseIdx k) fun j=>a j * B j c) c + (fun a : Nat → R=>a (js.getD k 0)) a * B (js.getD k 0) c):=by
   funext a c; rw [ls_erase _ js k hk,add_comm]
  rw [e1,ops_blind (B (js.getD k 0)) (fun a=>a (js.getD k 0)) (fun a=>fun c=>ls (js.eraseIdx k) fun j=>a j * B j c) az F cs]
  have e2:=fun l=>ops_comb B az (js.eraseIdx k) (by rw [List.length_eraseIdx,if_pos hk]; simp at h; omega) F l
  rw [io_congr cs (G:=fun l=>ops az (fun _=>1) (js.eraseIdx k) * ops ((js.eraseIdx k).map B) F l) (fun _ _=>rfl) (fun l _=>e2 l),io_mulF,ops_front B js k hk]
  unfold sg
  split
  ·exact by_ring [a (js.getD k 0),ops az (fun _=>1) (js.eraseIdx k),ops (js.map B) F cs] (X0 * (X1 * -X2)) (X2 * -(X0 * X1)) rfl
  ·exact by_ring [a (js.getD k 0),ops az (fun _=>1) (js.eraseIdx k),ops (js.map B) F cs] (X0 * (X1 * X2)) (X2 * (X0 * X1)) rfl
def mm (n : Nat) (A B : Nat → Nat → R) : Nat → Nat → R:=fun i k=>sm n (fun j=>A i j * B j k)
def one1 : Nat → Nat → R:=fun i k=>if i = k then 1 else 0
theorem dn_mul (n : Nat) (A B : Nat → Nat → R) : dn n (mm n A B) = dn n A * dn n B:=by
 rw [dn_ops n (mm n A B),dn_ops n A,dn_ops n B,← range_map_rows n B,← ops_comb B (rows n A) (List.range n) (by rw [rows_len]; simp),rows_map]
 congr 2
 funext i c
 rw [ls_range]; rfl
theorem mm_assoc (n m : Nat) (A B C : Nat → Nat → R) : mm m (mm n A B) C = mm n A (mm m B C):=by
 funext i k
 show sm m (fun j=>sm n (fun t=>A i t * B t j) * C j k) = sm n (fun t=>A i t * sm m (fun j=>B t j * C j k))
 rw [sm_congr (g:=fun j=>sm n (fun t=>A i t * (B t j * C j k))) (fun j _=>by
  rw [mul_comm,← sm_mul]; exact sm_congr fun t _=>by rw [mul_comm,mul_assoc]),sm_swap]
 exact sm_congr fun t _=>by rw [← sm_mul]
theorem one_mm {n : Nat} (A : Nat → Nat → R) {i k : Nat} (hi : i < n) : mm n one1 A i k = A i k:=by
 show sm n (fun j=>one1 i j * A j k) = _
 rw [sm_one hi (fun j _ hj=>by unfold one1; rw [if_neg (fun e=>hj e.symm),zero_mul])]
 unfold one1; rw [if_pos rfl,one_mul]
theorem dn_one : ∀ n : Nat,dn n (one1 : Nat → Nat → R) = 1
 | 0=>rfl
 | n + 1=>by
  simp only [dn]
  rw [sm_one (k:=0) (by omega) (fun i _ hi=>by
   unfold one1; rw [if_neg (fun e=>hi e.symm),zero_mul]; unfold sg; split
   ·exact neg_zero
   ·rfl),sg_zero]
  show (if (0 : Nat) = 0 then (1 : R) else 0) * _ = 1
  rw [if_pos rfl,one_mul,← dn_one n]
  refine dn_congr n fun i j _ _=>?_
  unfold mnr one1
  rw [if_neg (Nat.not_lt_zero _)]
  by_cases h : i = j
  ·rw [if_pos h,if_pos (by omega)]
  ·rw [if_neg h,if_neg (by omega)]
end
structure MT (R : Type) [CR R] (n m : Nat) where
 e : Nat → Nat → R
 out : ∀ i k,n ≤ i ∨ m ≤ k → e i k = 0
section
variable {R : Type} [CR R] {n m l q : Nat}
theorem MT.ext {A B : MT R n m} (h : ∀ i k,i < n → k < m → A.e i k = B.e i k) : A = B:=by
 obtain ⟨a,ha⟩:=A; obtain ⟨b,hb⟩:=B
 have : a = b:=by
  funext i k
  by_cases hi : i < n
  ·by_cases hk : k < m
   ·exact h i k hi hk
   ·rw [ha i k (.inr (by omega)),hb i k (.inr (by omega))]
  ·rw [ha i k (.inl (by omega)),hb i k (.inl (by omega))]
 subst this; rfl
def MT.of (n m : Nat) (f : Nat → Nat → R) : MT R n m:=⟨fun i k=>if i < n ∧ k < m then f i k else 0,fun _ _ h=>if_neg (by omega)⟩
theorem MT.of_e (f : Nat → Nat → R) {i k : Nat} (hi : i < n) (hk : k < m) : (MT.of n m f).e i k = f i k:=if_pos ⟨hi,hk⟩
theorem MT.of_congr {f g : Nat → Nat → R} (h : ∀ i k,i < n → k < m → f i k = g i k) : MT.of n m f = MT.of n m g:=
 MT.ext fun i k hi hk=>by rw [MT.of_e f hi hk,MT.of_e g hi hk,h i k hi hk]
theorem MT.of_self (A : MT R n m) : MT.of n m A.e = A:=MT.ext fun _ _ hi hk=>MT.of_e _ hi hk
instance : HMul (MT R n m) (MT R m l) (MT R n l):=⟨fun A B=>⟨mm m A.e B.e,fun i k h=>sm_zero' fun j _=>by
 rcases h with h | h
 ·rw [A.out i j (.inl h),zero_mul]
 ·rw [B.out j k (.inr h),mul_zero]⟩⟩
def MT.one (n : Nat) : MT R n n:=MT.of n n one1
def MT.sc (c : R) (A : MT R n m) : MT R n m:=⟨fun i k=>c * A.e i k,fun i k h=>by rw [A.out i k h,mul_zero]⟩
theorem MT.e_mul (A : MT R n m) (B : MT R m l) (i k : Nat) : (A * B).e i k = sm m (fun j=>A.e i j * B.e j k):=rfl
theorem MT.e_sc (c : R) (A : MT R n m) (i k : Nat) : (A.sc c).e i k = c * A.e i k:=rfl
theorem MT.e_one {i k : Nat} (hi : i < n) (hk : k < n) : (MT.one n : MT R n n).e i k = if i = k then 1 else 0:=MT.of_e one1 hi hk
theorem MT.mul_assoc (A : MT R n m) (B : MT R m l) (C : MT R l q) : A * B * C = A * (B * C):=MT.ext fun i k _ _=>congrFun (congrFun (mm_assoc m l A.e B.e C.e) i) k
theorem MT.mul_one (A : MT R n m) : A * (MT.one m : MT R m m) = A:=MT.ext fun i k _ hk=>by
 rw [MT.e_mul,sm_one hk (fun j hj hn=>by rw [MT.e_one hj hk,if_neg hn,mul_zero]),MT.e_one hk hk,if_pos rfl,CR.mul_one]
theorem MT.one_mul (A : MT R n m) : (MT.one n : MT R n n) * A = A:=MT.ext fun i k hi _=>by
 rw [MT.e_mul,sm_one hi (fun j hj hn=>by rw [MT.e_one hi hj,if_neg (fun e=>hn e.symm),zero_mul]),MT.e_one hi hi,if_pos rfl,CR.one_mul]
theorem MT.sc_mul (c : R) (A : MT R n m) (B : MT R m l) : A.sc c * B = (A * B).sc c:=MT.ext fun i k _ _=>by
 rw [MT.e_sc,MT.e_mul,MT.e_mul,← sm_mul]; exact sm_congr fun j _=>by rw [MT.e_sc,CR.mul_assoc]
theorem MT.mul_sc (c : R) (A : MT R n m) (B : MT R m l) : A * B.sc c = (A * B).sc c:=MT.ext fun i k _ _=>by
 rw [MT.e_sc,MT.e_mul,MT.e_mul,← sm_mul]; exact sm_congr fun j _=>by rw [MT.e_sc,CR.mul_left_comm]
theorem MT.sc_sc (c d : R) (A : MT R n m) : (A.sc d).sc c = A.sc (c * d):=MT.ext fun i k _ _=>by simp only [MT.e_sc]; rw [CR.mul_assoc]
def MT.det (A : MT R n n) : R:=dn n A.e
theorem MT.det_mul (A B : MT R n n) : (A * B).det = A.det * B.det:=dn_mul n A.e B.e
def Inv (A : MT R n m) (B : MT R m n) : Prop:=A * B = MT.one n ∧ B * A = MT.one m
theorem Inv.one : Inv (MT.one n : MT R n n) (MT.one n):=⟨MT.mul_one _,MT.mul_one _⟩
theorem Inv.mul {A : MT R n m} {B : MT R m n} {C : MT R m l} {D : MT R l m} (h : Inv A B) (k : Inv C D) : Inv (A * C) (D * B):=by
 constructor
 ·rw [MT.mul_assoc,← MT.mul_assoc C,k.1,MT.one_mul,h.1]
 ·rw [MT.mul_assoc,← MT.mul_assoc B,h.2,MT.one_mul,k.2]
theorem dn_row0 {A : Nat → Nat → R} {i : Nat} (hi : i < n) (h : ∀ k,k < n → A i k = 0) : dn n A = 0:=by
 refine (dn_congr n fun a k _ hk=>?_).trans ((dn_scale n A i hi 0 (A i)).trans (CR.zero_mul _))
 unfold upd; split
 ·rename_i h1; subst h1; rw [h k hk]; exact (CR.zero_mul _).symm
 ·rfl
theorem Inv.sides (h01 : (1 : R) ≠ 0) {A : MT R n m} {B : MT R m n} (h : A * B = MT.one n) : n ≤ m:=by
 rcases Nat.lt_or_ge m n with hl | hl
 ·exfalso
  apply h01
  have e1 : dn n (mm n A.e B.e) = 1:=by
   rw [← dn_one n]
   refine dn_congr n fun i k hi hk=>?_
   have : (A * B).e i k = (MT.one n).e i k:=by rw [h]
   rw [MT.e_mul,MT.e_one hi hk] at this
   show sm n (fun j=>A.e i j * B.e j k) = _
   have e : ∀ N,N = m + (n - m) → sm N (fun j=>A.e i j * B.e j k) = one1 i k:=by
    intro N hN
    rw [hN,sm_split,this,sm_zero' (n:=n - m) (fun j _=>by rw [A.out i (m + j) (.inr (by omega)),CR.zero_mul]),CR.add_zero]
    rfl
   exact e n (by omega)
  rw [← e1,dn_mul,dn_row0 (A:=B.e) (i:=m) hl (fun k _=>B.out m k (.inl (Nat.le_refl _))),CR.mul_zero]
 ·exact hl
end
section
variable {R : Type} [CR R] {n m l : Nat}
def swp (W : Nat → Nat → R) (i j : Nat) : Nat → Nat → R:=fun a=>if a = i then W j else if a = j then W i else W a
def tks (W : Nat → Nat → R) (t : Nat) (c : Nat → R) : Nat → Nat → R:=fun r k=>if r = t then W r k else W r k - c r * W t k
def scl (W : Nat → Nat → R) (t : Nat) (c : R) : Nat → Nat → R:=fun r k=>if r = t then W r k * c else W r k
def Rq (n m : Nat) (W V : Nat → Nat → R) : Prop:=∃ T T' : MT R n n,Inv T T' ∧ MT.of n m V = T * MT.of n m W
theorem Rq.refl (W : Nat → Nat → R) : Rq n m W W:=⟨_,_,Inv.one,(MT.one_mul _).symm⟩
theorem Rq.trans {W V U : Nat → Nat → R} (h : Rq n m W V) (k : Rq n m V U) : Rq n m W U:=by
 obtain ⟨T,T',h1,h2⟩:=h
 obtain ⟨S,S',k1,k2⟩:=k
 exact ⟨S * T,T' * S',k1.mul h1,by rw [k2,h2,MT.mul_assoc]⟩
theorem Rq.of {W V : Nat → Nat → R} {f g : Nat → Nat → R} (h1 : Inv (MT.of n n f) (MT.of n n g)) (h : ∀ i k,i < n → k < m → V i k = sm n (fun j=>f i j * W j k)) : Rq n m W V:=
 ⟨_,_,h1,MT.ext fun i k hi hk=>by
  rw [MT.of_e _ hi hk,MT.e_mul,h i k hi hk]
  exact sm_congr fun j hj=>by rw [MT.of_e _ hi hj,MT.of_e _ hj hk]⟩
theorem inv_of {f g : Nat → Nat → R} (h : ∀ i k,i < n → k < n → sm n (fun j=>f i j * g j k) = if i = k then 1 else 0) (h' : ∀ i k,i < n → k < n → sm n (fun j=>g i j * f j k) = if i = k then 1 else 0) :
  Inv (MT.of n n f) (MT.of n n g):=by
 constructor
 ·refine MT.ext fun i k hi hk=>?_
  rw [MT.e_mul,MT.e_one hi hk,← h i k hi hk]
  exact sm_congr fun j hj=>by rw [MT.of_e _ hi hj,MT.of_e _ hj hk]
 ·refine MT.ext fun i k hi hk=>?_
  rw [MT.e_mul,MT.e_one hi hk,← h' i k hi hk]
  exact sm_congr fun j hj=>by rw [MT.of_e _ hi hj,MT.of_e _ hj hk]
theorem Rq.swp {W : Nat → Nat → R} {i j : Nat} (hi : i < n) (hj : j < n) : Rq n m W (swp W i j):=by
 have S : ∀ (V : Nat → Nat → R) r k,r < n → sm n (fun t=>Go.Proofs.YtlhmaljjdpjkgaaGreatDoor.swp one1 i j r t * V t k) = Go.Proofs.YtlhmaljjdpjkgaaGreatDoor.swp V i j r k:=by
  intro V r k hr
  have one : ∀ a,a < n → sm n (fun t=>one1 a t * V t k) = V a k:=fun a ha=>one_mm V ha
  unfold Go.Proofs.YtlhmaljjdpjkgaaGreatDoor.swp
  by_cases h1 : r = i
  ·simp only [if_pos h1]; exact one j hj
  ·by_cases h2 : r = j
   ·simp only [if_neg h1,if_pos h2]; exact one i hi
   ·simp only [if_neg h1,if_neg h2]; exact one r hr
 have I : ∀ r k,r < n → k < n → sm n (fun t=>Go.Proofs.YtlhmaljjdpjkgaaGreatDoor.swp (one1 : Nat → Nat → R) i j r t * Go.Proofs.YtlhmaljjdpjkgaaGreatDoor.swp one1 i j t k) = if r = k then 1 else 0:=by
  intro r k hr _
  rw [S _ r k hr]
  have e3 : Go.Proofs.YtlhmaljjdpjkgaaGreatDoor.swp (Go.Proofs.YtlhmaljjdpjkgaaGreatDoor.swp (one1 : Nat → Nat → R) i j) i j r = one1 r:=by
   unfold Go.Proofs.YtlhmaljjdpjkgaaGreatDoor.swp
   by_cases h1 : r = i
   ·subst h1; by_cases h2 : j = r
    ·subst h2; simp
    ·simp [h2]
   ·by_cases h2 : r = j
    ·subst h2; simp; intro h3; exact fun h4=>(h4 h3).elim
    ·simp [h1,h2]
  rw [e3]; rfl
 exact Rq.of (inv_of I I) (fun r k hr _=>(S W r k hr).symm)
theorem Rq.scl {W : Nat → Nat → R} {t : Nat} {c d : R} (h : c * d = 1) : Rq n m W (scl W t c):=by
 have h' : d * c = 1:=by rw [mul_comm]; exact h
 have dg : ∀ (a b : R),a * b = 1 → ∀ r k,r < n → k < n → sm n (fun j=>(if r = j then (if r = t then a else 1) else 0) * (if j = k then (if j = t then b else 1) else 0)) = if r = k then 1 else 0:=by
  intro a b hab r k hr hk
  rw [sm_one hr (fun j _ hj=>by rw [if_neg (fun e=>hj e.symm),zero_mul]),if_pos rfl]
  by_cases e : r = k
  ·subst e; rw [if_pos rfl,if_pos rfl]
   split
   ·exact hab
   ·exact mul_one _
  ·rw [if_neg e,if_neg e,mul_zero]
 refine Rq.of (inv_of (dg c d h) (dg d c h')) (fun r k hr hk=>?_)
 rw [sm_one hr (fun j _ hj=>by rw [if_neg (fun e=>hj e.symm),zero_mul]),if_pos rfl]
 unfold Go.Proofs.YtlhmaljjdpjkgaaGreatDoor.scl
 split
 ·exact mul_comm _ _
 ·rw [one_mul]
theorem Rq.tks {W : Nat → Nat → R} {t : Nat} (ht : t < n) (c : Nat → R) : Rq n m W (tks W t c):=by
 have mk : ∀ (d : Nat → R) (V : Nat → Nat → R) r k,r < n → sm n (fun j=>Go.Proofs.YtlhmaljjdpjkgaaGreatDoor.tks one1 t d r j * V j k) = Go.Proofs.YtlhmaljjdpjkgaaGreatDoor.tks V t d r k:=by
  intro d V r k hr
  unfold Go.Proofs.YtlhmaljjdpjkgaaGreatDoor.tks
  by_cases h : r = t
  ·simp only [if_pos h]; exact one_mm V hr
  ·simp only [if_neg h]
   have e0 : sm n (fun j=>(one1 r j - d r * one1 t j) * V j k) = sm n (fun j=>one1 r j * V j k + -d r * (one1 t j * V j k)):=sm_congr fun j _=>by_ring [one1 r j,d r,one1 t j,V j k] ((X0 - X1 * X2) * X3) (X0 * X3 + -X1 * (X2 * X3)) rfl
   rw [e0,sm_add,sm_mul]
   have e1 : sm n (fun j=>one1 r j * V j k) = V r k:=one_mm V hr
   have e2 : sm n (fun j=>one1 t j * V j k) = V t k:=one_mm V ht
   rw [e1,e2]
   exact by_ring [V r k,d r,V t k] (X0 + -X1 * X2) (X0 - X1 * X2) rfl
 have I : ∀ (d d' : Nat → R),(∀ r,d r + d' r = 0) → ∀ r k,r < n → k < n → sm n (fun j=>Go.Proofs.YtlhmaljjdpjkgaaGreatDoor.tks (one1 : Nat → Nat → R) t d r j * Go.Proofs.YtlhmaljjdpjkgaaGreatDoor.tks one1 t d' j k) = if r = k then 1 else 0:=by
  intro d d' hd r k hr _
  rw [mk d _ r k hr]
  have e : Go.Proofs.YtlhmaljjdpjkgaaGreatDoor.tks (Go.Proofs.YtlhmaljjdpjkgaaGreatDoor.tks (one1 : Nat → Nat → R) t d') t d r k = one1 r k:=by
   unfold Go.Proofs.YtlhmaljjdpjkgaaGreatDoor.tks
   by_cases h : r = t
   ·simp [h]
   ·rw [if_neg h,if_neg h,if_pos rfl]
    have:=hd r
    have e2 : one1 r k - d' r * one1 t k - d r * one1 t k = one1 r k - (d r + d' r) * one1 t k:=by_ring [one1 r k,d' r,one1 t k,d r] (X0 - X1 * X2 - X3 * X2) (X0 - (X3 + X1) * X2) rfl
    rw [e2,this,zero_mul,sub_zero]
  rw [e]; rfl
 exact Rq.of (inv_of (I c (fun r=>-c r) (fun r=>add_neg _)) (I (fun r=>-c r) c (fun r=>neg_add _))) (fun r k hr _=>(mk c W r k hr).symm)
structure RedI (n m col : Nat) (W0 W : Nat → Nat → R) (P : List Nat) : Prop where
 rq : Rq n m W0 W
 len : P.length ≤ n
 lt : ∀ t,t < P.length → P.getD t 0 < col
 inc : ∀ s t,s < t → t < P.length → P.getD s 0 < P.getD t 0
 unit : ∀ t i,t < P.length → i < n → W i (P.getD t 0) = if i = t then 1 else 0
 low : ∀ i k,P.length ≤ i → i < n → k < col → W i k = 0
 left : ∀ t k,t < P.length → k < P.getD t 0 → W t k = 0
theorem RedI.start (W : Nat → Nat → R) : RedI n m 0 W W []:=
 ⟨Rq.refl W,Nat.zero_le _,fun t h=>by simp at h,fun s t _ h=>by simp at h,fun t i h=>by simp at h,fun i k _ _ h=>by omega,fun t k h=>by simp at h⟩
theorem RedI.none {col : Nat} {W0 W : Nat → Nat → R} {P : List Nat} (h : RedI n m col W0 W P) (h0 : ∀ i,P.length ≤ i → i < n → W i col = 0) : RedI n m (col + 1) W0 W P:=
 ⟨h.rq,h.len,fun t ht=>Nat.lt_succ_of_lt (h.lt t ht),h.inc,h.unit,fun i k h1 h2 h3=>by
  by_cases e : k = col
  ·rw [e]; exact h0 i h1 h2
  ·exact h.low i k h1 h2 (by omega),h.left⟩
def elm (W : Nat → Nat → R) (t i col : Nat) (c : R) : Nat → Nat → R:=tks (scl (swp W t i) t c) t (fun r=>swp W t i r col)
theorem elm_top (W : Nat → Nat → R) (t i col : Nat) (c : R) (k : Nat) : elm W t i col c t k = W i k * c:=by
 unfold elm tks scl swp; rw [if_pos rfl,if_pos rfl,if_pos rfl]
theorem elm_ne (W : Nat → Nat → R) {t i col : Nat} (c : R) {r : Nat} (h : r ≠ t) (k : Nat) : elm W t i col c r k = swp W t i r k - swp W t i r col * (W i k * c):=by
 unfold elm tks scl; rw [if_neg h,if_neg h,if_pos rfl]
 congr 2
 show swp W t i t k * c = _
 congr 1; unfold swp; rw [if_pos rfl]
theorem getD_app {P : List Nat} {x t : Nat} (h : t < (P ++ [x]).length) : (t < P.length ∧ (P ++ [x]).getD t 0 = P.getD t 0) ∨ (t = P.length ∧ (P ++ [x]).getD t 0 = x):=by
 by_cases e : t < P.length
 ·exact .inl ⟨e,by simp [List.getD,List.getElem?_append_left e]⟩
 ·have : t = P.length:=by simp at h; omega
  subst this; exact .inr ⟨rfl,by simp [List.getD]⟩
omit [CR R] in
theorem swp_self (W : Nat → Nat → R) (i : Nat) : swp W i i = W:=by
 funext a; unfold swp; split
 ·rename_i h; rw [h]
 ·rfl
theorem RedI.step {col i : Nat} {W0 W : Nat → Nat → R} {P : List Nat} {c : R} (h : RedI n m col W0 W P) (hi : P.length ≤ i) (hin : i < n) (hc : W i col * c = 1) :
  RedI n m (col + 1) W0 (elm W P.length i col c) (P ++ [col]):=by
 have ht : P.length < n:=by omega
 have hc' : c * W i col = 1:=by rw [mul_comm]; exact hc
 have hS : ∀ s,s < P.length → ∀ a,a < n → swp W P.length i a (P.getD s 0) = if a = s then 1 else 0:=by
  intro s hs a ha
  unfold swp
  by_cases h1 : a = P.length
  ·rw [if_pos h1,h.unit s i hs hin,if_neg (by omega),if_neg (by omega)]
  ·rw [if_neg h1]
   by_cases h2 : a = i
   ·rw [if_pos h2,h.unit s _ hs ht,if_neg (by omega),if_neg (by omega)]
   ·rw [if_neg h2,h.unit s a hs ha]
 have hL : ∀ a k,P.length ≤ a → a < n → k < col → swp W P.length i a k = 0:=by
  intro a k h1 h2 h3
  unfold swp
  split
  ·exact h.low i k hi hin h3
  ·split
   ·exact h.low _ k (Nat.le_refl _) ht h3
   ·exact h.low a k h1 h2 h3
 refine ⟨?_,by simp; omega,?_,?_,?_,?_,?_⟩
 ·exact ((h.rq.trans (Rq.swp ht hin)).trans (Rq.scl hc')).trans (Rq.tks ht _)
 ·intro t htl
  rcases getD_app htl with ⟨h1,h2⟩ | ⟨h1,h2⟩
  ·rw [h2]; exact Nat.lt_succ_of_lt (h.lt t h1)
  ·rw [h2]; exact Nat.lt_succ_self _
 ·intro s t hst htl
  rcases getD_app htl with ⟨h1,h2⟩ | ⟨h1,h2⟩
  ·rcases getD_app (show s < (P ++ [col]).length by simp at htl ⊢; omega) with ⟨k1,k2⟩ | ⟨k1,k2⟩
   ·rw [h2,k2]; exact h.inc s t hst h1
   ·omega
  ·rcases getD_app (show s < (P ++ [col]).length by simp at htl ⊢; omega) with ⟨k1,k2⟩ | ⟨k1,k2⟩
   ·rw [h2,k2]; exact h.lt s k1
   ·omega
 ·intro t a htl ha
  rcases getD_app htl with ⟨h1,h2⟩ | ⟨h1,h2⟩
  ·rw [h2]
   have e0 : W i (P.getD t 0) = 0:=by rw [h.unit t i h1 hin,if_neg (by omega)]
   by_cases e : a = P.length
   ·rw [e,elm_top,e0,zero_mul,if_neg (by omega)]
   ·rw [elm_ne _ _ e,e0,hS t h1 a ha,zero_mul,mul_zero,sub_zero]
  ·rw [h2,h1]
   by_cases e : a = P.length
   ·rw [e,elm_top,hc,if_pos rfl]
   ·rw [elm_ne _ _ e,hc,mul_one,sub_self,if_neg e]
 ·intro a k h1 h2 h3
  rw [List.length_append,List.length_singleton] at h1
  have ea : a ≠ P.length:=by omega
  rw [elm_ne _ _ ea]
  by_cases e : k = col
  ·rw [e,hc,mul_one,sub_self]
  ·rw [hL a k (by omega) h2 (by omega),h.low i k hi hin (by omega),zero_mul,mul_zero,sub_zero]
 ·intro t k htl hk
  rcases getD_app htl with ⟨h1,h2⟩ | ⟨h1,h2⟩
  ·rw [h2] at hk
   have:=h.lt t h1
   rw [elm_ne _ _ (by omega),h.low i k hi hin (by omega),zero_mul,mul_zero,sub_zero]
   unfold swp; rw [if_neg (by omega),if_neg (by omega)]
   exact h.left t k h1 hk
  ·rw [h2] at hk
   rw [h1,elm_top,h.low i k hi hin hk,zero_mul]
def Rk (n m r : Nat) (A : MT R n m) : Prop:=∃ (T T' W : _) (p : Nat → Nat),Inv (T : MT R n n) T' ∧ W = T * A ∧ r ≤ n ∧ (∀ t,t < r → p t < m) ∧ (∀ t i,t < r → i < n → W.e i (p t) = if i = t then 1 else 0) ∧ ∀ i k,r ≤ i → i < n → k < m → W.e i k = 0
theorem Rk.of {A : MT R n m} {W : Nat → Nat → R} {P : List Nat} {col : Nat} (h : RedI n m col A.e W P) (hc : col ≤ m) (hf : P.length = n ∨ col = m) : Rk n m P.length A:=by
 obtain ⟨T,T',h1,h2⟩:=h.rq
 refine ⟨T,T',MT.of n m W,fun t=>P.getD t 0,h1,by rw [h2,MT.of_self],h.len,fun t ht=>Nat.lt_of_lt_of_le (h.lt t ht) hc,fun t i ht hi=>?_,fun i k hr hi hk=>?_⟩
 ·rw [MT.of_e _ hi (Nat.lt_of_lt_of_le (h.lt t ht) hc)]; exact h.unit t i ht hi
 ·rw [MT.of_e _ hi hk]
  rcases hf with hf | hf
  ·omega
  ·exact h.low i k hr hi (by omega)
theorem Rk.mul (h01 : (1 : R) ≠ 0) {r s : Nat} {A : MT R n m} {B : MT R m l} (h : Rk n m r A) (k : Rk n l s (A * B)) : s ≤ r:=by
 obtain ⟨T,T',W,p,hT,hW,hr,hp,hu,hz⟩:=h
 obtain ⟨S,S',V,q,hS,hV,hs,hq,hv,-⟩:=k
 have hA : A = T' * W:=by rw [hW,← MT.mul_assoc,hT.2,MT.one_mul]
 have hV' : V = (S * T') * (W * B):=by rw [hV,hA,MT.mul_assoc,MT.mul_assoc]
 have hWB : ∀ i k,r ≤ i → i < n → (W * B).e i k = 0:=fun i k h1 h2=>by
  rw [MT.e_mul]; exact sm_zero' fun j hj=>by rw [hz i j h1 h2 hj,zero_mul]
 refine Inv.sides h01 (A:=MT.of s r (S * T').e) (B:=MT.of r s fun j t=>(W * B).e j (q t)) (MT.ext fun i t hi ht=>?_)
 rw [MT.e_mul,MT.e_one hi ht]
 have e1:=hv t i ht (Nat.lt_of_lt_of_le hi hs)
 rw [← e1,hV',MT.e_mul]
 have e2 : n = r + (n - r):=by omega
 have e3 : ∀ N,N = r + (n - r) → sm N (fun j=>(S * T').e i j * (W * B).e j (q t)) = sm r (fun j=>(MT.of s r (S * T').e).e i j * (MT.of r s fun j t=>(W * B).e j (q t)).e j t):=fun N hN=>by
  rw [hN,sm_split,sm_zero' (n:=n - r) (fun j hj=>by rw [hWB _ _ (Nat.le_add_right _ _) (by omega),mul_zero]),add_zero]
  exact sm_congr fun j hj=>by rw [MT.of_e _ hi hj,MT.of_e _ hj ht]
 exact (e3 n e2).symm
end
end Go.Proofs.YtlhmaljjdpjkgaaGreatDoor
namespace Go.Proofs.YtlhmaljjdpjkgaaGreatDoor
open Go Go.RowKit
instance crRat : CR Rat where
 add_assoc:=Rat.add_assoc
 add_comm:=Rat.add_comm
 zero_add:=Rat.zero_add
 neg_add:=Rat.neg_add_cancel
 sub_eq:=Rat.sub_eq_add_neg
 mul_assoc:=Rat.mul_assoc
 mul_comm:=Rat.mul_comm
 one_mul:=Rat.one_mul
 mul_add:=Rat.mul_add
noncomputable def lr (q : Rat) : Nat:=max (li q.num) (ln q.den)
theorem li_le {a b : Int} (h : a.natAbs ≤ b.natAbs) : li a ≤ li b:=ln_mono h
theorem lr_num (q : Rat) : li q.num ≤ lr q:=Nat.le_max_left _ _
theorem lr_den (q : Rat) : li (q.den : Int) ≤ lr q:=Nat.le_max_right _ _
theorem lr_divInt {n d : Int} (hd : d ≠ 0) : lr (Rat.divInt n d) ≤ max (li n) (li d):=by
 unfold lr
 rw [Rat.num_divInt,Rat.den_divInt,if_neg hd]
 refine Nat.max_le.2 ⟨Nat.le_trans (li_le ?_) (Nat.le_max_left _ _),Nat.le_trans (ln_mono (Nat.div_le_self _ _)) (Nat.le_max_right _ _)⟩
 refine Nat.le_trans (Int.natAbs_ediv_le_natAbs _ _) ?_
 rw [Int.natAbs_mul]
 have : d.sign.natAbs = 1:=Int.natAbs_sign_of_ne_zero hd
 rw [this]; omega
theorem add_divInt (a b : Rat) : a + b = Rat.divInt (a.num * b.den + b.num * a.den) (a.den * b.den):=by
 rw [Rat.add_def',← Rat.divInt_ofNat]; simp
theorem mul_divInt (a b : Rat) : a * b = Rat.divInt (a.num * b.num) (a.den * b.den):=by
 rw [Rat.mul_def',← Rat.divInt_ofNat]; simp
theorem den_ne (a : Rat) : (a.den : Int) ≠ 0:=by have:=a.den_nz; omega
theorem den_mul_ne (a b : Rat) : (a.den * b.den : Int) ≠ 0:=Int.mul_ne_zero (den_ne a) (den_ne b)
theorem lr_add (a b : Rat) : lr (a + b) ≤ lr a + lr b + 1:=by
 rw [add_divInt]
 refine Nat.le_trans (lr_divInt (den_mul_ne a b)) (Nat.max_le.2 ⟨Nat.le_trans (li_add _ _) ?_,Nat.le_trans (li_mul _ _) ?_⟩)
 ·have h1:=li_mul a.num b.den
  have h2:=li_mul b.num a.den
  have:=lr_num a; have:=lr_num b; have:=lr_den a; have:=lr_den b
  omega
 ·have:=lr_den a; have:=lr_den b
  omega
theorem lr_mul (a b : Rat) : lr (a * b) ≤ lr a + lr b:=by
 rw [mul_divInt]
 refine Nat.le_trans (lr_divInt (den_mul_ne a b)) (Nat.max_le.2 ⟨Nat.le_trans (li_mul _ _) ?_,Nat.le_trans (li_mul _ _) ?_⟩)
 ·have:=lr_num a; have:=lr_num b; omega
 ·have:=lr_den a; have:=lr_den b; omega
theorem lr_neg (a : Rat) : lr (-a) = lr a:=by unfold lr; rw [Rat.neg_num,Rat.neg_den,li_neg]
theorem lr_sub (a b : Rat) : lr (a - b) ≤ lr a + lr b + 1:=by
 rw [Rat.sub_eq_add_neg]; have:=lr_add a (-b); rwa [lr_neg] at this
theorem lr_int (z : Int) : lr (z : Rat) = max (li z) (ln 1):=rfl
theorem ln_one : ln 1 = 1:=by
 have : wd 1 = [1]:=wd_word (by decide) (by decide)
 unfold ln; rw [this]; rfl
noncomputable def zc (z : Int) : List IV:=[.raw (.bool (decide (z < 0))),na z.natAbs]
noncomputable def ir (n d : Int) : IV:=.agg (zc n ++ zc d)
noncomputable def iq (q : Rat) : IV:=ir q.num q.den
theorem ln0 : ln 0 ≤ 1:=by rw [ln_zero]; decide
theorem li0 : li 0 ≤ 1:=ln0
theorem li1 : li 1 ≤ 1:=Nat.le_of_eq ln_one
theorem ln_gcd {a b m : Nat} (ha : ln a ≤ m) (hb : ln b ≤ m) : ln (Nat.gcd a b) ≤ m:=by
 by_cases h : a = 0
 ·rw [h,Nat.gcd_zero_left]; exact hb
 ·exact Nat.le_trans (ln_mono (Nat.gcd_le_left _ (by omega))) ha
theorem sgn_zero {z : Int} : (sgnI z == 0) = decide (z = 0):=by
 rcases sgnI_cases z with ⟨h,e⟩ | ⟨h,e⟩ | ⟨h,e⟩ <;> rw [e]
 ·rw [decide_eq_false (by omega)]; rfl
 ·rw [decide_eq_true h]; rfl
 ·rw [decide_eq_false (by omega)]; rfl
theorem sgn_neg {z : Int} : decide (sgnI z < 0) = decide (z < 0):=by
 rcases sgnI_cases z with ⟨h,e⟩ | ⟨h,e⟩ | ⟨h,e⟩ <;> rw [e]
 ·exact (decide_eq_true h).symm
 ·exact (decide_eq_false (by omega)).symm
 ·exact (decide_eq_false (by omega)).symm
theorem div_parts {n d : Int} (hd : 0 < d) : n / (Nat.gcd n.natAbs d.natAbs : Nat) = (Rat.divInt n d).num ∧ d / (Nat.gcd n.natAbs d.natAbs : Nat) = ((Rat.divInt n d).den : Int):=by
 rw [Rat.num_divInt,Rat.den_divInt,if_neg (by omega),Int.sign_eq_one_of_pos hd,Int.one_mul]
 have e : d.gcd n = Nat.gcd n.natAbs d.natAbs:=Nat.gcd_comm _ _
 rw [e]
 refine ⟨rfl,?_⟩
 rw [Int.natCast_ediv,Int.natAbs_of_nonneg (by omega)]
theorem r_Make {n d : Int} (hd : d ≠ 0) (hn : li n ≤ 100000) (hd' : li d ≤ 100000) : Pc Tryz.prog 65 [iz n,iz d] (· = .tup [iq (Rat.divInt n d),.raw (.bool true)]):=by
 refine pc Tryz.func65 ?_
 refine ce (z_Sign (by omega)) rfl ?_
 refine iff_ rfl (by rw [sgn_zero]; exact decide_eq_false hd) ?_
 refine ce (z_Sign (by omega)) rfl ?_
 refine ifj (fun s : Int × Int=>0 < s.2 ∧ li s.1 ≤ 100000 ∧ li s.2 ≤ 100000 ∧ Rat.divInt s.1 s.2 = Rat.divInt n d) (fun s=>[(2,.ref 0 0),(3,.ref 1 0),(4,.ref 2 0),(5,.im (.raw (.bool false)))])
  (fun s=>[.box 47 ((zc s.1).map .im),.box 47 ((zc s.2).map .im),.box 49 [.im (.raw (.bool false)),.im (.raw (.slice none 0 0)),.im (.raw (.bool false)),.im (.raw (.slice none 0 0))]]) ?_ ?_
 ·refine ifs rfl (fun h=>?_) (fun h=>?_) <;> rw [sgn_neg] at h
  ·have h:=of_decide_eq_true h
   refine rq [0,2,1,3,4,5] ?_
   refine ce (z_Neg (by omega)) rfl ?_
   refine ce (z_Neg (by omega)) rfl ?_
   exact jx (-n,-d) ⟨by omega,by rw [li_neg]; exact hn,by rw [li_neg]; exact hd',Rat.neg_divInt_neg n d⟩ (tsr rfl) rfl
  ·have h:=of_decide_eq_false h
   exact jx (n,d) ⟨by omega,hn,hd',rfl⟩ (tsr rfl) rfl
 ·rintro ⟨n',d'⟩ t ⟨h1,h2,h3,h4⟩
  dsimp only at h1 h2 h3 h4
  obtain ⟨e1,e2⟩:=div_parts (n:=n') h1
  have hg : ((Nat.gcd n'.natAbs d'.natAbs : Nat) : Int) ≠ 0:=by
   have : 0 < Nat.gcd n'.natAbs d'.natAbs:=Nat.gcd_pos_of_pos_right _ (by omega)
   omega
  have lg : li ((Nat.gcd n'.natAbs d'.natAbs : Nat) : Int) ≤ 100000:=ln_gcd h2 h3
  refine ce (z_Gcd (a:=n') (b:=d') (by omega) (by omega)) rfl ?_
  refine ce (z_Exact (a:=n') hg (show ((Int.gcd n' d' : Nat) : Int) ∣ n' from Int.gcd_dvd_left ..) (by omega) (by omega)) rfl ?_
  refine ce (z_Exact (a:=d') hg (show ((Int.gcd n' d' : Nat) : Int) ∣ d' from Int.gcd_dvd_right ..) (by omega) (by omega)) rfl ?_
  rw [e1,e2,h4]
  exact rfl
theorem r_norm0 {n d : Int} (hd : d ≠ 0) (hn : li n ≤ 100000) (hd' : li d ≤ 100000) : Pc Tryz.prog 38 [ir n d] (· = iq (Rat.divInt n d)):=by
 refine pc Tryz.func38 ?_
 refine ce (r_Make hd hn hd') rfl ?_
 exact rfl
theorem r_norm {q : Rat} (h : lr q ≤ 100000) : Pc Tryz.prog 38 [iq q] (· = iq q):=by
 have:=r_norm0 (den_ne q) (Nat.le_trans (lr_num q) h) (Nat.le_trans (lr_den q) h)
 rwa [Rat.num_divInt_den] at this
theorem r_Of {z : Int} (h : li z ≤ 100000) : Pc Tryz.prog 24 [iz z] (· = iq (z : Rat)):=by
 refine pc Tryz.func24 ?_
 refine ce (z_From (Nat.le_trans h (by decide))) rfl ?_
 refine ce (z_Of (x:=1) (by decide) (by decide)) rfl ?_
 rw [zsg_of]
 exact rfl
theorem z_nil : Sub (.agg [.raw (.bool false),.raw (.slice none 0 0)]) (iz 0):=Sub.agg ⟨Sub.refl _,sub_nil,trivial⟩
theorem r_Of0 : Pc Tryz.prog 24 [.agg [.raw (.bool false),.raw (.slice none 0 0)]] (· = iq 0):=
 (r_Of (z:=0) (Nat.le_trans li0 (by decide))).sub ⟨z_nil,trivial⟩
theorem r_Whole {q : Rat} (h : lr q ≤ 40000) (h1 : q.den = 1) : Pc Tryz.prog 137 [iq q] (· = .tup [iz q.num,.raw (.bool true)]):=by
 refine pc Tryz.func137 ?_
 refine ce (r_norm (by omega)) rfl ?_
 refine rq [0,1,2,3,4] ?_
 refine ce (z_Of (x:=1) (by decide) (by decide)) rfl ?_
 refine ce (z_Same (a:=(q.den : Int)) (Nat.le_trans (lr_den q) (by omega)) (Nat.le_trans li1 (by decide))) rfl ?_
 refine iff_ rfl (by rw [decide_eq_true (by omega)]; rfl) ?_
 exact rfl
theorem sgn_den (q : Rat) : sgnI (q.den : Int) = 1:=by
 have:=q.den_nz
 rcases sgnI_cases (q.den : Int) with ⟨h,e⟩ | ⟨h,e⟩ | ⟨h,e⟩
 ·omega
 ·omega
 ·exact e
theorem r_Sign {q : Rat} (h : lr q ≤ 100000) : Pc Tryz.prog 136 [iq q] (· = .raw (.int .i64 (sgnI q.num))):=by
 have h1:=lr_num q; have h2:=lr_den q
 refine pc Tryz.func136 ?_
 refine rq [0,1,3,4,2,5,6,7] ?_
 refine ce (z_Sign (z:=q.num) (by omega)) rfl ?_
 refine ce (z_Sign (z:=(q.den : Int)) (by omega)) rfl ?_
 have e : IntKind.i64.wrap (sgnI q.num * sgnI (q.den : Int)) = sgnI q.num:=by
  rw [sgn_den,Int.mul_one]
  refine IntWalk.i64_in _ ?_
  rcases sgnI_cases q.num with ⟨h,e⟩ | ⟨h,e⟩ | ⟨h,e⟩ <;> rw [e] <;> decide
 exact congrArg (fun z=>IV.raw (.int .i64 z)) e
theorem r_Neg {q : Rat} (h : lr q ≤ 100000) : Pc Tryz.prog 233 [iq q] (· = iq (-q)):=by
 have h1:=lr_num q
 refine pc Tryz.func233 ?_
 refine ce (r_norm h) rfl ?_
 refine rq [0,1,3,4,2,5,6] ?_
 refine ce (z_Neg (z:=q.num) (by omega)) rfl ?_
 exact rfl
theorem r_Add {a b : Rat} (ha : lr a ≤ 20000) (hb : lr b ≤ 20000) : Pc Tryz.prog 23 [iq a,iq b] (· = iq (a + b)):=by
 have a1:=lr_num a; have a2:=lr_den a; have b1:=lr_num b; have b2:=lr_den b
 have c1:=li_mul a.num b.den; have c2:=li_mul b.num a.den; have c3:=li_mul a.den b.den
 have c4:=li_add (a.num * b.den) (b.num * a.den)
 refine pc Tryz.func23 ?_
 refine rq [0,2,1,3,4,5] ?_
 refine ce (r_norm (by omega)) rfl ?_
 refine ce (r_norm (by omega)) rfl ?_
 refine rq [0,1,2,3,5,6,7,8,11,12,13,14,4,9,10,15,16,17,18] ?_
 refine ce (z_Mul (a:=a.num) (b:=b.den) (by omega) (by omega)) rfl ?_
 refine ce (z_Mul (a:=b.num) (b:=a.den) (by omega) (by omega)) rfl ?_
 refine ce (z_Add (by omega) (by omega)) rfl ?_
 refine ce (z_Mul (a:=a.den) (b:=b.den) (by omega) (by omega)) rfl ?_
 refine ce (r_norm0 (den_mul_ne a b) (by omega) (by omega)) rfl ?_
 rw [← add_divInt]
 exact rfl
theorem r_Sub {a b : Rat} (ha : lr a ≤ 20000) (hb : lr b ≤ 20000) : Pc Tryz.prog 418 [iq a,iq b] (· = iq (a - b)):=by
 refine pc Tryz.func418 ?_
 refine rq [0,1,2,3,4] ?_
 refine ce (r_Neg (by omega)) rfl ?_
 refine ce (r_Add ha (by rw [lr_neg]; exact hb)) rfl ?_
 rw [← Rat.sub_eq_add_neg]
 exact rfl
theorem r_Cmp {a b : Rat} (ha : lr a ≤ 20000) (hb : lr b ≤ 20000) : Pc Tryz.prog 306 [iq a,iq b] (· = .raw (.int .i64 (sgnI (a - b).num))):=by
 have:=lr_sub a b
 refine pc Tryz.func306 ?_
 refine ce (r_Sub ha hb) rfl ?_
 refine ce (r_Sign (by omega)) rfl ?_
 exact rfl
theorem r_Mul {a b : Rat} (ha : lr a ≤ 20000) (hb : lr b ≤ 20000) : Pc Tryz.prog 332 [iq a,iq b] (· = iq (a * b)):=by
 have a1:=lr_num a; have a2:=lr_den a; have b1:=lr_num b; have b2:=lr_den b
 have c1:=li_mul a.num b.num; have c3:=li_mul a.den b.den
 refine pc Tryz.func332 ?_
 refine rq [0,2,1,3,4,5] ?_
 refine ce (r_norm (by omega)) rfl ?_
 refine ce (r_norm (by omega)) rfl ?_
 refine rq [0,1,2,3,5,6,7,8,4,9,10,11,12] ?_
 refine ce (z_Mul (a:=a.num) (b:=b.num) (by omega) (by omega)) rfl ?_
 refine ce (z_Mul (a:=a.den) (b:=b.den) (by omega) (by omega)) rfl ?_
 refine ce (r_norm0 (den_mul_ne a b) (by omega) (by omega)) rfl ?_
 rw [← mul_divInt]
 exact rfl
theorem div_divInt (a b : Rat) : a / b = Rat.divInt (a.num * b.den) (a.den * b.num):=by
 rw [Rat.div_def,Rat.inv_def]
 conv=>lhs; rw [← Rat.num_divInt_den a]
 rw [Rat.divInt_mul_divInt]
theorem r_Quo {a b : Rat} (hb0 : b ≠ 0) (ha : lr a ≤ 20000) (hb : lr b ≤ 20000) : Pc Tryz.prog 314 [iq a,iq b] (· = .tup [iq (a / b),.raw (.bool true)]):=by
 have a1:=lr_num a; have a2:=lr_den a; have b1:=lr_num b; have b2:=lr_den b
 have c1:=li_mul a.num b.den; have c3:=li_mul a.den b.num
 refine pc Tryz.func314 ?_
 refine rq [0,2,1,3,4,5] ?_
 refine ce (r_norm (by omega)) rfl ?_
 refine ce (r_norm (by omega)) rfl ?_
 refine rq [0,1,2,3,5,6,7,8,4,9,10,11,12,13,14] ?_
 refine ce (z_Mul (a:=a.num) (b:=b.den) (by omega) (by omega)) rfl ?_
 refine ce (z_Mul (a:=a.den) (b:=b.num) (by omega) (by omega)) rfl ?_
 refine ce (r_Make (Int.mul_ne_zero (den_ne a) fun e=>hb0 (Rat.num_eq_zero.1 e)) (by omega) (by omega)) rfl ?_
 rw [← div_divInt]
 exact rfl
theorem r_Bits {q : Rat} (h : lr q ≤ 100000) : Pc Tryz.prog 231 [iq q] (· = .raw (.int .i64 (if ((bl q.den : Nat) : Int) > ((bl q.num.natAbs : Nat) : Int) then ((bl q.den : Nat) : Int) else ((bl q.num.natAbs : Nat) : Int)))):=by
 have h1:=lr_num q; have h2:=lr_den q
 refine pc Tryz.func231 ?_
 refine ce (r_norm h) rfl ?_
 refine rq [0,1,3,4,2,5,6,7] ?_
 refine ce (z_Bits (z:=q.num) (by omega)) rfl ?_
 refine ce (z_Bits (z:=(q.den : Int)) (by omega)) rfl ?_
 exact rfl
end Go.Proofs.YtlhmaljjdpjkgaaGreatDoor
