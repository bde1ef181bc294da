/-
  Lemmas, part 1: Pl1 PlainQ.
-/
import Derived.WalkKit
import Derived.Lib.Strings
import Derived.Lib.Bytealg
import Derived.Lib.Hide
namespace Go.Proofs.YtmgjidnalpgegaaGreatDoor
open Go.RowKit
theorem zh {p : Prop} (h : p) : Hid p := h
theorem mm {α : Type} {l : List α} {x : α} (n : Nat) (h : l[n]? = some x) : x ∈ l := List.mem_of_getElem? h
theorem oi {α : Type} {x y : α} (h : some x = some y) : x = y := Option.some.inj h
abbrev Bs:=List UInt8
def aC(c:UInt8):Bool:=decide (48≤c.toNat)&&decide (c.toNat≤57)
def aI(c:UInt8):Bool:=(decide (97≤c.toNat)&&decide (c.toNat≤122))||(decide (65≤c.toNat)&&decide (c.toNat≤90))
def aM(p:UInt8→Bool):Bs→Nat
 | []=>0
 | c::l=>if p c then aM p l+1 else 0
theorem bW(p:UInt8→Bool)(l:Bs):aM p l≤l.length:=by
 induction l with
 | nil=>simp[aM]
 | cons c l ih=>simp only[aM,List.length_cons];split <;> omega
theorem rV(p:UInt8→Bool)(l:Bs)(k:Nat)(hk:k<aM p l)(h:k<l.length):p l[k]=true:=by
 induction l generalizing k with
 | nil=>simp at h
 | cons c l ih=>
  simp only[aM]at hk
  split at hk
  case isTrue hc=>
   cases k with
   | zero=>simpa using hc
   | succ k=>simpa using ih k (by omega) (by simpa using h)
  case isFalse=>omega
theorem kX(p:UInt8→Bool)(l:Bs)(h:aM p l<l.length):p l[aM p l]=false:=by
 induction l with
 | nil=>simp at h
 | cons c l ih=>
  by_cases hc:p c=true
  ·have e:aM p (c::l)=aM p l+1:=by simp[aM,hc]
   simp only[e,List.getElem_cons_succ];exact ih (by rw[e]at h;simpa using h)
  ·have e:aM p (c::l)=0:=by simp[aM,hc]
   simp only[e,List.getElem_cons_zero];simpa using hc
theorem iQ(p:UInt8→Bool)(l:Bs)(k:Nat)(hk:k≤aM p l)(h:k<l.length)(hp:p l[k]=true):k+1≤aM p l:=by
 rcases Nat.lt_or_ge k (aM p l) with h1 | h1
 ·exact h1
 ·have e:k=aM p l:=by omega
  subst e;rw[kX p l h]at hp;cases hp
theorem pL(p:UInt8→Bool)(l:Bs)(k:Nat)(hk:k≤aM p l)(h:k<l.length)(hp:p l[k]=false):aM p l=k:=by
 rcases Nat.lt_or_ge k (aM p l) with h1 | h1
 ·rw[rV p l k h1 h]at hp;cases hp
 ·omega
theorem yM(l:Bs)(a:Nat)(h:a<(ByteArray.mk l.toArray).size):(ByteArray.mk l.toArray)[a]=l[a]'(by simpa [ByteArray.size] using h):=by
 exact List.getElem_toArray (xs:=l) (i:=a) (by simpa [ByteArray.size] using h)
theorem uFX(l:Bs)(a b:Nat):(ByteArray.mk l.toArray).extract a b=⟨((l.drop a).take (b-a)).toArray⟩:=by
 apply ByteArray.ext;simp[ByteArray.data_extract,List.extract_toArray,List.extract_eq_take_drop]
theorem vI(l:Bs)(a:Nat):List.take (l.length-a) (List.drop a l)=List.drop a l:=List.take_of_length_le (by simp)
attribute [go_sem] yM uFX vI
theorem lC{c d:UInt8}(h:c.toNat=d.toNat):c=d:=UInt8.toNat.inj h
def aP(l:Bs)(k:Nat)(c:UInt8):Bool:=l[k]?==some c
theorem gS(l:Bs)(k:Nat)(c:UInt8)(n:Int)(hn:(c.toNat:Int)=n)(h:k<l.length):((l[k].toNat:Int)==n)=aP l k c:=by
 subst hn;unfold aP;rw[List.getElem?_eq_getElem h,Bool.eq_iff_iff,beq_iff_eq,beq_iff_eq];constructor
 ·intro e;rw[lC (c:=l[k]) (d:=c) (by omega)]
 ·intro e;injection e with e;rw[e]
theorem nT(l:Bs)(k:Nat)(c:UInt8)(n:Int)(hn:(c.toNat:Int)=n)(h:k<l.length):((l[k].toNat:Int) != n)=!aP l k c:=by
 rw[← gS l k c n hn h];rfl
theorem iE(l:Bs)(k:Nat)(c:UInt8)(h:l.length≤k):aP l k c=false:=by
 unfold aP;rw[List.getElem?_eq_none h];rfl
theorem at_lt(l:Bs)(k:Nat)(c:UInt8)(h:aP l k c=true):k<l.length:=by
 rcases Nat.lt_or_ge k l.length with h1 | h1
 ·exact h1
 ·rw[iE l k c h1]at h;cases h
theorem aJ{a b:Bool}(h:a=b):Ending.returned (.bool a)=.returned (.bool b):=by rw[h]
theorem cQ{k:IntKind}{a b:Int}(h:a=b):Ending.returned (.int k a)=.returned (.int k b):=by rw[h]
theorem S_append(a b:Bs):(ByteArray.mk a.toArray)++(ByteArray.mk b.toArray)=⟨(a++b).toArray⟩:=by
 apply ByteArray.ext;simp[ByteArray.data_append]
attribute [go_sem] S_append
def gM(c:UInt8):Bool:=decide (97≤c.toNat)&&decide (c.toNat≤122)
def up(c:UInt8):UInt8:=if gM c then c-32 else c
def aG(l:Bs):Bs:=l.map up
theorem fM(c:UInt8):gM c=true↔97≤c.toNat∧c.toNat≤122:=by simp[gM]
theorem uES(c:UInt8)(h:gM c=true):(up c).toNat=c.toNat-32:=by
 have h1:=(fM c).1 h;unfold up;rw[if_pos h,UInt8.toNat_sub_of_le]
 ·rfl
 ·rw[UInt8.le_iff_toNat_le];show 32≤c.toNat;omega
theorem mZ(c:UInt8)(h:gM c=false):up c=c:=by unfold up;rw[h];rfl
theorem cR(l:Bs):(aG l).length=l.length:=by simp[aG]
theorem tS(l:Bs)(h:∀ c∈l,gM c=false):aG l=l:=by
 induction l with
 | nil=>rfl
 | cons c l ih=>simp only[aG,List.map_cons];rw[mZ c (h c (by simp))];congr 1;exact ih fun d hd=>h d (by simp[hd])
def lY(l:Bs)(k:Nat):Bs:=aG (l.take k)++l.drop k
theorem zN(l:Bs)(k:Nat):(lY l k).length=l.length:=by simp[lY,aG];omega
theorem zM(l:Bs)(k:Nat)(h:k<l.length)(h':k<(lY l k).length):(lY l k)[k]=l[k]:=by
 have e:(aG (l.take k)).length=k:=by rw[cR,List.length_take];omega
 have h2:(lY l k)[k]?=l[k]?:=by
  unfold lY;rw[List.getElem?_append_right (by omega),e,Nat.sub_self,List.getElem?_drop,Nat.add_zero]
 rw[List.getElem?_eq_getElem h',List.getElem?_eq_getElem h]at h2;injection h2
theorem zO(l:Bs)(k:Nat)(h:k<l.length):(lY l k).set k (up l[k])=lY l (k+1):=by
 have e:(aG (l.take k)).length=k:=by rw[cR,List.length_take];omega
 unfold lY;rw[List.set_append_right (h:=by omega),e,Nat.sub_self,List.drop_eq_getElem_cons h,List.set_cons_zero,List.take_succ_eq_append_getElem h];unfold aG;rw[List.map_append,List.append_assoc];rfl
theorem uHD(l:Bs)(k:Nat)(h:k<l.length)(hu:up l[k]=l[k]):lY l k=lY l (k+1):=by
 have h':k<(lY l k).length:=by rw[zN];exact h
 rw[← zO l k h,hu,← zM l k h h'];exact(List.set_getElem_self h').symm
theorem half_all(l:Bs):lY l l.length=aG l:=by simp[lY]
def Row(w:World)(b:Nat)(m:Bs):Prop:=∀ j (h:j<m.length),w.cell? ⟨b,j,none⟩=some (.int .u8 (m[j].toNat:Int))∧w.frozen? ⟨b,j,none⟩=false
theorem Row.set{w:World}{b:Nat}{m:Bs}(h:Row w b m)(k:Nat)(c:UInt8):Row (w.setCell ⟨b,k,none⟩ (.int .u8 (c.toNat:Int))) b (m.set k c):=by
 intro j hj;rw[List.length_set]at hj;obtain⟨h1,h2⟩:=h j hj;by_cases e:k=j
 ·subst e;refine⟨?_,by simpa using h2⟩;rw[World.cell?_setCell_same' _ _ _ (by rw[h1];rfl)];simp
 ·refine⟨?_,by simpa using h2⟩;rw[World.cell?_setCell_other _ _ _ _ (by intro e2;cases e2;exact e rfl),h1];rw[List.getElem_set_ne e]
def iM:Nat→Nat→Nat
 | 0,_=>1
 | f+1,n=>if n<10 then 1 else iM f (n / 10)+1
def jN(n:Nat):Nat:=iM 20 n
theorem uHQ:∀ (f g n:Nat),n<10 ^ (f+1)→n<10 ^ (g+1)→iM f n=iM g n:=by
 intro f
 induction f with
 | zero=>
  intro g n hf hg;have:n<10:=by simpa using hf
  cases g with
  | zero=>rfl
  | succ g=>simp[iM,this]
 | succ f ih=>
  intro g n hf hg;cases g with
  | zero=>
   have:n<10:=by simpa using hg
   simp[iM,this]
  | succ g=>
   simp only[iM]
   split
   ·rfl
   ·rw[ih g (n / 10)]
    ·rw[Nat.div_lt_iff_lt_mul (by decide)];rw[Nat.pow_succ]at hf;exact hf
    ·rw[Nat.div_lt_iff_lt_mul (by decide)];rw[Nat.pow_succ]at hg;exact hg
theorem uCK(n:Nat)(h:n<10):jN n=1:=by unfold jN iM;rw[if_pos h]
theorem digs_big(n:Nat)(h:¬ n<10)(hn:n<18446744073709551616):jN n=jN (n / 10)+1:=by
 unfold jN;rw[iM,if_neg h,uHQ 19 20 (n / 10)]
 ·have:n / 10<1844674407370955162:=by omega
  exact Nat.lt_of_lt_of_le this (by decide)
 ·have:n / 10<1844674407370955162:=by omega
  exact Nat.lt_of_lt_of_le this (by decide)
theorem oP(n:Nat):1≤jN n∧jN n≤21:=by
 have:∀ f n,1≤iM f n∧iM f n≤f+1:=by
  intro f
  induction f with
  | zero=>intro n;simp[iM]
  | succ f ih=>
   intro n;simp only[iM]
   split
   ·omega
   ·have:=ih (n / 10);omega
 exact this 20 n
theorem nDig_lt:∀ (f n:Nat),n<10 ^ (f+1)→n<10 ^ iM f n:=by
 intro f
 induction f with
 | zero=>intro n h;simpa [iM] using h
 | succ f ih=>
  intro n h;simp only[iM]
  split
  ·omega
  ·have h1:n / 10<10 ^ (f+1):=by rw[Nat.div_lt_iff_lt_mul (by decide)];rw[Nat.pow_succ]at h;exact h
   have:=ih (n / 10) h1;rw[Nat.pow_succ];omega
theorem nDig_ge:∀ (f n:Nat),0<n→10 ^ (iM f n-1)≤n:=by
 intro f
 induction f with
 | zero=>intro n h;simp[iM];omega
 | succ f ih=>
  intro n h;simp only[iM]
  split
  ·simp;omega
  ·have h1:=ih (n / 10) (by omega);have h2:1≤iM f (n / 10):=by
    cases f with
    | zero=>simp[iM]
    | succ f=>simp only[iM];split <;> omega
   rw[show iM f (n / 10)+1-1=(iM f (n / 10)-1)+1 by omega,Nat.pow_succ];omega
theorem digs_lt(n:Nat)(h:n<1000000000000000):n<10 ^ jN n:=nDig_lt 20 n (Nat.lt_of_lt_of_le h (by decide))
theorem digs_ge(n:Nat)(h:0<n):10 ^ (jN n-1)≤n:=nDig_ge 20 n h
def p10(n:Nat):Nat:=10 ^ n
def dL(m e:Int):Bool :=
 if m=0 then decide (e=0)
 else decide (m.natAbs<1000000000000000)&&decide (m.natAbs % 10≠0)&&decide (-40≤e)&&decide (e<40)&&decide ((jN m.natAbs:Int)+e≤40)
theorem wI{m e:Int}(h:dL m e=true)(h0:m≠0):m.natAbs<1000000000000000∧m.natAbs % 10≠0∧-40≤e∧e<40∧(jN m.natAbs:Int)+e≤40:=by
 unfold dL at h;rw[if_neg h0]at h;simp only[Bool.and_eq_true,decide_eq_true_eq]at h;exact⟨h.1.1.1.1,h.1.1.1.2,h.1.1.2,h.1.2,h.2⟩
def aS(ds:List Nat):Nat:=ds.foldl (fun a d=>10*a+d) 0
def Dig(ds:List Nat):Prop:=∀ d∈ds,d≤9
theorem tL(ds:List Nat)(a:Nat):ds.foldl (fun a d=>10*a+d) a=a*10 ^ ds.length+aS ds:=by
 induction ds generalizing a with
 | nil=>simp[aS]
 | cons d ds ih=>
  simp only[List.foldl_cons,List.length_cons];rw[ih (10*a+d)];have h:aS (d::ds)=(10*0+d)*10 ^ ds.length+aS ds:=by
   show List.foldl _ _ ds=_;rw[ih]
  rw[h,Nat.pow_succ,Nat.add_mul];have e1:a*(10 ^ ds.length*10)=10*a*10 ^ ds.length:=by rw[Nat.mul_comm (10 ^ ds.length) 10,← Nat.mul_assoc,Nat.mul_comm a 10]
  rw[e1];simp only[Nat.mul_zero,Nat.zero_add];omega
theorem uHR:aS []=0:=rfl
theorem eD(d:Nat)(ds:List Nat):aS (d::ds)=d*10 ^ ds.length+aS ds:=by
 show List.foldl _ _ ds=_;rw[tL];simp
theorem fO(a b:List Nat):aS (a++b)=aS a*10 ^ b.length+aS b:=by
 unfold aS;rw[List.foldl_append,tL];rfl
theorem nY(a:List Nat)(d:Nat):aS (a++[d])=10*aS a+d:=by
 rw[fO,eD];simp[uHR];omega
theorem Dig.tail{d:Nat}{ds:List Nat}(h:Dig (d::ds)):Dig ds:=fun x hx=>h x (List.mem_cons_of_mem _ hx)
theorem Dig.head{d:Nat}{ds:List Nat}(h:Dig (d::ds)):d≤9:=h d (List.mem_cons_self ..)
theorem Dig.take{ds:List Nat}(h:Dig ds)(n:Nat):Dig (ds.take n):=fun x hx=>h x (List.mem_of_mem_take hx)
theorem Dig.drop{ds:List Nat}(h:Dig ds)(n:Nat):Dig (ds.drop n):=fun x hx=>h x (List.mem_of_mem_drop hx)
theorem Dig.append{a b:List Nat}(ha:Dig a)(hb:Dig b):Dig (a++b):=fun x hx=>by
 rcases List.mem_append.1 hx with h | h
 ·exact ha x h
 ·exact hb x h
theorem mO(ds:List Nat)(h:Dig ds):aS ds<10 ^ ds.length:=by
 induction ds with
 | nil=>simp[aS]
 | cons d ds ih=>
  rw[eD,List.length_cons,Nat.pow_succ];have h1:=ih h.tail;have h2:=h.head;have h3:d*10 ^ ds.length≤9*10 ^ ds.length:=Nat.mul_le_mul_right _ h2;omega
theorem pC(d:Nat)(ds:List Nat)(h:d≠0):10 ^ ds.length≤aS (d::ds):=by
 rw[eD];have:1*10 ^ ds.length≤d*10 ^ ds.length:=Nat.mul_le_mul_right _ (by omega);omega
theorem qY(n:Nat):aS (List.replicate n 0)=0:=by
 induction n with
 | zero=>rfl
 | succ n ih=>rw[List.replicate_succ,eD,ih];simp
theorem qX(n:Nat):aS (List.replicate n 9)+1=10 ^ n:=by
 induction n with
 | zero=>rfl
 | succ n ih=>rw[List.replicate_succ,eD,Nat.pow_succ,List.length_replicate];omega
def dH:List Nat→List Nat
 | []=>[]
 | 0::l=>dH l
 | d::l=>d::l
theorem pZ(ds:List Nat):aS (dH ds)=aS ds:=by
 induction ds with
 | nil=>rfl
 | cons d ds ih=>
  cases d with
  | zero=>rw[dH,ih,eD];simp
  | succ d=>rfl
theorem sF(ds:List Nat)(d:Nat)(l:List Nat)(h:dH ds=d::l):d≠0:=by
 induction ds with
 | nil=>simp[dH]at h
 | cons x ds ih=>
  cases x with
  | zero=>rw[dH]at h;exact ih h
  | succ x=>simp[dH]at h;omega
theorem sE(ds:List Nat):∃ k,k≤ds.length∧dH ds=ds.drop k∧ds.take k=List.replicate k 0:=by
 induction ds with
 | nil=>exact⟨0,by simp[dH]⟩
 | cons x ds ih=>
  cases x with
  | zero=>
   obtain⟨k,hk,h1,h2⟩:=ih;exact⟨k+1,by simp;omega,by simpa [dH] using h1,by simp[List.replicate_succ,h2]⟩
  | succ x=>exact⟨0,by simp[dH]⟩
theorem uGH{ds:List Nat}(h:Dig ds):Dig (dH ds):=by
 obtain⟨k,_,h1,_⟩:=sE ds;rw[h1];exact h.drop k
theorem uGI(ds:List Nat):(dH ds).length≤ds.length:=by
 obtain⟨k,_,h1,_⟩:=sE ds;rw[h1,List.length_drop];omega
theorem uGJ(ds:List Nat):dH ds=[]↔aS ds=0:=by
 constructor
 ·intro h;rw[← pZ,h];rfl
 ·intro h;cases hb:dH ds with
  | nil=>rfl
  | cons d l=>
   have h1:=sF _ _ _ hb;have h2:=pC d l h1;have h3:=pZ ds;rw[hb]at h3;have:0<10 ^ l.length:=Nat.pow_pos (by decide);omega
def mF:Nat→Nat→Nat
 | 0,_=>0
 | f+1,n=>if n=0 then 0 else mF f (n / 10)+1
def eS(n:Nat):Nat:=mF n n
theorem sP:∀ f n,n≤f→n<10 ^ mF f n∧(0<n→0<mF f n∧10 ^ (mF f n-1)≤n):=by
 intro f
 induction f with
 | zero=>intro n h;simp[mF];omega
 | succ f ih=>
  intro n h;simp only[mF]
  split
  ·rename_i h0;subst h0;simp
  ·rename_i h0
   obtain⟨h1,h2⟩:=ih (n / 10) (by omega);refine⟨by rw[Nat.pow_succ];omega,fun _=>⟨by omega,?_⟩⟩;rcases Nat.eq_zero_or_pos (n / 10) with hz | hz
   ·rw[hz];cases f with
    | zero=>simp[mF];omega
    | succ f=>simp[mF];omega
   ·obtain⟨h3,h4⟩:=h2 hz;rw[show mF f (n / 10)+1-1=(mF f (n / 10)-1)+1 by omega,Nat.pow_succ];omega
theorem lT{a b:Nat}(h:10 ^ a<10 ^ b):a<b:=by
 rcases Nat.lt_or_ge a b with h1 | h1
 ·exact h1
 ·have:=Nat.pow_le_pow_right (n:=10) (by decide) h1;omega
theorem uDC{n a b:Nat}(ha:0<a)(hb:0<b)(h1:10 ^ (a-1)≤n)(h2:n<10 ^ a)(h3:10 ^ (b-1)≤n)(h4:n<10 ^ b):a=b:=by
 have h5:a-1<b:=lT (Nat.lt_of_le_of_lt h1 h4);have h6:b-1<a:=lT (Nat.lt_of_le_of_lt h3 h2);omega
theorem vQ:eS 0=0:=rfl
theorem oQ(n:Nat):n<10 ^ eS n:=(sP n n (Nat.le_refl _)).1
theorem oR(n:Nat)(h:0<n):0<eS n:=((sP n n (Nat.le_refl _)).2 h).1
theorem rT(n:Nat)(h:0<n):10 ^ (eS n-1)≤n:=((sP n n (Nat.le_refl _)).2 h).2
theorem xG{n a:Nat}(ha:0<a)(h1:10 ^ (a-1)≤n)(h2:n<10 ^ a):eS n=a:=by
 have hp:0<n:=Nat.lt_of_lt_of_le (Nat.pow_pos (by decide)) h1;exact uDC (oR n hp) ha (rT n hp) (oQ n) h1 h2
theorem uGV(n:Nat)(h0:0<n)(h:n<1000000000000000):jN n=eS n :=
 (xG (by have:=oP n;omega) (digs_ge n h0) (digs_lt n h)).symm
theorem uCL(d:Nat)(ds:List Nat)(h:Dig (d::ds))(h0:d≠0):eS (aS (d::ds))=ds.length+1 :=
 xG (by omega) (by simpa using pC d ds h0) (mO _ h)
def rhe(n k:Nat):Nat:=if 10 ^ k<2*(n % 10 ^ k)∨(2*(n % 10 ^ k)=10 ^ k∧n / 10 ^ k % 2=1) then n / 10 ^ k+1 else n / 10 ^ k
theorem uFR(n k:Nat)(h:eS n<k):rhe n k=0:=by
 have h1:=oQ n;have h2:10 ^ (eS n+1)≤10 ^ k:=Nat.pow_le_pow_right (by decide) h;rw[Nat.pow_succ]at h2;unfold rhe;rw[Nat.mod_eq_of_lt (by omega),Nat.div_eq_of_lt (by omega),if_neg (by omega)]
theorem rhe_le(n k:Nat)(m:Nat)(h:n<10 ^ (m+k)):rhe n k≤10 ^ m:=by
 have h1:n / 10 ^ k<10 ^ m:=by rw[Nat.div_lt_iff_lt_mul (Nat.pow_pos (by decide)),← Nat.pow_add];exact h
 unfold rhe
 split <;> omega
theorem rhe_ge(n k m:Nat)(h:10 ^ (m+k)≤n):10 ^ m≤rhe n k:=by
 have h1:10 ^ m≤n / 10 ^ k:=by rw[Nat.le_div_iff_mul_le (Nat.pow_pos (by decide)),← Nat.pow_add];exact h
 unfold rhe
 split <;> omega
def uO:Nat→Nat→Int→Nat×Int
 | 0,n,e=>(n,e)
 | f+1,n,e=>if n % 10=0 then uO f (n / 10) (e+1) else (n,e)
def bU(n:Nat)(e:Int):Nat×Int:=if n=0 then (0,0) else uO n n e
theorem uER:∀ f g n e,0<n→n≤f→n≤g→uO f n e=uO g n e:=by
 intro f
 induction f with
 | zero=>intro g n e h0 h1 h2;omega
 | succ f ih=>
  intro g n e h0 h1 h2;cases g with
  | zero=>omega
  | succ g=>
   simp only[uO]
   split
   ·exact ih g (n / 10) (e+1) (by omega) (by omega) (by omega)
   ·rfl
theorem tY(n:Nat)(e:Int)(h0:0<n)(h:n % 10=0):bU n e=bU (n / 10) (e+1):=by
 unfold bU;rw[if_neg (by omega),if_neg (by omega)];obtain⟨f,rfl⟩:∃ f,n=f+1:=⟨n-1,by omega⟩
 rw[uO,if_pos h];exact uER _ _ _ _ (by omega) (by omega) (Nat.le_refl _)
theorem tZ(n:Nat)(e:Int)(h:n % 10≠0):bU n e=(n,e):=by
 unfold bU;have:n≠0:=by intro h0;subst h0;simp at h
 rw[if_neg this];obtain⟨f,rfl⟩:∃ f,n=f+1:=⟨n-1,by omega⟩
 rw[uO,if_neg h]
theorem lS(e:Int):bU 0 e=(0,0):=rfl
theorem tX(n:Nat)(e:Int)(h0:0<n):∃ k:Nat,n=(bU n e).1*10 ^ k∧(bU n e).2=e+k∧(bU n e).1 % 10≠0∧eS n=eS (bU n e).1+k:=by
 have:∀ f n e,0<n→n≤f→∃ k:Nat,n=(bU n e).1*10 ^ k∧(bU n e).2=e+k∧(bU n e).1 % 10≠0∧eS n=eS (bU n e).1+k:=by
  intro f
  induction f with
  | zero=>intro n e h0 h1;omega
  | succ f ih=>
   intro n e h0 h1;by_cases hm:n % 10=0
   ·rw[tY n e h0 hm];obtain⟨k,h2,h3,h4,h5⟩:=ih (n / 10) (e+1) (by omega) (by omega);refine⟨k+1,?_,by rw[h3];push_cast;omega,h4,?_⟩
    ·rw[Nat.pow_succ,← Nat.mul_assoc,← h2];omega
    ·have hd:eS n=eS (n / 10)+1:=by
      have hp:0<n / 10:=by omega
      have a1:=oR _ hp;have a2:=rT _ hp;have a3:=oQ (n / 10);refine xG (by omega) ?_ (by rw[Nat.pow_succ];omega);rw[show eS (n / 10)+1-1=(eS (n / 10)-1)+1 by omega,Nat.pow_succ];omega
     omega
   ·rw[tZ n e hm];exact⟨0,by simp,by simp,hm,by simp⟩
 exact this n n e h0 (Nat.le_refl _)
def dJ(n:Nat)(e:Int):Nat×Int:=if 15<eS n then (rhe n (eS n-15),e+((eS n-15:Nat):Int)) else (n,e)
def fS(n:Nat)(e:Int):Nat×Int:=if e< -40 then (rhe n (-40-e).toNat,-40) else (n,e)
def rU(neg:Bool)(n:Nat)(e:Int):Option (Int×Int) :=
 if n=0 then some (0,0) else if 40<(eS n:Int)+e then none else some (if neg then -(n:Int) else n,e)
def fI(neg:Bool)(n:Nat)(e:Int):Option (Int×Int) :=
 rU neg (bU (fS (dJ n e).1 (dJ n e).2).1 (fS (dJ n e).1 (dJ n e).2).2).1 (bU (fS (dJ n e).1 (dJ n e).2).1 (fS (dJ n e).1 (dJ n e).2).2).2
def upB(H:List Nat)(x:Nat)(R:List Nat):Bool:=decide (5<x)||(decide (x=5)&&(decide (0<(dH R).length)||decide (aS H % 2=1)))
theorem uDZ(H:List Nat)(x:Nat)(R:List Nat)(h:Dig (x::R)):rhe (aS (H++x::R)) (R.length+1)=aS H+(if upB H x R then 1 else 0):=by
 have hlt:=mO (x::R) h;have hR:=mO R h.tail;have hb:=uGJ R;have hc:=eD x R;rw[List.length_cons]at hlt;have hp:0<10 ^ R.length:=Nat.pow_pos (by decide);have hx:=h.head;have hpow:10 ^ (R.length+1)=10 ^ R.length*10:=Nat.pow_succ ..;have e1:aS (H++x::R) / 10 ^ (R.length+1)=aS H:=by
  rw[fO,List.length_cons,Nat.add_comm,Nat.add_mul_div_right _ _ (Nat.pow_pos (by decide)),Nat.div_eq_of_lt hlt,Nat.zero_add]
 have e2:aS (H++x::R) % 10 ^ (R.length+1)=aS (x::R):=by
  rw[fO,List.length_cons,Nat.add_comm,Nat.add_mul_mod_self_right,Nat.mod_eq_of_lt hlt]
 unfold rhe;rw[e1,e2,hc,hpow];have hz:(0<(dH R).length)↔0<aS R:=by
  constructor
  ·intro g;rcases Nat.eq_zero_or_pos (aS R) with z | z
   ·rw[hb.2 z]at g;simp at g
   ·exact z
  ·intro g;rcases Nat.eq_zero_or_pos (dH R).length with z | z
   ·rw[hb.1 (List.eq_nil_of_length_eq_zero z)]at g;omega
   ·exact z
 generalize 10 ^ R.length=p at *;generalize aS R=r at *;have hU:upB H x R=true↔(5<x∨(x=5∧(0<r∨aS H % 2=1))):=by
  unfold upB;simp only[Bool.or_eq_true,Bool.and_eq_true,decide_eq_true_eq];rw[hz]
 have key:(p*10<2*(x*p+r)∨(2*(x*p+r)=p*10∧aS H % 2=1))↔(5<x∨(x=5∧(0<r∨aS H % 2=1))):=by
  rcases(by omega:x≤4∨x=5∨6≤x) with g | g | g
  ·have:x*p≤4*p:=Nat.mul_le_mul_right _ g;omega
  ·subst g;omega
  ·have:6*p≤x*p:=Nat.mul_le_mul_right _ g;omega
 by_cases g:upB H x R=true
 ·rw[if_pos (key.2 (hU.1 g)),if_pos g]
 ·rw[if_neg (fun q=>g (hU.2 (key.1 q))),if_neg g];omega
def inc(H:List Nat)(k:Nat):List Nat:=H.take k++List.replicate (H.length-k) 0
theorem inc_len(H:List Nat)(k:Nat)(h:k≤H.length):(inc H k).length=H.length:=by unfold inc;simp;omega
theorem inc_all(H:List Nat):inc H H.length=H:=by unfold inc;simp
theorem vV(H:List Nat)(m:Nat)(h:m<H.length):inc H (m+1)=H.take m++H[m]::List.replicate (H.length-(m+1)) 0:=by
 unfold inc;rw[List.take_succ_eq_append_getElem h,List.append_assoc];rfl
theorem inc_get(H:List Nat)(m:Nat)(h:m<H.length)(h':m<(inc H (m+1)).length):(inc H (m+1))[m]=H[m]:=by
 have h2:(inc H (m+1))[m]?=some H[m]:=by
  rw[vV H m h,List.getElem?_append_right (by simp;omega),List.length_take,Nat.min_eq_left (by omega),Nat.sub_self];rfl
 rw[List.getElem?_eq_getElem h']at h2;injection h2
theorem uFE(H:List Nat)(m c:Nat)(h:m<H.length):(inc H (m+1)).set m c=H.take m++c::List.replicate (H.length-(m+1)) 0:=by
 rw[vV H m h,List.set_append_right (h:=by simp;omega),List.length_take,Nat.min_eq_left (by omega),Nat.sub_self,List.set_cons_zero]
theorem inc_down(H:List Nat)(m:Nat)(h:m<H.length):(inc H (m+1)).set m 0=inc H m:=by
 rw[uFE H m 0 h];unfold inc;rw[show H.length-m=(H.length-(m+1))+1 by omega,List.replicate_succ]
def Nines(H:List Nat)(k:Nat):Prop:=H.drop k=List.replicate (H.length-k) 9
theorem Nines.all(H:List Nat):Nines H H.length:=by unfold Nines;simp
theorem Nines.down{H:List Nat}{m:Nat}(h:Nines H (m+1))(hm:m<H.length)(h9:H[m]=9):Nines H m:=by
 unfold Nines at h ⊢;rw[List.drop_eq_getElem_cons hm,h,h9,show H.length-m=(H.length-(m+1))+1 by omega,List.replicate_succ]
theorem inc_up(H:List Nat)(m:Nat)(hm:m<H.length)(h:Nines H (m+1)):aS (H.take m++(H[m]+1)::List.replicate (H.length-(m+1)) 0)=aS H+1:=by
 have hH:H=H.take m++H[m]::List.replicate (H.length-(m+1)) 9:=by
  have:H=H.take m++H.drop m:=(List.take_append_drop m H).symm
  conv=>lhs;rw[this]
  rw[List.drop_eq_getElem_cons hm,h]
 have h9:=qX (H.length-(m+1));have h0:=qY (H.length-(m+1));have e2:aS H=aS (H.take m++H[m]::List.replicate (H.length-(m+1)) 9):=congrArg aS hH;rw[e2];generalize H.length-(m+1)=q at *;rw[fO,fO,eD,eD];simp only[List.length_cons,List.length_replicate,Nat.add_mul];omega
theorem inc_over(H:List Nat)(h:Nines H 0):aS (1::List.replicate H.length 0)=aS H+1:=by
 unfold Nines at h;simp only[List.drop_zero,Nat.sub_zero]at h;have h9:=qX H.length;have e2:aS H=aS (List.replicate H.length 9):=congrArg aS h;rw[e2,eD,qY,List.length_replicate];omega
theorem Dig.zeros(n:Nat):Dig (List.replicate n 0):=fun d hd=>by rw[List.mem_replicate]at hd;omega
theorem Dig.cons{d:Nat}{l:List Nat}(h1:d≤9)(h2:Dig l):Dig (d::l):=fun x hx=>by
 rcases List.mem_cons.1 hx with h | h
 ·omega
 ·exact h2 x h
def Lead(ds:List Nat):Prop:=∀ d t,ds=d::t→d≠0
theorem uHI(ds:List Nat):Lead (dH ds):=fun d t h=>sF ds d t h
theorem Lead.take{ds:List Nat}(h:Lead ds)(n:Nat):Lead (ds.take n):=by
 intro d t e;cases ds with
 | nil=>simp at e
 | cons x ds=>
  cases n with
  | zero=>simp at e
  | succ n=>simp at e;rw[← e.1];exact h x ds rfl
theorem Lead.up{H:List Nat}(h:Lead H)(m:Nat)(hm:m<H.length)(l:List Nat):Lead (H.take m++(H[m]+1)::l):=by
 intro d t e;cases m with
 | zero=>simp at e;omega
 | succ m=>
  cases H with
  | nil=>simp at hm
  | cons x H=>simp at e;rw[← e.1];exact h x H rfl
theorem zW{ds:List Nat}(h:Lead ds)(hd:Dig ds):eS (aS ds)=ds.length:=by
 cases ds with
 | nil=>rfl
 | cons d t=>exact uCL d t hd (h d t rfl)
theorem last_odd(H:List Nat)(n:Nat)(hn:n+1=H.length):aS H % 2=H[n] % 2:=by
 have:H=H.take n++[H[n]]:=by
  rw[← List.take_succ_eq_append_getElem (by omega),List.take_of_length_le (by omega)]
 have e:aS H=10*aS (H.take n)+H[n]:=by
  have:=congrArg aS this;rw[nY]at this;exact this
 omega
def dW(l:Bs):List Nat:=l.map fun c=>c.toNat-48
theorem yZ(a b:Bs):dW (a++b)=dW a++dW b:=by simp[dW]
theorem iW(a:Bs):(dW a).length=a.length:=by simp[dW]
theorem dC(c:UInt8):aC c=true↔48≤c.toNat∧c.toNat≤57:=by simp[aC]
theorem sN(l:Bs)(n:Nat)(h:n≤aM aC l):Dig (dW (l.take n)):=by
 intro d hd;unfold dW at hd;rw[List.mem_map]at hd;obtain⟨c,hc,rfl⟩:=hd;obtain⟨k,hk,rfl⟩:=List.getElem_of_mem hc;rw[List.length_take]at hk;rw[List.getElem_take];have:=(dC _).1 (rV aC l k (by omega) (by omega));omega
structure Rd where
 st:Nat
 neg:Bool
 negPow:Bool
 ds:List Nat
 behind:Nat
 pow:Nat
def rd0:Rd:=⟨0,false,false,[],0,0⟩
def eI(p d:Nat):Nat:=if p<100000 then p*10+d else p
def Rd.digit(r:Rd)(d:Nat):Rd :=
 if r.st≤2 then { r with st:=2,ds:=r.ds++[d] }
 else if r.st≤4 then { r with st:=4,ds:=r.ds++[d],behind:=r.behind+1 }
 else { r with st:=7,pow:=eI r.pow d }
def Rd.take(r:Rd)(c:Nat):Option Rd :=
 if 48≤c∧c≤57 then some (r.digit (c-48))
 else if c=45∧r.st=0 then some { r with neg:=true,st:=1 }
 else if c=46∧r.st≤2 then some { r with st:=3 }
 else if (c=101∨c=69)∧(r.st=2∨r.st=4) then some { r with st:=5 }
 else if (c=45∨c=43)∧r.st=5 then some { r with negPow:=decide (c=45),st:=6 }
 else none
def Rd.all:Rd→Bs→Option Rd
 | r,[]=>some r
 | r,c::l=>match r.take c.toNat with | some r'=>r'.all l | none=>none
def Rd.fin(r:Rd):Option (Bool×List Nat×Nat×Bool×Nat):=if r.st=2∨r.st=4∨r.st=7 then some (r.neg,r.ds,r.behind,r.negPow,r.pow) else none
def Rd.digits(r:Rd)(l:List Nat):Rd:=l.foldl Rd.digit r
theorem wY(r:Rd)(l:Bs):r.all l=(r.digits (dW (l.take (aM aC l)))).all (l.drop (aM aC l)):=by
 induction l generalizing r with
 | nil=>rfl
 | cons c l ih=>
  by_cases h:aC c=true
  ·have e:aM aC (c::l)=aM aC l+1:=by simp[aM,h]
   rw[e];simp only[List.take_succ_cons,List.drop_succ_cons];have hc:=(dC c).1 h;show (match r.take c.toNat with | some r'=>r'.all l | none=>none)=_;have ht:r.take c.toNat=some (r.digit (c.toNat-48)):=if_pos hc;rw[ht];exact ih _
  ·have e:aM aC (c::l)=0:=by simp[aM,h]
   rw[e];rfl
theorem xF(L:List Nat)(r:Rd)(h:r.st≤2)(hL:L≠[]):r.digits L={ r with st:=2,ds:=r.ds++L }:=by
 induction L generalizing r with
 | nil=>exact absurd rfl hL
 | cons d L ih=>
  have e:r.digit d={ r with st:=2,ds:=r.ds++[d] }:=if_pos h;show (r.digit d).digits L=_;rw[e];by_cases hl:L=[]
  ·rw[hl];rfl
  ·rw[ih _ (Nat.le_refl _) hl];simp
theorem zA(L:List Nat)(r:Rd)(h:r.st=3∨r.st=4)(hL:L≠[]):r.digits L={ r with st:=4,ds:=r.ds++L,behind:=r.behind+L.length }:=by
 induction L generalizing r with
 | nil=>exact absurd rfl hL
 | cons d L ih=>
  have e:r.digit d={ r with st:=4,ds:=r.ds++[d],behind:=r.behind+1 }:=by
   unfold Rd.digit;rw[if_neg (by omega),if_pos (by omega)]
  show (r.digit d).digits L=_;rw[e];by_cases hl:L=[]
  ·rw[hl];rfl
  ·rw[ih _ (.inr rfl) hl];simp;omega
theorem uCJ(L:List Nat)(r:Rd)(h:5≤r.st)(hL:L≠[]):r.digits L={ r with st:=7,pow:=L.foldl eI r.pow }:=by
 induction L generalizing r with
 | nil=>exact absurd rfl hL
 | cons d L ih=>
  have e:r.digit d={ r with st:=7,pow:=eI r.pow d }:=by
   unfold Rd.digit;rw[if_neg (by omega),if_neg (by omega)]
  show (r.digit d).digits L=_;rw[e];by_cases hl:L=[]
  ·rw[hl];rfl
  ·rw[ih _ (by show 5≤7;omega) hl];rfl
def kR(l:Bs):Option (Bool×List Nat) :=
 match l with
 | []=>some (false,[])
 | c::l=>if c=101∨c=69 then
   (let i:=if aP l 0 43||aP l 0 45 then 1 else 0
    if aM aC (l.drop i)=0∨i+aM aC (l.drop i)≠l.length then none else some (aP l 0 45,dW (l.drop i)))
  else none
def nP(l:Bs):Option (Bool×List Nat×Nat×Bool×List Nat) :=
 let i:=if aP l 0 45 then 1 else 0
 let a:=aM aC (l.drop i)
 if aP l (i+a) 46 then
  let b:=aM aC (l.drop (i+a+1))
  if b=0 then none else (kR (l.drop (i+a+1+b))).map fun p=>(aP l 0 45,dW ((l.drop i).take a)++dW ((l.drop (i+a+1)).take b),b,p.1,p.2)
 else if a=0 then none else (kR (l.drop (i+a))).map fun p=>(aP l 0 45,dW ((l.drop i).take a),0,p.1,p.2)
def uDT(L:List Nat):Nat:=L.foldl eI 0
theorem yD(r:Rd)(l:Bs)(h:r.st=5∨r.st=6)(h0:r.pow=0)(hs:r.st=5→∀ c t,l=c::t→c≠43∧c≠45) :
  (r.all l).bind Rd.fin=if aM aC l=0∨aM aC l≠l.length then none else some (r.neg,r.ds,r.behind,r.negPow,uDT (dW l)):=by
 have hle:=bW aC l;rw[wY];by_cases hz:aM aC l=0
 ·rw[hz,if_pos (.inl rfl)];simp only[List.take_zero,List.drop_zero];show (r.all l).bind Rd.fin=none;cases l with
  | nil=>simp only[Rd.all,Option.bind_some];unfold Rd.fin;rw[if_neg (by omega)]
  | cons c t=>
   have hd:aC c=false:=by
    cases hc:aC c
    ·rfl
    ·simp[aM,hc]at hz
   have hn:¬ (48≤c.toNat∧c.toNat≤57):=fun h=>by rw[(dC c).2 h]at hd;cases hd
   have ht:r.take c.toNat=none:=by
    unfold Rd.take;rw[if_neg hn,if_neg (by omega),if_neg (by omega),if_neg (by omega),if_neg ?_];rintro⟨h1,h2⟩;obtain⟨h3,h4⟩:=hs h2 c t rfl;rcases h1 with h1 | h1
    ·exact h4 (lC (by rw[h1];rfl))
    ·exact h3 (lC (by rw[h1];rfl))
   simp only[Rd.all,ht];rfl
 ·have hne:dW (l.take (aM aC l))≠[]:=by
   intro h;have:=congrArg List.length h;rw[iW,List.length_take]at this;simp at this;rcases this with h1 | h1
   ·exact hz h1
   ·rw[h1]at hz;exact hz rfl
  rw[uCJ _ r (by omega) hne];by_cases hf:aM aC l=l.length
  ·rw[if_neg (by omega),hf,List.drop_of_length_le (Nat.le_refl _),List.take_of_length_le (Nat.le_refl _)];simp only[Rd.all,Option.bind_some];unfold Rd.fin;rw[if_pos (.inr (.inr rfl)),h0];rfl
  ·rw[if_pos (.inr hf)];have hlt:aM aC l<l.length:=by omega
   have hst:=kX aC l hlt;rw[List.drop_eq_getElem_cons hlt];generalize l[aM aC l]=c at *;have hn:¬ (48≤c.toNat∧c.toNat≤57):=fun h=>by rw[(dC c).2 h]at hst;cases hst
   generalize hr:({ r with st:=7,pow:=_ }:Rd)=q;have hq:q.st=7:=by rw[← hr]
   have ht:q.take c.toNat=none:=by
    unfold Rd.take;rw[if_neg hn,if_neg (by omega),if_neg (by omega),if_neg (by omega),if_neg (by omega)]
   simp only[Rd.all,ht];rfl
theorem uAW(r:Rd)(l:Bs)(h:r.st=2∨r.st=4)(h0:r.pow=0)(h1:r.negPow=false)(hd:∀ c t,l=c::t→aC c=false∧(r.st=2→c≠46)) :
  (r.all l).bind Rd.fin=(kR l).map fun p=>(r.neg,r.ds,r.behind,p.1,uDT p.2):=by
 cases l with
 | nil=>
  simp only[Rd.all,Option.bind_some];unfold Rd.fin kR;rw[if_pos (by omega),h0,h1];rfl
 | cons c t=>
  obtain⟨d1,d2⟩:=hd c t rfl;have hn:¬ (48≤c.toNat∧c.toNat≤57):=fun h=>by rw[(dC c).2 h]at d1;cases d1
  by_cases he:c=101∨c=69
  ·have ht:r.take c.toNat=some { r with st:=5 }:=by
    have he':c.toNat=101∨c.toNat=69:=by rcases he with e | e <;> rw[e] <;> decide
    unfold Rd.take;rw[if_neg hn,if_neg (by omega),if_neg (by omega),if_pos ⟨he',by omega⟩]
   simp only[Rd.all,ht];unfold kR;simp only;rw[if_pos he];cases t with
   | nil=>
    have:=yD { r with st:=5 } [] (.inl rfl) h0 (fun _ c t h=>by cases h);rw[this];rfl
   | cons x t=>
    have e43:aP (x::t) 0 43=(x==43):=by unfold aP;simp
    have e45:aP (x::t) 0 45=(x==45):=by unfold aP;simp
    rw[e43,e45];by_cases hx:x=43∨x=45
    ·have ht2:({ r with st:=5 }:Rd).take x.toNat=some { r with st:=6,negPow:=(x==45) }:=by
      rcases hx with e | e <;> subst e <;> rfl
     have hb:(x==43||x==45)=true:=by rcases hx with e | e <;> subst e <;> rfl
     rw[hb];simp only[Rd.all,ht2,if_true,List.drop_succ_cons,List.drop_zero];rw[yD ⟨6,r.neg,(x==45),r.ds,r.behind,r.pow⟩ t (.inr rfl) h0 (fun h=>absurd h (by decide:¬ (6:Nat)=5))];by_cases hk:aM aC t=0∨aM aC t≠t.length
     ·rw[if_pos hk,if_pos (by simp only[List.length_cons];omega)];rfl
     ·rw[if_neg hk,if_neg (by simp only[List.length_cons];omega)];rfl
    ·have hb:(x==43||x==45)=false:=by
      rw[Bool.or_eq_false_iff,beq_eq_false_iff_ne,beq_eq_false_iff_ne];exact⟨fun e=>hx (.inl e),fun e=>hx (.inr e)⟩
     have hb2:(x==45)=false:=(Bool.or_eq_false_iff.1 hb).2;rw[hb,hb2];simp only[Bool.false_eq_true,if_false,List.drop_zero,Nat.zero_add];rw[yD { r with st:=5 } (x::t) (.inl rfl) h0 (fun _ c' t' h=>by injection h with h1 h2;subst h1;exact⟨fun e=>hx (.inl e),fun e=>hx (.inr e)⟩)];by_cases hk:aM aC (x::t)=0∨aM aC (x::t)≠(x::t).length
     ·rw[if_pos hk,if_pos hk];rfl
     ·rw[if_neg hk,if_neg hk];simp only[Option.map_some];rw[h1]
  ·have ht:r.take c.toNat=none:=by
    unfold Rd.take;rw[if_neg hn,if_neg (by omega),if_neg ?_,if_neg ?_,if_neg (by omega)]
    ·rintro⟨e,_⟩;rcases e with e | e
     ·exact he (.inl (lC (by rw[e];rfl)))
     ·exact he (.inr (lC (by rw[e];rfl)))
    ·rintro⟨e,hst⟩;exact d2 (by omega) (lC (by rw[e];rfl))
   simp only[Rd.all,ht];unfold kR;simp only;rw[if_neg he];rfl
theorem oS{l t:Bs}{n:Nat}{c:UInt8}(h:l.drop n=c::t)(d:UInt8):aP l n d=(c==d):=by
 unfold aP;have:l[n]?=some c:=by
  have:=congrArg (fun x=>x[0]?) h;simpa using this
 rw[this];simp
theorem uAJ(r:Rd)(l:Bs)(hr:r={ rd0 with neg:=r.neg,st:=r.st })(h:r.st≤1)(hm:r.st=0→aP l 0 45=false) :
  (r.all l).bind Rd.fin=(if aP l (aM aC l) 46 then
   (if aM aC (l.drop (aM aC l+1))=0 then none else (kR (l.drop (aM aC l+1+aM aC (l.drop (aM aC l+1))))).map fun p=>(r.neg,dW (l.take (aM aC l))++dW ((l.drop (aM aC l+1)).take (aM aC (l.drop (aM aC l+1)))),aM aC (l.drop (aM aC l+1)),p.1,uDT p.2))
  else if aM aC l=0 then none else (kR (l.drop (aM aC l))).map fun p=>(r.neg,dW (l.take (aM aC l)),0,p.1,uDT p.2)):=by
 have hle:=bW aC l;have h0:r.pow=0:=by rw[hr];rfl
 have h1:r.negPow=false:=by rw[hr];rfl
 have h2:r.ds=[]:=by rw[hr];rfl
 have h3:r.behind=0:=by rw[hr];rfl
 rw[wY];have hstop:∀ c t,l.drop (aM aC l)=c::t→aC c=false:=by
  intro c t e;have hlt:aM aC l<l.length:=by
   rcases Nat.lt_or_ge (aM aC l) l.length with g | g
   ·exact g
   ·rw[List.drop_of_length_le g]at e;cases e
  rw[List.drop_eq_getElem_cons hlt]at e;injection e with e1 _;rw[← e1];exact kX aC l hlt
 have hlen:(dW (l.take (aM aC l))).length=aM aC l:=by rw[iW,List.length_take];omega
 generalize hn:aM aC l=n at *;obtain⟨q,hq,q1,q2,q3,q4,q5,q6,q7⟩:∃ q:Rd,r.digits (dW (l.take n))=q∧q.st≤2∧(q.st=2↔n≠0)∧q.neg=r.neg∧q.ds=dW (l.take n)∧q.behind=0∧q.pow=0∧q.negPow=false:=by
  by_cases hz:n=0
  ·subst hz;exact⟨r,rfl,by omega,by constructor <;> intro g <;> omega,rfl,by rw[h2];rfl,h3,h0,h1⟩
  ·have hne:dW (l.take n)≠[]:=by intro e;rw[e]at hlen;simp at hlen;omega
   refine⟨_,xF _ r (by omega) hne,Nat.le_refl _,⟨fun _=>hz,fun _=>rfl⟩,rfl,?_,h3,h0,h1⟩;show r.ds++_=_;rw[h2];rfl
 rw[hq];cases hd:l.drop n with
 | nil=>
  have hat:aP l n 46=false:=iE l n 46 (by
   have:=congrArg List.length hd;rw[List.length_drop]at this;simp at this;omega)
  rw[hat];simp only[Bool.false_eq_true,if_false,Rd.all,Option.bind_some];by_cases hz:n=0
  ·rw[if_pos hz];have:q.st≠2:=fun g=>(q2.1 g) hz
   unfold Rd.fin;rw[if_neg (by omega)]
  ·rw[if_neg hz];unfold Rd.fin kR;rw[if_pos (.inl (q2.2 hz)),q3,q4,q5,q6,q7];rfl
 | cons c t=>
  have hc:=hstop c t hd;have hnd:¬ (48≤c.toNat∧c.toNat≤57):=fun g=>by rw[(dC c).2 g]at hc;cases hc
  rw[oS hd 46];by_cases h46:c=46
  ·subst h46;have ht:q.take (46:UInt8).toNat=some { q with st:=3 }:=by
    unfold Rd.take;rw[if_neg (by decide),if_neg (by intro g;exact absurd g.1 (by decide)),if_pos ⟨rfl,q1⟩]
   have hdt:l.drop (n+1)=t:=by
    have:l.drop (n+1)=(l.drop n).drop 1:=by rw[List.drop_drop]
    rw[this,hd];rfl
   have hdb:∀ b,l.drop (n+1+b)=t.drop b:=by
    intro b;rw[← List.drop_drop,hdt]
   simp only[Rd.all,ht,beq_self_eq_true,if_true];rw[hdt,hdb,wY];have hlet:=bW aC t;by_cases hb:aM aC t=0
   ·rw[if_pos hb,hb];simp only[List.take_zero,List.drop_zero];show (Rd.all { q with st:=3 } t).bind Rd.fin=none;cases t with
    | nil=>rfl
    | cons x t=>
     have hx:aC x=false:=by
      cases hx:aC x
      ·rfl
      ·simp[aM,hx]at hb
     have hxn:¬ (48≤x.toNat∧x.toNat≤57):=fun g=>by rw[(dC x).2 g]at hx;cases hx
     have ht3:({ q with st:=3 }:Rd).take x.toNat=none:=by
      unfold Rd.take;simp only;rw[if_neg hxn,if_neg (by omega),if_neg (by omega),if_neg (by omega),if_neg (by omega)]
     simp only[Rd.all,ht3];rfl
   ·rw[if_neg hb];have hne:dW (t.take (aM aC t))≠[]:=by
     intro e;have:=congrArg List.length e;rw[iW,List.length_take]at this;simp only[List.length_nil]at this;omega
    rw[zA _ { q with st:=3 } (.inl rfl) hne];have hlt2:(dW (t.take (aM aC t))).length=aM aC t:=by rw[iW,List.length_take];omega
    rw[hlt2];refine(uAW ⟨4,q.neg,q.negPow,q.ds++dW (t.take (aM aC t)),q.behind+aM aC t,q.pow⟩ (t.drop (aM aC t)) (.inr rfl) q6 q7 ?_).trans ?_
    rotate_left
    ·simp only[q3,q4,q5,Nat.zero_add]
    ·intro x t' e;have hlt:aM aC t<t.length:=by
      rcases Nat.lt_or_ge (aM aC t) t.length with g | g
      ·exact g
      ·rw[List.drop_of_length_le g]at e;cases e
     rw[List.drop_eq_getElem_cons hlt]at e;injection e with e1 _;rw[← e1];exact⟨kX aC t hlt,fun g=>absurd g (by decide:¬ (4:Nat)=2)⟩
  ·have hb:(c==46)=false:=by rw[beq_eq_false_iff_ne];exact h46
   rw[hb];simp only[Bool.false_eq_true,if_false];by_cases hz:n=0
   ·rw[if_pos hz];have hst:q.st≠2:=fun g=>(q2.1 g) hz
    have hqr:q=r:=by rw[← hq,hz];rfl
    have h45:q.st=0→c≠45:=by
     intro g e;have hm':=hm (by rw[← hqr];exact g);rw[hz]at hd;rw[oS hd 45,e]at hm';exact absurd hm' (by decide)
    have ht:q.take c.toNat=none:=by
     unfold Rd.take;rw[if_neg hnd,if_neg ?_,if_neg ?_,if_neg (by omega),if_neg (by omega)]
     ·rintro⟨e,_⟩;exact h46 (lC (by rw[e];rfl))
     ·rintro⟨e,g⟩;exact h45 g (lC (by rw[e];rfl))
    simp only[Rd.all,ht];rfl
   ·rw[if_neg hz,uAW q (c::t) (.inl (q2.2 hz)) q6 q7 (fun x t' e=>by injection e with e1 _;subst e1;exact⟨hc,fun _=>h46⟩)];simp only[q3,q4,q5]
theorem all_text(l:Bs):(rd0.all l).bind Rd.fin=(nP l).map fun p=>(p.1,p.2.1,p.2.2.1,p.2.2.2.1,uDT p.2.2.2.2):=by
 unfold nP;cases h:aP l 0 45
 ·rw[uAJ rd0 l rfl (by decide) (fun _=>h)];simp only[Bool.false_eq_true,if_false,List.drop_zero,Nat.zero_add]
  split
  ·split
   ·rfl
   ·rw[Option.map_map];rfl
  ·split
   ·rfl
   ·rw[Option.map_map];rfl
 ·have hl:0<l.length:=at_lt _ _ _ h;cases l with
  | nil=>simp at hl
  | cons c t=>
   have hc:c=45:=by
    unfold aP at h;simpa using h
   subst hc;have hall:rd0.all (45::t)=Rd.all ⟨1,true,false,[],0,0⟩ t:=rfl;have hat:∀ n d,aP (45::t) (1+n) d=aP t n d:=by
    intro n d;unfold aP;rw[Nat.add_comm];rfl
   rw[hall,uAJ ⟨1,true,false,[],0,0⟩ t rfl (by decide) (fun g=>by cases g)];have hd:∀ n,List.drop (1+n) (45::t)=List.drop n t:=by intro n;rw[Nat.add_comm];rfl
   have e1:∀ a,1+a+1=1+(a+1):=by intro a;omega
   have e2:∀ a b,1+(a+1)+b=1+(a+1+b):=by intro a b;omega
   have hd1:List.drop 1 (45::t)=t:=rfl;simp only[if_true,hd1,e1,e2,hd,hat]
   split
   ·split
    ·rfl
    ·rw[Option.map_map];rfl
   ·split
    ·rfl
    ·rw[Option.map_map];rfl
def fJ(l:Bs):Nat:=if aP l (aM aC l) 46&&decide (0<aM aC (l.drop (aM aC l+1))) then aM aC l+1+aM aC (l.drop (aM aC l+1)) else aM aC l
def jO(l:Bs)(b:Nat):Nat:=if aP l (b+1) 43||aP l (b+1) 45 then b+1+1 else b+1
def uAP(l:Bs)(b:Nat):Nat :=
 if b=0∨(aP l b 101=false∧aP l b 69=false) then b
 else if 0<aM aC (l.drop (jO l b)) then jO l b+aM aC (l.drop (jO l b)) else b
def cP(l:Bs):Nat:=uAP l (fJ l)
theorem uFM(l:Bs)(b:Nat)(h:b<l.length):jO l b≤l.length:=by
 unfold jO
 split
 case isTrue h1=>
  rcases Bool.or_eq_true_iff.1 h1 with h1 | h1
  all_goals have:=at_lt _ _ _ h1
  all_goals omega
 case isFalse=>omega
theorem tU(l:Bs):fJ l≤l.length:=by
 unfold fJ;have h1:=bW aC l;have h2:=bW aC (l.drop (aM aC l+1));rw[List.length_drop]at h2
 split
 case isTrue h=>simp only[Bool.and_eq_true,decide_eq_true_eq]at h;omega
 case isFalse=>exact h1
theorem lR(l:Bs):cP l≤l.length:=by
 unfold cP uAP;have h0:=tU l;have h2:=bW aC (l.drop (jO l (fJ l)));rw[List.length_drop]at h2
 split
 ·exact h0
 ·split <;> omega
def cC(c:UInt8):Bool:=aI c||aC c||c==95||c==46||c==36
def dF(l:Bs):Nat:=l.count 36
theorem xH(l:Bs)(c:UInt8):dF (l++[c])=dF l+if c==36 then 1 else 0:=by simp[dF,List.count_append,List.count_singleton]
theorem uCM(l:Bs):dF l≤l.length:=List.count_le_length
def tV(r:Bs):Bool:=decide (aM aC r=r.length)&&decide (1≤aM aC r)&&decide (aM aC r≤7)&&!aP r 0 48
def xZ(fixed:Bool)(s:Bs):Bool :=
 if 3<aM aI s then false
 else if (s.drop (aM aI s)).isEmpty then fixed&&decide (0<aM aI s)
 else if 0<aM aI s then tV (Lib.trimPrefix (s.drop (aM aI s)) [36])
 else if fixed then tV (s.drop (aM aI s)) else false
def nO(l:Bs):Bool:=xZ (Lib.hasPrefix l [36]) (Lib.trimPrefix l [36])
def gR:Bs:=[43,45,42,47,94,38,61,60,62,37,40,41,123,125,44,59,58,35]
def dZ(l:Bs):Nat:=if Lib.hasPrefix l [60,62]||Lib.hasPrefix l [60,61]||Lib.hasPrefix l [62,61] then 2 else if 0≤Lib.indexByte gR (l.headD 0) then 1 else 0
def iC(l:Bs):Nat×Bs×Nat :=
 if nO (l.take (aM cC l)) then (4,l.take (aM cC l),aM cC l)
 else if dF (l.take (aM cC l))=0 then (3,l.take (aM cC l),aM cC l) else (0,[],0)
theorem uBO(l p:Bs):(Lib.trimPrefix l p).length≤l.length:=by
 unfold Lib.trimPrefix;split
 ·rw[List.length_drop];omega
 ·exact Nat.le_refl _
def bG:Bs→Option (Bs×Nat)
 | []=>none
 | [c]=>if c=34 then some ([],1) else none
 | c::d::l=>
  if c=34 then (if d=34 then (bG l).map (fun x=>(34::x.1,x.2+2)) else some ([],1))
  else (bG (d::l)).map (fun x=>(c::x.1,x.2+1))
theorem gG(c:UInt8)(l:Bs)(h:c≠34):bG (c::l)=(bG l).map (fun x=>(c::x.1,x.2+1)):=by
 cases l with
 | nil=>simp[bG,h]
 | cons d l=>simp only[bG,if_neg h]
theorem rC(t l:Bs)(h:34∉t):bG (t++l)=(bG l).map (fun x=>(t++x.1,x.2+t.length)):=by
 induction t with
 | nil=>simp
 | cons c t ih=>
  have hc:c≠34:=by intro e;apply h;simp[e]
  rw[List.cons_append,gG _ _ hc,ih (by intro e;apply h;simp[e]),Option.map_map];cases bG l with
  | none=>rfl
  | some x=>simp only[Option.map_some,Function.comp,List.length_cons,List.cons_append];congr 2
theorem pText_no(l:Bs)(h:34∉l):bG l=none:=by
 have:=rC l [] h;simpa [bG] using this
theorem kS(l:Bs)(h:∀ r,l≠34::r):bG (34::l)=some ([],1):=by
 cases l with
 | nil=>simp[bG]
 | cons d l=>
  have hd:d≠34:=by intro e;exact h l (by rw[e])
  simp[bG,hd]
theorem kT(l:Bs):bG (34::34::l)=(bG l).map (fun x=>(34::x.1,x.2+2)):=by simp[bG]
theorem idx_no(l:Bs)(c:UInt8)(h:Lib.indexByte l c<0):c∉l:=by
 induction l with
 | nil=>simp
 | cons b l ih=>
  unfold Lib.indexByte at h;by_cases hb:(b==c)=true
  ·rw[if_pos hb]at h;omega
  ·rw[if_neg hb]at h;have hne:b≠c:=fun e=>hb (by rw[e];simp)
   by_cases h1:(Lib.indexByte l c==-1)=true
   ·have:Lib.indexByte l c<0:=by have:=eq_of_beq h1;omega
    simp[ih this,Ne.symm hne]
   ·rw[if_neg h1]at h;have:Lib.indexByte l c<0:=by omega
    simp[ih this,Ne.symm hne]
theorem uFD(l:Bs)(c:UInt8)(h:0≤Lib.indexByte l c):∃ n:Nat,Lib.indexByte l c=n∧n<l.length∧c∉l.take n∧l=l.take n++c::l.drop (n+1):=by
 induction l with
 | nil=>simp[Lib.indexByte]at h
 | cons b l ih=>
  by_cases hb:(b==c)=true
  ·have e:b=c:=eq_of_beq hb;refine⟨0,by unfold Lib.indexByte;rw[if_pos hb];rfl,by simp,by simp,by simp[e]⟩
  ·unfold Lib.indexByte at h;rw[if_neg hb]at h;have hne:b≠c:=fun e=>hb (by rw[e];simp)
   by_cases h1:(Lib.indexByte l c==-1)=true
   ·rw[if_pos h1]at h;omega
   ·rw[if_neg h1]at h;have h2:0≤Lib.indexByte l c:=by
     have:Lib.indexByte l c≠-1:=fun e=>h1 (by rw[e];rfl)
     omega
    obtain⟨n,h3,h4,h5,h6⟩:=ih h2;refine⟨n+1,by unfold Lib.indexByte;rw[if_neg hb,if_neg h1,h3];rfl,by simpa using h4,by simp[h5,Ne.symm hne],?_⟩;simp only[List.take_succ_cons,List.drop_succ_cons,List.cons_append];rw[← h6]
def eH(l:Bs):Nat×Bs×Nat:=match bG (l.drop 1) with | some x=>(2,x.1,x.2+1) | none=>(0,[],0)
def QInv(l acc:Bs)(k:Nat):Prop:=1≤k∧k≤l.length∧acc.length≤k∧bG (l.drop 1)=(bG (l.drop k)).map (fun x=>(acc++x.1,x.2+(k-1)))
theorem QInv.start(l:Bs)(h:0<l.length):QInv l [] 1:=by
 refine⟨Nat.le_refl _,h,by simp,?_⟩;cases bG (l.drop 1) with
 | none=>rfl
 | some x=>simp
theorem QInv.fail{l acc:Bs}{k:Nat}(h:QInv l acc k)(hn:Lib.indexByte (l.drop k) 34<0):eH l=(0,[],0):=by
 unfold eH;rw[h.2.2.2,pText_no _ (idx_no _ _ hn)];rfl
theorem QInv.split{l acc:Bs}{k n:Nat}(_h:QInv l acc k)(hi:Lib.indexByte (l.drop k) 34=(n:Int)) :
  k+n<l.length∧bG (l.drop k)=(bG (34::l.drop (k+n+1))).map (fun x=>((l.drop k).take n++x.1,x.2+n)):=by
 obtain⟨m,h1,h2,h3,h4⟩:=uFD (l.drop k) 34 (by omega);obtain rfl:m=n:=by omega
 rw[List.length_drop]at h2;refine⟨by omega,?_⟩;have e:((l.drop k).take m).length=m:=by rw[List.length_take,List.length_drop];omega
 conv=>lhs;rw[h4]
 rw[rC _ _ h3,e,List.drop_drop]
 congr 3
theorem QInv.stop{l acc:Bs}{k n:Nat}(h:QInv l acc k)(hi:Lib.indexByte (l.drop k) 34=(n:Int))(hq:aP l (k+n+1) 34=false) :
  eH l=(2,acc++(l.drop k).take n,k+n+1):=by
 obtain⟨h1,h2⟩:=h.split hi;have hk:=h.1;unfold eH;rw[h.2.2.2,h2,kS]
 ·simp;omega
 ·intro r hr;have h3:(l.drop (k+n+1))[0]?=some 34:=by rw[hr];rfl
  rw[List.getElem?_drop,Nat.add_zero]at h3;unfold aP at hq;rw[h3]at hq;cases hq
theorem QInv.next{l acc:Bs}{k n:Nat}(h:QInv l acc k)(hi:Lib.indexByte (l.drop k) 34=(n:Int))(hq:aP l (k+n+1) 34=true) :
  QInv l (acc++(l.drop k).take n++[34]) (k+n+1+1):=by
 obtain⟨h1,h2⟩:=h.split hi;have hlt:=at_lt _ _ _ hq;have hk:=h.1;have ha:=h.2.2.1;refine⟨by omega,by omega,by simp;omega,?_⟩;have h3:l.drop (k+n+1)=34::l.drop (k+n+1+1):=by
  rw[List.drop_eq_getElem_cons hlt]
  congr 1
  unfold aP at hq;rw[List.getElem?_eq_getElem hlt]at hq;have:=eq_of_beq hq;injection this
 rw[h.2.2.2,h2,h3,kT];cases bG (l.drop (k+n+1+1)) with
 | none=>rfl
 | some x=>
  simp only[Option.map_some]
  congr 2
  ·simp
  ·omega
end Go.Proofs.YtmgjidnalpgegaaGreatDoor
