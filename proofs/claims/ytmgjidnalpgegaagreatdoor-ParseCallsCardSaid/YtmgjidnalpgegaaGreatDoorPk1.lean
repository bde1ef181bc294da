/-
  Lemmas, part 1: Pl1 PlainQ.
-/
import Derived.WalkKit
import Derived.Lib.Strings
import Derived.Lib.Bytealg
import Derived.Lib.Hide
import Derived.Deep.MidRow
import Derived.Tactics
import Derived.Below
set_option maxHeartbeats 100000000
namespace Go.Proofs.YtmgjidnalpgegaaGreatDoor
open Go.RowKit
theorem zh {p : Prop} (h : p) : Hid p := h
theorem mm {α : Type} {l : List α} {x : α} (n : Nat) (h : l[n]? = some x) : x ∈ l := List.mem_of_getElem? h
theorem oi {α : Type} {x y : α} (h : some x = some y) : x = y := Option.some.inj h
theorem zq {z n : Nat} (h : z < n + 1) : z < n ∨ z = n := by omega
theorem cz {z : Nat} (h : z < 1) : z = 0 := by omega
theorem zr {n : Nat} : n ≤ n := Nat.le_refl n
theorem zp {w : World} (o : Obj) : Below w.heap.size w (w.alloc o) := (Below.refl _ _).alloc (Nat.le_refl _) o
theorem za.{u_1} : ∀ {α : Type u_1} {xs : List α} {i : Nat}, xs.toArray[i]? = xs[i]? := @List.getElem?_toArray
theorem zb.{u_1} : ∀ {α : Type u_1} {a : α} {l : List α}, (a :: l)[0]? = some a := @List.getElem?_cons_zero
theorem zf.{u_1} : ∀ {α : Type u_1} {a : α} {i : Nat} {l : List α}, (a :: l)[i + 1]? = l[i]? := @List.getElem?_cons_succ
theorem yd.{u_1} : ∀ {α : Type u_1} {as : List α}, as.toArray.size = as.length := @List.size_toArray
theorem yf.{u_1} : ∀ {α : Type u_1} {a b : α}, a ∈ [b] ↔ a = b := @List.mem_singleton
theorem yg : ∀ {m n : Nat}, m ∈ List.range n ↔ m < n := @List.mem_range
theorem yj.{u_1, u_2} : ∀ {α : Type u_1} {β : Type u_2} {b : β} {f : α → β} {l : List α}, b ∈ List.map f l ↔ ∃ (a : α), a ∈ l ∧ f a = b := @List.mem_map
theorem yh : ∀ (a b : Bool), ((a && b) = true) = (a = true ∧ b = true) := @Bool.and_eq_true
theorem yi.{u_1} : ∀ {α : Type u_1} {a : α} {as : List α}, (a :: as).length = as.length + 1 := @List.length_cons
theorem yk.{u_1} : ∀ {α : Type u_1} {i : Nat} {l : List α}, (List.drop i l).length = l.length - i := @List.length_drop
theorem yl.{u_1} : ∀ {α : Type u_1} {as bs : List α}, (as ++ bs).length = as.length + bs.length := @List.length_append
theorem ym.{u_1} : ∀ {α : Type u_1} {b : α} {l : List α} {a : α}, a ∈ b :: l ↔ a = b ∨ a ∈ l := @List.mem_cons
theorem yp.{u_1} : ∀ {α : Type u_1} {a : α} {as bs : List α}, a :: as ++ bs = a :: (as ++ bs) := @List.cons_append
theorem yq : ∀ {P : Program} {ops : Array Oper} {rest : List Oper} {op : Oper} {a : Act} {w : World} {Q : Exit → Act → World → Prop}, op.guard = none → ∀ (ty : TypeId) (x y : Operand), op.op = Op.store ty x y → ∀ (b o : Nat) (cells : Array Value), a.eval x = Value.pointer (some { block := b, off := o }) → a.eval y = Value.agg cells → w.there b o cells.size → Option.map (fun (x : TypeInfo) => x.size) (P.info? ty) = some cells.size → (cells.all fun (x : Value) => x.oneCell') = true → wpList P ops Q rest (a.put op.dst undef) (w.setCells b o cells.toList) → wpList P ops Q (op :: rest) a w := @wpList_store_mid
theorem yr : ∀ {P : Program} {ops : Array Oper} {rest : List Oper} {op : Oper} {a : Act} {w : World} {Q : Exit → Act → World → Prop}, op.guard = none → ∀ (ty : TypeId) (x : Operand), op.op = Op.load ty x → ∀ (b o : Nat), a.eval x = Value.pointer (some { block := b, off := o }) → ∀ (cs : List Value) (d : TypeDesc), w.rangeAt b o cs → P.underlying ty = some d → d.isRow = true → Option.map (fun (x : TypeInfo) => x.size) (P.info? ty) = some cs.length → wpList P ops Q rest (a.put op.dst (Value.agg cs.toArray)) w → wpList P ops Q (op :: rest) a w := @wpList_load_mid
theorem yt : ∀ {P : Program} {fn : Func} {R : Ending → World → Prop} {a : Act} {w : World} {v : Value}, Sem.run P (results fn a.tmps) w = Result.ok v w → a.defers = [] → R (Ending.returned v) w → bodyPost P fn R Exit.ret a w := @bodyPost_ret
theorem yu : ∀ {n m k : Nat}, n < m → m ≤ k → n < k := @Nat.lt_of_lt_of_le
theorem yv : ∀ {n m k : Nat}, n ≤ m → m ≤ k → n ≤ k := @Nat.le_trans
theorem yw.{u_1} : ∀ {α : Type u_1} {i : Nat} {l : List α} (h : i < l.length), List.take (i + 1) l = List.take i l ++ [l[i]] := @List.take_succ_eq_append_getElem
theorem yx.{u_1} : ∀ {α : Type u_1} {i : Nat} {l : List α} (h : i < l.length), List.drop i l = l[i] :: List.drop (i + 1) l := @List.drop_eq_getElem_cons
theorem yz.{u_1} : ∀ {α : Type u_1} (l : List α) (i : Nat) (a : α), l.toArray.setIfInBounds i a = (l.set i a).toArray := @List.setIfInBounds_toArray
theorem zc.{u_1} : ∀ {α : Type u_1} {i : Nat} {l : List α}, (List.take i l).length = min i l.length := @List.length_take
theorem ze : ∀ {a b : Bool}, a = b ↔ (a = true ↔ b = true) := @Bool.eq_iff_iff
theorem zg.{u_1} : ∀ {α : Type u_1} (y : α) {a : α} {l : List α}, a ∈ l → a ∈ y :: l := @List.mem_cons_of_mem
theorem zk.{u_1} : ∀ {α : Type u_1} {i : Nat} {b : α} {xs : Array α}, xs[i]? = some b ↔ ∃ (h : i < xs.size), xs[i] = b := @Array.getElem?_eq_some_iff
theorem zm : ∀ (n : Nat), 0 ≤ n := @Nat.zero_le
abbrev Bs:=List UInt8
def aB(c:UInt8):Bool:=decide (48<=c.toNat)&&decide (c.toNat<=57)
def aJ(c:UInt8):Bool:=(decide (97<=c.toNat)&&decide (c.toNat<=122))||(decide (65<=c.toNat)&&decide (c.toNat<=90))
def aM(p:UInt8->Bool):Bs->Nat
 | []=>0
 |c::l=>if p c then aM p l+1 else 0
theorem bT(p:UInt8->Bool)(l:Bs):aM p l<=l.length:=by
 induction l with
 |nil=>simp[aM]
 |cons c l ih=>simp only[aM,yi];split <;> omega
theorem sY(p:UInt8->Bool)(l:Bs)(k:Nat)(hk:k<aM p l)(h:k<l.length):p l[k]=true:=by
 induction l generalizing k with
 |nil=>simp at h
 |cons c l ih=>
  simp only[aM]at hk
  split at hk
  case isTrue hc=>
   cases k with
   |zero=>simpa using hc
   |succ k=>simpa using ih k (by omega) (by simpa using h)
  case isFalse=>omega
theorem lR(p:UInt8->Bool)(l:Bs)(h:aM p l<l.length):p l[aM p l]=false:=by
 induction l with
 |nil=>simp at h
 |cons c l ih=>
  by_cases hc:p c=true
  ·have e:aM p (c::l)=aM p l+1:=by simp[aM,hc]
   simp only[e,List.getElem_cons_succ];exact ih (by rw[e]at h;simpa using h)
  have e:aM p (c::l)=0:=by simp[aM,hc]
  simp only[e,List.getElem_cons_zero];simpa using hc
theorem gI(p:UInt8->Bool)(l:Bs)(k:Nat)(hk:k<=aM p l)(h:k<l.length)(hp:p l[k]=true):k+1<=aM p l:=by
 rcases Nat.lt_or_ge k (aM p l) with h1|h1
 ·exact h1
 have e:k=aM p l:=by omega
 subst e;rw[lR p l h]at hp;cases hp
theorem kW(p:UInt8->Bool)(l:Bs)(k:Nat)(hk:k<=aM p l)(h:k<l.length)(hp:p l[k]=false):aM p l=k:=by
 rcases Nat.lt_or_ge k (aM p l) with h1|h1
 ·rw[sY p l k h1 h]at hp;cases hp
 omega
theorem zU(l:Bs)(a:Nat)(h:a<(ByteArray.mk l.toArray).size):(ByteArray.mk l.toArray)[a]=l[a]'(by simpa [ByteArray.size] using h):=by
 exact List.getElem_toArray (xs:=l) (i:=a) (by simpa [ByteArray.size] using h)
theorem uIG(l:Bs)(a b:Nat):(ByteArray.mk l.toArray).extract a b=⟨((l.drop a).take (b-a)).toArray⟩:=by
 apply ByteArray.ext;simp[ByteArray.data_extract,List.extract_toArray,List.extract_eq_take_drop]
theorem wO(l:Bs)(a:Nat):List.take (l.length-a) (List.drop a l)=List.drop a l:=List.take_of_length_le (by simp)
attribute [go_sem] zU uIG wO
theorem lS{c d:UInt8}(h:c.toNat=d.toNat):c=d:=UInt8.toNat.inj h
def aZ(l:Bs)(k:Nat)(c:UInt8):Bool:=l[k]?==some c
theorem iE(l:Bs)(k:Nat)(c:UInt8)(n:Int)(hn:(c.toNat:Int)=n)(h:k<l.length):((l[k].toNat:Int)==n)=aZ l k c:=by
 subst hn;unfold aZ;rw[List.getElem?_eq_getElem h,ze,beq_iff_eq,beq_iff_eq];constructor
 ·intro e;rw[lS (c:=l[k]) (d:=c) (by omega)]
 intro e;injection e with e;rw[e]
theorem mV(l:Bs)(k:Nat)(c:UInt8)(n:Int)(hn:(c.toNat:Int)=n)(h:k<l.length):((l[k].toNat:Int) != n)=!aZ l k c:=by
 rw[<- iE l k c n hn h];rfl
theorem iF(l:Bs)(k:Nat)(c:UInt8)(h:l.length<=k):aZ l k c=false:=by
 unfold aZ;rw[List.getElem?_eq_none h];rfl
theorem at_lt(l:Bs)(k:Nat)(c:UInt8)(h:aZ l k c=true):k<l.length:=by
 rcases Nat.lt_or_ge k l.length with h1|h1
 ·exact h1
 rw[iF l k c h1]at h;cases h
theorem aI{a b:Bool}(h:a=b):Ending.returned (.bool a)=.returned (.bool b):=by rw[h]
theorem cW{k:IntKind}{a b:Int}(h:a=b):Ending.returned (.int k a)=.returned (.int k b):=by rw[h]
theorem S_append(a b:Bs):(ByteArray.mk a.toArray)++(ByteArray.mk b.toArray)=⟨(a++b).toArray⟩:=by
 apply ByteArray.ext;simp[ByteArray.data_append]
attribute [go_sem] S_append
def jE(c:UInt8):Bool:=decide (97<=c.toNat)&&decide (c.toNat<=122)
def up(c:UInt8):UInt8:=if jE c then c-32 else c
def aN(l:Bs):Bs:=l.map up
theorem iR(c:UInt8):jE c=true↔97<=c.toNat/\c.toNat<=122:=by simp[jE]
theorem up_low(c:UInt8)(h:jE c=true):(up c).toNat=c.toNat-32:=by
 have h1:=(iR c).1 h;unfold up;rw[if_pos h,UInt8.toNat_sub_of_le]
 ·rfl
 rw[UInt8.le_iff_toNat_le];show 32<=c.toNat;omega
theorem qN(c:UInt8)(h:jE c=false):up c=c:=by unfold up;rw[h];rfl
theorem fL(l:Bs):(aN l).length=l.length:=by simp[aN]
theorem uW(l:Bs)(h:∀ c∈l,jE c=false):aN l=l:=by
 induction l with
 |nil=>rfl
 |cons c l ih=>simp only[aN,List.map_cons];rw[qN c (h c (by simp))];congr 1;exact ih fun d hd=>h d (by simp[hd])
def mU(l:Bs)(k:Nat):Bs:=aN (l.take k)++l.drop k
theorem uAX(l:Bs)(k:Nat):(mU l k).length=l.length:=by simp[mU,aN];omega
theorem uAW(l:Bs)(k:Nat)(h:k<l.length)(h':k<(mU l k).length):(mU l k)[k]=l[k]:=by
 have e:(aN (l.take k)).length=k:=by rw[fL,zc];omega
 have h2:(mU l k)[k]?=l[k]?:=by
  unfold mU;rw[List.getElem?_append_right (by omega),e,Nat.sub_self,List.getElem?_drop,Nat.add_zero]
 rw[List.getElem?_eq_getElem h',List.getElem?_eq_getElem h]at h2;injection h2
theorem uAY(l:Bs)(k:Nat)(h:k<l.length):(mU l k).set k (up l[k])=mU l (k+1):=by
 have e:(aN (l.take k)).length=k:=by rw[fL,zc];omega
 unfold mU;rw[List.set_append_right (h:=by omega),e,Nat.sub_self,yx h,List.set_cons_zero,yw h];unfold aN;rw[List.map_append,List.append_assoc];rfl
theorem uJH(l:Bs)(k:Nat)(h:k<l.length)(hu:up l[k]=l[k]):mU l k=mU l (k+1):=by
 have h':k<(mU l k).length:=by rw[uAX];exact h
 rw[<- uAY l k h,hu,<- uAW l k h h'];exact(List.set_getElem_self h').symm
theorem half_all(l:Bs):mU l l.length=aN l:=by simp[mU]
def Row(w:World)(b:Nat)(m:Bs):Prop:=∀ j (h:j<m.length),w.cell? ⟨b,j,none⟩=some (.int .u8 (m[j].toNat:Int))/\w.frozen? ⟨b,j,none⟩=false
theorem Row.set{w:World}{b:Nat}{m:Bs}(h:Row w b m)(k:Nat)(c:UInt8):Row (w.setCell ⟨b,k,none⟩ (.int .u8 (c.toNat:Int))) b (m.set k c):=by
 intro j hj;rw[List.length_set]at hj;obtain⟨h1,h2⟩:=h j hj;by_cases e:k=j
 ·subst e;refine⟨?_,by simpa using h2⟩;rw[World.cell?_setCell_same' _ _ _ (by rw[h1];rfl)];simp
 refine⟨?_,by simpa using h2⟩;rw[World.cell?_setCell_other _ _ _ _ (by intro e2;cases e2;exact e rfl),h1];rw[List.getElem_set_ne e]
def jO:Nat->Nat->Nat
 |0,_=>1
 |f+1,n=>if n<10 then 1 else jO f (n / 10)+1
def kL(n:Nat):Nat:=jO 20 n
theorem uJS:∀ (f g n:Nat),n<10 ^ (f+1)->n<10 ^ (g+1)->jO f n=jO g n:=by
 intro f
 induction f with
 |zero=>
  intro g n hf hg;have:n<10:=by simpa using hf
  cases g with
  |zero=>rfl
  |succ g=>simp[jO,this]
 |succ f ih=>
  intro g n hf hg;cases g with
  |zero=>
   have:n<10:=by simpa using hg
   simp[jO,this]
  |succ g=>
   simp only[jO]
   split
   ·rfl
   rw[ih g (n / 10)]
   ·rw[Nat.div_lt_iff_lt_mul (by decide)];rw[Nat.pow_succ]at hf;exact hf
   rw[Nat.div_lt_iff_lt_mul (by decide)];rw[Nat.pow_succ]at hg;exact hg
theorem uEH(n:Nat)(h:n<10):kL n=1:=by unfold kL jO;rw[if_pos h]
theorem digs_big(n:Nat)(h:¬ n<10)(hn:n<18446744073709551616):kL n=kL (n / 10)+1:=by
 unfold kL;rw[jO,if_neg h,uJS 19 20 (n / 10)]
 ·have:n / 10<1844674407370955162:=by omega
  exact yu this (by decide)
 have:n / 10<1844674407370955162:=by omega
 exact yu this (by decide)
theorem pL(n:Nat):1<=kL n/\kL n<=21:=by
 have:∀ f n,1<=jO f n/\jO f n<=f+1:=by
  intro f
  induction f with
  |zero=>intro n;simp[jO]
  |succ f ih=>
   intro n;simp only[jO]
   split
   ·omega
   have:=ih (n / 10);omega
 exact this 20 n
theorem nDig_lt:∀ (f n:Nat),n<10 ^ (f+1)->n<10 ^ jO f n:=by
 intro f
 induction f with
 |zero=>intro n h;simpa [jO] using h
 |succ f ih=>
  intro n h;simp only[jO]
  split
  ·omega
  have h1:n / 10<10 ^ (f+1):=by rw[Nat.div_lt_iff_lt_mul (by decide)];rw[Nat.pow_succ]at h;exact h
  have:=ih (n / 10) h1;rw[Nat.pow_succ];omega
theorem nDig_ge:∀ (f n:Nat),0<n->10 ^ (jO f n-1)<=n:=by
 intro f
 induction f with
 |zero=>intro n h;simp[jO];omega
 |succ f ih=>
  intro n h;simp only[jO]
  split
  ·simp;omega
  have h1:=ih (n / 10) (by omega);have h2:1<=jO f (n / 10):=by
   cases f with
   |zero=>simp[jO]
   |succ f=>simp only[jO];split <;> omega
  rw[show jO f (n / 10)+1-1=(jO f (n / 10)-1)+1 by omega,Nat.pow_succ];omega
theorem digs_lt(n:Nat)(h:n<1000000000000000):n<10 ^ kL n:=nDig_lt 20 n (yu h (by decide))
theorem digs_ge(n:Nat)(h:0<n):10 ^ (kL n-1)<=n:=nDig_ge 20 n h
def p10(n:Nat):Nat:=10 ^ n
def cO(m e:Int):Bool :=
 if m=0 then decide (e=0)
 else decide (m.natAbs<1000000000000000)&&decide (m.natAbs % 10≠0)&&decide (-40<=e)&&decide (e<40)&&decide ((kL m.natAbs:Int)+e<=40)
theorem xO{m e:Int}(h:cO m e=true)(h0:m≠0):m.natAbs<1000000000000000/\m.natAbs % 10≠0/\-40<=e/\e<40/\(kL m.natAbs:Int)+e<=40:=by
 unfold cO at h;rw[if_neg h0]at h;simp only[yh,decide_eq_true_eq]at h;exact⟨h.1.1.1.1,h.1.1.1.2,h.1.1.2,h.1.2,h.2⟩
def aY(ds:List Nat):Nat:=ds.foldl (fun a d=>10*a+d) 0
def Dig(ds:List Nat):Prop:=∀ d∈ds,d<=9
theorem uP(ds:List Nat)(a:Nat):ds.foldl (fun a d=>10*a+d) a=a*10 ^ ds.length+aY ds:=by
 induction ds generalizing a with
 |nil=>simp[aY]
 |cons d ds ih=>
  simp only[List.foldl_cons,yi];rw[ih (10*a+d)];have h:aY (d::ds)=(10*0+d)*10 ^ ds.length+aY ds:=by
   show List.foldl _ _ ds=_;rw[ih]
  rw[h,Nat.pow_succ,Nat.add_mul];have e1:a*(10 ^ ds.length*10)=10*a*10 ^ ds.length:=by rw[Nat.mul_comm (10 ^ ds.length) 10,<- Nat.mul_assoc,Nat.mul_comm a 10]
  rw[e1];simp only[Nat.mul_zero,Nat.zero_add];omega
theorem uJT:aY []=0:=rfl
theorem eN(d:Nat)(ds:List Nat):aY (d::ds)=d*10 ^ ds.length+aY ds:=by
 show List.foldl _ _ ds=_;rw[uP];simp
theorem gG(a b:List Nat):aY (a++b)=aY a*10 ^ b.length+aY b:=by
 unfold aY;rw[List.foldl_append,uP];rfl
theorem mJ(a:List Nat)(d:Nat):aY (a++[d])=10*aY a+d:=by
 rw[gG,eN];simp[uJT];omega
theorem Dig.tail{d:Nat}{ds:List Nat}(h:Dig (d::ds)):Dig ds:=fun x hx=>h x (zg _ hx)
theorem Dig.head{d:Nat}{ds:List Nat}(h:Dig (d::ds)):d<=9:=h d (List.mem_cons_self ..)
theorem Dig.take{ds:List Nat}(h:Dig ds)(n:Nat):Dig (ds.take n):=fun x hx=>h x (List.mem_of_mem_take hx)
theorem Dig.drop{ds:List Nat}(h:Dig ds)(n:Nat):Dig (ds.drop n):=fun x hx=>h x (List.mem_of_mem_drop hx)
theorem Dig.append{a b:List Nat}(ha:Dig a)(hb:Dig b):Dig (a++b):=fun x hx=>by
 rcases List.mem_append.1 hx with h|h
 ·exact ha x h
 exact hb x h
theorem nK(ds:List Nat)(h:Dig ds):aY ds<10 ^ ds.length:=by
 induction ds with
 |nil=>simp[aY]
 |cons d ds ih=>
  rw[eN,yi,Nat.pow_succ];have h1:=ih h.tail;have h2:=h.head;have h3:d*10 ^ ds.length<=9*10 ^ ds.length:=Nat.mul_le_mul_right _ h2;omega
theorem pZ(d:Nat)(ds:List Nat)(h:d≠0):10 ^ ds.length<=aY (d::ds):=by
 rw[eN];have:1*10 ^ ds.length<=d*10 ^ ds.length:=Nat.mul_le_mul_right _ (by omega);omega
theorem sB(n:Nat):aY (List.replicate n 0)=0:=by
 induction n with
 |zero=>rfl
 |succ n ih=>rw[List.replicate_succ,eN,ih];simp
theorem sA(n:Nat):aY (List.replicate n 9)+1=10 ^ n:=by
 induction n with
 |zero=>rfl
 |succ n ih=>rw[List.replicate_succ,eN,Nat.pow_succ,List.length_replicate];omega
def dS:List Nat->List Nat
 | []=>[]
 |0::l=>dS l
 |d::l=>d::l
theorem qX(ds:List Nat):aY (dS ds)=aY ds:=by
 induction ds with
 |nil=>rfl
 |cons d ds ih=>
  cases d with
  |zero=>rw[dS,ih,eN];simp
  |succ d=>rfl
theorem tK(ds:List Nat)(d:Nat)(l:List Nat)(h:dS ds=d::l):d≠0:=by
 induction ds with
 |nil=>simp[dS]at h
 |cons x ds ih=>
  cases x with
  |zero=>rw[dS]at h;exact ih h
  |succ x=>simp[dS]at h;omega
theorem tJ(ds:List Nat):∃ k,k<=ds.length/\dS ds=ds.drop k/\ds.take k=List.replicate k 0:=by
 induction ds with
 |nil=>exact⟨0,by simp[dS]⟩
 |cons x ds ih=>
  cases x with
  |zero=>
   obtain⟨k,hk,h1,h2⟩:=ih;exact⟨k+1,by simp;omega,by simpa [dS] using h1,by simp[List.replicate_succ,h2]⟩
  |succ x=>exact⟨0,by simp[dS]⟩
theorem uIO{ds:List Nat}(h:Dig ds):Dig (dS ds):=by
 obtain⟨k,_,h1,_⟩:=tJ ds;rw[h1];exact h.drop k
theorem uIP(ds:List Nat):(dS ds).length<=ds.length:=by
 obtain⟨k,_,h1,_⟩:=tJ ds;rw[h1,yk];omega
theorem uIQ(ds:List Nat):dS ds=[]↔aY ds=0:=by
 constructor
 ·intro h;rw[<- qX,h];rfl
 intro h;cases hb:dS ds with
 |nil=>rfl
 |cons d l=>
  have h1:=tK _ _ _ hb;have h2:=pZ d l h1;have h3:=qX ds;rw[hb]at h3;have:0<10 ^ l.length:=Nat.pow_pos (by decide);omega
def nB:Nat->Nat->Nat
 |0,_=>0
 |f+1,n=>if n=0 then 0 else nB f (n / 10)+1
def eQ(n:Nat):Nat:=nB n n
theorem tT:∀ f n,n<=f->n<10 ^ nB f n/\(0<n->0<nB f n/\10 ^ (nB f n-1)<=n):=by
 intro f
 induction f with
 |zero=>intro n h;simp[nB];omega
 |succ f ih=>
  intro n h;simp only[nB]
  split
  ·rename_i h0;subst h0;simp
  rename_i h0
  obtain⟨h1,h2⟩:=ih (n / 10) (by omega);refine⟨by rw[Nat.pow_succ];omega,fun _=>⟨by omega,?_⟩⟩;rcases Nat.eq_zero_or_pos (n / 10) with hz|hz
  ·rw[hz];cases f with
   |zero=>simp[nB];omega
   |succ f=>simp[nB];omega
  obtain⟨h3,h4⟩:=h2 hz;rw[show nB f (n / 10)+1-1=(nB f (n / 10)-1)+1 by omega,Nat.pow_succ];omega
theorem kF{a b:Nat}(h:10 ^ a<10 ^ b):a<b:=by
 rcases Nat.lt_or_ge a b with h1|h1
 ·exact h1
 have:=Nat.pow_le_pow_right (n:=10) (by decide) h1;omega
theorem uFB{n a b:Nat}(ha:0<a)(hb:0<b)(h1:10 ^ (a-1)<=n)(h2:n<10 ^ a)(h3:10 ^ (b-1)<=n)(h4:n<10 ^ b):a=b:=by
 have h5:a-1<b:=kF (Nat.lt_of_le_of_lt h1 h4);have h6:b-1<a:=kF (Nat.lt_of_le_of_lt h3 h2);omega
theorem qZ:eQ 0=0:=rfl
theorem pN(n:Nat):n<10 ^ eQ n:=(tT n n zr).1
theorem nC(n:Nat)(h:0<n):0<eQ n:=((tT n n zr).2 h).1
theorem pM(n:Nat)(h:0<n):10 ^ (eQ n-1)<=n:=((tT n n zr).2 h).2
theorem yM{n a:Nat}(ha:0<a)(h1:10 ^ (a-1)<=n)(h2:n<10 ^ a):eQ n=a:=by
 have hp:0<n:=yu (Nat.pow_pos (by decide)) h1;exact uFB (nC n hp) ha (pM n hp) (pN n) h1 h2
theorem wX(n:Nat)(h0:0<n)(h:n<1000000000000000):kL n=eQ n :=
 (yM (by have:=pL n;omega) (digs_ge n h0) (digs_lt n h)).symm
theorem uEJ(d:Nat)(ds:List Nat)(h:Dig (d::ds))(h0:d≠0):eQ (aY (d::ds))=ds.length+1 :=
 yM (by omega) (by simpa using pZ d ds h0) (nK _ h)
def rhe(n k:Nat):Nat:=if 10 ^ k<2*(n % 10 ^ k)\/(2*(n % 10 ^ k)=10 ^ k/\n / 10 ^ k % 2=1) then n / 10 ^ k+1 else n / 10 ^ k
theorem uIB(n k:Nat)(h:eQ n<k):rhe n k=0:=by
 have h1:=pN n;have h2:10 ^ (eQ n+1)<=10 ^ k:=Nat.pow_le_pow_right (by decide) h;rw[Nat.pow_succ]at h2;unfold rhe;rw[Nat.mod_eq_of_lt (by omega),Nat.div_eq_of_lt (by omega),if_neg (by omega)]
theorem rhe_le(n k:Nat)(m:Nat)(h:n<10 ^ (m+k)):rhe n k<=10 ^ m:=by
 have h1:n / 10 ^ k<10 ^ m:=by rw[Nat.div_lt_iff_lt_mul (Nat.pow_pos (by decide)),<- Nat.pow_add];exact h
 unfold rhe
 split <;> omega
theorem rhe_ge(n k m:Nat)(h:10 ^ (m+k)<=n):10 ^ m<=rhe n k:=by
 have h1:10 ^ m<=n / 10 ^ k:=by rw[Nat.le_div_iff_mul_le (Nat.pow_pos (by decide)),<- Nat.pow_add];exact h
 unfold rhe
 split <;> omega
def vY:Nat->Nat->Int->Nat×Int
 |0,n,e=>(n,e)
 |f+1,n,e=>if n % 10=0 then vY f (n / 10) (e+1) else (n,e)
def cF(n:Nat)(e:Int):Nat×Int:=if n=0 then (0,0) else vY n n e
theorem uGX:∀ f g n e,0<n->n<=f->n<=g->vY f n e=vY g n e:=by
 intro f
 induction f with
 |zero=>intro g n e h0 h1 h2;omega
 |succ f ih=>
  intro g n e h0 h1 h2;cases g with
  |zero=>omega
  |succ g=>
   simp only[vY]
   split
   ·exact ih g (n / 10) (e+1) (by omega) (by omega) (by omega)
   rfl
theorem vD(n:Nat)(e:Int)(h0:0<n)(h:n % 10=0):cF n e=cF (n / 10) (e+1):=by
 unfold cF;rw[if_neg (by omega),if_neg (by omega)];obtain⟨f,rfl⟩:∃ f,n=f+1:=⟨n-1,by omega⟩
 rw[vY,if_pos h];exact uGX _ _ _ _ (by omega) (by omega) zr
theorem vE(n:Nat)(e:Int)(h:n % 10≠0):cF n e=(n,e):=by
 unfold cF;have:n≠0:=by intro h0;subst h0;simp at h
 rw[if_neg this];obtain⟨f,rfl⟩:∃ f,n=f+1:=⟨n-1,by omega⟩
 rw[vY,if_neg h]
theorem mL(e:Int):cF 0 e=(0,0):=rfl
theorem vC(n:Nat)(e:Int)(h0:0<n):∃ k:Nat,n=(cF n e).1*10 ^ k/\(cF n e).2=e+k/\(cF n e).1 % 10≠0/\eQ n=eQ (cF n e).1+k:=by
 have:∀ f n e,0<n->n<=f->∃ k:Nat,n=(cF n e).1*10 ^ k/\(cF n e).2=e+k/\(cF n e).1 % 10≠0/\eQ n=eQ (cF n e).1+k:=by
  intro f
  induction f with
  |zero=>intro n e h0 h1;omega
  |succ f ih=>
   intro n e h0 h1;by_cases hm:n % 10=0
   ·rw[vD n e h0 hm];obtain⟨k,h2,h3,h4,h5⟩:=ih (n / 10) (e+1) (by omega) (by omega);refine⟨k+1,?_,by rw[h3];push_cast;omega,h4,?_⟩
    ·rw[Nat.pow_succ,<- Nat.mul_assoc,<- h2];omega
    have hd:eQ n=eQ (n / 10)+1:=by
     have hp:0<n / 10:=by omega
     have a1:=nC _ hp;have a2:=pM _ hp;have a3:=pN (n / 10);refine yM (by omega) ?_ (by rw[Nat.pow_succ];omega);rw[show eQ (n / 10)+1-1=(eQ (n / 10)-1)+1 by omega,Nat.pow_succ];omega
    omega
   rw[vE n e hm];exact⟨0,by simp,by simp,hm,by simp⟩
 exact this n n e h0 zr
def dU(n:Nat)(e:Int):Nat×Int:=if 15<eQ n then (rhe n (eQ n-15),e+((eQ n-15:Nat):Int)) else (n,e)
def gM(n:Nat)(e:Int):Nat×Int:=if e< -40 then (rhe n (-40-e).toNat,-40) else (n,e)
def sX(neg:Bool)(n:Nat)(e:Int):Option (Int×Int) :=
 if n=0 then some (0,0) else if 40<(eQ n:Int)+e then none else some (if neg then -(n:Int) else n,e)
def fZ(neg:Bool)(n:Nat)(e:Int):Option (Int×Int) :=
 sX neg (cF (gM (dU n e).1 (dU n e).2).1 (gM (dU n e).1 (dU n e).2).2).1 (cF (gM (dU n e).1 (dU n e).2).1 (gM (dU n e).1 (dU n e).2).2).2
def upB(H:List Nat)(x:Nat)(R:List Nat):Bool:=decide (5<x)||(decide (x=5)&&(decide (0<(dS R).length)||decide (aY H % 2=1)))
theorem uGF(H:List Nat)(x:Nat)(R:List Nat)(h:Dig (x::R)):rhe (aY (H++x::R)) (R.length+1)=aY H+(if upB H x R then 1 else 0):=by
 have hlt:=nK (x::R) h;have hR:=nK R h.tail;have hb:=uIQ R;have hc:=eN x R;rw[yi]at hlt;have hp:0<10 ^ R.length:=Nat.pow_pos (by decide);have hx:=h.head;have hpow:10 ^ (R.length+1)=10 ^ R.length*10:=Nat.pow_succ ..;have e1:aY (H++x::R) / 10 ^ (R.length+1)=aY H:=by
  rw[gG,yi,Nat.add_comm,Nat.add_mul_div_right _ _ (Nat.pow_pos (by decide)),Nat.div_eq_of_lt hlt,Nat.zero_add]
 have e2:aY (H++x::R) % 10 ^ (R.length+1)=aY (x::R):=by
  rw[gG,yi,Nat.add_comm,Nat.add_mul_mod_self_right,Nat.mod_eq_of_lt hlt]
 unfold rhe;rw[e1,e2,hc,hpow];have hz:(0<(dS R).length)↔0<aY R:=by
  constructor
  ·intro g;rcases Nat.eq_zero_or_pos (aY R) with z|z
   ·rw[hb.2 z]at g;simp at g
   exact z
  intro g;rcases Nat.eq_zero_or_pos (dS R).length with z|z
  ·rw[hb.1 (List.eq_nil_of_length_eq_zero z)]at g;omega
  exact z
 generalize 10 ^ R.length=p at *;generalize aY R=r at *;have hU:upB H x R=true↔(5<x\/(x=5/\(0<r\/aY H % 2=1))):=by
  unfold upB;simp only[Bool.or_eq_true,yh,decide_eq_true_eq];rw[hz]
 have key:(p*10<2*(x*p+r)\/(2*(x*p+r)=p*10/\aY H % 2=1))↔(5<x\/(x=5/\(0<r\/aY H % 2=1))):=by
  rcases(by omega:x<=4\/x=5\/6<=x) with g|g|g
  ·have:x*p<=4*p:=Nat.mul_le_mul_right _ g;omega
  ·subst g;omega
  have:6*p<=x*p:=Nat.mul_le_mul_right _ g;omega
 by_cases g:upB H x R=true
 ·rw[if_pos (key.2 (hU.1 g)),if_pos g]
 rw[if_neg (fun q=>g (hU.2 (key.1 q))),if_neg g];omega
def inc(H:List Nat)(k:Nat):List Nat:=H.take k++List.replicate (H.length-k) 0
theorem inc_len(H:List Nat)(k:Nat)(h:k<=H.length):(inc H k).length=H.length:=by unfold inc;simp;omega
theorem inc_all(H:List Nat):inc H H.length=H:=by unfold inc;simp
theorem xC(H:List Nat)(m:Nat)(h:m<H.length):inc H (m+1)=H.take m++H[m]::List.replicate (H.length-(m+1)) 0:=by
 unfold inc;rw[yw h,List.append_assoc];rfl
theorem inc_get(H:List Nat)(m:Nat)(h:m<H.length)(h':m<(inc H (m+1)).length):(inc H (m+1))[m]=H[m]:=by
 have h2:(inc H (m+1))[m]?=some H[m]:=by
  rw[xC H m h,List.getElem?_append_right (by simp;omega),zc,Nat.min_eq_left (by omega),Nat.sub_self];rfl
 rw[List.getElem?_eq_getElem h']at h2;injection h2
theorem uHM(H:List Nat)(m c:Nat)(h:m<H.length):(inc H (m+1)).set m c=H.take m++c::List.replicate (H.length-(m+1)) 0:=by
 rw[xC H m h,List.set_append_right (h:=by simp;omega),zc,Nat.min_eq_left (by omega),Nat.sub_self,List.set_cons_zero]
theorem inc_down(H:List Nat)(m:Nat)(h:m<H.length):(inc H (m+1)).set m 0=inc H m:=by
 rw[uHM H m 0 h];unfold inc;rw[show H.length-m=(H.length-(m+1))+1 by omega,List.replicate_succ]
def Nines(H:List Nat)(k:Nat):Prop:=H.drop k=List.replicate (H.length-k) 9
theorem Nines.all(H:List Nat):Nines H H.length:=by unfold Nines;simp
theorem Nines.down{H:List Nat}{m:Nat}(h:Nines H (m+1))(hm:m<H.length)(h9:H[m]=9):Nines H m:=by
 unfold Nines at h ⊢;rw[yx hm,h,h9,show H.length-m=(H.length-(m+1))+1 by omega,List.replicate_succ]
theorem inc_up(H:List Nat)(m:Nat)(hm:m<H.length)(h:Nines H (m+1)):aY (H.take m++(H[m]+1)::List.replicate (H.length-(m+1)) 0)=aY H+1:=by
 have hH:H=H.take m++H[m]::List.replicate (H.length-(m+1)) 9:=by
  have:H=H.take m++H.drop m:=(List.take_append_drop m H).symm
  conv=>lhs;rw[this]
  rw[yx hm,h]
 have h9:=sA (H.length-(m+1));have h0:=sB (H.length-(m+1));have e2:aY H=aY (H.take m++H[m]::List.replicate (H.length-(m+1)) 9):=congrArg aY hH;rw[e2];generalize H.length-(m+1)=q at *;rw[gG,gG,eN,eN];simp only[yi,List.length_replicate,Nat.add_mul];omega
theorem inc_over(H:List Nat)(h:Nines H 0):aY (1::List.replicate H.length 0)=aY H+1:=by
 unfold Nines at h;simp only[List.drop_zero,Nat.sub_zero]at h;have h9:=sA H.length;have e2:aY H=aY (List.replicate H.length 9):=congrArg aY h;rw[e2,eN,sB,List.length_replicate];omega
theorem Dig.zeros(n:Nat):Dig (List.replicate n 0):=fun d hd=>by rw[List.mem_replicate]at hd;omega
theorem Dig.cons{d:Nat}{l:List Nat}(h1:d<=9)(h2:Dig l):Dig (d::l):=fun x hx=>by
 rcases ym.1 hx with h|h
 ·omega
 exact h2 x h
def Lead(ds:List Nat):Prop:=∀ d t,ds=d::t->d≠0
theorem uJL(ds:List Nat):Lead (dS ds):=fun d t h=>tK ds d t h
theorem Lead.take{ds:List Nat}(h:Lead ds)(n:Nat):Lead (ds.take n):=by
 intro d t e;cases ds with
 |nil=>simp at e
 |cons x ds=>
  cases n with
  |zero=>simp at e
  |succ n=>simp at e;rw[<- e.1];exact h x ds rfl
theorem Lead.up{H:List Nat}(h:Lead H)(m:Nat)(hm:m<H.length)(l:List Nat):Lead (H.take m++(H[m]+1)::l):=by
 intro d t e;cases m with
 |zero=>simp at e;omega
 |succ m=>
  cases H with
  |nil=>simp at hm
  |cons x H=>simp at e;rw[<- e.1];exact h x H rfl
theorem uH{ds:List Nat}(h:Lead ds)(hd:Dig ds):eQ (aY ds)=ds.length:=by
 cases ds with
 |nil=>rfl
 |cons d t=>exact uEJ d t hd (h d t rfl)
theorem last_odd(H:List Nat)(n:Nat)(hn:n+1=H.length):aY H % 2=H[n] % 2:=by
 have:H=H.take n++[H[n]]:=by
  rw[<- yw (by omega),List.take_of_length_le (by omega)]
 have e:aY H=10*aY (H.take n)+H[n]:=by
  have:=congrArg aY this;rw[mJ]at this;exact this
 omega
def dlF:Nat->Nat->List Nat
 |0,_=>[]
 |f+1,n=>if n=0 then [] else dlF f (n / 10)++[n % 10]
def dl(n:Nat):List Nat:=dlF n n
theorem dlF_fuel:∀ f g n,n<=f->n<=g->dlF f n=dlF g n:=by
 intro f
 induction f with
 |zero=>
  intro g n h1 h2;obtain rfl:n=0:=by omega
  cases g <;> simp[dlF]
 |succ f ih=>
  intro g n h1 h2;cases g with
  |zero=>
   obtain rfl:n=0:=by omega
   simp[dlF]
  |succ g=>
   simp only[dlF]
   split
   ·rfl
   rw[ih g (n / 10) (by omega) (by omega)]
theorem uHF:dl 0=[]:=rfl
theorem lZ(n:Nat)(h:0<n):dl n=dl (n / 10)++[n % 10]:=by
 unfold dl;obtain⟨f,rfl⟩:∃ f,n=f+1:=⟨n-1,by omega⟩
 rw[dlF,if_neg (by omega),dlF_fuel f ((f+1) / 10) _ (by omega) zr]
theorem uEI(P:Nat->Prop)(h0:P 0)(hs:∀ n,0<n->P (n / 10)->P n):∀ n,P n:=by
 intro n
 induction n using Nat.strongRecOn with
 |_ n ih=>
  rcases Nat.eq_zero_or_pos n with h|h
  ·rw[h];exact h0
  exact hs n h (ih (n / 10) (by omega))
theorem dl_nat(n:Nat):aY (dl n)=n:=by
 refine uEI (fun n=>aY (dl n)=n) rfl (fun n h ih=>?_) n;rw[lZ n h,mJ,ih];omega
theorem dl_dig(n:Nat):Dig (dl n):=by
 refine uEI (fun n=>Dig (dl n)) (fun _ h=>by cases h) (fun n h ih=>?_) n;rw[lZ n h];exact ih.append (fun d hd=>by simp at hd;omega)
theorem dl_ne(n:Nat)(h:0<n):dl n≠[]:=by rw[lZ n h];simp
theorem dl_lead(n:Nat):Lead (dl n):=by
 refine uEI (fun n=>Lead (dl n)) (fun d t h=>by cases h) (fun n h ih=>?_) n;intro d t e;rw[lZ n h]at e;rcases Nat.eq_zero_or_pos (n / 10) with z|z
 ·rw[z,uHF]at e;simp at e;omega
 cases hd:dl (n / 10) with
 |nil=>exact absurd hd (dl_ne _ z)
 |cons x l=>
  rw[hd]at e ih;simp at e;rw[<- e.1];exact ih x l rfl
theorem dl_len(n:Nat):(dl n).length=eQ n:=by
 rw[<- uH (dl_lead n) (dl_dig n),dl_nat]
theorem wW(n:Nat)(h:n<18446744073709551616):(dl n).length<=20:=by
 rw[dl_len];rcases Nat.eq_zero_or_pos n with z|z
 ·rw[z,qZ];omega
 have h1:=pM n z;have h2:10 ^ (eQ n-1)<10 ^ 20:=Nat.lt_of_le_of_lt h1 (yu h (by decide));have:=kF h2;omega
def eG(l:Bs):List Nat:=l.map fun c=>c.toNat-48
theorem uAK(a b:Bs):eG (a++b)=eG a++eG b:=by simp[eG]
theorem jV(a:Bs):(eG a).length=a.length:=by simp[eG]
theorem dJ(c:UInt8):aB c=true↔48<=c.toNat/\c.toNat<=57:=by simp[aB]
theorem tR(l:Bs)(n:Nat)(h:n<=aM aB l):Dig (eG (l.take n)):=by
 intro d hd;unfold eG at hd;rw[yj]at hd;obtain⟨c,hc,rfl⟩:=hd;obtain⟨k,hk,rfl⟩:=List.getElem_of_mem hc;rw[zc]at hk;rw[List.getElem_take];have:=(dJ _).1 (sY aB l k (by omega) (by omega));omega
structure Rd where
 st:Nat
 neg:Bool
 negPow:Bool
 ds:List Nat
 behind:Nat
 pow:Nat
def rd0:Rd:=⟨0,false,false,[],0,0⟩
def eT(p d:Nat):Nat:=if p<100000 then p*10+d else p
def Rd.digit(r:Rd)(d:Nat):Rd :=
 if r.st<=2 then { r with st:=2,ds:=r.ds++[d] }
 else if r.st<=4 then { r with st:=4,ds:=r.ds++[d],behind:=r.behind+1 }
 else { r with st:=7,pow:=eT r.pow d }
def Rd.take(r:Rd)(c:Nat):Option Rd :=
 if 48<=c/\c<=57 then some (r.digit (c-48))
 else if c=45/\r.st=0 then some { r with neg:=true,st:=1 }
 else if c=46/\r.st<=2 then some { r with st:=3 }
 else if (c=101\/c=69)/\(r.st=2\/r.st=4) then some { r with st:=5 }
 else if (c=45\/c=43)/\r.st=5 then some { r with negPow:=decide (c=45),st:=6 }
 else none
def Rd.all:Rd->Bs->Option Rd
 |r,[]=>some r
 |r,c::l=>match r.take c.toNat with|some r'=>r'.all l|none=>none
def Rd.fin(r:Rd):Option (Bool×List Nat×Nat×Bool×Nat):=if r.st=2\/r.st=4\/r.st=7 then some (r.neg,r.ds,r.behind,r.negPow,r.pow) else none
def Rd.digits(r:Rd)(l:List Nat):Rd:=l.foldl Rd.digit r
theorem yG(r:Rd)(l:Bs):r.all l=(r.digits (eG (l.take (aM aB l)))).all (l.drop (aM aB l)):=by
 induction l generalizing r with
 |nil=>rfl
 |cons c l ih=>
  by_cases h:aB c=true
  ·have e:aM aB (c::l)=aM aB l+1:=by simp[aM,h]
   rw[e];simp only[List.take_succ_cons,List.drop_succ_cons];have hc:=(dJ c).1 h;show (match r.take c.toNat with|some r'=>r'.all l|none=>none)=_;have ht:r.take c.toNat=some (r.digit (c.toNat-48)):=if_pos hc;rw[ht];exact ih _
  have e:aM aB (c::l)=0:=by simp[aM,h]
  rw[e];rfl
theorem yL(L:List Nat)(r:Rd)(h:r.st<=2)(hL:L≠[]):r.digits L={ r with st:=2,ds:=r.ds++L }:=by
 induction L generalizing r with
 |nil=>exact absurd rfl hL
 |cons d L ih=>
  have e:r.digit d={ r with st:=2,ds:=r.ds++[d] }:=if_pos h;show (r.digit d).digits L=_;rw[e];by_cases hl:L=[]
  ·rw[hl];rfl
  rw[ih _ zr hl];simp
theorem uAL(L:List Nat)(r:Rd)(h:r.st=3\/r.st=4)(hL:L≠[]):r.digits L={ r with st:=4,ds:=r.ds++L,behind:=r.behind+L.length }:=by
 induction L generalizing r with
 |nil=>exact absurd rfl hL
 |cons d L ih=>
  have e:r.digit d={ r with st:=4,ds:=r.ds++[d],behind:=r.behind+1 }:=by
   unfold Rd.digit;rw[if_neg (by omega),if_pos (by omega)]
  show (r.digit d).digits L=_;rw[e];by_cases hl:L=[]
  ·rw[hl];rfl
  rw[ih _ (.inr rfl) hl];simp;omega
theorem uEG(L:List Nat)(r:Rd)(h:5<=r.st)(hL:L≠[]):r.digits L={ r with st:=7,pow:=L.foldl eT r.pow }:=by
 induction L generalizing r with
 |nil=>exact absurd rfl hL
 |cons d L ih=>
  have e:r.digit d={ r with st:=7,pow:=eT r.pow d }:=by
   unfold Rd.digit;rw[if_neg (by omega),if_neg (by omega)]
  show (r.digit d).digits L=_;rw[e];by_cases hl:L=[]
  ·rw[hl];rfl
  rw[ih _ (by show 5<=7;omega) hl];rfl
def lL(l:Bs):Option (Bool×List Nat) :=
 match l with
 | []=>some (false,[])
 |c::l=>if c=101\/c=69 then
   (let i:=if aZ l 0 43||aZ l 0 45 then 1 else 0
    if aM aB (l.drop i)=0\/i+aM aB (l.drop i)≠l.length then none else some (aZ l 0 45,eG (l.drop i)))
  else none
def oK(l:Bs):Option (Bool×List Nat×Nat×Bool×List Nat) :=
 let i:=if aZ l 0 45 then 1 else 0
 let a:=aM aB (l.drop i)
 if aZ l (i+a) 46 then
  let b:=aM aB (l.drop (i+a+1))
  if b=0 then none else (lL (l.drop (i+a+1+b))).map fun p=>(aZ l 0 45,eG ((l.drop i).take a)++eG ((l.drop (i+a+1)).take b),b,p.1,p.2)
 else if a=0 then none else (lL (l.drop (i+a))).map fun p=>(aZ l 0 45,eG ((l.drop i).take a),0,p.1,p.2)
def uFY(L:List Nat):Nat:=L.foldl eT 0
theorem zK(r:Rd)(l:Bs)(h:r.st=5\/r.st=6)(h0:r.pow=0)(hs:r.st=5->∀ c t,l=c::t->c≠43/\c≠45) :
  (r.all l).bind Rd.fin=if aM aB l=0\/aM aB l≠l.length then none else some (r.neg,r.ds,r.behind,r.negPow,uFY (eG l)):=by
 have hle:=bT aB l;rw[yG];by_cases hz:aM aB l=0
 ·rw[hz,if_pos (.inl rfl)];simp only[List.take_zero,List.drop_zero];show (r.all l).bind Rd.fin=none;cases l with
  |nil=>simp only[Rd.all,Option.bind_some];unfold Rd.fin;rw[if_neg (by omega)]
  |cons c t=>
   have hd:aB c=false:=by
    cases hc:aB c
    ·rfl
    simp[aM,hc]at hz
   have hn:¬ (48<=c.toNat/\c.toNat<=57):=fun h=>by rw[(dJ c).2 h]at hd;cases hd
   have ht:r.take c.toNat=none:=by
    unfold Rd.take;rw[if_neg hn,if_neg (by omega),if_neg (by omega),if_neg (by omega),if_neg ?_];rintro⟨h1,h2⟩;obtain⟨h3,h4⟩:=hs h2 c t rfl;rcases h1 with h1|h1
    ·exact h4 (lS (by rw[h1];rfl))
    exact h3 (lS (by rw[h1];rfl))
   simp only[Rd.all,ht];rfl
 have bp:eG (l.take (aM aB l))≠[]:=by
  intro h;have:=congrArg List.length h;rw[jV,zc]at this;simp at this;rcases this with h1|h1
  ·exact hz h1
  rw[h1]at hz;exact hz rfl
 rw[uEG _ r (by omega) bp];by_cases hf:aM aB l=l.length
 ·rw[if_neg (by omega),hf,List.drop_of_length_le zr,List.take_of_length_le zr];simp only[Rd.all,Option.bind_some];unfold Rd.fin;rw[if_pos (.inr (.inr rfl)),h0];rfl
 rw[if_pos (.inr hf)];have hlt:aM aB l<l.length:=by omega
 have el:=lR aB l hlt;rw[yx hlt];generalize l[aM aB l]=c at *;have hn:¬ (48<=c.toNat/\c.toNat<=57):=fun h=>by rw[(dJ c).2 h]at el;cases el
 generalize hr:({ r with st:=7,pow:=_ }:Rd)=q;have hq:q.st=7:=by rw[<- hr]
 have ht:q.take c.toNat=none:=by
  unfold Rd.take;rw[if_neg hn,if_neg (by omega),if_neg (by omega),if_neg (by omega),if_neg (by omega)]
 simp only[Rd.all,ht];rfl
theorem uCM(r:Rd)(l:Bs)(h:r.st=2\/r.st=4)(h0:r.pow=0)(h1:r.negPow=false)(hd:∀ c t,l=c::t->aB c=false/\(r.st=2->c≠46)) :
  (r.all l).bind Rd.fin=(lL l).map fun p=>(r.neg,r.ds,r.behind,p.1,uFY p.2):=by
 cases l with
 |nil=>
  simp only[Rd.all,Option.bind_some];unfold Rd.fin lL;rw[if_pos (by omega),h0,h1];rfl
 |cons c t=>
  obtain⟨d1,d2⟩:=hd c t rfl;have hn:¬ (48<=c.toNat/\c.toNat<=57):=fun h=>by rw[(dJ c).2 h]at d1;cases d1
  by_cases he:c=101\/c=69
  ·have ht:r.take c.toNat=some { r with st:=5 }:=by
    have gb:c.toNat=101\/c.toNat=69:=by rcases he with e|e <;> rw[e] <;> decide
    unfold Rd.take;rw[if_neg hn,if_neg (by omega),if_neg (by omega),if_pos ⟨gb,by omega⟩]
   simp only[Rd.all,ht];unfold lL;simp only;rw[if_pos he];cases t with
   |nil=>
    have:=zK { r with st:=5 } [] (.inl rfl) h0 (fun _ c t h=>by cases h);rw[this];rfl
   |cons x t=>
    have e43:aZ (x::t) 0 43=(x==43):=by unfold aZ;simp
    have e45:aZ (x::t) 0 45=(x==45):=by unfold aZ;simp
    rw[e43,e45];by_cases hx:x=43\/x=45
    ·have ou:({ r with st:=5 }:Rd).take x.toNat=some { r with st:=6,negPow:=(x==45) }:=by
      rcases hx with e|e <;> subst e <;> rfl
     have hb:(x==43||x==45)=true:=by rcases hx with e|e <;> subst e <;> rfl
     rw[hb];simp only[Rd.all,ou,if_true,List.drop_succ_cons,List.drop_zero];rw[zK ⟨6,r.neg,(x==45),r.ds,r.behind,r.pow⟩ t (.inr rfl) h0 (fun h=>absurd h (by decide:¬ (6:Nat)=5))];by_cases hk:aM aB t=0\/aM aB t≠t.length
     ·rw[if_pos hk,if_pos (by simp only[yi];omega)];rfl
     rw[if_neg hk,if_neg (by simp only[yi];omega)];rfl
    have hb:(x==43||x==45)=false:=by
     rw[Bool.or_eq_false_iff,beq_eq_false_iff_ne,beq_eq_false_iff_ne];exact⟨fun e=>hx (.inl e),fun e=>hx (.inr e)⟩
    have bf:(x==45)=false:=(Bool.or_eq_false_iff.1 hb).2;rw[hb,bf];simp only[Bool.false_eq_true,if_false,List.drop_zero,Nat.zero_add];rw[zK { r with st:=5 } (x::t) (.inl rfl) h0 (fun _ c' t' h=>by injection h with h1 h2;subst h1;exact⟨fun e=>hx (.inl e),fun e=>hx (.inr e)⟩)];by_cases hk:aM aB (x::t)=0\/aM aB (x::t)≠(x::t).length
    ·rw[if_pos hk,if_pos hk];rfl
    rw[if_neg hk,if_neg hk];simp only[Option.map_some];rw[h1]
  have ht:r.take c.toNat=none:=by
   unfold Rd.take;rw[if_neg hn,if_neg (by omega),if_neg ?_,if_neg ?_,if_neg (by omega)]
   ·rintro⟨e,_⟩;rcases e with e|e
    ·exact he (.inl (lS (by rw[e];rfl)))
    exact he (.inr (lS (by rw[e];rfl)))
   rintro⟨e,el⟩;exact d2 (by omega) (lS (by rw[e];rfl))
  simp only[Rd.all,ht];unfold lL;simp only;rw[if_neg he];rfl
theorem pO{l t:Bs}{n:Nat}{c:UInt8}(h:l.drop n=c::t)(d:UInt8):aZ l n d=(c==d):=by
 unfold aZ;have:l[n]?=some c:=by
  have:=congrArg (fun x=>x[0]?) h;simpa using this
 rw[this];simp
theorem uBW(r:Rd)(l:Bs)(hr:r={ rd0 with neg:=r.neg,st:=r.st })(h:r.st<=1)(hm:r.st=0->aZ l 0 45=false) :
  (r.all l).bind Rd.fin=(if aZ l (aM aB l) 46 then
   (if aM aB (l.drop (aM aB l+1))=0 then none else (lL (l.drop (aM aB l+1+aM aB (l.drop (aM aB l+1))))).map fun p=>(r.neg,eG (l.take (aM aB l))++eG ((l.drop (aM aB l+1)).take (aM aB (l.drop (aM aB l+1)))),aM aB (l.drop (aM aB l+1)),p.1,uFY p.2))
  else if aM aB l=0 then none else (lL (l.drop (aM aB l))).map fun p=>(r.neg,eG (l.take (aM aB l)),0,p.1,uFY p.2)):=by
 have hle:=bT aB l;have h0:r.pow=0:=by rw[hr];rfl
 have h1:r.negPow=false:=by rw[hr];rfl
 have h2:r.ds=[]:=by rw[hr];rfl
 have h3:r.behind=0:=by rw[hr];rfl
 rw[yG];have jl:∀ c t,l.drop (aM aB l)=c::t->aB c=false:=by
  intro c t e;have hlt:aM aB l<l.length:=by
   rcases Nat.lt_or_ge (aM aB l) l.length with g|g
   ·exact g
   rw[List.drop_of_length_le g]at e;cases e
  rw[yx hlt]at e;injection e with e1 _;rw[<- e1];exact lR aB l hlt
 have hlen:(eG (l.take (aM aB l))).length=aM aB l:=by rw[jV,zc];omega
 generalize hn:aM aB l=n at *;obtain⟨q,hq,q1,q2,q3,q4,q5,q6,q7⟩:∃ q:Rd,r.digits (eG (l.take n))=q/\q.st<=2/\(q.st=2↔n≠0)/\q.neg=r.neg/\q.ds=eG (l.take n)/\q.behind=0/\q.pow=0/\q.negPow=false:=by
  by_cases hz:n=0
  ·subst hz;exact⟨r,rfl,by omega,by constructor <;> intro g <;> omega,rfl,by rw[h2];rfl,h3,h0,h1⟩
  have bp:eG (l.take n)≠[]:=by intro e;rw[e]at hlen;simp at hlen;omega
  refine⟨_,yL _ r (by omega) bp,zr,⟨fun _=>hz,fun _=>rfl⟩,rfl,?_,h3,h0,h1⟩;show r.ds++_=_;rw[h2];rfl
 rw[hq];cases hd:l.drop n with
 |nil=>
  have ed:aZ l n 46=false:=iF l n 46 (by
   have:=congrArg List.length hd;rw[yk]at this;simp at this;omega)
  rw[ed];simp only[Bool.false_eq_true,if_false,Rd.all,Option.bind_some];by_cases hz:n=0
  ·rw[if_pos hz];have:q.st≠2:=fun g=>(q2.1 g) hz
   unfold Rd.fin;rw[if_neg (by omega)]
  rw[if_neg hz];unfold Rd.fin lL;rw[if_pos (.inl (q2.2 hz)),q3,q4,q5,q6,q7];rfl
 |cons c t=>
  have hc:=jl c t hd;have hnd:¬ (48<=c.toNat/\c.toNat<=57):=fun g=>by rw[(dJ c).2 g]at hc;cases hc
  rw[pO hd 46];by_cases jc:c=46
  ·subst jc;have ht:q.take (46:UInt8).toNat=some { q with st:=3 }:=by
    unfold Rd.take;rw[if_neg (by decide),if_neg (by intro g;exact absurd g.1 (by decide)),if_pos ⟨rfl,q1⟩]
   have hdt:l.drop (n+1)=t:=by
    have:l.drop (n+1)=(l.drop n).drop 1:=by rw[List.drop_drop]
    rw[this,hd];rfl
   have hdb:∀ b,l.drop (n+1+b)=t.drop b:=by
    intro b;rw[<- List.drop_drop,hdt]
   simp only[Rd.all,ht,beq_self_eq_true,if_true];rw[hdt,hdb,yG];have tf:=bT aB t;by_cases hb:aM aB t=0
   ·rw[if_pos hb,hb];simp only[List.take_zero,List.drop_zero];show (Rd.all { q with st:=3 } t).bind Rd.fin=none;cases t with
    |nil=>rfl
    |cons x t=>
     have hx:aB x=false:=by
      cases hx:aB x
      ·rfl
      simp[aM,hx]at hb
     have hxn:¬ (48<=x.toNat/\x.toNat<=57):=fun g=>by rw[(dJ x).2 g]at hx;cases hx
     have ht3:({ q with st:=3 }:Rd).take x.toNat=none:=by
      unfold Rd.take;simp only;rw[if_neg hxn,if_neg (by omega),if_neg (by omega),if_neg (by omega),if_neg (by omega)]
     simp only[Rd.all,ht3];rfl
   rw[if_neg hb];have bp:eG (t.take (aM aB t))≠[]:=by
    intro e;have:=congrArg List.length e;rw[jV,zc]at this;simp only[List.length_nil]at this;omega
   rw[uAL _ { q with st:=3 } (.inl rfl) bp];have ll:(eG (t.take (aM aB t))).length=aM aB t:=by rw[jV,zc];omega
   rw[ll];refine(uCM ⟨4,q.neg,q.negPow,q.ds++eG (t.take (aM aB t)),q.behind+aM aB t,q.pow⟩ (t.drop (aM aB t)) (.inr rfl) q6 q7 ?_).trans ?_
   rotate_left
   ·simp only[q3,q4,q5,Nat.zero_add]
   intro x t' e;have hlt:aM aB t<t.length:=by
    rcases Nat.lt_or_ge (aM aB t) t.length with g|g
    ·exact g
    rw[List.drop_of_length_le g]at e;cases e
   rw[yx hlt]at e;injection e with e1 _;rw[<- e1];exact⟨lR aB t hlt,fun g=>absurd g (by decide:¬ (4:Nat)=2)⟩
  have hb:(c==46)=false:=by rw[beq_eq_false_iff_ne];exact jc
  rw[hb];simp only[Bool.false_eq_true,if_false];by_cases hz:n=0
  ·rw[if_pos hz];have el:q.st≠2:=fun g=>(q2.1 g) hz
   have hqr:q=r:=by rw[<- hq,hz];rfl
   have jm:q.st=0->c≠45:=by
    intro g e;have l9:=hm (by rw[<- hqr];exact g);rw[hz]at hd;rw[pO hd 45,e]at l9;exact absurd l9 (by decide)
   have ht:q.take c.toNat=none:=by
    unfold Rd.take;rw[if_neg hnd,if_neg ?_,if_neg ?_,if_neg (by omega),if_neg (by omega)]
    ·rintro⟨e,_⟩;exact jc (lS (by rw[e];rfl))
    rintro⟨e,g⟩;exact jm g (lS (by rw[e];rfl))
   simp only[Rd.all,ht];rfl
  rw[if_neg hz,uCM q (c::t) (.inl (q2.2 hz)) q6 q7 (fun x t' e=>by injection e with e1 _;subst e1;exact⟨hc,fun _=>jc⟩)];simp only[q3,q4,q5]
theorem all_text(l:Bs):(rd0.all l).bind Rd.fin=(oK l).map fun p=>(p.1,p.2.1,p.2.2.1,p.2.2.2.1,uFY p.2.2.2.2):=by
 unfold oK;cases h:aZ l 0 45
 ·rw[uBW rd0 l rfl (by decide) (fun _=>h)];simp only[Bool.false_eq_true,if_false,List.drop_zero,Nat.zero_add]
  split
  ·split
   ·rfl
   rw[Option.map_map];rfl
  split
  ·rfl
  rw[Option.map_map];rfl
 have hl:0<l.length:=at_lt _ _ _ h;cases l with
 |nil=>simp at hl
 |cons c t=>
  have hc:c=45:=by
   unfold aZ at h;simpa using h
  subst hc;have bk:rd0.all (45::t)=Rd.all ⟨1,true,false,[],0,0⟩ t:=rfl;have ed:∀ n d,aZ (45::t) (1+n) d=aZ t n d:=by
   intro n d;unfold aZ;rw[Nat.add_comm];rfl
  rw[bk,uBW ⟨1,true,false,[],0,0⟩ t rfl (by decide) (fun g=>by cases g)];have hd:∀ n,List.drop (1+n) (45::t)=List.drop n t:=by intro n;rw[Nat.add_comm];rfl
  have e1:∀ a,1+a+1=1+(a+1):=by intro a;omega
  have e2:∀ a b,1+(a+1)+b=1+(a+1+b):=by intro a b;omega
  have hd1:List.drop 1 (45::t)=t:=rfl;simp only[if_true,hd1,e1,e2,hd,ed]
  split
  ·split
   ·rfl
   rw[Option.map_map];rfl
  split
  ·rfl
  rw[Option.map_map];rfl
def iA(l:Bs):Nat:=if aZ l (aM aB l) 46&&decide (0<aM aB (l.drop (aM aB l+1))) then aM aB l+1+aM aB (l.drop (aM aB l+1)) else aM aB l
def mK(l:Bs)(b:Nat):Nat:=if aZ l (b+1) 43||aZ l (b+1) 45 then b+1+1 else b+1
def uHU(l:Bs)(b:Nat):Nat :=
 if b=0\/(aZ l b 101=false/\aZ l b 69=false) then b
 else if 0<aM aB (l.drop (mK l b)) then mK l b+aM aB (l.drop (mK l b)) else b
def dY(l:Bs):Nat:=uHU l (iA l)
theorem uHV(l:Bs)(b:Nat)(h:b<l.length):mK l b<=l.length:=by
 unfold mK
 split
 case isTrue h1=>
  rcases Bool.or_eq_true_iff.1 h1 with h1|h1
  all_goals have:=at_lt _ _ _ h1
  all_goals omega
 case isFalse=>omega
theorem vA(l:Bs):iA l<=l.length:=by
 unfold iA;have h1:=bT aB l;have h2:=bT aB (l.drop (aM aB l+1));rw[yk]at h2
 split
 case isTrue h=>simp only[yh,decide_eq_true_eq]at h;omega
 case isFalse=>exact h1
theorem pA(l:Bs):dY l<=l.length:=by
 unfold dY uHU;have h0:=vA l;have h2:=bT aB (l.drop (mK l (iA l)));rw[yk]at h2
 split
 ·exact h0
 split <;> omega
def cX(c:UInt8):Bool:=aJ c||aB c||c==95||c==46||c==36
def eH(l:Bs):Nat:=l.count 36
theorem yN(l:Bs)(c:UInt8):eH (l++[c])=eH l+if c==36 then 1 else 0:=by simp[eH,List.count_append,List.count_singleton]
theorem uEK(l:Bs):eH l<=l.length:=List.count_le_length
def uHW(r:Bs):Bool:=decide (aM aB r=r.length)&&decide (1<=aM aB r)&&decide (aM aB r<=7)&&!aZ r 0 48
def uFS(fixed:Bool)(s:Bs):Bool :=
 if 3<aM aJ s then false
 else if (s.drop (aM aJ s)).isEmpty then fixed&&decide (0<aM aJ s)
 else if 0<aM aJ s then uHW (Lib.trimPrefix (s.drop (aM aJ s)) [36])
 else if fixed then uHW (s.drop (aM aJ s)) else false
def uX(l:Bs):Bool:=uFS (Lib.hasPrefix l [36]) (Lib.trimPrefix l [36])
def rO:Bs:=[43,45,42,47,94,38,61,60,62,37,40,41,123,125,44,59,58,35]
def eJ(l:Bs):Nat:=if Lib.hasPrefix l [60,62]||Lib.hasPrefix l [60,61]||Lib.hasPrefix l [62,61] then 2 else if 0<=Lib.indexByte rO (l.headD 0) then 1 else 0
def mS(l:Bs):Nat×Bs×Nat :=
 if uX (l.take (aM cX l)) then (4,l.take (aM cX l),aM cX l)
 else if eH (l.take (aM cX l))=0 then (3,l.take (aM cX l),aM cX l) else (0,[],0)
theorem uDH(l p:Bs):(Lib.trimPrefix l p).length<=l.length:=by
 unfold Lib.trimPrefix;split
 ·rw[yk];omega
 exact zr
def bQ:Bs->Option (Bs×Nat)
 | []=>none
 | [c]=>if c=34 then some ([],1) else none
 |c::d::l=>
  if c=34 then (if d=34 then (bQ l).map (fun x=>(34::x.1,x.2+2)) else some ([],1))
  else (bQ (d::l)).map (fun x=>(c::x.1,x.2+1))
theorem iB(c:UInt8)(l:Bs)(h:c≠34):bQ (c::l)=(bQ l).map (fun x=>(c::x.1,x.2+1)):=by
 cases l with
 |nil=>simp[bQ,h]
 |cons d l=>simp only[bQ,if_neg h]
theorem sD(t l:Bs)(h:34∉t):bQ (t++l)=(bQ l).map (fun x=>(t++x.1,x.2+t.length)):=by
 induction t with
 |nil=>simp
 |cons c t ih=>
  have hc:c≠34:=by intro e;apply h;simp[e]
  rw[yp,iB _ _ hc,ih (by intro e;apply h;simp[e]),Option.map_map];cases bQ l with
  |none=>rfl
  |some x=>simp only[Option.map_some,Function.comp,yi,yp];congr 2
theorem pText_no(l:Bs)(h:34∉l):bQ l=none:=by
 have:=sD l [] h;simpa [bQ] using this
theorem lM(l:Bs)(h:∀ r,l≠34::r):bQ (34::l)=some ([],1):=by
 cases l with
 |nil=>simp[bQ]
 |cons d l=>
  have hd:d≠34:=by intro e;exact h l (by rw[e])
  simp[bQ,hd]
theorem lN(l:Bs):bQ (34::34::l)=(bQ l).map (fun x=>(34::x.1,x.2+2)):=by simp[bQ]
theorem idx_no(l:Bs)(c:UInt8)(h:Lib.indexByte l c<0):c∉l:=by
 induction l with
 |nil=>simp
 |cons b l ih=>
  unfold Lib.indexByte at h;by_cases hb:(b==c)=true
  ·rw[if_pos hb]at h;omega
  rw[if_neg hb]at h;have bp:b≠c:=fun e=>hb (by rw[e];simp)
  by_cases h1:(Lib.indexByte l c==-1)=true
  ·have:Lib.indexByte l c<0:=by have:=eq_of_beq h1;omega
   simp[ih this,Ne.symm bp]
  rw[if_neg h1]at h;have:Lib.indexByte l c<0:=by omega
  simp[ih this,Ne.symm bp]
theorem uHL(l:Bs)(c:UInt8)(h:0<=Lib.indexByte l c):∃ n:Nat,Lib.indexByte l c=n/\n<l.length/\c∉l.take n/\l=l.take n++c::l.drop (n+1):=by
 induction l with
 |nil=>simp[Lib.indexByte]at h
 |cons b l ih=>
  by_cases hb:(b==c)=true
  ·have e:b=c:=eq_of_beq hb;refine⟨0,by unfold Lib.indexByte;rw[if_pos hb];rfl,by simp,by simp,by simp[e]⟩
  unfold Lib.indexByte at h;rw[if_neg hb]at h;have bp:b≠c:=fun e=>hb (by rw[e];simp)
  by_cases h1:(Lib.indexByte l c==-1)=true
  ·rw[if_pos h1]at h;omega
  rw[if_neg h1]at h;have h2:0<=Lib.indexByte l c:=by
   have:Lib.indexByte l c≠-1:=fun e=>h1 (by rw[e];rfl)
   omega
  obtain⟨n,h3,h4,h5,h6⟩:=ih h2;refine⟨n+1,by unfold Lib.indexByte;rw[if_neg hb,if_neg h1,h3];rfl,by simpa using h4,by simp[h5,Ne.symm bp],?_⟩;simp only[List.take_succ_cons,List.drop_succ_cons,yp];rw[<- h6]
def fF(l:Bs):Nat×Bs×Nat:=match bQ (l.drop 1) with|some x=>(2,x.1,x.2+1)|none=>(0,[],0)
def QInv(l acc:Bs)(k:Nat):Prop:=1<=k/\k<=l.length/\acc.length<=k/\bQ (l.drop 1)=(bQ (l.drop k)).map (fun x=>(acc++x.1,x.2+(k-1)))
theorem QInv.start(l:Bs)(h:0<l.length):QInv l [] 1:=by
 refine⟨zr,h,by simp,?_⟩;cases bQ (l.drop 1) with
 |none=>rfl
 |some x=>simp
theorem QInv.fail{l acc:Bs}{k:Nat}(h:QInv l acc k)(hn:Lib.indexByte (l.drop k) 34<0):fF l=(0,[],0):=by
 unfold fF;rw[h.2.2.2,pText_no _ (idx_no _ _ hn)];rfl
theorem QInv.split{l acc:Bs}{k n:Nat}(_h:QInv l acc k)(hi:Lib.indexByte (l.drop k) 34=(n:Int)) :
  k+n<l.length/\bQ (l.drop k)=(bQ (34::l.drop (k+n+1))).map (fun x=>((l.drop k).take n++x.1,x.2+n)):=by
 obtain⟨m,h1,h2,h3,h4⟩:=uHL (l.drop k) 34 (by omega);obtain rfl:m=n:=by omega
 rw[yk]at h2;refine⟨by omega,?_⟩;have e:((l.drop k).take m).length=m:=by rw[zc,yk];omega
 conv=>lhs;rw[h4]
 rw[sD _ _ h3,e,List.drop_drop]
 congr 3
theorem QInv.stop{l acc:Bs}{k n:Nat}(h:QInv l acc k)(hi:Lib.indexByte (l.drop k) 34=(n:Int))(hq:aZ l (k+n+1) 34=false) :
  fF l=(2,acc++(l.drop k).take n,k+n+1):=by
 obtain⟨h1,h2⟩:=h.split hi;have hk:=h.1;unfold fF;rw[h.2.2.2,h2,lM]
 ·simp;omega
 intro r hr;have h3:(l.drop (k+n+1))[0]?=some 34:=by rw[hr];rfl
 rw[List.getElem?_drop,Nat.add_zero]at h3;unfold aZ at hq;rw[h3]at hq;cases hq
theorem QInv.next{l acc:Bs}{k n:Nat}(h:QInv l acc k)(hi:Lib.indexByte (l.drop k) 34=(n:Int))(hq:aZ l (k+n+1) 34=true) :
  QInv l (acc++(l.drop k).take n++[34]) (k+n+1+1):=by
 obtain⟨h1,h2⟩:=h.split hi;have hlt:=at_lt _ _ _ hq;have hk:=h.1;have ha:=h.2.2.1;refine⟨by omega,by omega,by simp;omega,?_⟩;have h3:l.drop (k+n+1)=34::l.drop (k+n+1+1):=by
  rw[yx hlt]
  congr 1
  unfold aZ at hq;rw[List.getElem?_eq_getElem hlt]at hq;have:=eq_of_beq hq;injection this
 rw[h.2.2.2,h2,h3,lN];cases bQ (l.drop (k+n+1+1)) with
 |none=>rfl
 |some x=>
  simp only[Option.map_some]
  congr 2
  ·simp
  omega
end Go.Proofs.YtmgjidnalpgegaaGreatDoor
