/-
  Lemmas, part 1: Pl1 PlainQ.
-/
import Derived.WalkKit
import Derived.Lib.Strings
import Derived.Lib.Bytealg
import Derived.Lib.Hide
import Derived.Deep.MidRow
import Derived.Tactics
import Derived.Below
set_option maxHeartbeats 100000000
namespace Go.Proofs.YtmgjidnalpgegaaGreatDoor
open Go.RowKit
theorem zh {p : Prop} (h : p) : Hid p := h
theorem mm {α : Type} {l : List α} {x : α} (n : Nat) (h : l[n]? = some x) : x ∈ l := List.mem_of_getElem? h
theorem oi {α : Type} {x y : α} (h : some x = some y) : x = y := Option.some.inj h
theorem zq {z n : Nat} (h : z < n + 1) : z < n ∨ z = n := by omega
theorem cz {z : Nat} (h : z < 1) : z = 0 := by omega
theorem zr {n : Nat} : n ≤ n := Nat.le_refl n
theorem zp {w : World} (o : Obj) : Below w.heap.size w (w.alloc o) := (Below.refl _ _).alloc (Nat.le_refl _) o
theorem za.{u_1} : ∀ {α : Type u_1} {xs : List α} {i : Nat}, xs.toArray[i]? = xs[i]? := @List.getElem?_toArray
theorem zb.{u_1} : ∀ {α : Type u_1} {a : α} {l : List α}, (a :: l)[0]? = some a := @List.getElem?_cons_zero
theorem zf.{u_1} : ∀ {α : Type u_1} {a : α} {i : Nat} {l : List α}, (a :: l)[i + 1]? = l[i]? := @List.getElem?_cons_succ
theorem yd.{u_1} : ∀ {α : Type u_1} {as : List α}, as.toArray.size = as.length := @List.size_toArray
theorem yf.{u_1} : ∀ {α : Type u_1} {a b : α}, a ∈ [b] ↔ a = b := @List.mem_singleton
theorem yg : ∀ {m n : Nat}, m ∈ List.range n ↔ m < n := @List.mem_range
theorem yj.{u_1, u_2} : ∀ {α : Type u_1} {β : Type u_2} {b : β} {f : α → β} {l : List α}, b ∈ List.map f l ↔ ∃ (a : α), a ∈ l ∧ f a = b := @List.mem_map
theorem yh : ∀ (a b : Bool), ((a && b) = true) = (a = true ∧ b = true) := @Bool.and_eq_true
theorem yi.{u_1} : ∀ {α : Type u_1} {a : α} {as : List α}, (a :: as).length = as.length + 1 := @List.length_cons
theorem yk.{u_1} : ∀ {α : Type u_1} {i : Nat} {l : List α}, (List.drop i l).length = l.length - i := @List.length_drop
theorem yl.{u_1} : ∀ {α : Type u_1} {as bs : List α}, (as ++ bs).length = as.length + bs.length := @List.length_append
theorem ym.{u_1} : ∀ {α : Type u_1} {b : α} {l : List α} {a : α}, a ∈ b :: l ↔ a = b ∨ a ∈ l := @List.mem_cons
theorem yp.{u_1} : ∀ {α : Type u_1} {a : α} {as bs : List α}, a :: as ++ bs = a :: (as ++ bs) := @List.cons_append
theorem yq : ∀ {P : Program} {ops : Array Oper} {rest : List Oper} {op : Oper} {a : Act} {w : World} {Q : Exit → Act → World → Prop}, op.guard = none → ∀ (ty : TypeId) (x y : Operand), op.op = Op.store ty x y → ∀ (b o : Nat) (cells : Array Value), a.eval x = Value.pointer (some { block := b, off := o }) → a.eval y = Value.agg cells → w.there b o cells.size → Option.map (fun (x : TypeInfo) => x.size) (P.info? ty) = some cells.size → (cells.all fun (x : Value) => x.oneCell') = true → wpList P ops Q rest (a.put op.dst undef) (w.setCells b o cells.toList) → wpList P ops Q (op :: rest) a w := @wpList_store_mid
theorem yr : ∀ {P : Program} {ops : Array Oper} {rest : List Oper} {op : Oper} {a : Act} {w : World} {Q : Exit → Act → World → Prop}, op.guard = none → ∀ (ty : TypeId) (x : Operand), op.op = Op.load ty x → ∀ (b o : Nat), a.eval x = Value.pointer (some { block := b, off := o }) → ∀ (cs : List Value) (d : TypeDesc), w.rangeAt b o cs → P.underlying ty = some d → d.isRow = true → Option.map (fun (x : TypeInfo) => x.size) (P.info? ty) = some cs.length → wpList P ops Q rest (a.put op.dst (Value.agg cs.toArray)) w → wpList P ops Q (op :: rest) a w := @wpList_load_mid
theorem yt : ∀ {P : Program} {fn : Func} {R : Ending → World → Prop} {a : Act} {w : World} {v : Value}, Sem.run P (results fn a.tmps) w = Result.ok v w → a.defers = [] → R (Ending.returned v) w → bodyPost P fn R Exit.ret a w := @bodyPost_ret
theorem yu : ∀ {n m k : Nat}, n < m → m ≤ k → n < k := @Nat.lt_of_lt_of_le
theorem yv : ∀ {n m k : Nat}, n ≤ m → m ≤ k → n ≤ k := @Nat.le_trans
theorem yw.{u_1} : ∀ {α : Type u_1} {i : Nat} {l : List α} (h : i < l.length), List.take (i + 1) l = List.take i l ++ [l[i]] := @List.take_succ_eq_append_getElem
theorem yx.{u_1} : ∀ {α : Type u_1} {i : Nat} {l : List α} (h : i < l.length), List.drop i l = l[i] :: List.drop (i + 1) l := @List.drop_eq_getElem_cons
theorem yz.{u_1} : ∀ {α : Type u_1} (l : List α) (i : Nat) (a : α), l.toArray.setIfInBounds i a = (l.set i a).toArray := @List.setIfInBounds_toArray
theorem zc.{u_1} : ∀ {α : Type u_1} {i : Nat} {l : List α}, (List.take i l).length = min i l.length := @List.length_take
theorem ze : ∀ {a b : Bool}, a = b ↔ (a = true ↔ b = true) := @Bool.eq_iff_iff
theorem zg.{u_1} : ∀ {α : Type u_1} (y : α) {a : α} {l : List α}, a ∈ l → a ∈ y :: l := @List.mem_cons_of_mem
theorem zk.{u_1} : ∀ {α : Type u_1} {i : Nat} {b : α} {xs : Array α}, xs[i]? = some b ↔ ∃ (h : i < xs.size), xs[i] = b := @Array.getElem?_eq_some_iff
theorem zm : ∀ (n : Nat), 0 ≤ n := @Nat.zero_le
abbrev Bs:=List UInt8
def aB(c:UInt8):Bool:=decide (48<=c.toNat)&&decide (c.toNat<=57)
def aJ(c:UInt8):Bool:=(decide (97<=c.toNat)&&decide (c.toNat<=122))||(decide (65<=c.toNat)&&decide (c.toNat<=90))
def aN(p:UInt8->Bool):Bs->Nat
 | []=>0
 |c::l=>if p c then aN p l+1 else 0
theorem bS(p:UInt8->Bool)(l:Bs):aN p l<=l.length:=by
 induction l with
 |nil=>simp[aN]
 |cons c l ih=>simp only[aN,yi];split <;> omega
theorem rO(p:UInt8->Bool)(l:Bs)(k:Nat)(hk:k<aN p l)(h:k<l.length):p l[k]=true:=by
 induction l generalizing k with
 |nil=>simp at h
 |cons c l ih=>
  simp only[aN]at hk
  split at hk
  case isTrue hc=>
   cases k with
   |zero=>simpa using hc
   |succ k=>simpa using ih k (by omega) (by simpa using h)
  case isFalse=>omega
theorem kS(p:UInt8->Bool)(l:Bs)(h:aN p l<l.length):p l[aN p l]=false:=by
 induction l with
 |nil=>simp at h
 |cons c l ih=>
  by_cases hc:p c=true
  ·have e:aN p (c::l)=aN p l+1:=by simp[aN,hc]
   simp only[e,List.getElem_cons_succ];exact ih (by rw[e]at h;simpa using h)
  have e:aN p (c::l)=0:=by simp[aN,hc]
  simp only[e,List.getElem_cons_zero];simpa using hc
theorem fM(p:UInt8->Bool)(l:Bs)(k:Nat)(hk:k<=aN p l)(h:k<l.length)(hp:p l[k]=true):k+1<=aN p l:=by
 rcases Nat.lt_or_ge k (aN p l) with h1|h1
 ·exact h1
 have e:k=aN p l:=by omega
 subst e;rw[kS p l h]at hp;cases hp
theorem jY(p:UInt8->Bool)(l:Bs)(k:Nat)(hk:k<=aN p l)(h:k<l.length)(hp:p l[k]=false):aN p l=k:=by
 rcases Nat.lt_or_ge k (aN p l) with h1|h1
 ·rw[rO p l k h1 h]at hp;cases hp
 omega
theorem yF(l:Bs)(a:Nat)(h:a<(ByteArray.mk l.toArray).size):(ByteArray.mk l.toArray)[a]=l[a]'(by simpa [ByteArray.size] using h):=by
 exact List.getElem_toArray (xs:=l) (i:=a) (by simpa [ByteArray.size] using h)
theorem uGJ(l:Bs)(a b:Nat):(ByteArray.mk l.toArray).extract a b=⟨((l.drop a).take (b-a)).toArray⟩:=by
 apply ByteArray.ext;simp[ByteArray.data_extract,List.extract_toArray,List.extract_eq_take_drop]
theorem vA(l:Bs)(a:Nat):List.take (l.length-a) (List.drop a l)=List.drop a l:=List.take_of_length_le (by simp)
attribute [go_sem] yF uGJ vA
theorem kT{c d:UInt8}(h:c.toNat=d.toNat):c=d:=UInt8.toNat.inj h
def aX(l:Bs)(k:Nat)(c:UInt8):Bool:=l[k]?==some c
theorem gP(l:Bs)(k:Nat)(c:UInt8)(n:Int)(hn:(c.toNat:Int)=n)(h:k<l.length):((l[k].toNat:Int)==n)=aX l k c:=by
 subst hn;unfold aX;rw[List.getElem?_eq_getElem h,ze,beq_iff_eq,beq_iff_eq];constructor
 ·intro e;rw[kT (c:=l[k]) (d:=c) (by omega)]
 intro e;injection e with e;rw[e]
theorem lQ(l:Bs)(k:Nat)(c:UInt8)(n:Int)(hn:(c.toNat:Int)=n)(h:k<l.length):((l[k].toNat:Int) != n)=!aX l k c:=by
 rw[<- gP l k c n hn h];rfl
theorem iI(l:Bs)(k:Nat)(c:UInt8)(h:l.length<=k):aX l k c=false:=by
 unfold aX;rw[List.getElem?_eq_none h];rfl
theorem at_lt(l:Bs)(k:Nat)(c:UInt8)(h:aX l k c=true):k<l.length:=by
 rcases Nat.lt_or_ge k l.length with h1|h1
 ·exact h1
 rw[iI l k c h1]at h;cases h
theorem aI{a b:Bool}(h:a=b):Ending.returned (.bool a)=.returned (.bool b):=by rw[h]
theorem cI{k:IntKind}{a b:Int}(h:a=b):Ending.returned (.int k a)=.returned (.int k b):=by rw[h]
theorem S_append(a b:Bs):(ByteArray.mk a.toArray)++(ByteArray.mk b.toArray)=⟨(a++b).toArray⟩:=by
 apply ByteArray.ext;simp[ByteArray.data_append]
attribute [go_sem] S_append
def iE(c:UInt8):Bool:=decide (97<=c.toNat)&&decide (c.toNat<=122)
def up(c:UInt8):UInt8:=if iE c then c-32 else c
def aO(l:Bs):Bs:=l.map up
theorem gS(c:UInt8):iE c=true↔97<=c.toNat/\c.toNat<=122:=by simp[iE]
theorem up_low(c:UInt8)(h:iE c=true):(up c).toNat=c.toNat-32:=by
 have h1:=(gS c).1 h;unfold up;rw[if_pos h,UInt8.toNat_sub_of_le]
 ·rfl
 rw[UInt8.le_iff_toNat_le];show 32<=c.toNat;omega
theorem pF(c:UInt8)(h:iE c=false):up c=c:=by unfold up;rw[h];rfl
theorem eW(l:Bs):(aO l).length=l.length:=by simp[aO]
theorem tI(l:Bs)(h:∀ c∈l,iE c=false):aO l=l:=by
 induction l with
 |nil=>rfl
 |cons c l ih=>simp only[aO,List.map_cons];rw[pF c (h c (by simp))];congr 1;exact ih fun d hd=>h d (by simp[hd])
def lP(l:Bs)(k:Nat):Bs:=aO (l.take k)++l.drop k
theorem zG(l:Bs)(k:Nat):(lP l k).length=l.length:=by simp[lP,aO];omega
theorem zF(l:Bs)(k:Nat)(h:k<l.length)(h':k<(lP l k).length):(lP l k)[k]=l[k]:=by
 have e:(aO (l.take k)).length=k:=by rw[eW,zc];omega
 have h2:(lP l k)[k]?=l[k]?:=by
  unfold lP;rw[List.getElem?_append_right (by omega),e,Nat.sub_self,List.getElem?_drop,Nat.add_zero]
 rw[List.getElem?_eq_getElem h',List.getElem?_eq_getElem h]at h2;injection h2
theorem zH(l:Bs)(k:Nat)(h:k<l.length):(lP l k).set k (up l[k])=lP l (k+1):=by
 have e:(aO (l.take k)).length=k:=by rw[eW,zc];omega
 unfold lP;rw[List.set_append_right (h:=by omega),e,Nat.sub_self,yx h,List.set_cons_zero,yw h];unfold aO;rw[List.map_append,List.append_assoc];rfl
theorem uHN(l:Bs)(k:Nat)(h:k<l.length)(hu:up l[k]=l[k]):lP l k=lP l (k+1):=by
 have h':k<(lP l k).length:=by rw[zG];exact h
 rw[<- zH l k h,hu,<- zF l k h h'];exact(List.set_getElem_self h').symm
theorem half_all(l:Bs):lP l l.length=aO l:=by simp[lP]
def Row(w:World)(b:Nat)(m:Bs):Prop:=∀ j (h:j<m.length),w.cell? ⟨b,j,none⟩=some (.int .u8 (m[j].toNat:Int))/\w.frozen? ⟨b,j,none⟩=false
theorem Row.set{w:World}{b:Nat}{m:Bs}(h:Row w b m)(k:Nat)(c:UInt8):Row (w.setCell ⟨b,k,none⟩ (.int .u8 (c.toNat:Int))) b (m.set k c):=by
 intro j hj;rw[List.length_set]at hj;obtain⟨h1,h2⟩:=h j hj;by_cases e:k=j
 ·subst e;refine⟨?_,by simpa using h2⟩;rw[World.cell?_setCell_same' _ _ _ (by rw[h1];rfl)];simp
 refine⟨?_,by simpa using h2⟩;rw[World.cell?_setCell_other _ _ _ _ (by intro e2;cases e2;exact e rfl),h1];rw[List.getElem_set_ne e]
def iR:Nat->Nat->Nat
 |0,_=>1
 |f+1,n=>if n<10 then 1 else iR f (n / 10)+1
def jQ(n:Nat):Nat:=iR 20 n
theorem uHZ:∀ (f g n:Nat),n<10 ^ (f+1)->n<10 ^ (g+1)->iR f n=iR g n:=by
 intro f
 induction f with
 |zero=>
  intro g n hf hg;have:n<10:=by simpa using hf
  cases g with
  |zero=>rfl
  |succ g=>simp[iR,this]
 |succ f ih=>
  intro g n hf hg;cases g with
  |zero=>
   have:n<10:=by simpa using hg
   simp[iR,this]
  |succ g=>
   simp only[iR]
   split
   ·rfl
   rw[ih g (n / 10)]
   ·rw[Nat.div_lt_iff_lt_mul (by decide)];rw[Nat.pow_succ]at hf;exact hf
   rw[Nat.div_lt_iff_lt_mul (by decide)];rw[Nat.pow_succ]at hg;exact hg
theorem uCP(n:Nat)(h:n<10):jQ n=1:=by unfold jQ iR;rw[if_pos h]
theorem digs_big(n:Nat)(h:¬ n<10)(hn:n<18446744073709551616):jQ n=jQ (n / 10)+1:=by
 unfold jQ;rw[iR,if_neg h,uHZ 19 20 (n / 10)]
 ·have:n / 10<1844674407370955162:=by omega
  exact yu this (by decide)
 have:n / 10<1844674407370955162:=by omega
 exact yu this (by decide)
theorem oH(n:Nat):1<=jQ n/\jQ n<=21:=by
 have:∀ f n,1<=iR f n/\iR f n<=f+1:=by
  intro f
  induction f with
  |zero=>intro n;simp[iR]
  |succ f ih=>
   intro n;simp only[iR]
   split
   ·omega
   have:=ih (n / 10);omega
 exact this 20 n
theorem nDig_lt:∀ (f n:Nat),n<10 ^ (f+1)->n<10 ^ iR f n:=by
 intro f
 induction f with
 |zero=>intro n h;simpa [iR] using h
 |succ f ih=>
  intro n h;simp only[iR]
  split
  ·omega
  have h1:n / 10<10 ^ (f+1):=by rw[Nat.div_lt_iff_lt_mul (by decide)];rw[Nat.pow_succ]at h;exact h
  have:=ih (n / 10) h1;rw[Nat.pow_succ];omega
theorem nDig_ge:∀ (f n:Nat),0<n->10 ^ (iR f n-1)<=n:=by
 intro f
 induction f with
 |zero=>intro n h;simp[iR];omega
 |succ f ih=>
  intro n h;simp only[iR]
  split
  ·simp;omega
  have h1:=ih (n / 10) (by omega);have h2:1<=iR f (n / 10):=by
   cases f with
   |zero=>simp[iR]
   |succ f=>simp only[iR];split <;> omega
  rw[show iR f (n / 10)+1-1=(iR f (n / 10)-1)+1 by omega,Nat.pow_succ];omega
theorem digs_lt(n:Nat)(h:n<1000000000000000):n<10 ^ jQ n:=nDig_lt 20 n (yu h (by decide))
theorem digs_ge(n:Nat)(h:0<n):10 ^ (jQ n-1)<=n:=nDig_ge 20 n h
def p10(n:Nat):Nat:=10 ^ n
def cC(m e:Int):Bool :=
 if m=0 then decide (e=0)
 else decide (m.natAbs<1000000000000000)&&decide (m.natAbs % 10≠0)&&decide (-40<=e)&&decide (e<40)&&decide ((jQ m.natAbs:Int)+e<=40)
theorem wB{m e:Int}(h:cC m e=true)(h0:m≠0):m.natAbs<1000000000000000/\m.natAbs % 10≠0/\-40<=e/\e<40/\(jQ m.natAbs:Int)+e<=40:=by
 unfold cC at h;rw[if_neg h0]at h;simp only[yh,decide_eq_true_eq]at h;exact⟨h.1.1.1.1,h.1.1.1.2,h.1.1.2,h.1.2,h.2⟩
def aV(ds:List Nat):Nat:=ds.foldl (fun a d=>10*a+d) 0
def Dig(ds:List Nat):Prop:=∀ d∈ds,d<=9
theorem tB(ds:List Nat)(a:Nat):ds.foldl (fun a d=>10*a+d) a=a*10 ^ ds.length+aV ds:=by
 induction ds generalizing a with
 |nil=>simp[aV]
 |cons d ds ih=>
  simp only[List.foldl_cons,yi];rw[ih (10*a+d)];have h:aV (d::ds)=(10*0+d)*10 ^ ds.length+aV ds:=by
   show List.foldl _ _ ds=_;rw[ih]
  rw[h,Nat.pow_succ,Nat.add_mul];have e1:a*(10 ^ ds.length*10)=10*a*10 ^ ds.length:=by rw[Nat.mul_comm (10 ^ ds.length) 10,<- Nat.mul_assoc,Nat.mul_comm a 10]
  rw[e1];simp only[Nat.mul_zero,Nat.zero_add];omega
theorem uIA:aV []=0:=rfl
theorem eA(d:Nat)(ds:List Nat):aV (d::ds)=d*10 ^ ds.length+aV ds:=by
 show List.foldl _ _ ds=_;rw[tB];simp
theorem fK(a b:List Nat):aV (a++b)=aV a*10 ^ b.length+aV b:=by
 unfold aV;rw[List.foldl_append,tB];rfl
theorem lI(a:List Nat)(d:Nat):aV (a++[d])=10*aV a+d:=by
 rw[fK,eA];simp[uIA];omega
theorem Dig.tail{d:Nat}{ds:List Nat}(h:Dig (d::ds)):Dig ds:=fun x hx=>h x (zg _ hx)
theorem Dig.head{d:Nat}{ds:List Nat}(h:Dig (d::ds)):d<=9:=h d (List.mem_cons_self ..)
theorem Dig.take{ds:List Nat}(h:Dig ds)(n:Nat):Dig (ds.take n):=fun x hx=>h x (List.mem_of_mem_take hx)
theorem Dig.drop{ds:List Nat}(h:Dig ds)(n:Nat):Dig (ds.drop n):=fun x hx=>h x (List.mem_of_mem_drop hx)
theorem Dig.append{a b:List Nat}(ha:Dig a)(hb:Dig b):Dig (a++b):=fun x hx=>by
 rcases List.mem_append.1 hx with h|h
 ·exact ha x h
 exact hb x h
theorem mG(ds:List Nat)(h:Dig ds):aV ds<10 ^ ds.length:=by
 induction ds with
 |nil=>simp[aV]
 |cons d ds ih=>
  rw[eA,yi,Nat.pow_succ];have h1:=ih h.tail;have h2:=h.head;have h3:d*10 ^ ds.length<=9*10 ^ ds.length:=Nat.mul_le_mul_right _ h2;omega
theorem oV(d:Nat)(ds:List Nat)(h:d≠0):10 ^ ds.length<=aV (d::ds):=by
 rw[eA];have:1*10 ^ ds.length<=d*10 ^ ds.length:=Nat.mul_le_mul_right _ (by omega);omega
theorem qQ(n:Nat):aV (List.replicate n 0)=0:=by
 induction n with
 |zero=>rfl
 |succ n ih=>rw[List.replicate_succ,eA,ih];simp
theorem qP(n:Nat):aV (List.replicate n 9)+1=10 ^ n:=by
 induction n with
 |zero=>rfl
 |succ n ih=>rw[List.replicate_succ,eA,Nat.pow_succ,List.length_replicate];omega
def dG:List Nat->List Nat
 | []=>[]
 |0::l=>dG l
 |d::l=>d::l
theorem pN(ds:List Nat):aV (dG ds)=aV ds:=by
 induction ds with
 |nil=>rfl
 |cons d ds ih=>
  cases d with
  |zero=>rw[dG,ih,eA];simp
  |succ d=>rfl
theorem rW(ds:List Nat)(d:Nat)(l:List Nat)(h:dG ds=d::l):d≠0:=by
 induction ds with
 |nil=>simp[dG]at h
 |cons x ds ih=>
  cases x with
  |zero=>rw[dG]at h;exact ih h
  |succ x=>simp[dG]at h;omega
theorem rV(ds:List Nat):∃ k,k<=ds.length/\dG ds=ds.drop k/\ds.take k=List.replicate k 0:=by
 induction ds with
 |nil=>exact⟨0,by simp[dG]⟩
 |cons x ds ih=>
  cases x with
  |zero=>
   obtain⟨k,hk,h1,h2⟩:=ih;exact⟨k+1,by simp;omega,by simpa [dG] using h1,by simp[List.replicate_succ,h2]⟩
  |succ x=>exact⟨0,by simp[dG]⟩
theorem uGV{ds:List Nat}(h:Dig ds):Dig (dG ds):=by
 obtain⟨k,_,h1,_⟩:=rV ds;rw[h1];exact h.drop k
theorem uGW(ds:List Nat):(dG ds).length<=ds.length:=by
 obtain⟨k,_,h1,_⟩:=rV ds;rw[h1,yk];omega
theorem uGX(ds:List Nat):dG ds=[]↔aV ds=0:=by
 constructor
 ·intro h;rw[<- pN,h];rfl
 intro h;cases hb:dG ds with
 |nil=>rfl
 |cons d l=>
  have h1:=rW _ _ _ hb;have h2:=oV d l h1;have h3:=pN ds;rw[hb]at h3;have:0<10 ^ l.length:=Nat.pow_pos (by decide);omega
def lX:Nat->Nat->Nat
 |0,_=>0
 |f+1,n=>if n=0 then 0 else lX f (n / 10)+1
def eD(n:Nat):Nat:=lX n n
theorem sG:∀ f n,n<=f->n<10 ^ lX f n/\(0<n->0<lX f n/\10 ^ (lX f n-1)<=n):=by
 intro f
 induction f with
 |zero=>intro n h;simp[lX];omega
 |succ f ih=>
  intro n h;simp only[lX]
  split
  ·rename_i h0;subst h0;simp
  rename_i h0
  obtain⟨h1,h2⟩:=ih (n / 10) (by omega);refine⟨by rw[Nat.pow_succ];omega,fun _=>⟨by omega,?_⟩⟩;rcases Nat.eq_zero_or_pos (n / 10) with hz|hz
  ·rw[hz];cases f with
   |zero=>simp[lX];omega
   |succ f=>simp[lX];omega
  obtain⟨h3,h4⟩:=h2 hz;rw[show lX f (n / 10)+1-1=(lX f (n / 10)-1)+1 by omega,Nat.pow_succ];omega
theorem jK{a b:Nat}(h:10 ^ a<10 ^ b):a<b:=by
 rcases Nat.lt_or_ge a b with h1|h1
 ·exact h1
 have:=Nat.pow_le_pow_right (n:=10) (by decide) h1;omega
theorem uDH{n a b:Nat}(ha:0<a)(hb:0<b)(h1:10 ^ (a-1)<=n)(h2:n<10 ^ a)(h3:10 ^ (b-1)<=n)(h4:n<10 ^ b):a=b:=by
 have h5:a-1<b:=jK (Nat.lt_of_le_of_lt h1 h4);have h6:b-1<a:=jK (Nat.lt_of_le_of_lt h3 h2);omega
theorem pP:eD 0=0:=rfl
theorem oJ(n:Nat):n<10 ^ eD n:=(sG n n zr).1
theorem lY(n:Nat)(h:0<n):0<eD n:=((sG n n zr).2 h).1
theorem oI(n:Nat)(h:0<n):10 ^ (eD n-1)<=n:=((sG n n zr).2 h).2
theorem xA{n a:Nat}(ha:0<a)(h1:10 ^ (a-1)<=n)(h2:n<10 ^ a):eD n=a:=by
 have hp:0<n:=yu (Nat.pow_pos (by decide)) h1;exact uDH (lY n hp) ha (oI n hp) (oJ n) h1 h2
theorem vJ(n:Nat)(h0:0<n)(h:n<1000000000000000):jQ n=eD n :=
 (xA (by have:=oH n;omega) (digs_ge n h0) (digs_lt n h)).symm
theorem uCR(d:Nat)(ds:List Nat)(h:Dig (d::ds))(h0:d≠0):eD (aV (d::ds))=ds.length+1 :=
 xA (by omega) (by simpa using oV d ds h0) (mG _ h)
def rhe(n k:Nat):Nat:=if 10 ^ k<2*(n % 10 ^ k)\/(2*(n % 10 ^ k)=10 ^ k/\n / 10 ^ k % 2=1) then n / 10 ^ k+1 else n / 10 ^ k
theorem uGD(n k:Nat)(h:eD n<k):rhe n k=0:=by
 have h1:=oJ n;have h2:10 ^ (eD n+1)<=10 ^ k:=Nat.pow_le_pow_right (by decide) h;rw[Nat.pow_succ]at h2;unfold rhe;rw[Nat.mod_eq_of_lt (by omega),Nat.div_eq_of_lt (by omega),if_neg (by omega)]
theorem rhe_le(n k:Nat)(m:Nat)(h:n<10 ^ (m+k)):rhe n k<=10 ^ m:=by
 have h1:n / 10 ^ k<10 ^ m:=by rw[Nat.div_lt_iff_lt_mul (Nat.pow_pos (by decide)),<- Nat.pow_add];exact h
 unfold rhe
 split <;> omega
theorem rhe_ge(n k m:Nat)(h:10 ^ (m+k)<=n):10 ^ m<=rhe n k:=by
 have h1:10 ^ m<=n / 10 ^ k:=by rw[Nat.le_div_iff_mul_le (Nat.pow_pos (by decide)),<- Nat.pow_add];exact h
 unfold rhe
 split <;> omega
def uI:Nat->Nat->Int->Nat×Int
 |0,n,e=>(n,e)
 |f+1,n,e=>if n % 10=0 then uI f (n / 10) (e+1) else (n,e)
def bY(n:Nat)(e:Int):Nat×Int:=if n=0 then (0,0) else uI n n e
theorem uFG:∀ f g n e,0<n->n<=f->n<=g->uI f n e=uI g n e:=by
 intro f
 induction f with
 |zero=>intro g n e h0 h1 h2;omega
 |succ f ih=>
  intro g n e h0 h1 h2;cases g with
  |zero=>omega
  |succ g=>
   simp only[uI]
   split
   ·exact ih g (n / 10) (e+1) (by omega) (by omega) (by omega)
   rfl
theorem tO(n:Nat)(e:Int)(h0:0<n)(h:n % 10=0):bY n e=bY (n / 10) (e+1):=by
 unfold bY;rw[if_neg (by omega),if_neg (by omega)];obtain⟨f,rfl⟩:∃ f,n=f+1:=⟨n-1,by omega⟩
 rw[uI,if_pos h];exact uFG _ _ _ _ (by omega) (by omega) zr
theorem tP(n:Nat)(e:Int)(h:n % 10≠0):bY n e=(n,e):=by
 unfold bY;have:n≠0:=by intro h0;subst h0;simp at h
 rw[if_neg this];obtain⟨f,rfl⟩:∃ f,n=f+1:=⟨n-1,by omega⟩
 rw[uI,if_neg h]
theorem lJ(e:Int):bY 0 e=(0,0):=rfl
theorem tN(n:Nat)(e:Int)(h0:0<n):∃ k:Nat,n=(bY n e).1*10 ^ k/\(bY n e).2=e+k/\(bY n e).1 % 10≠0/\eD n=eD (bY n e).1+k:=by
 have:∀ f n e,0<n->n<=f->∃ k:Nat,n=(bY n e).1*10 ^ k/\(bY n e).2=e+k/\(bY n e).1 % 10≠0/\eD n=eD (bY n e).1+k:=by
  intro f
  induction f with
  |zero=>intro n e h0 h1;omega
  |succ f ih=>
   intro n e h0 h1;by_cases hm:n % 10=0
   ·rw[tO n e h0 hm];obtain⟨k,h2,h3,h4,h5⟩:=ih (n / 10) (e+1) (by omega) (by omega);refine⟨k+1,?_,by rw[h3];push_cast;omega,h4,?_⟩
    ·rw[Nat.pow_succ,<- Nat.mul_assoc,<- h2];omega
    have hd:eD n=eD (n / 10)+1:=by
     have hp:0<n / 10:=by omega
     have a1:=lY _ hp;have a2:=oI _ hp;have a3:=oJ (n / 10);refine xA (by omega) ?_ (by rw[Nat.pow_succ];omega);rw[show eD (n / 10)+1-1=(eD (n / 10)-1)+1 by omega,Nat.pow_succ];omega
    omega
   rw[tP n e hm];exact⟨0,by simp,by simp,hm,by simp⟩
 exact this n n e h0 zr
def dJ(n:Nat)(e:Int):Nat×Int:=if 15<eD n then (rhe n (eD n-15),e+((eD n-15:Nat):Int)) else (n,e)
def fR(n:Nat)(e:Int):Nat×Int:=if e< -40 then (rhe n (-40-e).toNat,-40) else (n,e)
def rM(neg:Bool)(n:Nat)(e:Int):Option (Int×Int) :=
 if n=0 then some (0,0) else if 40<(eD n:Int)+e then none else some (if neg then -(n:Int) else n,e)
def fF(neg:Bool)(n:Nat)(e:Int):Option (Int×Int) :=
 rM neg (bY (fR (dJ n e).1 (dJ n e).2).1 (fR (dJ n e).1 (dJ n e).2).2).1 (bY (fR (dJ n e).1 (dJ n e).2).1 (fR (dJ n e).1 (dJ n e).2).2).2
def upB(H:List Nat)(x:Nat)(R:List Nat):Bool:=decide (5<x)||(decide (x=5)&&(decide (0<(dG R).length)||decide (aV H % 2=1)))
theorem uEI(H:List Nat)(x:Nat)(R:List Nat)(h:Dig (x::R)):rhe (aV (H++x::R)) (R.length+1)=aV H+(if upB H x R then 1 else 0):=by
 have hlt:=mG (x::R) h;have hR:=mG R h.tail;have hb:=uGX R;have hc:=eA x R;rw[yi]at hlt;have hp:0<10 ^ R.length:=Nat.pow_pos (by decide);have hx:=h.head;have hpow:10 ^ (R.length+1)=10 ^ R.length*10:=Nat.pow_succ ..;have e1:aV (H++x::R) / 10 ^ (R.length+1)=aV H:=by
  rw[fK,yi,Nat.add_comm,Nat.add_mul_div_right _ _ (Nat.pow_pos (by decide)),Nat.div_eq_of_lt hlt,Nat.zero_add]
 have e2:aV (H++x::R) % 10 ^ (R.length+1)=aV (x::R):=by
  rw[fK,yi,Nat.add_comm,Nat.add_mul_mod_self_right,Nat.mod_eq_of_lt hlt]
 unfold rhe;rw[e1,e2,hc,hpow];have hz:(0<(dG R).length)↔0<aV R:=by
  constructor
  ·intro g;rcases Nat.eq_zero_or_pos (aV R) with z|z
   ·rw[hb.2 z]at g;simp at g
   exact z
  intro g;rcases Nat.eq_zero_or_pos (dG R).length with z|z
  ·rw[hb.1 (List.eq_nil_of_length_eq_zero z)]at g;omega
  exact z
 generalize 10 ^ R.length=p at *;generalize aV R=r at *;have hU:upB H x R=true↔(5<x\/(x=5/\(0<r\/aV H % 2=1))):=by
  unfold upB;simp only[Bool.or_eq_true,yh,decide_eq_true_eq];rw[hz]
 have key:(p*10<2*(x*p+r)\/(2*(x*p+r)=p*10/\aV H % 2=1))↔(5<x\/(x=5/\(0<r\/aV H % 2=1))):=by
  rcases(by omega:x<=4\/x=5\/6<=x) with g|g|g
  ·have:x*p<=4*p:=Nat.mul_le_mul_right _ g;omega
  ·subst g;omega
  have:6*p<=x*p:=Nat.mul_le_mul_right _ g;omega
 by_cases g:upB H x R=true
 ·rw[if_pos (key.2 (hU.1 g)),if_pos g]
 rw[if_neg (fun q=>g (hU.2 (key.1 q))),if_neg g];omega
def inc(H:List Nat)(k:Nat):List Nat:=H.take k++List.replicate (H.length-k) 0
theorem inc_len(H:List Nat)(k:Nat)(h:k<=H.length):(inc H k).length=H.length:=by unfold inc;simp;omega
theorem inc_all(H:List Nat):inc H H.length=H:=by unfold inc;simp
theorem vP(H:List Nat)(m:Nat)(h:m<H.length):inc H (m+1)=H.take m++H[m]::List.replicate (H.length-(m+1)) 0:=by
 unfold inc;rw[yw h,List.append_assoc];rfl
theorem inc_get(H:List Nat)(m:Nat)(h:m<H.length)(h':m<(inc H (m+1)).length):(inc H (m+1))[m]=H[m]:=by
 have h2:(inc H (m+1))[m]?=some H[m]:=by
  rw[vP H m h,List.getElem?_append_right (by simp;omega),zc,Nat.min_eq_left (by omega),Nat.sub_self];rfl
 rw[List.getElem?_eq_getElem h']at h2;injection h2
theorem uFS(H:List Nat)(m c:Nat)(h:m<H.length):(inc H (m+1)).set m c=H.take m++c::List.replicate (H.length-(m+1)) 0:=by
 rw[vP H m h,List.set_append_right (h:=by simp;omega),zc,Nat.min_eq_left (by omega),Nat.sub_self,List.set_cons_zero]
theorem inc_down(H:List Nat)(m:Nat)(h:m<H.length):(inc H (m+1)).set m 0=inc H m:=by
 rw[uFS H m 0 h];unfold inc;rw[show H.length-m=(H.length-(m+1))+1 by omega,List.replicate_succ]
def Nines(H:List Nat)(k:Nat):Prop:=H.drop k=List.replicate (H.length-k) 9
theorem Nines.all(H:List Nat):Nines H H.length:=by unfold Nines;simp
theorem Nines.down{H:List Nat}{m:Nat}(h:Nines H (m+1))(hm:m<H.length)(h9:H[m]=9):Nines H m:=by
 unfold Nines at h ⊢;rw[yx hm,h,h9,show H.length-m=(H.length-(m+1))+1 by omega,List.replicate_succ]
theorem inc_up(H:List Nat)(m:Nat)(hm:m<H.length)(h:Nines H (m+1)):aV (H.take m++(H[m]+1)::List.replicate (H.length-(m+1)) 0)=aV H+1:=by
 have hH:H=H.take m++H[m]::List.replicate (H.length-(m+1)) 9:=by
  have:H=H.take m++H.drop m:=(List.take_append_drop m H).symm
  conv=>lhs;rw[this]
  rw[yx hm,h]
 have h9:=qP (H.length-(m+1));have h0:=qQ (H.length-(m+1));have e2:aV H=aV (H.take m++H[m]::List.replicate (H.length-(m+1)) 9):=congrArg aV hH;rw[e2];generalize H.length-(m+1)=q at *;rw[fK,fK,eA,eA];simp only[yi,List.length_replicate,Nat.add_mul];omega
theorem inc_over(H:List Nat)(h:Nines H 0):aV (1::List.replicate H.length 0)=aV H+1:=by
 unfold Nines at h;simp only[List.drop_zero,Nat.sub_zero]at h;have h9:=qP H.length;have e2:aV H=aV (List.replicate H.length 9):=congrArg aV h;rw[e2,eA,qQ,List.length_replicate];omega
theorem Dig.zeros(n:Nat):Dig (List.replicate n 0):=fun d hd=>by rw[List.mem_replicate]at hd;omega
theorem Dig.cons{d:Nat}{l:List Nat}(h1:d<=9)(h2:Dig l):Dig (d::l):=fun x hx=>by
 rcases ym.1 hx with h|h
 ·omega
 exact h2 x h
def Lead(ds:List Nat):Prop:=∀ d t,ds=d::t->d≠0
theorem uHR(ds:List Nat):Lead (dG ds):=fun d t h=>rW ds d t h
theorem Lead.take{ds:List Nat}(h:Lead ds)(n:Nat):Lead (ds.take n):=by
 intro d t e;cases ds with
 |nil=>simp at e
 |cons x ds=>
  cases n with
  |zero=>simp at e
  |succ n=>simp at e;rw[<- e.1];exact h x ds rfl
theorem Lead.up{H:List Nat}(h:Lead H)(m:Nat)(hm:m<H.length)(l:List Nat):Lead (H.take m++(H[m]+1)::l):=by
 intro d t e;cases m with
 |zero=>simp at e;omega
 |succ m=>
  cases H with
  |nil=>simp at hm
  |cons x H=>simp at e;rw[<- e.1];exact h x H rfl
theorem sW{ds:List Nat}(h:Lead ds)(hd:Dig ds):eD (aV ds)=ds.length:=by
 cases ds with
 |nil=>rfl
 |cons d t=>exact uCR d t hd (h d t rfl)
theorem last_odd(H:List Nat)(n:Nat)(hn:n+1=H.length):aV H % 2=H[n] % 2:=by
 have:H=H.take n++[H[n]]:=by
  rw[<- yw (by omega),List.take_of_length_le (by omega)]
 have e:aV H=10*aV (H.take n)+H[n]:=by
  have:=congrArg aV this;rw[lI]at this;exact this
 omega
def dlF:Nat->Nat->List Nat
 |0,_=>[]
 |f+1,n=>if n=0 then [] else dlF f (n / 10)++[n % 10]
def dl(n:Nat):List Nat:=dlF n n
theorem dlF_fuel:∀ f g n,n<=f->n<=g->dlF f n=dlF g n:=by
 intro f
 induction f with
 |zero=>
  intro g n h1 h2;obtain rfl:n=0:=by omega
  cases g <;> simp[dlF]
 |succ f ih=>
  intro g n h1 h2;cases g with
  |zero=>
   obtain rfl:n=0:=by omega
   simp[dlF]
  |succ g=>
   simp only[dlF]
   split
   ·rfl
   rw[ih g (n / 10) (by omega) (by omega)]
theorem uFL:dl 0=[]:=rfl
theorem kY(n:Nat)(h:0<n):dl n=dl (n / 10)++[n % 10]:=by
 unfold dl;obtain⟨f,rfl⟩:∃ f,n=f+1:=⟨n-1,by omega⟩
 rw[dlF,if_neg (by omega),dlF_fuel f ((f+1) / 10) _ (by omega) zr]
theorem uCQ(P:Nat->Prop)(h0:P 0)(hs:∀ n,0<n->P (n / 10)->P n):∀ n,P n:=by
 intro n
 induction n using Nat.strongRecOn with
 |_ n ih=>
  rcases Nat.eq_zero_or_pos n with h|h
  ·rw[h];exact h0
  exact hs n h (ih (n / 10) (by omega))
theorem dl_nat(n:Nat):aV (dl n)=n:=by
 refine uCQ (fun n=>aV (dl n)=n) rfl (fun n h ih=>?_) n;rw[kY n h,lI,ih];omega
theorem dl_dig(n:Nat):Dig (dl n):=by
 refine uCQ (fun n=>Dig (dl n)) (fun _ h=>by cases h) (fun n h ih=>?_) n;rw[kY n h];exact ih.append (fun d hd=>by simp at hd;omega)
theorem dl_ne(n:Nat)(h:0<n):dl n≠[]:=by rw[kY n h];simp
theorem dl_lead(n:Nat):Lead (dl n):=by
 refine uCQ (fun n=>Lead (dl n)) (fun d t h=>by cases h) (fun n h ih=>?_) n;intro d t e;rw[kY n h]at e;rcases Nat.eq_zero_or_pos (n / 10) with z|z
 ·rw[z,uFL]at e;simp at e;omega
 cases hd:dl (n / 10) with
 |nil=>exact absurd hd (dl_ne _ z)
 |cons x l=>
  rw[hd]at e ih;simp at e;rw[<- e.1];exact ih x l rfl
theorem dl_len(n:Nat):(dl n).length=eD n:=by
 rw[<- sW (dl_lead n) (dl_dig n),dl_nat]
theorem vI(n:Nat)(h:n<18446744073709551616):(dl n).length<=20:=by
 rw[dl_len];rcases Nat.eq_zero_or_pos n with z|z
 ·rw[z,pP];omega
 have h1:=oI n z;have h2:10 ^ (eD n-1)<10 ^ 20:=Nat.lt_of_le_of_lt h1 (yu h (by decide));have:=jK h2;omega
def dT(l:Bs):List Nat:=l.map fun c=>c.toNat-48
theorem yT(a b:Bs):dT (a++b)=dT a++dT b:=by simp[dT]
theorem iY(a:Bs):(dT a).length=a.length:=by simp[dT]
theorem cT(c:UInt8):aB c=true↔48<=c.toNat/\c.toNat<=57:=by simp[aB]
theorem sE(l:Bs)(n:Nat)(h:n<=aN aB l):Dig (dT (l.take n)):=by
 intro d hd;unfold dT at hd;rw[yj]at hd;obtain⟨c,hc,rfl⟩:=hd;obtain⟨k,hk,rfl⟩:=List.getElem_of_mem hc;rw[zc]at hk;rw[List.getElem_take];have:=(cT _).1 (rO aB l k (by omega) (by omega));omega
structure Rd where
 st:Nat
 neg:Bool
 negPow:Bool
 ds:List Nat
 behind:Nat
 pow:Nat
def rd0:Rd:=⟨0,false,false,[],0,0⟩
def eF(p d:Nat):Nat:=if p<100000 then p*10+d else p
def Rd.digit(r:Rd)(d:Nat):Rd :=
 if r.st<=2 then { r with st:=2,ds:=r.ds++[d] }
 else if r.st<=4 then { r with st:=4,ds:=r.ds++[d],behind:=r.behind+1 }
 else { r with st:=7,pow:=eF r.pow d }
def Rd.take(r:Rd)(c:Nat):Option Rd :=
 if 48<=c/\c<=57 then some (r.digit (c-48))
 else if c=45/\r.st=0 then some { r with neg:=true,st:=1 }
 else if c=46/\r.st<=2 then some { r with st:=3 }
 else if (c=101\/c=69)/\(r.st=2\/r.st=4) then some { r with st:=5 }
 else if (c=45\/c=43)/\r.st=5 then some { r with negPow:=decide (c=45),st:=6 }
 else none
def Rd.all:Rd->Bs->Option Rd
 |r,[]=>some r
 |r,c::l=>match r.take c.toNat with|some r'=>r'.all l|none=>none
def Rd.fin(r:Rd):Option (Bool×List Nat×Nat×Bool×Nat):=if r.st=2\/r.st=4\/r.st=7 then some (r.neg,r.ds,r.behind,r.negPow,r.pow) else none
def Rd.digits(r:Rd)(l:List Nat):Rd:=l.foldl Rd.digit r
theorem wU(r:Rd)(l:Bs):r.all l=(r.digits (dT (l.take (aN aB l)))).all (l.drop (aN aB l)):=by
 induction l generalizing r with
 |nil=>rfl
 |cons c l ih=>
  by_cases h:aB c=true
  ·have e:aN aB (c::l)=aN aB l+1:=by simp[aN,h]
   rw[e];simp only[List.take_succ_cons,List.drop_succ_cons];have hc:=(cT c).1 h;show (match r.take c.toNat with|some r'=>r'.all l|none=>none)=_;have ht:r.take c.toNat=some (r.digit (c.toNat-48)):=if_pos hc;rw[ht];exact ih _
  have e:aN aB (c::l)=0:=by simp[aN,h]
  rw[e];rfl
theorem wZ(L:List Nat)(r:Rd)(h:r.st<=2)(hL:L≠[]):r.digits L={ r with st:=2,ds:=r.ds++L }:=by
 induction L generalizing r with
 |nil=>exact absurd rfl hL
 |cons d L ih=>
  have e:r.digit d={ r with st:=2,ds:=r.ds++[d] }:=if_pos h;show (r.digit d).digits L=_;rw[e];by_cases hl:L=[]
  ·rw[hl];rfl
  rw[ih _ zr hl];simp
theorem yU(L:List Nat)(r:Rd)(h:r.st=3\/r.st=4)(hL:L≠[]):r.digits L={ r with st:=4,ds:=r.ds++L,behind:=r.behind+L.length }:=by
 induction L generalizing r with
 |nil=>exact absurd rfl hL
 |cons d L ih=>
  have e:r.digit d={ r with st:=4,ds:=r.ds++[d],behind:=r.behind+1 }:=by
   unfold Rd.digit;rw[if_neg (by omega),if_pos (by omega)]
  show (r.digit d).digits L=_;rw[e];by_cases hl:L=[]
  ·rw[hl];rfl
  rw[ih _ (.inr rfl) hl];simp;omega
theorem uCO(L:List Nat)(r:Rd)(h:5<=r.st)(hL:L≠[]):r.digits L={ r with st:=7,pow:=L.foldl eF r.pow }:=by
 induction L generalizing r with
 |nil=>exact absurd rfl hL
 |cons d L ih=>
  have e:r.digit d={ r with st:=7,pow:=eF r.pow d }:=by
   unfold Rd.digit;rw[if_neg (by omega),if_neg (by omega)]
  show (r.digit d).digits L=_;rw[e];by_cases hl:L=[]
  ·rw[hl];rfl
  rw[ih _ (by show 5<=7;omega) hl];rfl
def kN(l:Bs):Option (Bool×List Nat) :=
 match l with
 | []=>some (false,[])
 |c::l=>if c=101\/c=69 then
   (let i:=if aX l 0 43||aX l 0 45 then 1 else 0
    if aN aB (l.drop i)=0\/i+aN aB (l.drop i)≠l.length then none else some (aX l 0 45,dT (l.drop i)))
  else none
def nI(l:Bs):Option (Bool×List Nat×Nat×Bool×List Nat) :=
 let i:=if aX l 0 45 then 1 else 0
 let a:=aN aB (l.drop i)
 if aX l (i+a) 46 then
  let b:=aN aB (l.drop (i+a+1))
  if b=0 then none else (kN (l.drop (i+a+1+b))).map fun p=>(aX l 0 45,dT ((l.drop i).take a)++dT ((l.drop (i+a+1)).take b),b,p.1,p.2)
 else if a=0 then none else (kN (l.drop (i+a))).map fun p=>(aX l 0 45,dT ((l.drop i).take a),0,p.1,p.2)
def uEC(L:List Nat):Nat:=L.foldl eF 0
theorem xW(r:Rd)(l:Bs)(h:r.st=5\/r.st=6)(h0:r.pow=0)(hs:r.st=5->∀ c t,l=c::t->c≠43/\c≠45) :
  (r.all l).bind Rd.fin=if aN aB l=0\/aN aB l≠l.length then none else some (r.neg,r.ds,r.behind,r.negPow,uEC (dT l)):=by
 have hle:=bS aB l;rw[wU];by_cases hz:aN aB l=0
 ·rw[hz,if_pos (.inl rfl)];simp only[List.take_zero,List.drop_zero];show (r.all l).bind Rd.fin=none;cases l with
  |nil=>simp only[Rd.all,Option.bind_some];unfold Rd.fin;rw[if_neg (by omega)]
  |cons c t=>
   have hd:aB c=false:=by
    cases hc:aB c
    ·rfl
    simp[aN,hc]at hz
   have hn:¬ (48<=c.toNat/\c.toNat<=57):=fun h=>by rw[(cT c).2 h]at hd;cases hd
   have ht:r.take c.toNat=none:=by
    unfold Rd.take;rw[if_neg hn,if_neg (by omega),if_neg (by omega),if_neg (by omega),if_neg ?_];rintro⟨h1,h2⟩;obtain⟨h3,h4⟩:=hs h2 c t rfl;rcases h1 with h1|h1
    ·exact h4 (kT (by rw[h1];rfl))
    exact h3 (kT (by rw[h1];rfl))
   simp only[Rd.all,ht];rfl
 have bp:dT (l.take (aN aB l))≠[]:=by
  intro h;have:=congrArg List.length h;rw[iY,zc]at this;simp at this;rcases this with h1|h1
  ·exact hz h1
  rw[h1]at hz;exact hz rfl
 rw[uCO _ r (by omega) bp];by_cases hf:aN aB l=l.length
 ·rw[if_neg (by omega),hf,List.drop_of_length_le zr,List.take_of_length_le zr];simp only[Rd.all,Option.bind_some];unfold Rd.fin;rw[if_pos (.inr (.inr rfl)),h0];rfl
 rw[if_pos (.inr hf)];have hlt:aN aB l<l.length:=by omega
 have el:=kS aB l hlt;rw[yx hlt];generalize l[aN aB l]=c at *;have hn:¬ (48<=c.toNat/\c.toNat<=57):=fun h=>by rw[(cT c).2 h]at el;cases el
 generalize hr:({ r with st:=7,pow:=_ }:Rd)=q;have hq:q.st=7:=by rw[<- hr]
 have ht:q.take c.toNat=none:=by
  unfold Rd.take;rw[if_neg hn,if_neg (by omega),if_neg (by omega),if_neg (by omega),if_neg (by omega)]
 simp only[Rd.all,ht];rfl
theorem uAU(r:Rd)(l:Bs)(h:r.st=2\/r.st=4)(h0:r.pow=0)(h1:r.negPow=false)(hd:∀ c t,l=c::t->aB c=false/\(r.st=2->c≠46)) :
  (r.all l).bind Rd.fin=(kN l).map fun p=>(r.neg,r.ds,r.behind,p.1,uEC p.2):=by
 cases l with
 |nil=>
  simp only[Rd.all,Option.bind_some];unfold Rd.fin kN;rw[if_pos (by omega),h0,h1];rfl
 |cons c t=>
  obtain⟨d1,d2⟩:=hd c t rfl;have hn:¬ (48<=c.toNat/\c.toNat<=57):=fun h=>by rw[(cT c).2 h]at d1;cases d1
  by_cases he:c=101\/c=69
  ·have ht:r.take c.toNat=some { r with st:=5 }:=by
    have gr:c.toNat=101\/c.toNat=69:=by rcases he with e|e <;> rw[e] <;> decide
    unfold Rd.take;rw[if_neg hn,if_neg (by omega),if_neg (by omega),if_pos ⟨gr,by omega⟩]
   simp only[Rd.all,ht];unfold kN;simp only;rw[if_pos he];cases t with
   |nil=>
    have:=xW { r with st:=5 } [] (.inl rfl) h0 (fun _ c t h=>by cases h);rw[this];rfl
   |cons x t=>
    have e43:aX (x::t) 0 43=(x==43):=by unfold aX;simp
    have e45:aX (x::t) 0 45=(x==45):=by unfold aX;simp
    rw[e43,e45];by_cases hx:x=43\/x=45
    ·have ov:({ r with st:=5 }:Rd).take x.toNat=some { r with st:=6,negPow:=(x==45) }:=by
      rcases hx with e|e <;> subst e <;> rfl
     have hb:(x==43||x==45)=true:=by rcases hx with e|e <;> subst e <;> rfl
     rw[hb];simp only[Rd.all,ov,if_true,List.drop_succ_cons,List.drop_zero];rw[xW ⟨6,r.neg,(x==45),r.ds,r.behind,r.pow⟩ t (.inr rfl) h0 (fun h=>absurd h (by decide:¬ (6:Nat)=5))];by_cases hk:aN aB t=0\/aN aB t≠t.length
     ·rw[if_pos hk,if_pos (by simp only[yi];omega)];rfl
     rw[if_neg hk,if_neg (by simp only[yi];omega)];rfl
    have hb:(x==43||x==45)=false:=by
     rw[Bool.or_eq_false_iff,beq_eq_false_iff_ne,beq_eq_false_iff_ne];exact⟨fun e=>hx (.inl e),fun e=>hx (.inr e)⟩
    have ay:(x==45)=false:=(Bool.or_eq_false_iff.1 hb).2;rw[hb,ay];simp only[Bool.false_eq_true,if_false,List.drop_zero,Nat.zero_add];rw[xW { r with st:=5 } (x::t) (.inl rfl) h0 (fun _ c' t' h=>by injection h with h1 h2;subst h1;exact⟨fun e=>hx (.inl e),fun e=>hx (.inr e)⟩)];by_cases hk:aN aB (x::t)=0\/aN aB (x::t)≠(x::t).length
    ·rw[if_pos hk,if_pos hk];rfl
    rw[if_neg hk,if_neg hk];simp only[Option.map_some];rw[h1]
  have ht:r.take c.toNat=none:=by
   unfold Rd.take;rw[if_neg hn,if_neg (by omega),if_neg ?_,if_neg ?_,if_neg (by omega)]
   ·rintro⟨e,_⟩;rcases e with e|e
    ·exact he (.inl (kT (by rw[e];rfl)))
    exact he (.inr (kT (by rw[e];rfl)))
   rintro⟨e,el⟩;exact d2 (by omega) (kT (by rw[e];rfl))
  simp only[Rd.all,ht];unfold kN;simp only;rw[if_neg he];rfl
theorem oK{l t:Bs}{n:Nat}{c:UInt8}(h:l.drop n=c::t)(d:UInt8):aX l n d=(c==d):=by
 unfold aX;have:l[n]?=some c:=by
  have:=congrArg (fun x=>x[0]?) h;simpa using this
 rw[this];simp
theorem uAF(r:Rd)(l:Bs)(hr:r={ rd0 with neg:=r.neg,st:=r.st })(h:r.st<=1)(hm:r.st=0->aX l 0 45=false) :
  (r.all l).bind Rd.fin=(if aX l (aN aB l) 46 then
   (if aN aB (l.drop (aN aB l+1))=0 then none else (kN (l.drop (aN aB l+1+aN aB (l.drop (aN aB l+1))))).map fun p=>(r.neg,dT (l.take (aN aB l))++dT ((l.drop (aN aB l+1)).take (aN aB (l.drop (aN aB l+1)))),aN aB (l.drop (aN aB l+1)),p.1,uEC p.2))
  else if aN aB l=0 then none else (kN (l.drop (aN aB l))).map fun p=>(r.neg,dT (l.take (aN aB l)),0,p.1,uEC p.2)):=by
 have hle:=bS aB l;have h0:r.pow=0:=by rw[hr];rfl
 have h1:r.negPow=false:=by rw[hr];rfl
 have h2:r.ds=[]:=by rw[hr];rfl
 have h3:r.behind=0:=by rw[hr];rfl
 rw[wU];have jl:∀ c t,l.drop (aN aB l)=c::t->aB c=false:=by
  intro c t e;have hlt:aN aB l<l.length:=by
   rcases Nat.lt_or_ge (aN aB l) l.length with g|g
   ·exact g
   rw[List.drop_of_length_le g]at e;cases e
  rw[yx hlt]at e;injection e with e1 _;rw[<- e1];exact kS aB l hlt
 have hlen:(dT (l.take (aN aB l))).length=aN aB l:=by rw[iY,zc];omega
 generalize hn:aN aB l=n at *;obtain⟨q,hq,q1,q2,q3,q4,q5,q6,q7⟩:∃ q:Rd,r.digits (dT (l.take n))=q/\q.st<=2/\(q.st=2↔n≠0)/\q.neg=r.neg/\q.ds=dT (l.take n)/\q.behind=0/\q.pow=0/\q.negPow=false:=by
  by_cases hz:n=0
  ·subst hz;exact⟨r,rfl,by omega,by constructor <;> intro g <;> omega,rfl,by rw[h2];rfl,h3,h0,h1⟩
  have bp:dT (l.take n)≠[]:=by intro e;rw[e]at hlen;simp at hlen;omega
  refine⟨_,wZ _ r (by omega) bp,zr,⟨fun _=>hz,fun _=>rfl⟩,rfl,?_,h3,h0,h1⟩;show r.ds++_=_;rw[h2];rfl
 rw[hq];cases hd:l.drop n with
 |nil=>
  have ec:aX l n 46=false:=iI l n 46 (by
   have:=congrArg List.length hd;rw[yk]at this;simp at this;omega)
  rw[ec];simp only[Bool.false_eq_true,if_false,Rd.all,Option.bind_some];by_cases hz:n=0
  ·rw[if_pos hz];have:q.st≠2:=fun g=>(q2.1 g) hz
   unfold Rd.fin;rw[if_neg (by omega)]
  rw[if_neg hz];unfold Rd.fin kN;rw[if_pos (.inl (q2.2 hz)),q3,q4,q5,q6,q7];rfl
 |cons c t=>
  have hc:=jl c t hd;have hnd:¬ (48<=c.toNat/\c.toNat<=57):=fun g=>by rw[(cT c).2 g]at hc;cases hc
  rw[oK hd 46];by_cases j6:c=46
  ·subst j6;have ht:q.take (46:UInt8).toNat=some { q with st:=3 }:=by
    unfold Rd.take;rw[if_neg (by decide),if_neg (by intro g;exact absurd g.1 (by decide)),if_pos ⟨rfl,q1⟩]
   have hdt:l.drop (n+1)=t:=by
    have:l.drop (n+1)=(l.drop n).drop 1:=by rw[List.drop_drop]
    rw[this,hd];rfl
   have hdb:∀ b,l.drop (n+1+b)=t.drop b:=by
    intro b;rw[<- List.drop_drop,hdt]
   simp only[Rd.all,ht,beq_self_eq_true,if_true];rw[hdt,hdb,wU];have tc:=bS aB t;by_cases hb:aN aB t=0
   ·rw[if_pos hb,hb];simp only[List.take_zero,List.drop_zero];show (Rd.all { q with st:=3 } t).bind Rd.fin=none;cases t with
    |nil=>rfl
    |cons x t=>
     have hx:aB x=false:=by
      cases hx:aB x
      ·rfl
      simp[aN,hx]at hb
     have hxn:¬ (48<=x.toNat/\x.toNat<=57):=fun g=>by rw[(cT x).2 g]at hx;cases hx
     have ht3:({ q with st:=3 }:Rd).take x.toNat=none:=by
      unfold Rd.take;simp only;rw[if_neg hxn,if_neg (by omega),if_neg (by omega),if_neg (by omega),if_neg (by omega)]
     simp only[Rd.all,ht3];rfl
   rw[if_neg hb];have bp:dT (t.take (aN aB t))≠[]:=by
    intro e;have:=congrArg List.length e;rw[iY,zc]at this;simp only[List.length_nil]at this;omega
   rw[yU _ { q with st:=3 } (.inl rfl) bp];have lq:(dT (t.take (aN aB t))).length=aN aB t:=by rw[iY,zc];omega
   rw[lq];refine(uAU ⟨4,q.neg,q.negPow,q.ds++dT (t.take (aN aB t)),q.behind+aN aB t,q.pow⟩ (t.drop (aN aB t)) (.inr rfl) q6 q7 ?_).trans ?_
   rotate_left
   ·simp only[q3,q4,q5,Nat.zero_add]
   intro x t' e;have hlt:aN aB t<t.length:=by
    rcases Nat.lt_or_ge (aN aB t) t.length with g|g
    ·exact g
    rw[List.drop_of_length_le g]at e;cases e
   rw[yx hlt]at e;injection e with e1 _;rw[<- e1];exact⟨kS aB t hlt,fun g=>absurd g (by decide:¬ (4:Nat)=2)⟩
  have hb:(c==46)=false:=by rw[beq_eq_false_iff_ne];exact j6
  rw[hb];simp only[Bool.false_eq_true,if_false];by_cases hz:n=0
  ·rw[if_pos hz];have el:q.st≠2:=fun g=>(q2.1 g) hz
   have zu:q=r:=by rw[<- hq,hz];rfl
   have kg:q.st=0->c≠45:=by
    intro g e;have mf:=hm (by rw[<- zu];exact g);rw[hz]at hd;rw[oK hd 45,e]at mf;exact absurd mf (by decide)
   have ht:q.take c.toNat=none:=by
    unfold Rd.take;rw[if_neg hnd,if_neg ?_,if_neg ?_,if_neg (by omega),if_neg (by omega)]
    ·rintro⟨e,_⟩;exact j6 (kT (by rw[e];rfl))
    rintro⟨e,g⟩;exact kg g (kT (by rw[e];rfl))
   simp only[Rd.all,ht];rfl
  rw[if_neg hz,uAU q (c::t) (.inl (q2.2 hz)) q6 q7 (fun x t' e=>by injection e with e1 _;subst e1;exact⟨hc,fun _=>j6⟩)];simp only[q3,q4,q5]
theorem all_text(l:Bs):(rd0.all l).bind Rd.fin=(nI l).map fun p=>(p.1,p.2.1,p.2.2.1,p.2.2.2.1,uEC p.2.2.2.2):=by
 unfold nI;cases h:aX l 0 45
 ·rw[uAF rd0 l rfl (by decide) (fun _=>h)];simp only[Bool.false_eq_true,if_false,List.drop_zero,Nat.zero_add]
  split
  ·split
   ·rfl
   rw[Option.map_map];rfl
  split
  ·rfl
  rw[Option.map_map];rfl
 have hl:0<l.length:=at_lt _ _ _ h;cases l with
 |nil=>simp at hl
 |cons c t=>
  have hc:c=45:=by
   unfold aX at h;simpa using h
  subst hc;have bk:rd0.all (45::t)=Rd.all ⟨1,true,false,[],0,0⟩ t:=rfl;have ec:∀ n d,aX (45::t) (1+n) d=aX t n d:=by
   intro n d;unfold aX;rw[Nat.add_comm];rfl
  rw[bk,uAF ⟨1,true,false,[],0,0⟩ t rfl (by decide) (fun g=>by cases g)];have hd:∀ n,List.drop (1+n) (45::t)=List.drop n t:=by intro n;rw[Nat.add_comm];rfl
  have e1:∀ a,1+a+1=1+(a+1):=by intro a;omega
  have e2:∀ a b,1+(a+1)+b=1+(a+1+b):=by intro a b;omega
  have hd1:List.drop 1 (45::t)=t:=rfl;simp only[if_true,hd1,e1,e2,hd,ec]
  split
  ·split
   ·rfl
   rw[Option.map_map];rfl
  split
  ·rfl
  rw[Option.map_map];rfl
def iM(l:Bs):Nat:=if aX l (aN aB l) 46&&decide (0<aN aB (l.drop (aN aB l+1))) then aN aB l+1+aN aB (l.drop (aN aB l+1)) else aN aB l
def mY(l:Bs)(b:Nat):Nat:=if aX l (b+1) 43||aX l (b+1) 45 then b+1+1 else b+1
def pNumE(l:Bs)(b:Nat):Nat :=
 if b=0\/(aX l b 101=false/\aX l b 69=false) then b
 else if 0<aN aB (l.drop (mY l b)) then mY l b+aN aB (l.drop (mY l b)) else b
def eQ(l:Bs):Nat:=pNumE l (iM l)
theorem pPow_le(l:Bs)(b:Nat)(h:b<l.length):mY l b<=l.length:=by
 unfold mY
 split
 case isTrue h1=>
  rcases Bool.or_eq_true_iff.1 h1 with h1|h1
  all_goals have:=at_lt _ _ _ h1
  all_goals omega
 case isFalse=>omega
theorem uAL(l:Bs):iM l<=l.length:=by
 unfold iM;have h1:=bS aB l;have h2:=bS aB (l.drop (aN aB l+1));rw[yk]at h2
 split
 case isTrue h=>simp only[yh,decide_eq_true_eq]at h;omega
 case isFalse=>exact h1
theorem tM(l:Bs):eQ l<=l.length:=by
 unfold eQ pNumE;have h0:=uAL l;have h2:=bS aB (l.drop (mY l (iM l)));rw[yk]at h2
 split
 ·exact h0
 split <;> omega
def cU(c:UInt8):Bool:=aJ c||aB c||c==95||c==46||c==36
def dU(l:Bs):Nat:=l.count 36
theorem xB(l:Bs)(c:UInt8):dU (l++[c])=dU l+if c==36 then 1 else 0:=by simp[dU,List.count_append,List.count_singleton]
theorem uCS(l:Bs):dU l<=l.length:=List.count_le_length
def uFY(r:Bs):Bool:=decide (aN aB r=r.length)&&decide (1<=aN aB r)&&decide (aN aB r<=7)&&!aX r 0 48
def uDY(fixed:Bool)(s:Bs):Bool :=
 if 3<aN aJ s then false
 else if (s.drop (aN aJ s)).isEmpty then fixed&&decide (0<aN aJ s)
 else if 0<aN aJ s then uFY (Lib.trimPrefix (s.drop (aN aJ s)) [36])
 else if fixed then uFY (s.drop (aN aJ s)) else false
def tJ(l:Bs):Bool:=uDY (Lib.hasPrefix l [36]) (Lib.trimPrefix l [36])
def qB:Bs:=[43,45,42,47,94,38,61,60,62,37,40,41,123,125,44,59,58,35]
def fV(l:Bs):Nat:=if Lib.hasPrefix l [60,62]||Lib.hasPrefix l [60,61]||Lib.hasPrefix l [62,61] then 2 else if 0<=Lib.indexByte qB (l.headD 0) then 1 else 0
def pA(l:Bs):Nat×Bs×Nat :=
 if tJ (l.take (aN cU l)) then (4,l.take (aN cU l),aN cU l)
 else if dU (l.take (aN cU l))=0 then (3,l.take (aN cU l),aN cU l) else (0,[],0)
theorem uBP(l p:Bs):(Lib.trimPrefix l p).length<=l.length:=by
 unfold Lib.trimPrefix;split
 ·rw[yk];omega
 exact zr
def cF:Bs->Option (Bs×Nat)
 | []=>none
 | [c]=>if c=34 then some ([],1) else none
 |c::d::l=>
  if c=34 then (if d=34 then (cF l).map (fun x=>(34::x.1,x.2+2)) else some ([],1))
  else (cF (d::l)).map (fun x=>(c::x.1,x.2+1))
theorem uAN(c:UInt8)(l:Bs)(h:c≠34):cF (c::l)=(cF l).map (fun x=>(c::x.1,x.2+1)):=by
 cases l with
 |nil=>simp[cF,h]
 |cons d l=>simp only[cF,if_neg h]
theorem qS(t l:Bs)(h:34∉t):cF (t++l)=(cF l).map (fun x=>(t++x.1,x.2+t.length)):=by
 induction t with
 |nil=>simp
 |cons c t ih=>
  have hc:c≠34:=by intro e;apply h;simp[e]
  rw[yp,uAN _ _ hc,ih (by intro e;apply h;simp[e]),Option.map_map];cases cF l with
  |none=>rfl
  |some x=>simp only[Option.map_some,Function.comp,yi,yp];congr 2
theorem pText_no(l:Bs)(h:34∉l):cF l=none:=by
 have:=qS l [] h;simpa [cF] using this
theorem uIF(l:Bs)(h:∀ r,l≠34::r):cF (34::l)=some ([],1):=by
 cases l with
 |nil=>simp[cF]
 |cons d l=>
  have hd:d≠34:=by intro e;exact h l (by rw[e])
  simp[cF,hd]
theorem uIG(l:Bs):cF (34::34::l)=(cF l).map (fun x=>(34::x.1,x.2+2)):=by simp[cF]
theorem idx_no(l:Bs)(c:UInt8)(h:Lib.indexByte l c<0):c∉l:=by
 induction l with
 |nil=>simp
 |cons b l ih=>
  unfold Lib.indexByte at h;by_cases hb:(b==c)=true
  ·rw[if_pos hb]at h;omega
  rw[if_neg hb]at h;have bp:b≠c:=fun e=>hb (by rw[e];simp)
  by_cases h1:(Lib.indexByte l c==-1)=true
  ·have:Lib.indexByte l c<0:=by have:=eq_of_beq h1;omega
   simp[ih this,Ne.symm bp]
  rw[if_neg h1]at h;have:Lib.indexByte l c<0:=by omega
  simp[ih this,Ne.symm bp]
theorem uFR(l:Bs)(c:UInt8)(h:0<=Lib.indexByte l c):∃ n:Nat,Lib.indexByte l c=n/\n<l.length/\c∉l.take n/\l=l.take n++c::l.drop (n+1):=by
 induction l with
 |nil=>simp[Lib.indexByte]at h
 |cons b l ih=>
  by_cases hb:(b==c)=true
  ·have e:b=c:=eq_of_beq hb;refine⟨0,by unfold Lib.indexByte;rw[if_pos hb];rfl,by simp,by simp,by simp[e]⟩
  unfold Lib.indexByte at h;rw[if_neg hb]at h;have bp:b≠c:=fun e=>hb (by rw[e];simp)
  by_cases h1:(Lib.indexByte l c==-1)=true
  ·rw[if_pos h1]at h;omega
  rw[if_neg h1]at h;have h2:0<=Lib.indexByte l c:=by
   have:Lib.indexByte l c≠-1:=fun e=>h1 (by rw[e];rfl)
   omega
  obtain⟨n,h3,h4,h5,h6⟩:=ih h2;refine⟨n+1,by unfold Lib.indexByte;rw[if_neg hb,if_neg h1,h3];rfl,by simpa using h4,by simp[h5,Ne.symm bp],?_⟩;simp only[List.take_succ_cons,List.drop_succ_cons,yp];rw[<- h6]
def fB(l:Bs):Nat×Bs×Nat:=match cF (l.drop 1) with|some x=>(2,x.1,x.2+1)|none=>(0,[],0)
def QInv(l acc:Bs)(k:Nat):Prop:=1<=k/\k<=l.length/\acc.length<=k/\cF (l.drop 1)=(cF (l.drop k)).map (fun x=>(acc++x.1,x.2+(k-1)))
theorem QInv.start(l:Bs)(h:0<l.length):QInv l [] 1:=by
 refine⟨zr,h,by simp,?_⟩;cases cF (l.drop 1) with
 |none=>rfl
 |some x=>simp
theorem QInv.fail{l acc:Bs}{k:Nat}(h:QInv l acc k)(hn:Lib.indexByte (l.drop k) 34<0):fB l=(0,[],0):=by
 unfold fB;rw[h.2.2.2,pText_no _ (idx_no _ _ hn)];rfl
theorem QInv.split{l acc:Bs}{k n:Nat}(_h:QInv l acc k)(hi:Lib.indexByte (l.drop k) 34=(n:Int)) :
  k+n<l.length/\cF (l.drop k)=(cF (34::l.drop (k+n+1))).map (fun x=>((l.drop k).take n++x.1,x.2+n)):=by
 obtain⟨m,h1,h2,h3,h4⟩:=uFR (l.drop k) 34 (by omega);obtain rfl:m=n:=by omega
 rw[yk]at h2;refine⟨by omega,?_⟩;have e:((l.drop k).take m).length=m:=by rw[zc,yk];omega
 conv=>lhs;rw[h4]
 rw[qS _ _ h3,e,List.drop_drop]
 congr 3
theorem QInv.stop{l acc:Bs}{k n:Nat}(h:QInv l acc k)(hi:Lib.indexByte (l.drop k) 34=(n:Int))(hq:aX l (k+n+1) 34=false) :
  fB l=(2,acc++(l.drop k).take n,k+n+1):=by
 obtain⟨h1,h2⟩:=h.split hi;have hk:=h.1;unfold fB;rw[h.2.2.2,h2,uIF]
 ·simp;omega
 intro r hr;have h3:(l.drop (k+n+1))[0]?=some 34:=by rw[hr];rfl
 rw[List.getElem?_drop,Nat.add_zero]at h3;unfold aX at hq;rw[h3]at hq;cases hq
theorem QInv.next{l acc:Bs}{k n:Nat}(h:QInv l acc k)(hi:Lib.indexByte (l.drop k) 34=(n:Int))(hq:aX l (k+n+1) 34=true) :
  QInv l (acc++(l.drop k).take n++[34]) (k+n+1+1):=by
 obtain⟨h1,h2⟩:=h.split hi;have hlt:=at_lt _ _ _ hq;have hk:=h.1;have ha:=h.2.2.1;refine⟨by omega,by omega,by simp;omega,?_⟩;have h3:l.drop (k+n+1)=34::l.drop (k+n+1+1):=by
  rw[yx hlt]
  congr 1
  unfold aX at hq;rw[List.getElem?_eq_getElem hlt]at hq;have:=eq_of_beq hq;injection this
 rw[h.2.2.2,h2,h3,uIG];cases cF (l.drop (k+n+1+1)) with
 |none=>rfl
 |some x=>
  simp only[Option.map_some]
  congr 2
  ·simp
  omega
end Go.Proofs.YtmgjidnalpgegaaGreatDoor
