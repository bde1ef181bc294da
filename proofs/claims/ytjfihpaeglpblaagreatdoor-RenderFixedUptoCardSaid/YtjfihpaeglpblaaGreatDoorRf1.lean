/-
  Lemmas, part 1: Pl1 Num1 Val2 Val4 PlainQ Lex5 Build1 Lex8 Num4 Num9.
-/
import Derived.WalkKit
import Derived.Test.YtjfihpaeglpblaaGreatDoorRows
import Derived.WalkSpells
import Derived.WalkLawsBesides
import Derived.Lib.Hide
import Derived.Outline
import Derived.Deep.Cut
import Derived.Deep.CutRange
import Derived.Deep.DeepCutAuto
import Derived.Deep.LoopGhost
import Derived.Deep.QuietTactic
import Derived.BigQuiet
import Derived.BigRegion
import Derived.Deep.RegionHeld3
import Derived.Deep.RegionLaw
import Derived.Deep.DeepFit
import Derived.Deep.Light
import Derived.StillTailTactics
import Derived.IntWalk
import Derived.Laws.IdiomStrings
import Derived.Lib.Strings
import Derived.Lib.Bytealg
import Derived.Test.YtjfihpaeglpblaaGreatDoorShelf
import Derived.OneCell
import Derived.Maps.AppendAt
import Derived.Lib.OthersKept
import Derived.ArgAppend
import Derived.Deep.MidRow
import Derived.Tactics
import Derived.Below
set_option maxHeartbeats 100000000
set_option maxRecDepth 1000000
namespace Go.Proofs.YtjfihpaeglpblaaGreatDoor
open Go.RowKit
theorem zh {p : Prop} (h : p) : Hid p := h
theorem mm {α : Type} {l : List α} {x : α} (n : Nat) (h : l[n]? = some x) : x ∈ l := List.mem_of_getElem? h
theorem oi {α : Type} {x y : α} (h : some x = some y) : x = y := Option.some.inj h
theorem zq {z n : Nat} (h : z < n + 1) : z < n ∨ z = n := by omega
theorem cz {z : Nat} (h : z < 1) : z = 0 := by omega
theorem zr {n : Nat} : n ≤ n := Nat.le_refl n
theorem zp {w : World} (o : Obj) : Below w.heap.size w (w.alloc o) := (Below.refl _ _).alloc (Nat.le_refl _) o
theorem za.{u_1} : ∀ {α : Type u_1} {xs : List α} {i : Nat}, xs.toArray[i]? = xs[i]? := @List.getElem?_toArray
theorem zb.{u_1} : ∀ {α : Type u_1} {a : α} {l : List α}, (a :: l)[0]? = some a := @List.getElem?_cons_zero
theorem zf.{u_1} : ∀ {α : Type u_1} {a : α} {i : Nat} {l : List α}, (a :: l)[i + 1]? = l[i]? := @List.getElem?_cons_succ
theorem yd.{u_1} : ∀ {α : Type u_1} {xs : List α}, xs.toArray.size = xs.length := @List.size_toArray
theorem yf.{u_1} : ∀ {α : Type u_1} {a b : α}, a ∈ [b] ↔ a = b := @List.mem_singleton
theorem yg : ∀ {m n : Nat}, m ∈ List.range n ↔ m < n := @List.mem_range
theorem yj.{u_1, u_2} : ∀ {α : Type u_1} {β : Type u_2} {b : β} {f : α → β} {l : List α}, b ∈ List.map f l ↔ ∃ (a : α), a ∈ l ∧ f a = b := @List.mem_map
theorem yh : ∀ (a b : Bool), ((a && b) = true) = (a = true ∧ b = true) := @Bool.and_eq_true
theorem yi.{u_1} : ∀ {α : Type u_1} {a : α} {xs : List α}, (a :: xs).length = xs.length + 1 := @List.length_cons
theorem yk.{u_1} : ∀ {α : Type u_1} {i : Nat} {l : List α}, (List.drop i l).length = l.length - i := @List.length_drop
theorem yl.{u_1} : ∀ {α : Type u_1} {xs ys : List α}, (xs ++ ys).length = xs.length + ys.length := @List.length_append
theorem ym.{u_1} : ∀ {α : Type u_1} {b : α} {l : List α} {a : α}, a ∈ b :: l ↔ a = b ∨ a ∈ l := @List.mem_cons
theorem yp.{u_1} : ∀ {α : Type u_1} {a : α} {xs ys : List α}, a :: xs ++ ys = a :: (xs ++ ys) := @List.cons_append
theorem yq : ∀ {P : Program} {ops : Array Oper} {rest : List Oper} {op : Oper} {a : Act} {w : World} {Q : Exit → Act → World → Prop}, op.guard = none → ∀ (ty : TypeId) (x y : Operand), op.op = Op.store ty x y → ∀ (b o : Nat) (cells : Array Value), a.eval x = Value.pointer (some { block := b, off := o }) → a.eval y = Value.agg cells → w.there b o cells.size → Option.map (fun (x : TypeInfo) => x.size) (P.info? ty) = some cells.size → (cells.all fun (x : Value) => x.oneCell') = true → wpList P ops Q rest (a.put op.dst undef) (w.setCells b o cells.toList) → wpList P ops Q (op :: rest) a w := @wpList_store_mid
theorem yr : ∀ {P : Program} {ops : Array Oper} {rest : List Oper} {op : Oper} {a : Act} {w : World} {Q : Exit → Act → World → Prop}, op.guard = none → ∀ (ty : TypeId) (x : Operand), op.op = Op.load ty x → ∀ (b o : Nat), a.eval x = Value.pointer (some { block := b, off := o }) → ∀ (cs : List Value) (d : TypeDesc), w.rangeAt b o cs → P.underlying ty = some d → d.isRow = true → Option.map (fun (x : TypeInfo) => x.size) (P.info? ty) = some cs.length → wpList P ops Q rest (a.put op.dst (Value.agg cs.toArray)) w → wpList P ops Q (op :: rest) a w := @wpList_load_mid
theorem yt : ∀ {P : Program} {fn : Func} {R : Ending → World → Prop} {a : Act} {w : World} {v : Value}, Sem.run P (results fn a.tmps) w = Result.ok v w → a.defers = [] → R (Ending.returned v) w → bodyPost P fn R Exit.ret a w := @bodyPost_ret
theorem yu : ∀ {n m k : Nat}, n < m → m ≤ k → n < k := @Nat.lt_of_lt_of_le
theorem yv : ∀ {n m k : Nat}, n ≤ m → m ≤ k → n ≤ k := @Nat.le_trans
theorem yw.{u_1} : ∀ {α : Type u_1} {i : Nat} {l : List α} (h : i < l.length), List.take (i + 1) l = List.take i l ++ [l[i]] := @List.take_succ_eq_append_getElem
theorem yx.{u_1} : ∀ {α : Type u_1} {i : Nat} {l : List α} (h : i < l.length), List.drop i l = l[i] :: List.drop (i + 1) l := @List.drop_eq_getElem_cons
theorem yz.{u_1} : ∀ {α : Type u_1} (l : List α) (i : Nat) (a : α), l.toArray.setIfInBounds i a = (l.set i a).toArray := @List.setIfInBounds_toArray
theorem zc.{u_1} : ∀ {α : Type u_1} {i : Nat} {l : List α}, (List.take i l).length = min i l.length := @List.length_take
theorem ze : ∀ {a b : Bool}, a = b ↔ (a = true ↔ b = true) := @Bool.eq_iff_iff
theorem zg.{u_1} : ∀ {α : Type u_1} (y : α) {a : α} {l : List α}, a ∈ l → a ∈ y :: l := @List.mem_cons_of_mem
theorem zk.{u_1} : ∀ {α : Type u_1} {i : Nat} {b : α} {xs : Array α}, xs[i]? = some b ↔ ∃ (h : i < xs.size), xs[i] = b := @Array.getElem?_eq_some_iff
theorem zm : ∀ (n : Nat), 0 ≤ n := @Nat.zero_le
abbrev vI(x:Int):Value:=.int .i64 x
abbrev vP(b o:Nat):Value:=.pointer (some ⟨b,o,none⟩)
abbrev vS(x:Array UInt8):Value:=.string ⟨x⟩
abbrev vT(x:List UInt8):Value:=.string ⟨x.toArray⟩
theorem zD {α : Sort _} (a : α) : ∃ x, x = a := ⟨a, rfl⟩
theorem zE {α : Sort _} (a : α) : ∃ x, a = x := ⟨a, rfl⟩
theorem zT {a b c : World} (h : Hid (Below a.heap.size a b)) (k : Below b.heap.size b c) : Hid (Below a.heap.size a c) := h.out.trans (k.mono h.out.size)
theorem zU {a b c : World} (h : Below a.heap.size a b) (k : Below b.heap.size b c) : Below a.heap.size a c := h.trans (k.mono h.size)
theorem zN {B : Nat} {a w : World} (h : Below B a w) (n : Nat) : Below B a (w.drewN n) := ⟨h.os, h.tape, h.output, h.size, h.block⟩
theorem zA {w W : World} {o : Obj} (h : W = w.alloc o) : Hid (Below w.heap.size w W) := h ▸ zp o
theorem zF {w v W : World} {o : Obj} (k : Hid (Below w.heap.size w v)) (h : W = v.alloc o) : Hid (Below w.heap.size w W) := h ▸ k.out.alloc k.out.size o
theorem zB {n : Nat} {w : World} : Below n w w := Below.refl _ _
abbrev Bs:=List UInt8
def aC(c:UInt8):Bool:=decide (48<=c.toNat)&&decide (c.toNat<=57)
def aU(p:UInt8->Bool):Bs->Nat
 | []=>0
 |c::l=>if p c then aU p l+1 else 0
theorem cJ(p:UInt8->Bool)(l:Bs):aU p l<=l.length:=by
 induction l with
 |nil=>simp[aU]
 |cons c l ih=>simp only[aU,yi];split <;> omega
theorem runP_lt(p:UInt8->Bool)(l:Bs)(k:Nat)(hk:k<aU p l)(h:k<l.length):p l[k]=true:=by
 induction l generalizing k with
 |nil=>simp at h
 |cons c l ih=>
  simp only[aU]at hk
  split at hk
  case isTrue hc=>
   cases k with
   |zero=>simpa using hc
   |succ k=>simpa using ih k (by omega) (by simpa using h)
  case isFalse=>omega
theorem kP(p:UInt8->Bool)(l:Bs)(h:aU p l<l.length):p l[aU p l]=false:=by
 induction l with
 |nil=>simp at h
 |cons c l ih=>
  by_cases hc:p c=true
  ·have e:aU p (c::l)=aU p l+1:=by simp[aU,hc]
   simp only[e,List.getElem_cons_succ];exact ih (by rw[e]at h;simpa using h)
  have e:aU p (c::l)=0:=by simp[aU,hc]
  simp only[e,List.getElem_cons_zero];simpa using hc
theorem iL(p:UInt8->Bool)(l:Bs)(k:Nat)(hk:k<=aU p l)(h:k<l.length)(hp:p l[k]=true):k+1<=aU p l:=by
 rcases Nat.lt_or_ge k (aU p l) with h1|h1
 ·exact h1
 have e:k=aU p l:=by omega
 subst e;rw[kP p l h]at hp;cases hp
theorem mX(p:UInt8->Bool)(l:Bs)(k:Nat)(hk:k<=aU p l)(h:k<l.length)(hp:p l[k]=false):aU p l=k:=by
 rcases Nat.lt_or_ge k (aU p l) with h1|h1
 ·rw[runP_lt p l k h1 h]at hp;cases hp
 omega
theorem S_get(l:Bs)(a:Nat)(h:a<(ByteArray.mk l.toArray).size):(ByteArray.mk l.toArray)[a]=l[a]'(by simpa [ByteArray.size] using h):=by
 exact List.getElem_toArray (xs:=l) (i:=a) (by simpa [ByteArray.size] using h)
theorem uDU(l:Bs)(a b:Nat):(ByteArray.mk l.toArray).extract a b=⟨((l.drop a).take (b-a)).toArray⟩:=by
 apply ByteArray.ext;simp[ByteArray.data_extract,List.extract_toArray,List.extract_eq_take_drop]
theorem tF(l:Bs)(a:Nat):List.take (l.length-a) (List.drop a l)=List.drop a l:=List.take_of_length_le (by simp)
attribute [go_sem] S_get uDU tF
theorem nB{c d:UInt8}(h:c.toNat=d.toNat):c=d:=UInt8.toNat.inj h
def bH(l:Bs)(k:Nat)(c:UInt8):Bool:=l[k]?==some c
theorem qH(l:Bs)(k:Nat)(c:UInt8)(n:Int)(hn:(c.toNat:Int)=n)(h:k<l.length):((l[k].toNat:Int)==n)=bH l k c:=by
 subst hn;unfold bH;rw[List.getElem?_eq_getElem h,ze,beq_iff_eq,beq_iff_eq];constructor
 ·intro e;rw[nB (c:=l[k]) (d:=c) (by omega)]
 intro e;injection e with e;rw[e]
theorem at_bne(l:Bs)(k:Nat)(c:UInt8)(n:Int)(hn:(c.toNat:Int)=n)(h:k<l.length):((l[k].toNat:Int) != n)=!bH l k c:=by
 rw[<- qH l k c n hn h];rfl
theorem nI(l:Bs)(k:Nat)(c:UInt8)(h:l.length<=k):bH l k c=false:=by
 unfold bH;rw[List.getElem?_eq_none h];rfl
theorem wK(l:Bs)(k:Nat)(c:UInt8)(h:bH l k c=true):k<l.length:=by
 rcases Nat.lt_or_ge k l.length with h1|h1
 ·exact h1
 rw[nI l k c h1]at h;cases h
theorem aA{a b:Bool}(h:a=b):Ending.returned (.bool a)=.returned (.bool b):=by rw[h]
theorem mU{k:IntKind}{a b:Int}(h:a=b):Ending.returned (.int k a)=.returned (.int k b):=by rw[h]
theorem S_append(a b:Bs):(ByteArray.mk a.toArray)++(ByteArray.mk b.toArray)=⟨(a++b).toArray⟩:=by
 apply ByteArray.ext;simp[ByteArray.data_append]
attribute [go_sem] S_append
def isLow(c:UInt8):Bool:=decide (97<=c.toNat)&&decide (c.toNat<=122)
def up(c:UInt8):UInt8:=if isLow c then c-32 else c
def Row(w:World)(b:Nat)(m:Bs):Prop:=∀ j (h:j<m.length),w.cell? ⟨b,j,none⟩=some (.int .u8 (m[j].toNat:Int))/\w.frozen? ⟨b,j,none⟩=false
def fQ:Nat->Nat->Nat
 |0,_=>1
 |f+1,n=>if n<10 then 1 else fQ f (n / 10)+1
def gF(n:Nat):Nat:=fQ 20 n
theorem uER:∀ (f g n:Nat),n<10 ^ (f+1)->n<10 ^ (g+1)->fQ f n=fQ g n:=by
 intro f
 induction f with
 |zero=>
  intro g n hf hg;have:n<10:=by simpa using hf
  cases g with
  |zero=>rfl
  |succ g=>simp[fQ,this]
 |succ f ih=>
  intro g n hf hg;cases g with
  |zero=>
   have:n<10:=by simpa using hg
   simp[fQ,this]
  |succ g=>
   simp only[fQ]
   split
   ·rfl
   rw[ih g (n / 10)]
   ·rw[Nat.div_lt_iff_lt_mul (by decide)];rw[Nat.pow_succ]at hf;exact hf
   rw[Nat.div_lt_iff_lt_mul (by decide)];rw[Nat.pow_succ]at hg;exact hg
theorem zR(n:Nat)(h:n<10):gF n=1:=by unfold gF fQ;rw[if_pos h]
theorem digs_big(n:Nat)(h:¬ n<10)(hn:n<18446744073709551616):gF n=gF (n / 10)+1:=by
 unfold gF;rw[fQ,if_neg h,uER 19 20 (n / 10)]
 ·have:n / 10<1844674407370955162:=by omega
  exact yu this (by decide)
 have:n / 10<1844674407370955162:=by omega
 exact yu this (by decide)
theorem mF(n:Nat):1<=gF n/\gF n<=21:=by
 have:∀ f n,1<=fQ f n/\fQ f n<=f+1:=by
  intro f
  induction f with
  |zero=>intro n;simp[fQ]
  |succ f ih=>
   intro n;simp only[fQ]
   split
   ·omega
   have:=ih (n / 10);omega
 exact this 20 n
theorem nDig_lt:∀ (f n:Nat),n<10 ^ (f+1)->n<10 ^ fQ f n:=by
 intro f
 induction f with
 |zero=>intro n h;simpa [fQ] using h
 |succ f ih=>
  intro n h;simp only[fQ]
  split
  ·omega
  have h1:n / 10<10 ^ (f+1):=by rw[Nat.div_lt_iff_lt_mul (by decide)];rw[Nat.pow_succ]at h;exact h
  have:=ih (n / 10) h1;rw[Nat.pow_succ];omega
theorem nDig_ge:∀ (f n:Nat),0<n->10 ^ (fQ f n-1)<=n:=by
 intro f
 induction f with
 |zero=>intro n h;simp[fQ];omega
 |succ f ih=>
  intro n h;simp only[fQ]
  split
  ·simp;omega
  have h1:=ih (n / 10) (by omega);have h2:1<=fQ f (n / 10):=by
   cases f with
   |zero=>simp[fQ]
   |succ f=>simp only[fQ];split <;> omega
  rw[show fQ f (n / 10)+1-1=(fQ f (n / 10)-1)+1 by omega,Nat.pow_succ];omega
theorem digs_lt(n:Nat)(h:n<1000000000000000):n<10 ^ gF n:=nDig_lt 20 n (yu h (by decide))
theorem digs_ge(n:Nat)(h:0<n):10 ^ (gF n-1)<=n:=nDig_ge 20 n h
def p10(n:Nat):Nat:=10 ^ n
def bF(m e:Int):Bool :=
 if m=0 then decide (e=0)
 else decide (m.natAbs<1000000000000000)&&decide (m.natAbs % 10≠0)&&decide (-40<=e)&&decide (e<40)&&decide ((gF m.natAbs:Int)+e<=40)
theorem kN{m e:Int}(h:bF m e=true)(h0:m≠0):m.natAbs<1000000000000000/\m.natAbs % 10≠0/\-40<=e/\e<40/\(gF m.natAbs:Int)+e<=40:=by
 unfold bF at h;rw[if_neg h0]at h;simp only[yh,decide_eq_true_eq]at h;exact⟨h.1.1.1.1,h.1.1.1.2,h.1.1.2,h.1.2,h.2⟩
def cM(ds:List Nat):Nat:=ds.foldl (fun a d=>10*a+d) 0
def Dig(ds:List Nat):Prop:=∀ d∈ds,d<=9
theorem rM(ds:List Nat)(a:Nat):ds.foldl (fun a d=>10*a+d) a=a*10 ^ ds.length+cM ds:=by
 induction ds generalizing a with
 |nil=>simp[cM]
 |cons d ds ih=>
  simp only[List.foldl_cons,yi];rw[ih (10*a+d)];have h:cM (d::ds)=(10*0+d)*10 ^ ds.length+cM ds:=by
   show List.foldl _ _ ds=_;rw[ih]
  rw[h,Nat.pow_succ,Nat.add_mul];have e1:a*(10 ^ ds.length*10)=10*a*10 ^ ds.length:=by rw[Nat.mul_comm (10 ^ ds.length) 10,<- Nat.mul_assoc,Nat.mul_comm a 10]
  rw[e1];simp only[Nat.mul_zero,Nat.zero_add];omega
theorem uET:cM []=0:=rfl
theorem iX(d:Nat)(ds:List Nat):cM (d::ds)=d*10 ^ ds.length+cM ds:=by
 show List.foldl _ _ ds=_;rw[rM];simp
theorem iW(a b:List Nat):cM (a++b)=cM a*10 ^ b.length+cM b:=by
 unfold cM;rw[List.foldl_append,rM];rfl
theorem rN(a:List Nat)(d:Nat):cM (a++[d])=10*cM a+d:=by
 rw[iW,iX];simp[uET];omega
theorem Dig.tail{d:Nat}{ds:List Nat}(h:Dig (d::ds)):Dig ds:=fun x hx=>h x (zg _ hx)
theorem Dig.head{d:Nat}{ds:List Nat}(h:Dig (d::ds)):d<=9:=h d (List.mem_cons_self ..)
theorem Dig.append{a b:List Nat}(ha:Dig a)(hb:Dig b):Dig (a++b):=fun x hx=>by
 rcases List.mem_append.1 hx with h|h
 ·exact ha x h
 exact hb x h
theorem natOf_lt(ds:List Nat)(h:Dig ds):cM ds<10 ^ ds.length:=by
 induction ds with
 |nil=>simp[cM]
 |cons d ds ih=>
  rw[iX,yi,Nat.pow_succ];have h1:=ih h.tail;have h2:=h.head;have h3:d*10 ^ ds.length<=9*10 ^ ds.length:=Nat.mul_le_mul_right _ h2;omega
theorem natOf_ge(d:Nat)(ds:List Nat)(h:d≠0):10 ^ ds.length<=cM (d::ds):=by
 rw[iX];have:1*10 ^ ds.length<=d*10 ^ ds.length:=Nat.mul_le_mul_right _ (by omega);omega
theorem pB(n:Nat):cM (List.replicate n 0)=0:=by
 induction n with
 |zero=>rfl
 |succ n ih=>rw[List.replicate_succ,iX,ih];simp
def jU:Nat->Nat->Nat
 |0,_=>0
 |f+1,n=>if n=0 then 0 else jU f (n / 10)+1
def eQ(n:Nat):Nat:=jU n n
theorem qP:∀ f n,n<=f->n<10 ^ jU f n/\(0<n->0<jU f n/\10 ^ (jU f n-1)<=n):=by
 intro f
 induction f with
 |zero=>intro n h;simp[jU];omega
 |succ f ih=>
  intro n h;simp only[jU]
  split
  ·rename_i h0;subst h0;simp
  rename_i h0
  obtain⟨h1,h2⟩:=ih (n / 10) (by omega);refine⟨by rw[Nat.pow_succ];omega,fun _=>⟨by omega,?_⟩⟩;rcases Nat.eq_zero_or_pos (n / 10) with hz|hz
  ·rw[hz];cases f with
   |zero=>simp[jU];omega
   |succ f=>simp[jU];omega
  obtain⟨h3,h4⟩:=h2 hz;rw[show jU f (n / 10)+1-1=(jU f (n / 10)-1)+1 by omega,Nat.pow_succ];omega
theorem jC{a b:Nat}(h:10 ^ a<10 ^ b):a<b:=by
 rcases Nat.lt_or_ge a b with h1|h1
 ·exact h1
 have:=Nat.pow_le_pow_right (n:=10) (by decide) h1;omega
theorem uAH{n a b:Nat}(ha:0<a)(hb:0<b)(h1:10 ^ (a-1)<=n)(h2:n<10 ^ a)(h3:10 ^ (b-1)<=n)(h4:n<10 ^ b):a=b:=by
 have h5:a-1<b:=jC (Nat.lt_of_le_of_lt h1 h4);have h6:b-1<a:=jC (Nat.lt_of_le_of_lt h3 h2);omega
theorem nM:eQ 0=0:=rfl
theorem uCX(n:Nat):n<10 ^ eQ n:=(qP n n zr).1
theorem qQ(n:Nat)(h:0<n):0<eQ n:=((qP n n zr).2 h).1
theorem qA(n:Nat)(h:0<n):10 ^ (eQ n-1)<=n:=((qP n n zr).2 h).2
theorem vK{n a:Nat}(ha:0<a)(h1:10 ^ (a-1)<=n)(h2:n<10 ^ a):eQ n=a:=by
 have hp:0<n:=yu (Nat.pow_pos (by decide)) h1;exact uAH (qQ n hp) ha (qA n hp) (uCX n) h1 h2
theorem tR(n:Nat)(h0:0<n)(h:n<1000000000000000):gF n=eQ n :=
 (vK (by have:=mF n;omega) (digs_ge n h0) (digs_lt n h)).symm
theorem zV(d:Nat)(ds:List Nat)(h:Dig (d::ds))(h0:d≠0):eQ (cM (d::ds))=ds.length+1 :=
 vK (by omega) (by simpa using natOf_ge d ds h0) (natOf_lt _ h)
def rhe(n k:Nat):Nat:=if 10 ^ k<2*(n % 10 ^ k)\/(2*(n % 10 ^ k)=10 ^ k/\n / 10 ^ k % 2=1) then n / 10 ^ k+1 else n / 10 ^ k
def sL:Nat->Nat->Int->Nat×Int
 |0,n,e=>(n,e)
 |f+1,n,e=>if n % 10=0 then sL f (n / 10) (e+1) else (n,e)
def pE(n:Nat)(e:Int):Nat×Int:=if n=0 then (0,0) else sL n n e
theorem uBX:∀ f g n e,0<n->n<=f->n<=g->sL f n e=sL g n e:=by
 intro f
 induction f with
 |zero=>intro g n e h0 h1 h2;omega
 |succ f ih=>
  intro g n e h0 h1 h2;cases g with
  |zero=>omega
  |succ g=>
   simp only[sL]
   split
   ·exact ih g (n / 10) (e+1) (by omega) (by omega) (by omega)
   rfl
theorem uAV(n:Nat)(e:Int)(h0:0<n)(h:n % 10=0):pE n e=pE (n / 10) (e+1):=by
 unfold pE;rw[if_neg (by omega),if_neg (by omega)];obtain⟨f,rfl⟩:∃ f,n=f+1:=⟨n-1,by omega⟩
 rw[sL,if_pos h];exact uBX _ _ _ _ (by omega) (by omega) zr
theorem uAW(n:Nat)(e:Int)(h:n % 10≠0):pE n e=(n,e):=by
 unfold pE;have:n≠0:=by intro h0;subst h0;simp at h
 rw[if_neg this];obtain⟨f,rfl⟩:∃ f,n=f+1:=⟨n-1,by omega⟩
 rw[sL,if_neg h]
def kA(n:Nat)(e:Int):Nat×Int:=if 15<eQ n then (rhe n (eQ n-15),e+((eQ n-15:Nat):Int)) else (n,e)
def pC(n:Nat)(e:Int):Nat×Int:=if e< -40 then (rhe n (-40-e).toNat,-40) else (n,e)
def uDI(neg:Bool)(n:Nat)(e:Int):Option (Int×Int) :=
 if n=0 then some (0,0) else if 40<(eQ n:Int)+e then none else some (if neg then -(n:Int) else n,e)
def rT(neg:Bool)(n:Nat)(e:Int):Option (Int×Int) :=
 uDI neg (pE (pC (kA n e).1 (kA n e).2).1 (pC (kA n e).1 (kA n e).2).2).1 (pE (pC (kA n e).1 (kA n e).2).1 (pC (kA n e).1 (kA n e).2).2).2
def Lead(ds:List Nat):Prop:=∀ d t,ds=d::t->d≠0
theorem lead_len{ds:List Nat}(h:Lead ds)(hd:Dig ds):eQ (cM ds)=ds.length:=by
 cases ds with
 |nil=>rfl
 |cons d t=>exact zV d t hd (h d t rfl)
def dlF:Nat->Nat->List Nat
 |0,_=>[]
 |f+1,n=>if n=0 then [] else dlF f (n / 10)++[n % 10]
def dl(n:Nat):List Nat:=dlF n n
theorem dlF_fuel:∀ f g n,n<=f->n<=g->dlF f n=dlF g n:=by
 intro f
 induction f with
 |zero=>
  intro g n h1 h2;obtain rfl:n=0:=by omega
  cases g <;> simp[dlF]
 |succ f ih=>
  intro g n h1 h2;cases g with
  |zero=>
   obtain rfl:n=0:=by omega
   simp[dlF]
  |succ g=>
   simp only[dlF]
   split
   ·rfl
   rw[ih g (n / 10) (by omega) (by omega)]
theorem uCW:dl 0=[]:=rfl
theorem iT(n:Nat)(h:0<n):dl n=dl (n / 10)++[n % 10]:=by
 unfold dl;obtain⟨f,rfl⟩:∃ f,n=f+1:=⟨n-1,by omega⟩
 rw[dlF,if_neg (by omega),dlF_fuel f ((f+1) / 10) _ (by omega) zr]
theorem zS(P:Nat->Prop)(h0:P 0)(hs:∀ n,0<n->P (n / 10)->P n):∀ n,P n:=by
 intro n
 induction n using Nat.strongRecOn with
 |_ n ih=>
  rcases Nat.eq_zero_or_pos n with h|h
  ·rw[h];exact h0
  exact hs n h (ih (n / 10) (by omega))
theorem dl_nat(n:Nat):cM (dl n)=n:=by
 refine zS (fun n=>cM (dl n)=n) rfl (fun n h ih=>?_) n;rw[iT n h,rN,ih];omega
theorem dl_dig(n:Nat):Dig (dl n):=by
 refine zS (fun n=>Dig (dl n)) (fun _ h=>by cases h) (fun n h ih=>?_) n;rw[iT n h];exact ih.append (fun d hd=>by simp at hd;omega)
theorem dl_ne(n:Nat)(h:0<n):dl n≠[]:=by rw[iT n h];simp
theorem dl_lead(n:Nat):Lead (dl n):=by
 refine zS (fun n=>Lead (dl n)) (fun d t h=>by cases h) (fun n h ih=>?_) n;intro d t e;rw[iT n h]at e;rcases Nat.eq_zero_or_pos (n / 10) with z|z
 ·rw[z,uCW]at e;simp at e;omega
 cases hd:dl (n / 10) with
 |nil=>exact absurd hd (dl_ne _ z)
 |cons x l=>
  rw[hd]at e ih;simp at e;rw[<- e.1];exact ih x l rfl
theorem dl_len(n:Nat):(dl n).length=eQ n:=by
 rw[<- lead_len (dl_lead n) (dl_dig n),dl_nat]
theorem tQ(n:Nat)(h:n<18446744073709551616):(dl n).length<=20:=by
 rw[dl_len];rcases Nat.eq_zero_or_pos n with z|z
 ·rw[z,nM];omega
 have h1:=qA n z;have h2:10 ^ (eQ n-1)<10 ^ 20:=Nat.lt_of_le_of_lt h1 (yu h (by decide));have:=jC h2;omega
def dL(l:Bs):List Nat:=l.map fun c=>c.toNat-48
theorem gU(a b:Bs):dL (a++b)=dL a++dL b:=by simp[dL]
theorem mE(a:Bs):(dL a).length=a.length:=by simp[dL]
theorem eM(c:UInt8):aC c=true↔48<=c.toNat/\c.toNat<=57:=by simp[aC]
structure Rd where
 st:Nat
 neg:Bool
 negPow:Bool
 ds:List Nat
 behind:Nat
 pow:Nat
def rd0:Rd:=⟨0,false,false,[],0,0⟩
def qB(p d:Nat):Nat:=if p<100000 then p*10+d else p
def Rd.digit(r:Rd)(d:Nat):Rd :=
 if r.st<=2 then { r with st:=2,ds:=r.ds++[d] }
 else if r.st<=4 then { r with st:=4,ds:=r.ds++[d],behind:=r.behind+1 }
 else { r with st:=7,pow:=qB r.pow d }
def Rd.take(r:Rd)(c:Nat):Option Rd :=
 if 48<=c/\c<=57 then some (r.digit (c-48))
 else if c=45/\r.st=0 then some { r with neg:=true,st:=1 }
 else if c=46/\r.st<=2 then some { r with st:=3 }
 else if (c=101\/c=69)/\(r.st=2\/r.st=4) then some { r with st:=5 }
 else if (c=45\/c=43)/\r.st=5 then some { r with negPow:=decide (c=45),st:=6 }
 else none
def Rd.all:Rd->Bs->Option Rd
 |r,[]=>some r
 |r,c::l=>match r.take c.toNat with|some r'=>r'.all l|none=>none
def Rd.fin(r:Rd):Option (Bool×List Nat×Nat×Bool×Nat):=if r.st=2\/r.st=4\/r.st=7 then some (r.neg,r.ds,r.behind,r.negPow,r.pow) else none
def Rd.digits(r:Rd)(l:List Nat):Rd:=l.foldl Rd.digit r
theorem vB(r:Rd)(l:Bs):r.all l=(r.digits (dL (l.take (aU aC l)))).all (l.drop (aU aC l)):=by
 induction l generalizing r with
 |nil=>rfl
 |cons c l ih=>
  by_cases h:aC c=true
  ·have e:aU aC (c::l)=aU aC l+1:=by simp[aU,h]
   rw[e];simp only[List.take_succ_cons,List.drop_succ_cons];have hc:=(eM c).1 h;show (match r.take c.toNat with|some r'=>r'.all l|none=>none)=_;have ht:r.take c.toNat=some (r.digit (c.toNat-48)):=if_pos hc;rw[ht];exact ih _
  have e:aU aC (c::l)=0:=by simp[aU,h]
  rw[e];rfl
theorem vJ(L:List Nat)(r:Rd)(h:r.st<=2)(hL:L≠[]):r.digits L={ r with st:=2,ds:=r.ds++L }:=by
 induction L generalizing r with
 |nil=>exact absurd rfl hL
 |cons d L ih=>
  have e:r.digit d={ r with st:=2,ds:=r.ds++[d] }:=if_pos h;show (r.digit d).digits L=_;rw[e];by_cases hl:L=[]
  ·rw[hl];rfl
  rw[ih _ zr hl];simp
theorem wQ(L:List Nat)(r:Rd)(h:r.st=3\/r.st=4)(hL:L≠[]):r.digits L={ r with st:=4,ds:=r.ds++L,behind:=r.behind+L.length }:=by
 induction L generalizing r with
 |nil=>exact absurd rfl hL
 |cons d L ih=>
  have e:r.digit d={ r with st:=4,ds:=r.ds++[d],behind:=r.behind+1 }:=by
   unfold Rd.digit;rw[if_neg (by omega),if_pos (by omega)]
  show (r.digit d).digits L=_;rw[e];by_cases hl:L=[]
  ·rw[hl];rfl
  rw[ih _ (.inr rfl) hl];simp;omega
theorem zQ(L:List Nat)(r:Rd)(h:5<=r.st)(hL:L≠[]):r.digits L={ r with st:=7,pow:=L.foldl qB r.pow }:=by
 induction L generalizing r with
 |nil=>exact absurd rfl hL
 |cons d L ih=>
  have e:r.digit d={ r with st:=7,pow:=qB r.pow d }:=by
   unfold Rd.digit;rw[if_neg (by omega),if_neg (by omega)]
  show (r.digit d).digits L=_;rw[e];by_cases hl:L=[]
  ·rw[hl];rfl
  rw[ih _ (by show 5<=7;omega) hl];rfl
def iJ(l:Bs):Option (Bool×List Nat) :=
 match l with
 | []=>some (false,[])
 |c::l=>if c=101\/c=69 then
   (let i:=if bH l 0 43||bH l 0 45 then 1 else 0
    if aU aC (l.drop i)=0\/i+aU aC (l.drop i)≠l.length then none else some (bH l 0 45,dL (l.drop i)))
  else none
def mS(l:Bs):Option (Bool×List Nat×Nat×Bool×List Nat) :=
 let i:=if bH l 0 45 then 1 else 0
 let a:=aU aC (l.drop i)
 if bH l (i+a) 46 then
  let b:=aU aC (l.drop (i+a+1))
  if b=0 then none else (iJ (l.drop (i+a+1+b))).map fun p=>(bH l 0 45,dL ((l.drop i).take a)++dL ((l.drop (i+a+1)).take b),b,p.1,p.2)
 else if a=0 then none else (iJ (l.drop (i+a))).map fun p=>(bH l 0 45,dL ((l.drop i).take a),0,p.1,p.2)
def powN(L:List Nat):Nat:=L.foldl qB 0
theorem vX(r:Rd)(l:Bs)(h:r.st=5\/r.st=6)(h0:r.pow=0)(hs:r.st=5->∀ c t,l=c::t->c≠43/\c≠45) :
  (r.all l).bind Rd.fin=if aU aC l=0\/aU aC l≠l.length then none else some (r.neg,r.ds,r.behind,r.negPow,powN (dL l)):=by
 have hle:=cJ aC l;rw[vB];by_cases hz:aU aC l=0
 ·rw[hz,if_pos (.inl rfl)];simp only[List.take_zero,List.drop_zero];show (r.all l).bind Rd.fin=none;cases l with
  |nil=>simp only[Rd.all,Option.bind_some];unfold Rd.fin;rw[if_neg (by omega)]
  |cons c t=>
   have hd:aC c=false:=by
    cases hc:aC c
    ·rfl
    simp[aU,hc]at hz
   have hn:¬ (48<=c.toNat/\c.toNat<=57):=fun h=>by rw[(eM c).2 h]at hd;cases hd
   have ht:r.take c.toNat=none:=by
    unfold Rd.take;rw[if_neg hn,if_neg (by omega),if_neg (by omega),if_neg (by omega),if_neg ?_];rintro⟨h1,h2⟩;obtain⟨h3,h4⟩:=hs h2 c t rfl;rcases h1 with h1|h1
    ·exact h4 (nB (by rw[h1];rfl))
    exact h3 (nB (by rw[h1];rfl))
   simp only[Rd.all,ht];rfl
 have cg:dL (l.take (aU aC l))≠[]:=by
  intro h;have:=congrArg List.length h;rw[mE,zc]at this;simp at this;rcases this with h1|h1
  ·exact hz h1
  rw[h1]at hz;exact hz rfl
 rw[zQ _ r (by omega) cg];by_cases hf:aU aC l=l.length
 ·rw[if_neg (by omega),hf,List.drop_of_length_le zr,List.take_of_length_le zr];simp only[Rd.all,Option.bind_some];unfold Rd.fin;rw[if_pos (.inr (.inr rfl)),h0];rfl
 rw[if_pos (.inr hf)];have hlt:aU aC l<l.length:=by omega
 have en:=kP aC l hlt;rw[yx hlt];generalize l[aU aC l]=c at *;have hn:¬ (48<=c.toNat/\c.toNat<=57):=fun h=>by rw[(eM c).2 h]at en;cases en
 generalize hr:({ r with st:=7,pow:=_ }:Rd)=q;have hq:q.st=7:=by rw[<- hr]
 have ht:q.take c.toNat=none:=by
  unfold Rd.take;rw[if_neg hn,if_neg (by omega),if_neg (by omega),if_neg (by omega),if_neg (by omega)]
 simp only[Rd.all,ht];rfl
theorem xH(r:Rd)(l:Bs)(h:r.st=2\/r.st=4)(h0:r.pow=0)(h1:r.negPow=false)(hd:∀ c t,l=c::t->aC c=false/\(r.st=2->c≠46)) :
  (r.all l).bind Rd.fin=(iJ l).map fun p=>(r.neg,r.ds,r.behind,p.1,powN p.2):=by
 cases l with
 |nil=>
  simp only[Rd.all,Option.bind_some];unfold Rd.fin iJ;rw[if_pos (by omega),h0,h1];rfl
 |cons c t=>
  obtain⟨d1,d2⟩:=hd c t rfl;have hn:¬ (48<=c.toNat/\c.toNat<=57):=fun h=>by rw[(eM c).2 h]at d1;cases d1
  by_cases he:c=101\/c=69
  ·have ht:r.take c.toNat=some { r with st:=5 }:=by
    have j4:c.toNat=101\/c.toNat=69:=by rcases he with e|e <;> rw[e] <;> decide
    unfold Rd.take;rw[if_neg hn,if_neg (by omega),if_neg (by omega),if_pos ⟨j4,by omega⟩]
   simp only[Rd.all,ht];unfold iJ;simp only;rw[if_pos he];cases t with
   |nil=>
    have:=vX { r with st:=5 } [] (.inl rfl) h0 (fun _ c t h=>by cases h);rw[this];rfl
   |cons x t=>
    have e43:bH (x::t) 0 43=(x==43):=by unfold bH;simp
    have e45:bH (x::t) 0 45=(x==45):=by unfold bH;simp
    rw[e43,e45];by_cases hx:x=43\/x=45
    ·have r9:({ r with st:=5 }:Rd).take x.toNat=some { r with st:=6,negPow:=(x==45) }:=by
      rcases hx with e|e <;> subst e <;> rfl
     have hb:(x==43||x==45)=true:=by rcases hx with e|e <;> subst e <;> rfl
     rw[hb];simp only[Rd.all,r9,if_true,List.drop_succ_cons,List.drop_zero];rw[vX ⟨6,r.neg,(x==45),r.ds,r.behind,r.pow⟩ t (.inr rfl) h0 (fun h=>absurd h (by decide:¬ (6:Nat)=5))];by_cases hk:aU aC t=0\/aU aC t≠t.length
     ·rw[if_pos hk,if_pos (by simp only[yi];omega)];rfl
     rw[if_neg hk,if_neg (by simp only[yi];omega)];rfl
    have hb:(x==43||x==45)=false:=by
     rw[Bool.or_eq_false_iff,beq_eq_false_iff_ne,beq_eq_false_iff_ne];exact⟨fun e=>hx (.inl e),fun e=>hx (.inr e)⟩
    have hb2:(x==45)=false:=(Bool.or_eq_false_iff.1 hb).2;rw[hb,hb2];simp only[Bool.false_eq_true,if_false,List.drop_zero,Nat.zero_add];rw[vX { r with st:=5 } (x::t) (.inl rfl) h0 (fun _ c' t' h=>by injection h with h1 h2;subst h1;exact⟨fun e=>hx (.inl e),fun e=>hx (.inr e)⟩)];by_cases hk:aU aC (x::t)=0\/aU aC (x::t)≠(x::t).length
    ·rw[if_pos hk,if_pos hk];rfl
    rw[if_neg hk,if_neg hk];simp only[Option.map_some];rw[h1]
  have ht:r.take c.toNat=none:=by
   unfold Rd.take;rw[if_neg hn,if_neg (by omega),if_neg ?_,if_neg ?_,if_neg (by omega)]
   ·rintro⟨e,_⟩;rcases e with e|e
    ·exact he (.inl (nB (by rw[e];rfl)))
    exact he (.inr (nB (by rw[e];rfl)))
   rintro⟨e,en⟩;exact d2 (by omega) (nB (by rw[e];rfl))
  simp only[Rd.all,ht];unfold iJ;simp only;rw[if_neg he];rfl
theorem mG{l t:Bs}{n:Nat}{c:UInt8}(h:l.drop n=c::t)(d:UInt8):bH l n d=(c==d):=by
 unfold bH;have:l[n]?=some c:=by
  have:=congrArg (fun x=>x[0]?) h;simpa using this
 rw[this];simp
theorem xD(r:Rd)(l:Bs)(hr:r={ rd0 with neg:=r.neg,st:=r.st })(h:r.st<=1)(hm:r.st=0->bH l 0 45=false) :
  (r.all l).bind Rd.fin=(if bH l (aU aC l) 46 then
   (if aU aC (l.drop (aU aC l+1))=0 then none else (iJ (l.drop (aU aC l+1+aU aC (l.drop (aU aC l+1))))).map fun p=>(r.neg,dL (l.take (aU aC l))++dL ((l.drop (aU aC l+1)).take (aU aC (l.drop (aU aC l+1)))),aU aC (l.drop (aU aC l+1)),p.1,powN p.2))
  else if aU aC l=0 then none else (iJ (l.drop (aU aC l))).map fun p=>(r.neg,dL (l.take (aU aC l)),0,p.1,powN p.2)):=by
 have hle:=cJ aC l;have h0:r.pow=0:=by rw[hr];rfl
 have h1:r.negPow=false:=by rw[hr];rfl
 have h2:r.ds=[]:=by rw[hr];rfl
 have h3:r.behind=0:=by rw[hr];rfl
 rw[vB];have ni:∀ c t,l.drop (aU aC l)=c::t->aC c=false:=by
  intro c t e;have hlt:aU aC l<l.length:=by
   rcases Nat.lt_or_ge (aU aC l) l.length with g|g
   ·exact g
   rw[List.drop_of_length_le g]at e;cases e
  rw[yx hlt]at e;injection e with e1 _;rw[<- e1];exact kP aC l hlt
 have hlen:(dL (l.take (aU aC l))).length=aU aC l:=by rw[mE,zc];omega
 generalize hn:aU aC l=n at *;obtain⟨q,hq,q1,q2,q3,q4,q5,q6,q7⟩:∃ q:Rd,r.digits (dL (l.take n))=q/\q.st<=2/\(q.st=2↔n≠0)/\q.neg=r.neg/\q.ds=dL (l.take n)/\q.behind=0/\q.pow=0/\q.negPow=false:=by
  by_cases hz:n=0
  ·subst hz;exact⟨r,rfl,by omega,by constructor <;> intro g <;> omega,rfl,by rw[h2];rfl,h3,h0,h1⟩
  have cg:dL (l.take n)≠[]:=by intro e;rw[e]at hlen;simp at hlen;omega
  refine⟨_,vJ _ r (by omega) cg,zr,⟨fun _=>hz,fun _=>rfl⟩,rfl,?_,h3,h0,h1⟩;show r.ds++_=_;rw[h2];rfl
 rw[hq];cases hd:l.drop n with
 |nil=>
  have im:bH l n 46=false:=nI l n 46 (by
   have:=congrArg List.length hd;rw[yk]at this;simp at this;omega)
  rw[im];simp only[Bool.false_eq_true,if_false,Rd.all,Option.bind_some];by_cases hz:n=0
  ·rw[if_pos hz];have:q.st≠2:=fun g=>(q2.1 g) hz
   unfold Rd.fin;rw[if_neg (by omega)]
  rw[if_neg hz];unfold Rd.fin iJ;rw[if_pos (.inl (q2.2 hz)),q3,q4,q5,q6,q7];rfl
 |cons c t=>
  have hc:=ni c t hd;have hnd:¬ (48<=c.toNat/\c.toNat<=57):=fun g=>by rw[(eM c).2 g]at hc;cases hc
  rw[mG hd 46];by_cases h46:c=46
  ·subst h46;have ht:q.take (46:UInt8).toNat=some { q with st:=3 }:=by
    unfold Rd.take;rw[if_neg (by decide),if_neg (by intro g;exact absurd g.1 (by decide)),if_pos ⟨rfl,q1⟩]
   have hdt:l.drop (n+1)=t:=by
    have:l.drop (n+1)=(l.drop n).drop 1:=by rw[List.drop_drop]
    rw[this,hd];rfl
   have hdb:∀ b,l.drop (n+1+b)=t.drop b:=by
    intro b;rw[<- List.drop_drop,hdt]
   simp only[Rd.all,ht,beq_self_eq_true,if_true];rw[hdt,hdb,vB];have hlet:=cJ aC t;by_cases hb:aU aC t=0
   ·rw[if_pos hb,hb];simp only[List.take_zero,List.drop_zero];show (Rd.all { q with st:=3 } t).bind Rd.fin=none;cases t with
    |nil=>rfl
    |cons x t=>
     have hx:aC x=false:=by
      cases hx:aC x
      ·rfl
      simp[aU,hx]at hb
     have hxn:¬ (48<=x.toNat/\x.toNat<=57):=fun g=>by rw[(eM x).2 g]at hx;cases hx
     have ht3:({ q with st:=3 }:Rd).take x.toNat=none:=by
      unfold Rd.take;simp only;rw[if_neg hxn,if_neg (by omega),if_neg (by omega),if_neg (by omega),if_neg (by omega)]
     simp only[Rd.all,ht3];rfl
   rw[if_neg hb];have cg:dL (t.take (aU aC t))≠[]:=by
    intro e;have:=congrArg List.length e;rw[mE,zc]at this;simp only[List.length_nil]at this;omega
   rw[wQ _ { q with st:=3 } (.inl rfl) cg];have hlt2:(dL (t.take (aU aC t))).length=aU aC t:=by rw[mE,zc];omega
   rw[hlt2];refine(xH ⟨4,q.neg,q.negPow,q.ds++dL (t.take (aU aC t)),q.behind+aU aC t,q.pow⟩ (t.drop (aU aC t)) (.inr rfl) q6 q7 ?_).trans ?_
   rotate_left
   ·simp only[q3,q4,q5,Nat.zero_add]
   intro x t' e;have hlt:aU aC t<t.length:=by
    rcases Nat.lt_or_ge (aU aC t) t.length with g|g
    ·exact g
    rw[List.drop_of_length_le g]at e;cases e
   rw[yx hlt]at e;injection e with e1 _;rw[<- e1];exact⟨kP aC t hlt,fun g=>absurd g (by decide:¬ (4:Nat)=2)⟩
  have hb:(c==46)=false:=by rw[beq_eq_false_iff_ne];exact h46
  rw[hb];simp only[Bool.false_eq_true,if_false];by_cases hz:n=0
  ·rw[if_pos hz];have en:q.st≠2:=fun g=>(q2.1 g) hz
   have hqr:q=r:=by rw[<- hq,hz];rfl
   have h45:q.st=0->c≠45:=by
    intro g e;have ly:=hm (by rw[<- hqr];exact g);rw[hz]at hd;rw[mG hd 45,e]at ly;exact absurd ly (by decide)
   have ht:q.take c.toNat=none:=by
    unfold Rd.take;rw[if_neg hnd,if_neg ?_,if_neg ?_,if_neg (by omega),if_neg (by omega)]
    ·rintro⟨e,_⟩;exact h46 (nB (by rw[e];rfl))
    rintro⟨e,g⟩;exact h45 g (nB (by rw[e];rfl))
   simp only[Rd.all,ht];rfl
  rw[if_neg hz,xH q (c::t) (.inl (q2.2 hz)) q6 q7 (fun x t' e=>by injection e with e1 _;subst e1;exact⟨hc,fun _=>h46⟩)];simp only[q3,q4,q5]
theorem all_text(l:Bs):(rd0.all l).bind Rd.fin=(mS l).map fun p=>(p.1,p.2.1,p.2.2.1,p.2.2.2.1,powN p.2.2.2.2):=by
 unfold mS;cases h:bH l 0 45
 ·rw[xD rd0 l rfl (by decide) (fun _=>h)];simp only[Bool.false_eq_true,if_false,List.drop_zero,Nat.zero_add]
  split
  ·split
   ·rfl
   rw[Option.map_map];rfl
  split
  ·rfl
  rw[Option.map_map];rfl
 have hl:0<l.length:=wK _ _ _ h;cases l with
 |nil=>simp at hl
 |cons c t=>
  have hc:c=45:=by
   unfold bH at h;simpa using h
  subst hc;have j5:rd0.all (45::t)=Rd.all ⟨1,true,false,[],0,0⟩ t:=rfl;have im:∀ n d,bH (45::t) (1+n) d=bH t n d:=by
   intro n d;unfold bH;rw[Nat.add_comm];rfl
  rw[j5,xD ⟨1,true,false,[],0,0⟩ t rfl (by decide) (fun g=>by cases g)];have hd:∀ n,List.drop (1+n) (45::t)=List.drop n t:=by intro n;rw[Nat.add_comm];rfl
  have e1:∀ a,1+a+1=1+(a+1):=by intro a;omega
  have e2:∀ a b,1+(a+1)+b=1+(a+1+b):=by intro a b;omega
  have si:List.drop 1 (45::t)=t:=rfl;simp only[if_true,si,e1,e2,hd,im]
  split
  ·split
   ·rfl
   rw[Option.map_map];rfl
  split
  ·rfl
  rw[Option.map_map];rfl
theorem uBE{P:Program}{f:FuncId}{args:Array Value}{w:World}{n:Nat}{v:Value}
  (h:Calls P f args (w.drewN n) fun e w'=>e=.returned v/\w.drewN n=w'):Calls P f args (w.drewN n) fun e w''=>e=.returned v/\∃ m,w''=w.drewN m :=
 h.mono fun _ _ ⟨he,hm⟩=>⟨he,n,hm.symm⟩
theorem u64_wrap(n:Int)(h:0<=n/\n<=18446744073709551615):IntKind.u64.wrap n=n:=by
 simp[IntKind.wrap,IntKind.bits,IntKind.signed];omega
theorem xY(m:Int)(w:World)(h1:-9223372036854775808<=m)(h2:m<=9223372036854775807) :
  Calls Tryz.prog 179 #[vI m] w fun e w'=>e=.returned (.int .u64 (m.natAbs:Int))/\w=w':=by
 by_cases h:m<0
 ·go_in
  go_wp2
  go_ret
  exact⟨mU (by simp[IntKind.wrap,IntKind.bits,IntKind.signed];omega),rfl⟩
 go_in
 go_wp2
 go_ret
 exact⟨mU (by omega),rfl⟩
theorem uEG(n:Nat)(w:World)(h:n<18446744073709551616) :
  Calls Tryz.prog 180 #[.int .u64 n] w fun e w'=>e=.returned (vI (gF n))/\w=w':=by
 have HN:Hid (n<18446744073709551616):=zh h;clear h;have HD:Hid (gF n=gF n):=zh rfl
 go_in
 go_wp2
 go_loop [0,3] (fun v d=>∃ (x k:Nat),v=.int .u64 x/\d=vI k/\k<=21/\x<=n/\Hid (k+gF x=gF n+1)) (fun v _=>(intOf v).toNat)
 case atStart=>exact⟨n,1,rfl,rfl,by omega,zr,zh (by omega)⟩
 case round=>
  obtain⟨x,k,rfl,rfl,hk,hx,hq⟩:=hrel;have hd:=mF n;have hdx:=mF x;by_cases vc:x<10
  ·have sc:Hid (k=gF n):=zh (by have:=hq.out;rw[zR x vc]at this;omega)
   go_wp2
   go_ret
   exact⟨mU (by rw[sc.out]),rfl⟩
  have hb:=digs_big x vc (by have:=HN.out;omega);have sc:Hid (k+1+gF (x / 10)=gF n+1):=zh (by have:=hq.out;omega);have er:k+1<=21:=by have:=hq.out;have:=mF (x / 10);omega
  clear hb;have hw:Hid (IntKind.u64.wrap ((x:Int) / 10)=((x / 10:Nat):Int)):=zh (by rw[u64_wrap _ (by have:=HN.out;omega)];omega)
  go_wp2
  go_round
  case rel=>exact⟨x / 10,k+1,by rw[hw.out],by go_num,er,by omega,sc⟩
  case measure=>rw[hw.out];simp[intOf];omega
abbrev xC(m e:Int):Value:=.agg #[vI m,vI e]
theorem oD(m e:Int)(w:World)(h1:-9223372036854775808<=m)(h2:m<=9223372036854775807) :
  Calls Tryz.prog 109 #[xC m e] w fun x w'=>x=.returned (.bool (bF m e))/\Below w.heap.size w w':=by
 have hN:bF m e=if m=0 then decide (e=0) else decide (m.natAbs<1000000000000000)&&decide (m.natAbs % 10≠0)&&decide (-40<=e)&&decide (e<40)&&decide ((gF m.natAbs:Int)+e<=40):=rfl
 have HN:=zh hN;clear hN;generalize bF m e=r at *;have HB:Hid (Below w.heap.size w (w.alloc (.cells #[vI m,vI e] 23))):=zh ((Below.refl _ w).alloc zr _);by_cases h0:m=0
 ·rw[if_pos h0]at HN;subst h0
  go_in
  go_wp2_with fail
  go_ret
  exact⟨aA (by rw[HN.out];rfl),HB.out⟩
 rw[if_neg h0]at HN;have b0:(m==0)=false:=by rw[beq_eq_false_iff_ne];exact h0
 have hx:m.natAbs<18446744073709551616:=by omega
 have hd:=mF m.natAbs;clear h0
 go_in
 go_wp2_with fail
 refine(xY m _ h1 h2).mono ?_;rintro e1 w' ⟨rfl,rfl⟩;generalize m.natAbs=x at *;have HX:=zh hx;have H1:=zh h1;have H2:=zh h2;clear hx h1 h2;by_cases c1:x<1000000000000000
 ·have d1:decide ((1000000000000000:Int)<=(x:Int))=false:=by simp;omega
  rw[decide_eq_true c1]at HN;clear c1;by_cases c2:x % 10≠0
  ·have b2:((x:Int) % 10==0)=false:=by rw[beq_eq_false_iff_ne];omega
   rw[decide_eq_true c2]at HN;clear c2;by_cases c3:-40<=e
   ·by_cases c4:e<40
    ·rw[decide_eq_true c3,decide_eq_true c4]at HN;have o4:Hid (r=decide ((gF x:Int)+e<=40)):=zh (by rw[HN.out];rfl);clear HN
     go_wp2_with fail
     go_quiet ((go_at_call 180;exact uBE (uEG x _ HX.out)))
     go_wp2_with fail
     go_ret
     exact⟨aA (by rw[o4.out]),zN HB.out _⟩
    rw[decide_eq_false c4]at HN;have o4:Hid (r=false):=zh (by rw[HN.out];simp);clear HN
    go_wp2_with fail
    go_ret
    exact⟨aA (by rw[o4.out]),HB.out⟩
   rw[decide_eq_false c3]at HN;have o4:Hid (r=false):=zh (by rw[HN.out];simp);clear HN
   go_wp2_with fail
   go_ret
   exact⟨aA (by rw[o4.out]),HB.out⟩
  have b2:((x:Int) % 10==0)=true:=by rw[beq_iff_eq];omega
  rw[decide_eq_false c2]at HN;have o4:Hid (r=false):=zh (by rw[HN.out];simp);clear HN c2
  go_wp2_with fail
  go_ret
  exact⟨aA (by rw[o4.out]),HB.out⟩
 have d1:decide ((1000000000000000:Int)<=(x:Int))=true:=by simp;omega
 rw[decide_eq_false c1]at HN;have o4:Hid (r=false):=zh (by rw[HN.out];simp);clear HN c1
 go_wp2_with fail
 go_ret
 exact⟨aA (by rw[o4.out]),HB.out⟩
theorem qM(l:Bs)(w:World):∃ (cap:Nat) (W1:World),(convert 9 110 (vT l)).run Tryz.prog w=.ok (.slice (some ⟨w.heap.size,0,none⟩) l.length cap) W1/\Row W1 w.heap.size l/\Below w.heap.size w W1:=by
 have h:=run_bytes_of_string (P:=Tryz.prog) w 9 110 5 ⟨l.toArray⟩ Tryz.underlying9 Tryz.underlying110 Tryz.underlying5;have ap:(ByteArray.mk l.toArray).size=l.length:=by simp[ByteArray.size]
 rw[ap]at h;refine⟨_,_,h,?_,(Below.refl _ w).drew.alloc zr _⟩;intro j hj;have e:(w.drew).heap.size=w.heap.size:=rfl;have hlen:(bytesRow ⟨l.toArray⟩ (grownCap w l.length 0 5)).size >= l.length:=by simp[bytesRow]
 refine⟨?_,?_⟩
 ·have:=World.cell?_alloc_mark w.drew (bytesRow ⟨l.toArray⟩ (grownCap w l.length 0 5)) 5 ((bytesRow ⟨l.toArray⟩ (grownCap w l.length 0 5)).size,(bytesRow ⟨l.toArray⟩ (grownCap w l.length 0 5)).size+1) j;rw[e]at this;rw[this];unfold bytesRow;rw[Array.getElem?_append_left (by simpa using hj)];simp[hj]
 have:=World.frozen?_alloc_mark w.drew (bytesRow ⟨l.toArray⟩ (grownCap w l.length 0 5)) 5 (bytesRow ⟨l.toArray⟩ (grownCap w l.length 0 5)).size ((bytesRow ⟨l.toArray⟩ (grownCap w l.length 0 5)).size+1) j;rw[e]at this;rw[this];simp;omega
def jV:Nat->Bs
 |1=>[35,68,73,86,47,48,33]
 |2=>[35,86,65,76,85,69,33]
 |3=>[35,82,69,70,33]
 |4=>[35,78,65,77,69,63]
 |5=>[35,78,85,77,33]
 |6=>[35,78,47,65]
 |7=>[35,83,80,73,76,76,33]
 |8=>[35,67,73,82,67,33]
 |9=>[35,67,65,76,67,33]
 |_=>[]
def Tab(w:World):Prop:=∀ i,i<10->w.cell? ⟨0,i,none⟩=some (vT (jV i))
theorem dA{w:World}{a:Addr}{v:Value}(h:w.cell? a=some v):a.block<w.heap.size:=by
 rcases Nat.lt_or_ge a.block w.heap.size with h1|h1
 ·exact h1
 unfold World.cell? at h;simp[Array.getElem?_eq_none h1]at h
theorem Tab.lt{w:World}(h:Tab w):0<w.heap.size:=dA (h 0 (by decide))
theorem Tab.below{w w':World}{B:Nat}(h:Tab w)(hb:Below B w w')(hB:0<B):Tab w':=fun i hi=>(hb.cell (p:=⟨0,i,none⟩) hB).trans (h i hi)
theorem Tab.next{w w':World}(h:Tab w)(hb:Below w.heap.size w w'):Tab w':=h.below hb h.lt
theorem Tab.alloc{w:World}(h:Tab w)(o:Obj):Tab (w.alloc o):=h.next ((Below.refl _ w).alloc zr o)
def bA(n:Int):Bs:=if 1<=n/\n<=9 then jV n.toNat else []
theorem hG(n:Int)(w:World)(ht:Tab w) :
  Calls Tryz.prog 113 #[vI n] w fun e w'=>e=.returned (vT (bA n))/\w=w':=by
 by_cases h:1<=n/\n<=9
 ·have hN:bA n=jV n.toNat:=if_pos h;have HN:=zh hN;clear hN;obtain⟨h1,h2⟩:=h;have hc:=ht n.toNat (by omega);clear ht;generalize bA n=r at *;generalize jV n.toNat=t at *
  go_in
  go_wp2
  go_ret
  exact⟨by rw[HN.out];rfl,rfl⟩
 have hN:bA n=[]:=if_neg h;have HN:=zh hN;clear hN ht;generalize bA n=r at *;by_cases h1:1<=n
 ·have h2:9<n:=by omega
  clear h
  go_in
  go_wp2
  go_ret
  exact⟨by rw[HN.out];rfl,rfl⟩
 clear h
 go_in
 go_wp2
 go_ret
 exact⟨by rw[HN.out];rfl,rfl⟩
structure Val where
 kind:Int
 mant:Int
 exp:Int
 text:Bs
 truth:Bool
 fault:Int
def aD:Val:=⟨0,0,0,[],false,0⟩
abbrev kZ(v:Val):Array Value:=#[vI v.kind,vI v.mant,vI v.exp,vT v.text,.bool v.truth,vI v.fault]
abbrev iB(v:Val):Value:=.agg (kZ v)
abbrev put6(w:World)(n:Nat)(v:Val):World :=
 (((((w.setCell ⟨n,0,none⟩ (vI v.kind)).setCell ⟨n,1,none⟩ (vI v.mant)).setCell ⟨n,2,none⟩ (vI v.exp)).setCell ⟨n,3,none⟩ (vT v.text)).setCell ⟨n,4,none⟩ (.bool v.truth)).setCell ⟨n,5,none⟩ (vI v.fault)
theorem rY{w w':World}{n B:Nat}(v:Val)(h:Below B w w')(hn:B<=n):Below B w (put6 w' n v) :=
 (((((h.setCell (p:=⟨n,0,none⟩) hn _).setCell (p:=⟨n,1,none⟩) hn _).setCell (p:=⟨n,2,none⟩) hn _).setCell (p:=⟨n,3,none⟩) hn _).setCell (p:=⟨n,4,none⟩) hn _).setCell (p:=⟨n,5,none⟩) hn _
theorem idx_no(l:Bs)(c:UInt8)(h:Lib.indexByte l c<0):c∉l:=by
 induction l with
 |nil=>simp
 |cons b l ih=>
  unfold Lib.indexByte at h;by_cases hb:(b==c)=true
  ·rw[if_pos hb]at h;omega
  rw[if_neg hb]at h;have cg:b≠c:=fun e=>hb (by rw[e];simp)
  by_cases h1:(Lib.indexByte l c==-1)=true
  ·have:Lib.indexByte l c<0:=by have:=eq_of_beq h1;omega
   simp[ih this,Ne.symm cg]
  rw[if_neg h1]at h;have:Lib.indexByte l c<0:=by omega
  simp[ih this,Ne.symm cg]
theorem uDF(l:Bs)(c:UInt8)(h:0<=Lib.indexByte l c):∃ n:Nat,Lib.indexByte l c=n/\n<l.length/\c∉l.take n/\l=l.take n++c::l.drop (n+1):=by
 induction l with
 |nil=>simp[Lib.indexByte]at h
 |cons b l ih=>
  by_cases hb:(b==c)=true
  ·have e:b=c:=eq_of_beq hb;refine⟨0,by unfold Lib.indexByte;rw[if_pos hb];rfl,by simp,by simp,by simp[e]⟩
  unfold Lib.indexByte at h;rw[if_neg hb]at h;have cg:b≠c:=fun e=>hb (by rw[e];simp)
  by_cases h1:(Lib.indexByte l c==-1)=true
  ·rw[if_pos h1]at h;omega
  rw[if_neg h1]at h;have h2:0<=Lib.indexByte l c:=by
   have:Lib.indexByte l c≠-1:=fun e=>h1 (by rw[e];rfl)
   omega
  obtain⟨n,h3,h4,h5,h6⟩:=ih h2;refine⟨n+1,by unfold Lib.indexByte;rw[if_neg hb,if_neg h1,h3];rfl,by simpa using h4,by simp[h5,Ne.symm cg],?_⟩;simp only[List.take_succ_cons,List.drop_succ_cons,yp];rw[<- h6]
theorem u8_back(c:UInt8):((c.toNat:Int)).toNat.toUInt8=c:=by
 apply nB;simp[Nat.toUInt8]
theorem tA(s:Bs)(c:UInt8)(w:World) :
  Calls Tryz.prog 106 #[vT s,.int .u8 (c.toNat:Int)] w fun e w'=>e=.returned (vI (Lib.indexByte s c))/\w=w' :=
 (Tryz.strings_IndexByte ⟨s.toArray⟩ (c.toNat:Int) w).mono fun _ _ ⟨h1,h2⟩=>⟨by rw[h1,u8_back],h2.symm⟩
end Go.Proofs.YtjfihpaeglpblaaGreatDoor
set_option linter.unusedVariables false
namespace Go.Proofs.YtjfihpaeglpblaaGreatDoor
open Go.RowKit
theorem pL:(Tryz.prog.info? 112).map (·.size)=some 2:=by kernel_rfl
theorem xA:liesAt Tryz.prog Tryz.prog.depth 112 (2 / Tryz.prog.cellsOf 112) 0 112 1=true:=by kernel_rfl
theorem qY:(Tryz.prog.info? 5).map (fun i=>(i.zero,i.size,i.bytes))=some (some (.int .u8 0),1,1):=by kernel_rfl
theorem jR(b:Nat)(w:World)(h0:w.cell? ⟨b,0,none⟩=some (vP b 0)) :
  Calls Tryz.prog 107 #[vP b 0] w fun e w'=>e=.returned (.tuple #[])/\w=w':=by
 obtain⟨j,hj,_⟩:=Option.map_eq_some_iff.1 pL
 go_in
 go_wp2
 rw[Lib.run_neq_ptr_same w _ Tryz.underlying109 hj]
 go_wp2
 go_end0
 exact⟨rfl,rfl⟩
theorem jG(b:Nat)(w:World)(h0:w.cell? ⟨b,0,none⟩=some (.pointer none))(hsh:w.shape? b=some (112,2))(hfz:w.frozen? ⟨b,0,none⟩=false) :
  Calls Tryz.prog 107 #[vP b 0] w fun e w'=>e=.returned (.tuple #[])/\w.setCell ⟨b,0,none⟩ (vP b 0)=w':=by
 obtain⟨j,hj,hjs⟩:=Option.map_eq_some_iff.1 pL
 go_in
 go_wp2
 rw[Lib.run_to_unsafe w ⟨b,0,none⟩ Tryz.underlying109 Tryz.underlying210 hj (by rw[hjs];decide) hsh (Nat.zero_lt_succ 1)];simp only[Result.andThen];rw[Oper.upon_value]
 go_wp2
 rw[run_callFunc_extern Tryz.func174 (by kernel_rfl) (by kernel_rfl) (by kernel_rfl) (e:=Extern.AbiNoEscape.same) (by kernel_rfl)];rw[Lib.run_noEscape];simp only[Result.andThen];rw[Oper.upon_value]
 go_wp2
 rw[Lib.run_from_unsafe w ⟨b,0,none⟩ Tryz.underlying210 Tryz.underlying109 hj hsh xA];simp only[Result.andThen];rw[Oper.upon_value]
 go_wp2
 go_end0
 exact⟨rfl,rfl⟩
theorem sX(B b:Nat)(bs:List Value)(w:World)(h:Lib.IsBuilder 112 5 B b bs w) :
  Calls Tryz.prog 107 #[vP b 0] w fun e w'=>e=.returned (.tuple #[])/\(Lib.BuilderAt 112 5 B b (vP b 0) bs w'/\Below B w w'):=by
 rcases h with h|h
 ·refine(jG b w h.cell0 h.shape h.frozen0).mono ?_;rintro e w' ⟨rfl,rfl⟩;exact⟨rfl,h.used _,(Below.refl B w).setCell (p:=⟨b,0,none⟩) h.1 _⟩
 refine(jR b w h.cell0).mono ?_;rintro e w' ⟨rfl,rfl⟩;exact⟨rfl,h,Below.refl B _⟩
theorem jL(B b:Nat)(l t:Bs)(w:World)(h:Lib.IsBuilder 112 5 B b (Lib.byteCells l) w)(hlen:l.length+t.length<=140737488355328)(hBw:B<=w.heap.size) :
  Calls Tryz.prog 56 #[vP b 0,vT t] w fun e w'=>e=.returned (.tuple #[vI t.length,.nilIface])/\(Lib.IsBuilder 112 5 B b (Lib.byteCells (l++t)) w'/\Below B w w'):=by
 have sj:(Lib.byteCells l).length=l.length:=Lib.byteCells_length l;have e1:Lib.byteCells (l++t)=Lib.byteCells l++Lib.strCells ⟨t.toArray⟩:=by rw[Lib.byteCells_append,Lib.strCells_eq]
 have hlen:(Lib.byteCells l).length+t.length<=140737488355328:=by omega
 have E1:=zh e1;clear sj e1;generalize Lib.byteCells l=bs at *;have ap:(ByteArray.mk t.toArray).size=t.length:=by simp[ByteArray.size]
 have hb:bs.length+(ByteArray.mk t.toArray).size<=140737488355328:=by omega
 obtain⟨i0,hi,m6,ix,ku⟩:=info_parts qY;have ew:=zh ap;clear ap
 go_in
 go_wp2_with (go_at_call 107;refine(sX B b bs _ h).mono ?_)
 rintro e w1 ⟨rfl,h1,ab⟩;obtain⟨hB,v,fu,az,cg⟩:=h1;have c0:w1.cell? ⟨b,0,none⟩=some (vP b 0):=by rw[Lib.cell_of_heap fu];rfl
 have c1:w1.cell? ⟨b,1,none⟩=some v:=by rw[Lib.cell_of_heap fu];rfl
 go_wp2_with (at_builtin;refine Lib.wpList_append_own_string _ rfl _ _ 110 9 rfl B 5 i0 Tryz.underlying110 Tryz.underlying9 hi m6 ix ku _ _ _ rfl az ⟨t.toArray⟩ rfl ?c3 ?c4 ?c5 ?_)
 case c3=>unfold maxLen;omega
 case c4=>omega
 case c5=>have:=ab.size;omega
 intro v' w2 ee dg _;have hlt:b<w1.heap.size:=by
  rcases Nat.lt_or_ge b w1.heap.size with h'|h'
  ·exact h'
  simp[Array.getElem?_eq_none h']at fu
 have hb2:w2.heap[b]?=some (.cells #[vP b 0,v] 112 (0,0)):=by
  rw[dg.block b hlt (fun e=>cg e.symm)];exact fu
 have d0:w2.cell? ⟨b,0,none⟩=some (vP b 0):=by rw[Lib.cell_of_heap hb2];rfl
 have d1:w2.cell? ⟨b,1,none⟩=some v:=by rw[Lib.cell_of_heap hb2];rfl
 have f1:w2.frozen? ⟨b,1,none⟩=false:=Lib.frozen_of_heap hb2 1;obtain⟨ao,n',cap,rfl⟩:∃ ao n' cap,v'=.slice ao n' cap:=by
  rcases ee.2 with⟨hv,_⟩|⟨g,cap,cur,hv,_⟩
  ·exact⟨_,_,_,hv⟩
  exact⟨_,_,_,hv⟩
 go_wp2
 go_ret2
 refine⟨rfl,?_,?_⟩
 ·rw[E1.out];exact .inr (Lib.BuilderAt.put (T:=112) (e:=5) hB hb2 (bs':=bs++Lib.strCells ⟨t.toArray⟩) (by simpa [Lib.strCells_length,ByteArray.size] using ee) (by decide))
 exact(ab.grown dg (by have:=ab.size;omega) (fun k hk=>(az.lt k hk).1)).setCell (p:=⟨b,1,none⟩) hB _
structure Tok where
 kind:Nat
 text:Bs
 place:Nat
theorem lE{a w:World}(h:Below a.heap.size a w)(row:Option Nat):a.grownBy w row:=⟨h.os,h.tape,h.output,h.size,fun i hi _=>h.block i hi⟩
theorem aL{a w:World}(h:Below a.heap.size a w){base:Nat}{e:TypeId}{size:Nat}{v:Value}{n:Nat}{xs:List Value}(ho:a.ownsRow base e size v n xs):w.ownsRow base e size v n xs:=by
 refine ho.kept (lE h none) ?_;cases hv:v.ownBlock with
 |none=>exact .inl rfl
 |some k=>exact .inr (by simp)
def cB:Bs->Bs
 | []=>[]
 |c::l=>if c=34 then 34::34::cB l else c::cB l
theorem uBF(a b:Bs):cB (a++b)=cB a++cB b:=by
 induction a with
 |nil=>rfl
 |cons c a ih=>simp only[yp,cB];split <;> simp[ih]
theorem rZ(a:Bs):(cB a).length<=2*a.length:=by
 induction a with
 |nil=>simp[cB]
 |cons c a ih=>simp only[cB];split <;> simp only[yi] <;> omega
def Lies(w:World)(g:Nat)(t:TypeId)(cs:Array Value):Prop:=w.heap[g]?=some (.cells cs t (0,0))
theorem Lies.lt{w:World}{g:Nat}{t:TypeId}{cs:Array Value}(h:Lies w g t cs):g<w.heap.size:=(zk.1 h).1
theorem Lies.cell{w:World}{g:Nat}{t:TypeId}{cs:Array Value}(h:Lies w g t cs)(i:Nat):w.cell? ⟨g,i,none⟩=cs[i]?:=cell_of_row w g i cs t (0,0) h
theorem Lies.frozen{w:World}{g:Nat}{t:TypeId}{cs:Array Value}(h:Lies w g t cs)(i:Nat):w.frozen? ⟨g,i,none⟩=false:=by
 unfold Lies at h;simp[World.frozen?,h]
theorem Lies.put{w:World}{g:Nat}{t:TypeId}{cs:Array Value}(h:Lies w g t cs)(i:Nat)(u:Value):Lies (w.setCell ⟨g,i,none⟩ u) g t (cs.setIfInBounds i u):=by
 unfold Lies at h ⊢;simp[World.setCell,Array.getElem?_modify,h]
theorem Lies.new(w:World)(t:TypeId)(cs:Array Value):Lies (w.alloc (.cells cs t)) w.heap.size t cs:=heap_alloc_new w _
theorem zL {w W : World} {c : Array Value} {T : TypeId} (h : W = w.alloc (.cells c T)) : Hid (Lies W w.heap.size T c) := h ▸ Lies.new w _ _
theorem Lies.alloc{w:World}{g:Nat}{t:TypeId}{cs:Array Value}(h:Lies w g t cs)(o:Obj):Lies (w.alloc o) g t cs:=(Below.heap_alloc w o g h.lt).trans h
theorem Lies.grown{w w':World}{g:Nat}{t:TypeId}{cs:Array Value}{row:Option Nat}(h:Lies w g t cs)(hg:w.grownBy w' row)(hr:some g≠row):Lies w' g t cs:=(hg.block g h.lt hr).trans h
def sg(neg:Bool)(n:Nat):Int:=if neg then -(n:Int) else n
theorem rhe_nil(k:Nat):rhe 0 k=0:=by
 have:0<10 ^ k:=Nat.pow_pos (by decide);unfold rhe;rw[Nat.zero_mod,Nat.zero_div,if_neg (by omega)]
theorem uAS(neg:Bool)(e:Int):rT neg 0 e=some (0,0):=by
 have h1:kA 0 e=(0,e):=if_neg (by rw[nM];omega);have h2:(pC 0 e).1=0:=by
  unfold pC
  split
  ·exact rhe_nil _
  rfl
 unfold rT;rw[h1];simp only[h2];rfl
def finNum(x:Bool×List Nat×Nat×Bool×Nat):Option (Int×Int):=rT x.1 (cM x.2.1) ((if x.2.2.2.1 then -(x.2.2.2.2:Int) else x.2.2.2.2)-(x.2.2.1:Int))
def vW(l:Bs):Option (Int×Int):=if 255<l.length then none else ((rd0.all l).bind Rd.fin).bind finNum
end Go.Proofs.YtjfihpaeglpblaaGreatDoor
