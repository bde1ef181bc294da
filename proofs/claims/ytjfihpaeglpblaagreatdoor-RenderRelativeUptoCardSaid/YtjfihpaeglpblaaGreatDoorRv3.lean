/-
  Lemmas, part 3: PlainM PlainK PlT1 Ord2 Addr1 LexTextsW Addr2 Num11 Addr3 PlainX PlainZ2 Join1 Build2 Csv2 Join2 PFi RefD3 ShownP.
-/
import Derived.Orders
import Derived.Lib.RuneCountTail
import Derived.Lib.TrimU
import Derived.Lib.SpaceUEq
import Derived.Lib.IndexAny
import Derived.Lib.QuoteLoop
import Derived.Laws.OwnMore
import Derived.Test.YtjfihpaeglpblaaGreatDoorRv2
set_option maxHeartbeats 100000000
set_option maxRecDepth 1000000
namespace Go.Proofs.YtjfihpaeglpblaaGreatDoor
open Go.RowKit
theorem at_get{l:Bs}{k:Nat}{c:UInt8}(hlt:k<l.length)(h:bO l k c=true):l[k]=c:=by
 unfold bO at h;rw[List.getElem?_eq_getElem hlt]at h;have:=eq_of_beq h;injection this
def dT(c:Nat):Bs:=if _h:c=0 then [] else dT ((c-1) / 26)++[UInt8.ofNat (65+(c-1) % 26)]
termination_by c
decreasing_by omega
theorem fP:dT 0=[]:=by rw[dT,dif_pos rfl]
theorem eV(c:Nat)(h:0<c):dT c=dT ((c-1) / 26)++[UInt8.ofNat (65+(c-1) % 26)]:=by rw[dT,dif_neg (by omega)]
def bK(c:UInt8):Bool:=decide (65<=c.toNat)&&decide (c.toNat<=90)
theorem cap_of(d:Nat)(h:d<26):bK (UInt8.ofNat (65+d))=true/\(UInt8.ofNat (65+d)).toNat=65+d:=by
 have:=(by decide:∀ d,d<26->bK (UInt8.ofNat (65+d))=true/\(UInt8.ofNat (65+d)).toNat=65+d)
 exact this d h
theorem lets_pos(c:Nat)(h:0<c):0<(dT c).length:=by rw[eV c h];simp
theorem gB(c:Nat)(h:c<=18278):(dT c).length<=3:=by
 by_cases h0:c=0
 ·subst h0;rw[fP];simp
 rw[eV c (by omega),yl];by_cases h1:(c-1) / 26=0
 ·rw[h1,fP];simp
 rw[eV _ (by omega),yl];by_cases h2:((c-1) / 26-1) / 26=0
 ·rw[h2,fP];simp
 rw[eV _ (by omega),yl];have h3:(((c-1) / 26-1) / 26-1) / 26=0:=by omega
 rw[h3,fP];simp
def qY(b:Bool):Bs:=if b then [36] else []
def jC(row col:Nat)(fr fc:Bool):Bs:=qY fc++(dT (col+1)++(qY fr++Lib.decDigits (row+1)))
theorem bM(u k:Nat)(h:u<10 ^ (k+1)):(Lib.decDigits u).length<=k+1:=by
 induction k generalizing u with
 |zero=>rw[Lib.decDigits,dif_pos (by omega)];simp
 |succ k ih=>
  rw[Lib.decDigits];by_cases h1:u<10
  ·rw[dif_pos h1];simp
  rw[dif_neg h1,yl];have:=ih (u / 10) (by rw[Nat.pow_succ]at h;omega);simp;omega
structure IdR where
 a:Int
 n:Int
theorem IdR.ext'{x y:IdR}(h1:x.a=y.a)(h2:x.n=y.n):x=y:=by
 cases x;cases y;cases h1;cases h2;rfl
instance :DecidableEq IdR:=fun x y=>if h:x.a=y.a/\x.n=y.n then .isTrue (IdR.ext' h.1 h.2) else .isFalse (fun e=>h (by rw[e];exact⟨rfl,rfl⟩))
abbrev id0:IdR:=⟨0,0⟩
structure Cor where
 row:IdR
 col:IdR
 fr:Bool
 fc:Bool
theorem Cor.ext'{x y:Cor}(h1:x.row=y.row)(h2:x.col=y.col)(h3:x.fr=y.fr)(h4:x.fc=y.fc):x=y:=by
 cases x;cases y;cases h1;cases h2;cases h3;cases h4;rfl
instance :DecidableEq Cor:=fun x y=>if h:x.row=y.row/\x.col=y.col/\x.fr=y.fr/\x.fc=y.fc then .isTrue (Cor.ext' h.1 h.2.1 h.2.2.1 h.2.2.2) else .isFalse (fun e=>h (by rw[e];exact⟨rfl,rfl,rfl,rfl⟩))
abbrev aQ:Cor:=⟨id0,id0,false,false⟩
structure NodeH where
 kind:Int
 v:Val
 name:Bs
 a:Cor
 b:Cor
 rows:Int
inductive Tree where
 |mk (h:NodeH) (l:List Tree)
def Tree.h:Tree->NodeH
 | .mk h _=>h
def Tree.l:Tree->List Tree
 | .mk _ l=>l
abbrev head0:NodeH:=⟨0,aE,[],aQ,aQ,0⟩
abbrev tree0:Tree:=.mk head0 []
mutual
def Tree.size:Tree->Nat
 | .mk _ l=>aN l+1
def aN:List Tree->Nat
 | []=>0
 |t::r=>t.size+aN r
end
mutual
def Tree.depth:Tree->Nat
 | .mk _ l=>cQ l+1
def cQ:List Tree->Nat
 | []=>0
 |t::r=>max t.depth (cQ r)
end
def NodeH.same(x y:NodeH):Bool:=decide (x.kind=y.kind)&&bD x.v y.v&&x.name==y.name&&decide (x.a=y.a)&&decide (x.b=y.b)&&decide (x.rows=y.rows)
mutual
def Tree.same:Tree->Tree->Bool
 | .mk h l,.mk h' l'=>NodeH.same h h'&&fL l l'
def fL:List Tree->List Tree->Bool
 | [],[]=>true
 |t::r,t'::r'=>t.same t'&&fL r r'
 | [],_::_=>false
 |_::_,[]=>false
end
def aH(s:Bs):Nat:=bA aB s
def aF(s:Bs):Nat:=bA bK s
def bY(s:Bs):Bool :=
 decide (0<s.length)&&decide (s.length<=32)&&bK (s.headD 0)&&s.all (fun c=>bK c||aB c||c==46) &&
  !(decide (aF s+aH (s.drop (aF s))=s.length)&&decide (aF s<=3)&&decide (1<=aH (s.drop (aF s)))&&decide (aH (s.drop (aF s))<=7)&&!bO s (aF s) 48)
def dX(s:Bs):Bool :=
 let a:=if bO s 0 82 then 1+aH (s.drop 1) else 0
 let b:=if bO s a 67 then a+1+aH (s.drop (a+1)) else a
 decide (b=s.length)
def mL:Bs:=[84,82,85,69]
def iU:Bs:=[70,65,76,83,69]
def bS(s:Bs):Bool :=
 decide (0<s.length)&&decide (s.length<=32)&&(bK (s.headD 0)||s.headD 0==95)&&s.all (fun c=>bK c||aB c||c==95||c==46) &&
  !(s==mL||s==iU||dX s) &&
  !(decide (aF s+aH (s.drop (aF s))=s.length)&&decide (1<=aF s)&&decide (aF s<=3)&&decide (1<=aH (s.drop (aF s))))
def unB(s:Bs):Bool:=s==[45]||s==[43]||s==[37]
def mS(s:Bs):Bool:=s==[43]||s==[45]||s==[42]||s==[47]||s==[94]||s==[38]||s==[61]||s==[60,62]||s==[60]||s==[60,61]||s==[62]||s==[62,61]
def dH(v:Val)(inMat:Bool):Bool:=decide (v.kind≠0)&&aW v&&(inMat||decide (0<=v.mant))
def cG(a b:Cor):Bool :=
 let rows:=decide (a.row≠id0)
 let cols:=decide (a.col≠id0)
 (rows==decide (b.row≠id0))&&(cols==decide (b.col≠id0))&&(rows||cols)&&(rows||(!a.fr&&!b.fr))&&(cols||(!a.fc&&!b.fc))
def bJ(h:NodeH)(n:Nat)(kids:List Int)(above:Int):Bool :=
 if h.kind=0 then dH h.v (decide (above=8))&&NodeH.same h ⟨0,h.v,[],aQ,aQ,0⟩&&decide (n=0)
 else if h.kind=1\/h.kind=3 then decide (h.a.row≠id0)&&decide (h.a.col≠id0)&&NodeH.same h ⟨h.kind,aE,[],h.a,aQ,0⟩&&decide (n=0)
 else if h.kind=2 then cG h.a h.b&&NodeH.same h ⟨2,aE,[],h.a,h.b,0⟩&&decide (n=0)
 else if h.kind=4 then bY h.name&&decide (n<=32)&&!(decide (n=1)&&decide (kids=[9]))&&NodeH.same h ⟨4,aE,h.name,aQ,aQ,0⟩
 else if h.kind=5 then unB h.name&&decide (n=1)&&NodeH.same h ⟨5,aE,h.name,aQ,aQ,0⟩
 else if h.kind=6 then mS h.name&&decide (n=2)&&NodeH.same h ⟨6,aE,h.name,aQ,aQ,0⟩
 else if h.kind=7 then bS h.name&&NodeH.same h ⟨7,aE,h.name,aQ,aQ,0⟩&&decide (n=0)
 else if h.kind=8 then decide (1<=h.rows)&&decide (1<=n)&&decide ((n:Int).tmod h.rows=0)&&NodeH.same h ⟨8,aE,[],aQ,aQ,h.rows⟩
 else if h.kind=9 then decide (above=4)&&NodeH.same h ⟨9,aE,[],aQ,aQ,0⟩&&decide (n=0)
 else false
mutual
def Tree.right:Tree->Int->Bool
 | .mk h l,above=>bJ h l.length (l.map fun t=>t.h.kind) above&&aZ l h.kind
def aZ:List Tree->Int->Bool
 | [],_=>true
 |t::r,k=>(decide (k≠8)||decide (t.h.kind=0))&&t.right k&&aZ r k
end
def dP(t:Tree):Nat:=if 256<t.size then 5 else if 32<t.depth then 8 else if t.right 6 then 0 else 6
def hd(ts:List Tok):Tok:=ts.headD ⟨0,[],0⟩
open Go
def Up(zl:Array Bool)(i:Nat):Prop:=zl.getD i false=true
theorem Up.of_false{zl:Array Bool}{i:Nat}(h:zl.getD i true=false):i<zl.size:=by
 rcases Nat.lt_or_ge i zl.size with h1|h1
 ·exact h1
 simp[Array.getElem?_eq_none h1]at h
theorem Up.set{zl:Array Bool}{i j:Nat}(hs:i<zl.size):Up (zl.setIfInBounds i true) j↔(j=i\/Up zl j):=by
 unfold Up;by_cases h:i=j
 ·subst h;simp[hs]
 rw[getD_set_ne false h];constructor
 ·exact .inr
 rintro(e|e)
 ·exact absurd e.symm h
 exact e
theorem Up.none(n i:Nat):¬ Up (Array.replicate n false) i:=by
 unfold Up;simp only[Array.getD_eq_getD_getElem?,Array.getElem?_replicate]
 split <;> simp
def kO(ops:Array Oper):Bool:=(List.range ops.size).all fun i=>((ops[i]?).map fun o=>o.after.all fun e=>decide (e.on<i)).getD true
theorem mE{ops:Array Oper}(h:kO ops=true){i:Nat}{o:Oper}(ho:ops[i]?=some o):∀ e∈o.after,e.on<i:=by
 intro e he;have hlt:i<ops.size:=(zk.1 ho).1;have:=List.all_eq_true.1 h i (yg.2 hlt);rw[ho]at this;simp only[Option.map_some,Option.getD_some,Array.all_eq_true_iff_forall_mem]at this;exact of_decide_eq_true (this e he)
theorem all_up{md:Region.Mode}{ops:Array Oper}(hb:kO ops=true){zl:Array Bool}(hs:zl.size=ops.size)(hr:Region.ready md ops zl=[]):∀ i,i<ops.size->Up zl i:=by
 intro i
 induction i using Nat.strongRecOn with
 |_ i ih=>
  intro hi;cases hu:zl.getD i true
  ·exfalso
   have ho:ops[i]?=some ops[i]:=Array.getElem?_eq_getElem hi;have:i∈Region.ready md ops zl:=mem_ready.2 ⟨hu,ops[i],ho,fun e he _=>ih e.on (mE hb ho e he) (Nat.lt_trans (mE hb ho e he) hi)⟩;rw[hr]at this;cases this
  have yc:i<zl.size:=by omega
  unfold Up;simp only[Array.getD_eq_getD_getElem?,Array.getElem?_eq_getElem yc,Option.getD_some]at hu ⊢;exact hu
def left(zl:Array Bool):Nat:=zl.toList.countP (fun b=>!b)
theorem sK{zl:Array Bool}{i:Nat}(h:zl.getD i true=false):left (zl.setIfInBounds i true)+1=left zl:=by
 have hi:=Up.of_false h;have hv:zl[i]=false:=by simpa [hi] using h
 unfold left;obtain⟨l⟩:=zl;simp only[yd]at hi;simp only[List.getElem_toArray]at hv;simp only[yz];have e1:l=l.take i++l[i]::l.drop (i+1):=by
  rw[<- yx hi,List.take_append_drop]
 have e2:l.set i true=l.take i++true::l.drop (i+1):=List.set_eq_take_append_cons_drop.trans (if_pos hi);rw[e2]
 conv=>rhs;rw[e1]
 rw[List.countP_append,List.countP_append,List.countP_cons,List.countP_cons,hv];simp;omega
theorem vB{zl:Array Bool}(h:left zl=0)(i:Nat):zl.getD i true=true:=by
 cases hu:zl.getD i true
 ·have:=sK hu;omega
 rfl
section
variable {P:Program} {ops:Array Oper} {Q:Exit->Act->World->Prop} {md:Region.Mode}
theorem wF(hb:kO ops=true)(I:Array Bool->Act->World->Prop)
  (cm:∀ zl a w i o,zl.size=ops.size->I zl a w->zl.getD i true=false->ops[i]?=some o->(∀ e∈o.after,Region.binds md e=true->Up zl e.on)->wpOp P ops Q i (I (zl.setIfInBounds i true)) a w)
  (cq:∀ zl a w,I zl a w->(∀ i,i<ops.size->Up zl i)->Q .normal a w) :
  ∀ (fuel:Nat) (zl:Array Bool) (a:Act) (w:World),zl.size=ops.size->left zl<=fuel->I zl a w->wpAny P md ops Q fuel zl a w
 |0,zl,a,w,hs,hf,hI=>by
  have hr:Region.ready md ops zl=[]:=by
   refine List.eq_nil_iff_forall_not_mem.2 (fun i hi=>?_);have h1:=(mem_ready.1 hi).1;rw[vB (by omega) i]at h1;cases h1
  exact⟨hr,cq zl a w hI (all_up hb hs hr)⟩
 |fuel+1,zl,a,w,hs,hf,hI=>by
  refine⟨fun hr=>cq zl a w hI (all_up hb hs hr),fun i hi=>?_⟩;obtain⟨h1,o,ho,zd⟩:=mem_ready.1 hi;refine wpOp_mono (fun a' w' h'=>wF hb I cm cq fuel _ a' w' (by rw[Array.size_setIfInBounds];exact hs) (by have:=sK h1;omega) h') (cm zl a w i o hs hI h1 ho zd)
theorem kX(n:Nat):left (Array.replicate n false)=n:=by
 unfold left;simp[List.countP_replicate]
theorem uM{id:Nat}{a:Act}{w:World}(hm:P.follows .mixedOrders=true)(hb:kO ops=true)(I:Array Bool->Act->World->Prop)
  (h0:I (Array.replicate ops.size false) a w.drew)
  (cm:∀ zl a w i o,zl.size=ops.size->I zl a w->zl.getD i true=false->ops[i]?=some o->(∀ e∈o.after,Region.binds .any e=true->Up zl e.on)->wpOp P ops Q i (I (zl.setIfInBounds i true)) a w)
  (cq:∀ zl a w,I zl a w->(∀ i,i<ops.size->Up zl i)->Q .normal a w):(Code.region id ops true).wp P Q a w :=
 wp_region_any hm (wF hb I cm cq ops.size _ a _ (by simp) (by rw[kX];exact zr) h0)
theorem wp_region_inv'{id:Nat}{a:Act}{w:World}(hm:P.follows .mixedOrders=true)(hb:kO ops=true)(F:Act->Prop)(I:Act->Array Bool->Act->World->Prop)(hF:F a)
  (h0:I a (Array.replicate ops.size false) a w.drew)
  (cm:∀ a0,F a0->∀ zl a w i o,zl.size=ops.size->I a0 zl a w->zl.getD i true=false->ops[i]?=some o->(∀ e∈o.after,Region.binds .any e=true->Up zl e.on)->wpOp P ops Q i (I a0 (zl.setIfInBounds i true)) a w)
  (cq:∀ zl a' w',I a zl a' w'->(∀ i,i<ops.size->Up zl i)->Q .normal a' w'):(Code.region id ops true).wp P Q a w :=
 uM hm hb (I a) h0 (cm a hF) cq
theorem kE{i:Nat}{o:Oper}{K:Act->World->Prop}{a:Act}{w:World}(ho:ops[i]?=some o)(hg:o.guard=none)(h:o.wp P a w K Q):wpOp P ops Q i K a w:=by
 unfold wpOp;rw[ho];simp only;rw[if_pos (by simp[Region.wanted,hg])];exact .inl h
end
theorem iP(a:Act)(v:Value){t s:Nat}(h:t≠s):(a.put (some t) v).eval (.tmp s)=a.eval (.tmp s):=Act.eval_put (fun _ hd e=>h ((Option.some.inj hd).trans (Operand.tmp.inj e).symm))
theorem fZ(a:Act)(v:Value){t:Nat}(h:t<a.tmps.size):(a.put (some t) v).eval (.tmp t)=v:=by simp[Act.eval,Act.put,h]
theorem oI(a:Act)(v:Value)(t:Nat):(a.put (some t) v).tmps.size=a.tmps.size:=by simp[Act.put]
open Go
structure Off(S:List Nat)(a0 a:Act):Prop where
 defers:a.defers=a0.defers
 size:a.tmps.size=a0.tmps.size
 same:∀ t:Nat,t∉S->a.tmps[t]?=a0.tmps[t]?
theorem Off.refl(S:List Nat)(a:Act):Off S a a:=⟨rfl,rfl,fun _ _=>rfl⟩
theorem Off.put{S:List Nat}{a0 a:Act}(h:Off S a0 a){s:Nat}(hs:s∈S)(v:Value):Off S a0 (a.put (some s) v):=by
 refine⟨h.defers,by rw[oI];exact h.size,fun t ht=>?_⟩;have cy:s≠t:=fun e=>ht (e ▸ hs)
 rw[<- h.same t ht];simp[Act.put,cy]
theorem Off.eval{S:List Nat}{a0 a:Act}(h:Off S a0 a){t:Nat}(ht:t∉S):a.eval (.tmp t)=a0.eval (.tmp t):=by
 have:=h.same t ht;simp only[Act.eval,Array.getD_eq_getD_getElem?,this]
theorem Off.form:∀ (S:List Nat) (a0 a:Act),Off S a0 a->a=S.foldl (fun b s=>b.put (some s) (a.tmps.getD s undef)) a0
 | [],a0,a,h=>by
  obtain⟨tmps,df⟩:=a;obtain⟨tmps0,df0⟩:=a0;have h1:=h.defers;dsimp only at h1;subst h1;have h2:tmps=tmps0:=Array.ext_getElem? (fun t=>h.same t (by simp));rw[h2];rfl
 |s::S,a0,a,h=>by
  rw[List.foldl_cons];refine Off.form S _ a ⟨h.defers,by rw[oI];exact h.size,fun t ht=>?_⟩;by_cases ez:s=t
  ·subst ez;have hz:=h.size;simp only[Act.put,Array.getElem?_setIfInBounds,if_true,Array.getD_eq_getD_getElem?]
   split
   ·next hlt=>
    have:s<a.tmps.size:=by omega
    rw[Array.getElem?_eq_getElem this];rfl
   next hlt=>rw[Array.getElem?_eq_none (by omega)]
  rw[h.same t (by simp only[ym,not_or];exact⟨fun e=>ez e.symm,ht⟩)];simp[Act.put,ez]
theorem Off.forms{S:List Nat}{a0 a:Act}(h:Off S a0 a):∃ f:Nat->Value,a=S.foldl (fun b s=>b.put (some s) (f s)) a0/\∀ s,f s=a.eval (.tmp s) :=
 ⟨fun s=>a.tmps.getD s undef,Off.form S a0 a h,fun _=>rfl⟩
theorem cD{a:Act}{t:Nat}{v:Value}(h:a.eval (.tmp t)=v):a.tmps[t]?.getD undef=v:=by
 rw[<- h];simp[Act.eval]
def PT(T:List (Nat×Nat×Value))(zl:Array Bool)(a:Act):Prop:=∀ e∈T,Up zl e.1->a.eval (.tmp e.2.1)=e.2.2
theorem pk{T:List (Nat×Nat×Value)}{zl:Array Bool}{a:Act}(hp:PT T zl a)(n:Nat){i s:Nat}{v:Value}(h:T[n]?=some (i,s,v))(hu:Up zl i):a.eval (.tmp s)=v:=hp (i,s,v) (List.mem_of_getElem? h) hu
theorem ud{zl:Array Bool}{o:Oper}(zd:∀ e∈o.after,Region.binds .any e=true->Up zl e.on)(i:Nat)(hm:{ on:=i,ground:=.data }∈o.after:=by simp):Up zl i:=zd _ hm rfl
theorem PT.start(T:List (Nat×Nat×Value))(n:Nat)(a:Act):PT T (Array.replicate n false) a:=fun _ _ h=>absurd h (Up.none _ _)
theorem PT.step{T:List (Nat×Nat×Value)}{zl:Array Bool}{a:Act}(h:PT T zl a){i s:Nat}{v:Value}(hi:i<zl.size)(hs:s<a.tmps.size)(h1:∀ e∈T,e.2.1=s->e.2.2=v)(h2:∀ e∈T,e.1=i->e.2.1=s):PT T (zl.setIfInBounds i true) (a.put (some s) v):=by
 intro e he hu;by_cases hes:s=e.2.1
 ·rw[<- hes,fZ _ _ hs,h1 e he hes.symm]
 rw[iP _ _ hes];rcases(Up.set hi).1 hu with hu|hu
 ·exact absurd (h2 e he hu).symm hes
 exact h e he hu
theorem PT.skip{T:List (Nat×Nat×Value)}{zl:Array Bool}{a:Act}(h:PT T zl a){i:Nat}(hi:i<zl.size)(h1:∀ e∈T,e.1≠i):PT T (zl.setIfInBounds i true) a:=by
 intro e he hu;rcases(Up.set hi).1 hu with hu|hu
 ·exact absurd hu (h1 e he)
 exact h e he hu
theorem lM{zl:Array Bool}{i j:Nat}(hi:i<zl.size)(h:Up (zl.setIfInBounds i true) j)(cy:j≠i):Up zl j:=((Up.set hi).1 h).resolve_left cy
theorem eR{zl:Array Bool}{i j:Nat}(hi:i<zl.size)(h:Up zl j):Up (zl.setIfInBounds i true) j:=(Up.set hi).2 (.inr h)
theorem rG{zl:Array Bool}{i:Nat}(hi:i<zl.size):Up (zl.setIfInBounds i true) i:=(Up.set hi).2 (.inl rfl)
theorem jW{zl:Array Bool}{i:Nat}(al:zl.getD i true=false):¬ Up zl i:=fun h=>by
 have hi:=Up.of_false al;unfold Up at h;simp[hi]at al h;rw[al]at h;cases h
theorem pQ{P:Program}{o:Oper}{a:Act}{w w1:World}{K:Act->World->Prop}{Q:Exit->Act->World->Prop}(v:Value)(hr:(execOp a.eval o).run P w=.ok (.value v) w1)(hk:K (a.put o.dst v) w1):o.wp P a w K Q:=by
 unfold Oper.wp;rw[hr];exact hk
theorem uDJ{P:Program}{o:Oper}{a:Act}{w w1:World}{K:Act->World->Prop}{Q:Exit->Act->World->Prop}(hr:(execOp a.eval o).run P w=.ok .skip w1)(hk:K (a.put o.dst undef) w1):o.wp P a w K Q:=by
 unfold Oper.wp;rw[hr];exact hk
theorem iM(r c:Int)(w:World)(h1:0<=r)(h2:r<=9999998)(h3:0<=c)(h4:c<=18277) :
  Calls Tryz.prog 90 #[vI r,vI c] w fun e w'=>e=.returned (.bool true)/\w=w':=by
 go_in
 go_wp2
 go_ret
 exact⟨rfl,rfl⟩
theorem rV(b:Bool)(w:World):Calls Tryz.prog 141 #[.bool b] w fun e w'=>e=.returned (vT (qY b))/\w=w':=by
 cases b
 all_goals
  go_in
  go_wp2
  go_ret
  exact⟨rfl,rfl⟩
def InBytes(w:World)(A:Option Addr)(b:Bs):Prop:=0<b.length->∃ g o,A=some ⟨g,o,none⟩/\g<w.heap.size/\∀ j (h:j<b.length),w.cell? ⟨g,o+j,none⟩=some (.int .u8 (b[j].toNat:Int))
theorem InBytes.conv{w:World}{A:Option Addr}{b:Bs}(h:InBytes w A b)(cap:Nat):(convert 110 9 (.slice A b.length cap)).run Tryz.prog w=.ok (vT b) w:=by
 rcases Nat.eq_zero_or_pos b.length with h0|h0
 ·obtain rfl:b=[]:=List.eq_nil_of_length_eq_zero h0;cases A with
  |none=>
   rw[run_convert_bytes_string w 110 9 5 none _ cap Tryz.underlying110 Tryz.underlying5 Tryz.underlying9];simp[Conv.bytesToString];rfl
  |some a=>exact run_convert_bytes_back w 110 9 5 a cap [] Tryz.underlying110 Tryz.underlying5 Tryz.underlying9 (fun j hj=>by simp at hj)
 obtain⟨g,o,rfl,hg,hc⟩:=h h0;refine run_convert_bytes_back w 110 9 5 ⟨g,o,none⟩ cap b Tryz.underlying110 Tryz.underlying5 Tryz.underlying9 (fun j hj=>?_);rw[<- hc j hj];unfold Addr.add;by_cases e:j=0
 ·simp[e]
 simp[e]
theorem below_grow(w:World)(os:Array Obj):Below w.heap.size w (Sort.grow w os) :=
 ⟨rfl,rfl,rfl,by simp[Sort.grow],fun k hk=>by unfold Sort.grow;simp only;rw[Array.getElem?_append_left hk]⟩
theorem nU(n:Nat)(w:World)(hp:PowTab w)(h:n<=1000000000) :
  Calls Tryz.prog 75 #[vI n] w fun e w'=>e=.returned (vT (Lib.decDigits n))/\Below w.heap.size w w' :=
 (Tryz.strconv_Itoa (n:Int) (by omega) (by omega) w hp).mono fun _ _ ⟨h1,k,os,h2⟩=>⟨by rw[h1,Lib.itoa_nonneg],by
  rw[h2];exact(zN (Below.refl _ w) k).trans (below_grow (w.drewN k) os)⟩
theorem longer(wr:World)(A:Option Addr)(L:Bs)(cap:Nat)(ru:InBytes wr A L)(hL:L.length<=2):∃ W:World,
  (Instr.makeSlice 110 (vI ((L.length:Int)+1)) (vI ((L.length:Int)+1))).run Tryz.prog wr=.ok (.slice (some ⟨wr.heap.size,0,none⟩) (L.length+1) (L.length+1)) W /\
  W.cell? ⟨wr.heap.size,0,none⟩=some (.int .u8 0)/\W.frozen? ⟨wr.heap.size,0,none⟩=false /\
  ∀ (c:UInt8) (ty:TypeId),∃ W2:World,(∀ d,L=[]\/d=1->(Builtin.copy_ #[110,110] ty #[.slice (some ⟨wr.heap.size,d,none⟩) L.length L.length,.slice A L.length cap]).run Tryz.prog (W.setCell ⟨wr.heap.size,0,none⟩ (.int .u8 (c.toNat:Int)))=.ok (vI L.length) W2) /\
   InBytes W2 (some ⟨wr.heap.size,0,none⟩) (c::L)/\Below wr.heap.size wr W2:=by
 obtain⟨i0,hi,m9,i9,lq⟩:=info_parts sB;have h:=run_make (P:=Tryz.prog) wr 110 5 i0 (.int .u8 0) Tryz.underlying110 hi m9 .i64 .i64 ((L.length:Int)+1) ((L.length:Int)+1) (by omega) (Int.le_refl _) (by rw[lq];omega) (by omega);have e:((L.length:Int)+1).toNat=L.length+1:=by omega
 rw[e,i9,Nat.mul_one]at h;have hl:=Lies.new wr 5 (madeCells (Value.int .u8 0).cells (L.length+1));have aq:(madeCells (Value.int .u8 0).cells (L.length+1)).size=L.length+1:=by simp[madeCells,Value.cells]
 refine⟨_,h,?_,hl.frozen 0,fun c ty=>?_⟩
 ·rw[hl.cell];simp[madeCells,Value.cells]
 have se:=hl.put 0 (.int .u8 (c.toNat:Int));have hM1:((madeCells (Value.int .u8 0).cells (L.length+1)).setIfInBounds 0 (.int .u8 (c.toNat:Int))).size=L.length+1:=by rw[Array.size_setIfInBounds,aq]
 have hM0:((madeCells (Value.int .u8 0).cells (L.length+1)).setIfInBounds 0 (.int .u8 (c.toNat:Int)))[0]?=some (.int .u8 (c.toNat:Int)):=by rw[Array.getElem?_setIfInBounds,if_pos rfl,if_pos (by rw[aq];omega)]
 have dh:Below wr.heap.size wr ((wr.alloc (.cells (madeCells (Value.int .u8 0).cells (L.length+1)) 5)).setCell ⟨wr.heap.size,0,none⟩ (.int .u8 (c.toNat:Int))) :=
  ((Below.refl _ wr).alloc zr _).setCell (p:=⟨wr.heap.size,0,none⟩) zr _
 generalize ((madeCells (Value.int .u8 0).cells (L.length+1)).setIfInBounds 0 (.int .u8 (c.toNat:Int)))=M at *;generalize ((wr.alloc (.cells (madeCells (Value.int .u8 0).cells (L.length+1)) 5)).setCell ⟨wr.heap.size,0,none⟩ (.int .u8 (c.toNat:Int)))=W1 at *;have ed:(Tryz.prog.info? 5).map (·.size)=some 1:=by rw[hi];simp[i9]
 rcases Nat.eq_zero_or_pos L.length with h0|h0
 ·obtain rfl:L=[]:=List.eq_nil_of_length_eq_zero h0;refine⟨W1,fun d _=>?_,?_,dh⟩
  ·exact run_copy_none W1 110 110 ty 5 (some ⟨wr.heap.size,d,none⟩) A 0 0 0 cap Tryz.underlying110 ed rfl
  intro _;refine⟨wr.heap.size,0,rfl,se.lt,fun j hj=>?_⟩;obtain rfl:j=0:=by simpa using hj
  rw[se.cell];exact hM0
 obtain⟨g,o,rfl,hg,hc⟩:=ru h0;have hin1:∀ j (h:j<L.length),W1.cell? ⟨g,o+j,none⟩=some (.int .u8 (L[j].toNat:Int)):=fun j hj=>(dh.cell (p:=⟨g,o+j,none⟩) hg).trans (hc j hj)
 have o4:=run_copy_row (P:=Tryz.prog) W1 110 110 ty 5 wr.heap.size 1 L.length L.length ⟨g,o,none⟩ L.length cap _ 5 (L.map fun b=>Value.int .u8 (b.toNat:Int)) Tryz.underlying110 ed se
  (by rw[List.length_map];exact(Nat.min_self _).symm) (fun j v hv=>by
   obtain⟨b,hb,rfl⟩:=by simpa using hv
   have hj:j<L.length:=by
    rcases Nat.lt_or_ge j L.length with h'|h'
    ·exact h'
    rw[List.getElem?_eq_none h']at hb;cases hb
   rw[List.getElem?_eq_getElem hj]at hb;have vp:L[j]=b:=by injection hb
   rw[<- vp,<- hin1 j hj];unfold Addr.add;by_cases e:j=0
   ·simp[e]
   simp[e]) (by rw[List.length_map,hM1];omega) (fun v hv=>by obtain⟨b,_,rfl⟩:=yj.1 hv;rfl)
 rw[List.length_map]at o4;refine⟨W1.setRow wr.heap.size (M.toList.take 1++(L.map fun b=>Value.int .u8 (b.toNat:Int))++M.toList.drop (1+L.length)).toArray,fun d hd=>?_,?_,?_⟩
 ·rcases hd with hd|rfl
  ·rw[hd]at h0;simp at h0
  exact o4
 ·intro _;refine⟨wr.heap.size,0,rfl,?_,fun j hj=>?_⟩
  ·have:=se.lt;simpa [World.setRow] using this
  have bq:Lies (W1.setRow wr.heap.size (M.toList.take 1++(L.map fun b=>Value.int .u8 (b.toNat:Int))++M.toList.drop (1+L.length)).toArray) wr.heap.size 5 (M.toList.take 1++(L.map fun b=>Value.int .u8 (b.toNat:Int))++M.toList.drop (1+L.length)).toArray:=by
   unfold Lies at se ⊢;simp[World.setRow,Array.getElem?_modify,se]
  have ht:M.toList.take 1=[.int .u8 (c.toNat:Int)]:=by
   rw[List.take_one];have:M.toList.head?=M[0]?:=by rw[List.head?_eq_getElem?];simp
   rw[this,hM0];rfl
  rw[bq.cell,ht,Nat.zero_add];cases j with
  |zero=>rfl
  |succ j=>
   have hj':j<L.length:=by simpa using hj
   rw[List.append_assoc,List.singleton_append,za,zf,List.getElem?_append_left (by simpa using hj')];simp[hj']
 refine dh.trans ⟨rfl,rfl,rfl,by simp[World.setRow],fun k hk=>?_⟩;simp only[World.setRow,Array.getElem?_modify];rw[if_neg (by omega)]
theorem uBI(d:Nat):((UInt8.ofNat (65+d % 26)).toNat:Int)=65+(d:Int) % 26:=by
 rw[(cap_of (d % 26) (by omega)).2];omega
theorem kY(col:Nat)(w:World)(hc:col<=18277) :
  Calls Tryz.prog 76 #[vI col] w fun e w'=>e=.returned (vT (dT (col+1)))/\Below w.heap.size w w':=by
 have da:(col:Int)<=18277:=by omega
 have hl3:=gB (col+1) (by omega)
 go_in
 go_wp2_with fail
 refine(iM 0 (col:Int) _ (by omega) (by omega) (by omega) da).mono ?_;rintro e w1 ⟨rfl,rfl⟩
 go_wp2_with fail
 go_loopw [0,3] (fun i v wr=>∃ (c:Nat) (A:Option Addr) (L:Bs) (cap:Nat),i=vI ((c:Int)-1)/\v=.slice A L.length cap/\c<=18278/\Hid (dT c++L=dT (col+1))/\Hid (InBytes wr A L)/\Hid (Below w.heap.size w wr)) (fun i _ _=>(intOf i+1).toNat)
 case atStart=>exact⟨col+1,none,[],0,by go_num,rfl,by omega,zh (by simp),zh (fun h=>by simp at h),zh zB⟩
 case round=>
  obtain⟨c,A,L,cap,rfl,rfl,mu,HL,HI,HB⟩:=hrel;cases c with
  |zero=>
   have hconv:=InBytes.conv HI.out cap
   have HE:Hid (L=dT (col+1)):=zh (by have:=HL.out;rw[fP]at this;exact this);rw[show ((0:Nat):Int)-1=-1 from rfl]
   go_wp2_with fail
   go_ret
   exact⟨congrArg (fun l:Bs=>Ending.returned (vT l)) HE.out,HB.out⟩
  |succ d=>
   rw[show ((d+1:Nat):Int)-1=(d:Int) by omega];have vh:L.length<=2:=by
    have h1:=congrArg List.length HL.out;rw[yl]at h1;have:=lets_pos (d+1) (by omega);omega
   have gu:Hid (dT (d / 26)++(UInt8.ofNat (65+d % 26)::L)=dT (col+1)):=zh (by
    rw[<- HL.out,eV (d+1) (by omega)];simp)
   obtain⟨W,hmk,pw,hf0,hcp⟩:=longer wr A L cap HI.out vh;obtain⟨W2,hcp,hin2,hb2⟩:=hcp (UInt8.ofNat (65+d % 26)) 3;have HIN2:=zh hin2;have aw:=zT HB hb2;rw[uBI d]at hcp;have r8:((d:Int))<=18277:=by omega
   have HCP:=zh hcp;clear hcp hin2 hb2 HL HI HB;rcases Nat.eq_zero_or_pos L.length with h0|h0
   ·obtain rfl:L=[]:=List.eq_nil_of_length_eq_zero h0;simp only[List.length_nil,Int.natCast_zero,Int.zero_add,Nat.zero_add]at *;have hcp:=HCP.out 0 (.inl trivial);clear h0
    go_wp2_with fail
    go_roundw
    case rel=>exact⟨d / 26,_,[_],_,by go_num,rfl,by omega,gu,HIN2,aw⟩
    case measure=>simp[intOf];omega
   have cy:¬ L.length=0:=by omega
   have hcp:=HCP.out 1 (.inr rfl)
   go_wp2_with fail
   go_roundw
   case rel=>exact⟨d / 26,_,_::L,_,by go_num,by simp;rfl,by omega,gu,HIN2,aw⟩
   case measure=>simp[intOf];omega
theorem Lies.below{w w':World}{g:Nat}{t:TypeId}{cs:Array Value}(h:Lies w g t cs)(hb:Below w.heap.size w w'):Lies w' g t cs:=(hb.block g h.lt).trans h
theorem uFM(m e:Int)(w:World)(h1:-9223372036854775808<m)(h2:m<=9223372036854775807)(hR:bI m e=true) :
  Calls Tryz.prog 192 #[wX m e] w fun x w'=>x=.returned (wX (-m) e)/\Below w.heap.size w w':=by
 have C:=zh (fun W=>pK m e W (by omega) h2);rw[hR]at C;have HB:Hid (Below w.heap.size w ((w.alloc (.cells #[vI m,vI e] 23)).alloc (.cells #[vI 0,vI 0] 23))):=zh (((Below.refl _ w).alloc zr _).alloc (by simp) _);have T0:Hid (NumIn w m e ((w.alloc (.cells #[vI m,vI e] 23)).alloc (.cells #[vI 0,vI 0] 23))):=zh ((NumIn.start w m e).next (zp _));have HL:Hid (Lies ((w.alloc (.cells #[vI m,vI e] 23)).alloc (.cells #[vI 0,vI 0] 23)) (w.heap.size+1) 23 #[vI 0,vI 0]):=zh (by have:=Lies.new (w.alloc (.cells #[vI m,vI e] 23)) 23 #[vI 0,vI 0];simpa using this);clear hR
 go_in
 go_wp2_with fail
 refine(C.out _).mono ?_;rintro x w1 ⟨rfl,hb⟩;have jc:=zh (Lies.below HL.out hb);have T1:=zh (T0.out.next hb);clear hb HB HL T0 C;obtain⟨g0,g1,g2,g3⟩:=T1.out;have q0:=jc.out.cell 0;have q1:=jc.out.cell 1;have f0:=jc.out.frozen 0;have f1:=jc.out.frozen 1;have hlt:=jc.out.lt;have bi:=zh g3;simp only[za,zb,zf]at q0 q1
 go_wp2_with fail
 refine yt (v:=.agg #[vI (-m),vI e]) (by simp[results,Tryz.results192,go_sem,q0,q1]) rfl ?_;exact⟨rfl,((bi.out.setCell (p:=⟨w.heap.size+1,0,none⟩) (Nat.le_succ _) _).setCell (p:=⟨w.heap.size+1,1,none⟩) (Nat.le_succ _) _)⟩
abbrev markV(row col:Int)(fr fc:Bool):Value:=.agg #[vI row,vI col,.bool fr,.bool fc]
def MarkIn(w:World)(row col:Int)(fr fc:Bool)(w':World):Prop:=w.heap.size<w'.heap.size/\w'.cell? ⟨w.heap.size,0,none⟩=some (vI row)/\w'.cell? ⟨w.heap.size,1,none⟩=some (vI col)/\w'.cell? ⟨w.heap.size,2,none⟩=some (.bool fr)/\w'.cell? ⟨w.heap.size,3,none⟩=some (.bool fc)/\Below w.heap.size w w'
theorem MarkIn.start(w:World)(row col:Int)(fr fc:Bool):MarkIn w row col fr fc (w.alloc (.cells #[vI row,vI col,.bool fr,.bool fc] 90)):=⟨by simp,by simp,by simp,by simp,by simp,(Below.refl _ w).alloc zr _⟩
theorem MarkIn.next{w w' w'':World}{row col:Int}{fr fc:Bool}(h:MarkIn w row col fr fc w')(hb:Below w'.heap.size w' w''):MarkIn w row col fr fc w'':=by
 obtain⟨h1,h2,h3,h4,h5,h6⟩:=h;have hs:=hb.size;exact⟨by omega,(hb.cell (p:=⟨_,_,none⟩) h1).trans h2,(hb.cell (p:=⟨_,_,none⟩) h1).trans h3,(hb.cell (p:=⟨_,_,none⟩) h1).trans h4,(hb.cell (p:=⟨_,_,none⟩) h1).trans h5,zU h6 hb⟩
theorem MarkIn.drew{w w':World}{row col:Int}{fr fc:Bool}(h:MarkIn w row col fr fc w'):MarkIn w row col fr fc w'.drew:=h.next zB.drew
theorem wG(row col:Nat)(fr fc:Bool)(w:World)(hp:PowTab w)(hr:row<=9999998)(hc:col<=18277) :
  Calls Tryz.prog 77 #[markV row col fr fc] w fun e w'=>e=.returned (vT (jC row col fr fc))/\Below w.heap.size w w':=by
 have T0:=zh (MarkIn.start w row col fr fc);have nc:Hid (PowTab (w.alloc (.cells #[vI row,vI col,.bool fr,.bool fc] 90))):=zh (hp.next T0.out.2.2.2.2.2);have zt:(row:Int)<=9999998:=by omega
 have da:(col:Int)<=18277:=by omega
 have CL:=zh (fun W=>kY col W hc);have CD1:=zh (fun W=>rV fr W);have CD2:=zh (fun W=>rV fc W);have CI:Hid (∀ W,PowTab W->Calls Tryz.prog 75 #[vI ((row:Int)+1)] W fun e w'=>e=.returned (vT (Lib.decDigits (row+1)))/\Below W.heap.size W w'):=zh (fun W h=>nU (row+1) W h (by omega));have HE:Hid (qY fc++(dT (col+1)++(qY fr++Lib.decDigits (row+1)))=jC row col fr fc):=zh rfl;have hwr:IntKind.i64.wrap ((row:Int)+1)=(row:Int)+1:=IntWalk.i64_in _ (by omega);have qo:∀ b,(qY b).length<=1:=fun b=>by cases b <;> decide
 have tz:=qo fr;have hd2:=qo fc;have zu:=gB (col+1) (by omega);have hd4:=bM (row+1) 6 (by omega);clear qo;generalize qY fr=P at *;generalize qY fc=R at *;generalize jC row col fr fc=M at *;generalize dT (col+1)=L at *;generalize Lib.decDigits (row+1)=D at *;have k1:¬ 9223372036854775807<R.length+L.length:=by omega
 have k2:¬ 9223372036854775807<R.length+L.length+P.length:=by omega
 have k3:¬ 9223372036854775807<R.length+(L.length+P.length)+D.length:=by omega
 clear hp hr hc;obtain⟨g0,g1,g2,g3,g4,g5⟩:=T0.out
 go_in
 go_wp2_with fail
 refine(iM (row:Int) (col:Int) _ (by omega) zt (by omega) da).mono ?_;rintro e w1 ⟨rfl,rfl⟩;generalize hW:w.alloc (.cells #[vI (row:Int),vI (col:Int),.bool fr,.bool fc] 90)=W at *;clear hW;have HP9:Hid (PowTab W.drew):=nc
 go_wp2_with fail
 go_region_held3 (fun w'=>w.heap.size<w'.heap.size/\w'.cell? ⟨w.heap.size,0,none⟩=some (vI (row:Int))/\w'.cell? ⟨w.heap.size,1,none⟩=some (vI (col:Int))/\w'.cell? ⟨w.heap.size,2,none⟩=some (.bool fr)/\w'.cell? ⟨w.heap.size,3,none⟩=some (.bool fc)/\Below w.heap.size w w')
  (first|exact T0.out|exact T0.out.drew|exact(MarkIn.next T0.out.drew hb) |(go_split_ands;exact(MarkIn.next (w:=w) ⟨by assumption,by assumption,by assumption,by assumption,by assumption,by assumption⟩ hb))|assumption)
  (first
   |(go_at_call 76;(with_reducible refine(CL.out _).mono ?_);rintro e wx ⟨rfl,hb⟩;have sh:=zh (HP9.out.next hb))
   |(go_at_call 75;(with_reducible refine(CI.out _ sh.out).mono ?_);rintro e wx ⟨rfl,hb⟩)
   |(go_at_call 141;(with_reducible refine(CD1.out _).mono ?_);rintro e wx ⟨rfl,rfl⟩)
   |(go_at_call 141;(with_reducible refine(CD2.out _).mono ?_);rintro e wx ⟨rfl,rfl⟩))
 all_goals go_wp2_with fail
 all_goals go_ret
 all_goals refine⟨congrArg (fun l:Bs=>Ending.returned (vT l)) HE.out,?_⟩
 all_goals first|assumption |(go_split_ands;assumption)
theorem u8_beq(c d:UInt8)(n:Int)(hn:(d.toNat:Int)=n):((c.toNat:Int)==n)=(c==d):=by
 subst hn;rw[ze,beq_iff_eq,beq_iff_eq];constructor
 ·intro h;exact mN (by omega)
 intro h;rw[h]
theorem uDZ(l:Bs)(c:UInt8)(h:c∈l):0<=Lib.indexByte l c:=by
 rcases Int.lt_or_le (Lib.indexByte l c) 0 with h1|h1
 ·exact absurd h (idx_no l c h1)
 exact h1
theorem mem_idx(l:Bs)(c:UInt8)(h:0<=Lib.indexByte l c):c∈l:=by
 obtain⟨n,_,h2,_,h4⟩:=uEA l c h;rw[h4];simp
def kt(t:Tok):Nat×Bs:=(t.kind,t.text)
structure RTok where
 kind:Int
 text:Bs
 place:Int
def RTok.cells(t:RTok):Array Value:=#[vI t.kind,vT t.text,vI t.place]
def gH(k:Int):Bool:=k==1||k==3||k==4
def mR(k:Int)(t set:Bs):Bool:=k==5&&!t.isEmpty&&set.contains (t.headD 0)
def gV(a b:RTok):Bool :=
 if gH a.kind then gH b.kind else if a.kind==2 then b.kind==2 else if a.kind != 5 then false
 else if a.text==[60] then mR b.kind b.text [61,62] else if a.text==[62] then mR b.kind b.text [61] else if a.text==[35] then b.kind==3 else false
theorem tV(k:Int)(t:Bs)(p:Int)(w:World) :
  Calls Tryz.prog 104 #[.agg #[vI k,vT t,vI p]] w fun e w'=>e=.returned (.bool (gH k))/\Below w.heap.size w w':=by
 obtain⟨r,hr⟩:=zE (gH k)
 have HR:=zh hr;rw[hr];clear hr;cases h1:(k==1) <;> cases h3:(k==3) <;> cases h4:(k==4)
 all_goals
  have HV:=zh HR.out;rw[gH,h1,h3,h4]at HV
  go_in
  go_wp2_with fail
  go_ret
  exact⟨aA (HV.out.symm ▸ rfl),(Below.refl _ w).alloc zr _⟩
theorem wM(set:Bs)(c:UInt8):decide (0<=Lib.indexByte set c)=set.contains c:=by
 rw[ze,decide_eq_true_eq,List.contains_iff_mem];exact⟨mem_idx set c,uDZ set c⟩
theorem pT(set:Bs)(b:Nat)(k:Int)(t:Bs)(w:World)(h0:w.cell? ⟨b,0,none⟩=some (vI k))(h1:w.cell? ⟨b,1,none⟩=some (vT t)) :
  Calls Tryz.prog 105 #[vT set,vP b 0] w fun e w'=>e=.returned (.bool (mR k t set))/\w=w':=by
 cases h5:(k==5)
 ·have HV:Hid (mR k t set=false):=zh (by unfold mR;rw[h5];rfl)
  go_in
  go_wp2_with fail
  go_ret
  exact⟨aA HV.out.symm,rfl⟩
 cases t with
 |nil=>
  have HV:Hid (mR k [] set=false):=zh (by unfold mR;simp)
  go_in
  go_wp2_with fail
  go_ret
  exact⟨aA HV.out.symm,rfl⟩
 |cons c r=>
  have HV:Hid (mR k (c::r) set=decide (0<=Lib.indexByte set c)):=zh (by unfold mR;rw[h5,wM];simp)
  go_in
  go_wp2_with fail
  refine(uD set c _).mono ?_;rintro e w' ⟨rfl,rfl⟩;generalize Lib.indexByte set c=i at *
  go_wp2_with fail
  all_goals
   go_ret
   exact⟨aA (by rw[HV.out]),rfl⟩
def TwoTok(w:World)(a b:RTok)(w':World):Prop:=Lies w' w.heap.size 64 a.cells/\Lies w' (w.heap.size+1) 64 b.cells/\Below w.heap.size w w'
theorem TwoTok.start(w:World)(a b:RTok):TwoTok w a b ((w.alloc (.cells a.cells 64)).alloc (.cells b.cells 64)) :=
 ⟨(Lies.new w _ _).alloc _,by have:=Lies.new (w.alloc (.cells a.cells 64)) 64 b.cells;simpa using this,((Below.refl _ w).alloc zr _).alloc (by simp) _⟩
theorem TwoTok.next{w w' w'':World}{a b:RTok}(h:TwoTok w a b w')(hb:Below w'.heap.size w' w''):TwoTok w a b w'' :=
 ⟨h.1.below hb,h.2.1.below hb,h.2.2.trans (hb.mono h.2.2.size)⟩
theorem TwoTok.seen{w w':World}{a b:RTok}(h:TwoTok w a b w'):w'.cell? ⟨w.heap.size,0,none⟩=some (vI a.kind)/\w'.cell? ⟨w.heap.size,1,none⟩=some (vT a.text)/\w'.cell? ⟨w.heap.size,2,none⟩=some (vI a.place) /\
  w'.cell? ⟨w.heap.size+1,0,none⟩=some (vI b.kind)/\w'.cell? ⟨w.heap.size+1,1,none⟩=some (vT b.text)/\w'.cell? ⟨w.heap.size+1,2,none⟩=some (vI b.place)/\w.heap.size+1<w'.heap.size :=
 ⟨h.1.cell 0,h.1.cell 1,h.1.cell 2,h.2.1.cell 0,h.2.1.cell 1,h.2.1.cell 2,h.2.1.lt⟩
theorem uEO(a b:RTok)(w:World) :
  Calls Tryz.prog 54 #[.agg a.cells,.agg b.cells] w fun e w'=>e=.returned (.bool (gV a b))/\Below w.heap.size w w':=by
 have T0:=zh (TwoTok.start w a b);obtain⟨ka,ta,pa⟩:=a;obtain⟨kb,tb,pb⟩:=b;simp only[RTok.cells]at *;have CA:=zh (fun W=>tV ka ta pa W);have CB:=zh (fun W=>tV kb tb pb W);obtain⟨r,hr⟩:=zE (gV ⟨ka,ta,pa⟩ ⟨kb,tb,pb⟩)
 rw[hr];unfold gV at hr;simp only at hr;cases hw:gH ka
 ·rw[hw,if_neg (by decide)]at hr;rw[hw]at CA;have fin:∀ (x2 x5 y1 y2 y3:Bool),(ka==2)=x2->(ka != 5)=x5->(ta==[60])=y1->(ta==[62])=y2->(ta==[35])=y3 ->
    Hid ((if x2=true then kb==2 else if x5=true then false else if y1=true then mR kb tb [61,62] else if y2=true then mR kb tb [61] else if y3=true then kb==3 else false)=r) ->
    Calls Tryz.prog 54 #[.agg #[vI ka,vT ta,vI pa],.agg #[vI kb,vT tb,vI pb]] w fun e w'=>e=.returned (.bool r)/\Below w.heap.size w w':=by
   intro x2 x5 y1 y2 y3 e2 e5 f1 f2 f3 HR;clear hr hw CB;cases x2
   ·cases x5
    ·cases y1
     ·cases y2
      ·cases y3
       all_goals
        go_in
        go_wp2_with fail
        refine(CA.out _).mono ?_;rintro e w1 ⟨rfl,hb⟩;have T1:=zh (T0.out.next hb);clear hb T0;obtain⟨g0,g1,g2,g3,g4,g5,g6⟩:=TwoTok.seen T1.out;simp only at g0 g1 g2 g3 g4 g5
        go_wp2_with fail
        go_ret
        exact⟨aA HR.out,T1.out.2.2⟩
      go_in
      go_wp2_with fail
      refine(CA.out _).mono ?_;rintro e w1 ⟨rfl,hb⟩;have T1:=zh (T0.out.next hb);clear hb T0;obtain⟨g0,g1,g2,g3,g4,g5,g6⟩:=TwoTok.seen T1.out;simp only at g0 g1 g2 g3 g4 g5
      go_wp2_with fail
      refine(pT [61] _ _ _ _ g3 g4).mono ?_;rintro e w2 ⟨rfl,rfl⟩
      go_wp2_with fail
      go_ret
      exact⟨aA HR.out,T1.out.2.2⟩
     go_in
     go_wp2_with fail
     refine(CA.out _).mono ?_;rintro e w1 ⟨rfl,hb⟩;have T1:=zh (T0.out.next hb);clear hb T0;obtain⟨g0,g1,g2,g3,g4,g5,g6⟩:=TwoTok.seen T1.out;simp only at g0 g1 g2 g3 g4 g5
     go_wp2_with fail
     refine(pT [61,62] _ _ _ _ g3 g4).mono ?_;rintro e w2 ⟨rfl,rfl⟩
     go_wp2_with fail
     go_ret
     exact⟨aA HR.out,T1.out.2.2⟩
    go_in
    go_wp2_with fail
    refine(CA.out _).mono ?_;rintro e w1 ⟨rfl,hb⟩;have T1:=zh (T0.out.next hb);clear hb T0;obtain⟨g0,g1,g2,g3,g4,g5,g6⟩:=TwoTok.seen T1.out;simp only at g0 g1 g2 g3 g4 g5
    go_wp2_with fail
    go_ret
    exact⟨aA HR.out,T1.out.2.2⟩
   go_in
   go_wp2_with fail
   refine(CA.out _).mono ?_;rintro e w1 ⟨rfl,hb⟩;have T1:=zh (T0.out.next hb);clear hb T0;obtain⟨g0,g1,g2,g3,g4,g5,g6⟩:=TwoTok.seen T1.out;simp only at g0 g1 g2 g3 g4 g5
   go_wp2_with fail
   go_ret
   exact⟨aA HR.out,T1.out.2.2⟩
  exact fin _ _ _ _ _ rfl rfl rfl rfl rfl (zh hr)
 rw[hw,if_pos rfl]at hr;have HR:=zh hr;rw[hw]at CA;clear hr hw
 go_in
 go_wp2_with fail
 refine(CA.out _).mono ?_;rintro e w1 ⟨rfl,hb⟩;have T1:=zh (T0.out.next hb);clear hb T0;obtain⟨g0,g1,g2,g3,g4,g5,g6⟩:=TwoTok.seen T1.out;simp only at g0 g1 g2 g3 g4 g5
 go_wp2_with fail
 refine(CB.out _).mono ?_;rintro e w2 ⟨rfl,hb⟩;have T2:=zh (T1.out.next hb);clear hb T1 g0 g1 g2 g3 g4 g5 g6
 go_wp2_with fail
 go_ret
 exact⟨aA HR.out,T2.out.2.2⟩
theorem uC(B b k:Nat)(bs:List Value)(w:World)(h:Lib.IsBuilder 112 5 B b bs w)(hk:k≠b) :
  Calls Tryz.prog 107 #[vP b 0] w fun e w'=>e=.returned (.tuple #[])/\(Lib.BuilderAt 112 5 B b (vP b 0) bs w'/\Below B w w'/\w'.heap[k]?=w.heap[k]?/\w'.cell? ⟨b,1,none⟩=w.cell? ⟨b,1,none⟩):=by
 rcases h with h|h
 ·refine(kG b w h.cell0 h.shape h.frozen0).mono ?_;rintro e w' ⟨rfl,rfl⟩;exact⟨rfl,h.used _,(Below.refl B w).setCell (p:=⟨b,0,none⟩) h.1 _,Below.heap_setCell w ⟨b,0,none⟩ _ k hk,World.cell?_setCell_other w ⟨b,0,none⟩ ⟨b,1,none⟩ _ (by intro e;injection e with _ e;cases e)⟩
 refine(kR b w h.cell0).mono ?_;rintro e w' ⟨rfl,rfl⟩;exact⟨rfl,h,Below.refl B _,rfl,rfl⟩
theorem uO(B b k:Nat)(l:Bs)(c:UInt8)(w:World)(si:k≠b)(wo:k<w.heap.size)(hkv:Hid (∀ v,w.cell? ⟨b,1,none⟩=some v->v.ownBlock≠some k))(h:Lib.IsBuilder 112 5 B b (Lib.byteCells l) w)(hlen:l.length+1<=140737488355328)(hBw:B<=w.heap.size) :
  Calls Tryz.prog 55 #[vP b 0,.int .u8 (c.toNat:Int)] w fun e w'=>e=.returned .nilIface/\(Lib.IsBuilder 112 5 B b (Lib.byteCells (l++[c])) w'/\Below B w w'/\w'.heap[k]?=w.heap[k]?):=by
 have t5:(Lib.byteCells l).length=l.length:=Lib.byteCells_length l;have e1:Lib.byteCells (l++[c])=Lib.byteCells l++[.int .u8 (c.toNat:Int)]:=by simp[Lib.byteCells]
 have hlen:(Lib.byteCells l).length+1<=140737488355328:=by omega
 have E1:=zh e1;clear t5 e1;generalize Lib.byteCells l=bs at *;obtain⟨i0,hi,m9,i9,lq⟩:=info_parts sB
 go_in
 go_wp2_with (go_at_call 107;refine(uC B b k bs _ h si).mono ?_)
 rintro e w1 ⟨rfl,h1,ab,eh,dv⟩;have HK1:=zh eh;have ls:=zh dv;clear eh dv;obtain⟨hB,v,gc,bd,cy⟩:=h1;have c0:w1.cell? ⟨b,0,none⟩=some (vP b 0):=by rw[Lib.cell_of_heap gc];rfl
 have c1:w1.cell? ⟨b,1,none⟩=some v:=by rw[Lib.cell_of_heap gc];rfl
 go_wp2_with (at_builtin;refine wpList_append_own _ rfl _ _ 110 rfl B 5 i0 (.int .u8 0) 1 1 Tryz.underlying110 hi m9 i9 lq rfl (by decide) _ _ _ rfl (bd.alloc _) ⟨w1.heap.size,0,none⟩ 1 1 [.int .u8 (c.toNat:Int)] rfl rfl ?c1 ?c2 ?c3 ?c4 ?c5 ?_)
 case c1=>
  intro j u hj
  match j,hj with
  |0,hj=>simp at hj;subst hj;simp[Addr.add]
 case c2=>intro u hu;simp at hu;subst hu;rfl
 case c3=>unfold maxLen;omega
 case c4=>omega
 case c5=>have:=ab.size;simp;omega
 intro v' w2 ep dt _;have hlt:b<w1.heap.size:=by
  rcases Nat.lt_or_ge b w1.heap.size with h'|h'
  ·exact h'
  simp[Array.getElem?_eq_none h']at gc
 have hb2:w2.heap[b]?=some (.cells #[vP b 0,v] 112 (0,0)):=by
  rw[dt.block b (by simp;omega) (fun e=>cy e.symm),Lib.alloc_old w1 _ b hlt];exact gc
 have d0:w2.cell? ⟨b,0,none⟩=some (vP b 0):=by rw[Lib.cell_of_heap hb2];rfl
 have d1:w2.cell? ⟨b,1,none⟩=some v:=by rw[Lib.cell_of_heap hb2];rfl
 have f1:w2.frozen? ⟨b,1,none⟩=false:=Lib.frozen_of_heap hb2 1;obtain⟨g,cap,rfl⟩:∃ g cap,v'=.slice (some ⟨g,0,none⟩) (bs.length+1) cap:=by
  rcases ep.2 with⟨_,h0⟩|⟨g,cap,cur,hv,_⟩
  ·omega
  exact⟨g,cap,hv⟩
 go_wp2
 go_ret
 refine⟨rfl,?_,?_,?_⟩
 ·rw[E1.out];exact .inr (Lib.BuilderAt.put (T:=112) (e:=5) hB hb2 (bs':=bs++[.int .u8 (c.toNat:Int)]) (by simpa using ep) (by decide))
 ·exact((ab.alloc (by have:=ab.size;omega) _).grown dt (by have:=ab.size;simp;omega) (fun k hk=>(bd.lt k hk).1)).setCell (p:=⟨b,1,none⟩) hB _
 have hvk:v.ownBlock≠some k:=hkv.out v (by rw[<- ls.out];exact c1);have hk1s:k<w1.heap.size:=yu wo ab.size;rw[Below.heap_setCell _ ⟨b,1,none⟩ _ k si,dt.block k (by simp;omega) (fun e=>hvk e.symm),Below.heap_alloc w1 _ k hk1s];exact HK1.out
theorem IsBuilder.notBuf{B b:Nat}{bs:List Value}{w w':World}(h:Lib.IsBuilder 112 5 B b bs w)(hb:Below w.heap.size w w'):∀ v,w'.cell? ⟨b,1,none⟩=some v->v.ownBlock≠some w.heap.size:=by
 have key:∀ p,Lib.BuilderAt 112 5 B b p bs w->∀ v,w'.cell? ⟨b,1,none⟩=some v->v.ownBlock≠some w.heap.size:=by
  rintro p ⟨_,u,gc,bd,_⟩ v hv hk;have hlt:b<w.heap.size:=(zk.1 gc).1;have h1:w.cell? ⟨b,1,none⟩=some u:=by rw[Lib.cell_of_heap gc];rfl
  rw[hb.cell (p:=⟨b,1,none⟩) hlt,h1]at hv;injection hv with hv;subst hv;have:=(bd.lt _ hk).2;omega
 rcases h with h|h
 ·exact key _ h
 exact key _ h
theorem IsBuilder.next{B b:Nat}{bs:List Value}{w w':World}(h:Lib.IsBuilder 112 5 B b bs w)(hb:Below w.heap.size w w'):Lib.IsBuilder 112 5 B b bs w':=by
 have key:∀ p,Lib.BuilderAt 112 5 B b p bs w->Lib.BuilderAt 112 5 B b p bs w':=by
  rintro p ⟨h1,u,gc,bd,h2⟩;have hlt:b<w.heap.size:=(zk.1 gc).1;exact⟨h1,u,(hb.block b hlt).trans gc,aD hb bd,h2⟩
 rcases h with h|h
 ·exact .inl (key _ h)
 exact .inr (key _ h)
theorem vM(l:Bs)(h:34∉l):bQ l=l:=by
 induction l with
 |nil=>rfl
 |cons c l ih=>
  simp only[bQ];rw[if_neg (fun e=>h (by rw[e];simp)),ih (fun hm=>h (by simp[hm]))]
theorem lH:∀ (k:Nat) (s:Bs),s.count 34=k->Lib.replaceK [34] [34,34] k s=bQ s
 |0,s,h=>by
  rw[Lib.replaceK,vM s (List.count_eq_zero.1 h)]
 |k+1,s,h=>by
  have hm:34∈s:=List.count_pos_iff.1 (by omega);obtain⟨n,h1,h2,h3,h4⟩:=uEA s 34 (uDZ s 34 hm);have hi:Lib.index s [34]=n:=by rw[Lib.index_one];exact h1
  rw[Lib.replaceK_hit [34] [34,34] k s n hi];have hc:(s.drop (n+1)).count 34=k:=by
   have:=congrArg (List.count 34) h4;rw[List.count_append,List.count_cons,List.count_eq_zero.2 h3]at this;simp at this;omega
  have hq:bQ s=bQ (s.take n)++(34::34::bQ (s.drop (n+1))):=by
   have e:bQ (34::s.drop (n+1))=34::34::bQ (s.drop (n+1)):=by simp[bQ]
   rw[<- e,<- tC,<- h4]
  rw[hq,vM _ h3,show n+([34]:Bs).length=n+1 from rfl,lH k _ hc];simp
theorem pH(s:Bs):Lib.replaceAll s [34] [34,34]=bQ s:=by
 unfold Lib.replaceAll Lib.replace;rw[if_neg (by decide)];unfold Lib.replaceNum;rw[if_pos (.inl (by decide)),Lib.count_one];exact lH _ s rfl
theorem tG(s:Bs)(w:World)(hs:s.length<=1000000)(hm:MaxVar w) :
  Calls Tryz.prog 57 #[vT s,vS #[34],vS #[34,34]] w fun e w'=>e=.returned (vT (bQ s))/\Below w.heap.size w w':=by
 obtain⟨m,hm⟩:=hm;have aq:(ByteArray.mk s.toArray).size=s.length:=by simp[ByteArray.size]
 have hc:Lib.countB ⟨s.toArray⟩ ⟨#[34]⟩<=s.length+1:=Lib.count_le _ _;have h2:(ByteArray.mk #[34,34]).size=2:=rfl;refine(Tryz.strings_ReplaceAll ⟨s.toArray⟩ ⟨#[34]⟩ ⟨#[34,34]⟩ m w (by rw[aq];omega) hm (by decide) (by rw[aq,h2];omega)).mono ?_;rintro e w' ⟨rfl,hb⟩;exact⟨by rw[show (ByteArray.mk s.toArray).data.toList=s from rfl,show (ByteArray.mk #[34]).data.toList=[34] from rfl,show (ByteArray.mk #[34,34]).data.toList=[34,34] from rfl,pH],hb⟩
def sT(t:RTok):Bs:=if t.kind==2 then 34::(bQ t.text++[34]) else t.text
def kD:Option RTok->RTok->Bs
 |none,_=>[]
 |some a,b=>if gV a b then [32] else []
def cL:Option RTok->List RTok->Bs
 |_,[]=>[]
 |p,t::r=>kD p t++(sT t++cL (some t) r)
def cC:Option RTok->List RTok->Option RTok
 |p,[]=>p
 |_,t::r=>cC (some t) r
theorem mW(t:RTok):∀ (l:List RTok) (p:Option RTok),cL p (l++[t])=cL p l++(kD (cC p l) t++sT t)
 | [],p=>by simp[cL,cC]
 |a::l,p=>by
  rw[yp,cL,cL,mW t l (some a),cC];simp
theorem qB(t:RTok):∀ (l:List RTok) (p:Option RTok),cC p (l++[t])=some t
 | [],p=>rfl
 |a::l,p=>by rw[yp,cC,qB t l]
def sP:Option RTok->RTok->Bool
 |none,_=>false
 |some a,b=>gV a b
theorem gS(p:Option RTok)(t:RTok):kD p t=if sP p t then [32] else []:=by cases p <;> rfl
theorem qC(ts:List RTok)(j:Nat)(h:j<ts.length):cC none (ts.take (j+1))=some ts[j]:=by
 rw[yw h,qB]
theorem outZ_len(t:RTok)(h:t.text.length<=1000):(sT t).length<=2002:=by
 unfold sT;have:=jZ t.text
 split
 ·simp;omega
 omega
theorem oZ:∀ (l:List RTok) (p:Option RTok),(∀ t∈l,t.text.length<=1000)->(cL p l).length<=l.length*2003
 | [],p,_=>zm _
 |t::l,p,h=>by
  have h1:=outZ_len t (h t (by simp));have h2:=oZ l (some t) (fun x hx=>h x (by simp[hx]));have h3:(kD p t).length<=1:=by
   cases p with
   |none=>exact zm _
   |some a=>show (if gV a t then ([32]:Bs) else []).length<=1;split <;> decide
  rw[cL,yl,yl,yi];omega
def RIn(w:World)(A:Option Addr)(ts:List RTok):Prop:=0<ts.length->∃ g o,A=some ⟨g,o,none⟩/\g<w.heap.size /\
 ∀ j (h:j<ts.length),w.cell? ⟨g,o+j*3,none⟩=some (vI ts[j].kind)/\w.cell? ⟨g,o+j*3+1,none⟩=some (vS (ts[j].text.toArray))/\w.cell? ⟨g,o+j*3+2,none⟩=some (vI ts[j].place)
theorem join_any(A:Option Addr)(cap:Nat)(ts:List RTok)(w:World)(hn:ts.length<=2000)(pz:∀ t∈ts,t.text.length<=1000)(ru:RIn w A ts)(hmx:MaxVar w) :
  Calls Tryz.prog 25 #[.slice A ts.length cap] w fun e w'=>e=.returned (vT (cL none ts))/\Below w.heap.size w w':=by
 have HIN:=zh ru;have HMX:=zh hmx;have zw:=zh pz;clear ru hmx pz
 go_in
 go_wp2_with fail
 go_loopg [8] (ts.length) (fun gk i wr=>∃ k:Nat,k<=ts.length/\gk=ts.length-k/\i=vI k/\Hid (Lib.IsBuilder 112 5 w.heap.size w.heap.size (Lib.byteCells (cL none (ts.take k))) wr)/\Hid (Below w.heap.size w wr))
 case atStart=>exact⟨0,zm _,rfl,rfl,zh (Lib.fresh_isBuilder _ _ w),zh ((Below.refl _ w).alloc zr _)⟩
 case round=>
  obtain⟨k,hk,hgk,rfl,HBU,mj⟩:=hrel;have HGK:=zh hgk;clear hgk;have hjl:=oZ (ts.take k) none (fun t ht=>zw.out t (List.mem_of_mem_take ht));rw[zc,Nat.min_eq_left hk]at hjl;by_cases hlt:k<ts.length
  ·obtain⟨g,o,rfl,hg,hc⟩:=HIN.out (by omega);obtain⟨c0,c1,c2⟩:=hc k hlt;have d0:wr.cell? ⟨g,o+k*3,none⟩=some (vI ts[k].kind):=(mj.out.cell (p:=⟨g,_,none⟩) hg).trans c0;have d1:wr.cell? ⟨g,o+k*3+1,none⟩=some (vS (ts[k].text.toArray)):=(mj.out.cell (p:=⟨g,_,none⟩) hg).trans c1;have d2:wr.cell? ⟨g,o+k*3+2,none⟩=some (vI ts[k].place):=(mj.out.cell (p:=⟨g,_,none⟩) hg).trans c2;clear c0 c1 c2;have HC:=zh hc;clear hc;have gy:(0:Int)<=(k:Int):=Int.natCast_nonneg _;have eh:(k:Int)<(ts.length:Int):=by omega
   have ws:Hid (cL none (ts.take (k+1))=cL none (ts.take k)++(kD (cC none (ts.take k)) ts[k]++sT ts[k])):=zh (by rw[yw hlt,mW]);have hT:Hid (Lies (wr.alloc (.cells #[vI ts[k].kind,vS (ts[k].text.toArray),vI ts[k].place] 64)) wr.heap.size 64 #[vI ts[k].kind,vS (ts[k].text.toArray),vI ts[k].place]):=zh (Lies.new wr _ _);have hW:Hid (Below wr.heap.size wr (wr.alloc (.cells #[vI ts[k].kind,vS (ts[k].text.toArray),vI ts[k].place] 64))):=zh ((Below.refl _ wr).alloc zr _)
   go_wp2_with fail
   go_upto_region 6 with fail
   go_cut [23] (fun v wx=>v=.bool (sP (cC none (ts.take k)) ts[k])/\Hid (Below wr.heap.size wr wx)/\Hid (Lies wx wr.heap.size 64 #[vI ts[k].kind,vS (ts[k].text.toArray),vI ts[k].place]))
   case first=>
    cases k with
    |zero=>
     have hd:decide ((0:Int)<((0:Nat):Int))=false:=by decide
     go_quiet (fail)
     go_wp2_with fail
     go_meet
     exact⟨rfl,zh (zN hW.out _),hT⟩
    |succ j=>
     have hjl:j<ts.length:=by omega
     obtain⟨c0,c1,c2⟩:=HC.out j hjl;have z0:wr.cell? ⟨g,o+j*3,none⟩=some (vI ts[j].kind):=(mj.out.cell (p:=⟨g,_,none⟩) hg).trans c0;have z1:wr.cell? ⟨g,o+j*3+1,none⟩=some (vS (ts[j].text.toArray)):=(mj.out.cell (p:=⟨g,_,none⟩) hg).trans c1;have z2:wr.cell? ⟨g,o+j*3+2,none⟩=some (vI ts[j].place):=(mj.out.cell (p:=⟨g,_,none⟩) hg).trans c2;clear c0 c1 c2 d0 d1 d2;have CAP:=zh (fun W=>uEO ts[j] ts[j+1] W);simp only[RTok.cells]at CAP;have HN:Hid (sP (cC none (ts.take (j+1))) ts[j+1]=gV ts[j] ts[j+1]):=zh (by rw[qC ts j hjl];rfl);have aq:=mj.out.size;have vq:g<wr.heap.size:=by omega
     clear HC zw ws;generalize ts[j]=a at *;generalize ts[j+1]=b at *;obtain⟨ka,ta,pa⟩:=a;obtain⟨kb,tb,pb⟩:=b;simp only at z0 z1 z2 CAP hT hW;have q0:=hT.out.cell 0;have q1:=hT.out.cell 1;have q2:=hT.out.cell 2;simp only[za,zb,zf]at q0 q1 q2;have p0:=(hW.out.cell (p:=⟨g,o+j*3,none⟩) vq).trans z0;have p1:=(hW.out.cell (p:=⟨g,o+j*3+1,none⟩) vq).trans z1;have p2:=(hW.out.cell (p:=⟨g,o+j*3+2,none⟩) vq).trans z2;generalize hWW:wr.alloc (.cells #[vI kb,vT tb,vI pb] 64)=W at *;clear hWW z0 z1 z2;have hkW:wr.heap.size<W.heap.size:=hT.out.lt;have hgW:g<W.heap.size:=by omega
     have hd:decide ((0:Int)<((j+1:Nat):Int))=true:=by simp
     have hwj:IntKind.i64.wrap (((j+1:Nat):Int)-1)=(j:Int):=by rw[IntWalk.i64_in _ (by omega)];omega
     have hwj2:IntKind.i64.wrap (j:Int)=(j:Int):=IntWalk.i64_in _ (by omega);have hwj3:IntKind.i64.wrap ((j:Int)+1-1)=(j:Int):=by rw[IntWalk.i64_in _ (by omega)];omega
     have hj0:(0:Int)<=(j:Int):=Int.natCast_nonneg _;have hj1:(j:Int)<(ts.length:Int):=by omega
     go_region_held3 (fun w'=>w'.cell? ⟨g,o+j*3,none⟩=some (vI ka)/\w'.cell? ⟨g,o+j*3+1,none⟩=some (vT ta)/\w'.cell? ⟨g,o+j*3+2,none⟩=some (vI pa)/\w'.cell? ⟨wr.heap.size,0,none⟩=some (vI kb)/\w'.cell? ⟨wr.heap.size,1,none⟩=some (vT tb)/\w'.cell? ⟨wr.heap.size,2,none⟩=some (vI pb))
      (first|go_keep |(go_split_ands;exact⟨(hb.cell (p:=⟨g,_,none⟩) hgW).trans (by assumption),(hb.cell (p:=⟨g,_,none⟩) hgW).trans (by assumption),(hb.cell (p:=⟨g,_,none⟩) hgW).trans (by assumption),(hb.cell (p:=⟨wr.heap.size,_,none⟩) hkW).trans (by assumption),(hb.cell (p:=⟨wr.heap.size,_,none⟩) hkW).trans (by assumption),(hb.cell (p:=⟨wr.heap.size,_,none⟩) hkW).trans (by assumption)⟩))
      (first
       |(go_at_call 54;(with_reducible refine(CAP.out _).mono ?_);rintro e wx ⟨rfl,hb⟩))
     all_goals go_wp2_with fail
     all_goals go_meet
     all_goals exact⟨congrArg Value.bool HN.out.symm,zh (hW.out.drew.trans (hb.mono hW.out.size)),zh (Lies.below (w:=W.drew) hT.out hb)⟩
   case rest=>
    obtain⟨rfl,bm,dy⟩:=hcut;clear hT hW d0 d1 d2 HC;obtain⟨w5,hw5⟩:∃ w5:World,w5=wc:=⟨_,rfl⟩
    subst hw5
    go_upto_if 23 with fail
    go_cut [5] (fun v wx=>v=vP wr.heap.size 0/\Hid (Lib.IsBuilder 112 5 w.heap.size w.heap.size (Lib.byteCells (cL none (ts.take k)++kD (cC none (ts.take k)) ts[k])) wx)/\Hid (Lies wx wr.heap.size 64 #[vI ts[k].kind,vS (ts[k].text.toArray),vI ts[k].place])/\Hid (Below w.heap.size w wx))
    case first=>
     have nu:Hid (Below w.heap.size w w5):=zh (zU mj.out bm.out);cases hn:sP (cC none (ts.take k)) ts[k]
     ·have HSP:Hid (kD (cC none (ts.take k)) ts[k]=[]):=zh (by rw[gS,hn];rfl)
      go_wp2_with fail
      go_meet
      exact⟨rfl,zh (by rw[HSP.out,List.append_nil];exact IsBuilder.next HBU.out bm.out),dy,nu⟩
     have HSP:Hid (kD (cC none (ts.take k)) ts[k]=[32]):=zh (by rw[gS,hn];rfl);have cy:wr.heap.size≠w.heap.size:=by
      have h1:w.heap.size<wr.heap.size:=by
       rcases HBU.out with h|h
       ·obtain⟨_,u,hb,_⟩:=h;exact(zk.1 hb).1
       obtain⟨_,u,hb,_⟩:=h;exact(zk.1 hb).1
      omega
     go_wp2_with fail
     refine(uO w.heap.size w.heap.size wr.heap.size (cL none (ts.take k)) 32 _ cy dy.out.lt (zh (IsBuilder.notBuf HBU.out bm.out)) (IsBuilder.next HBU.out bm.out) (by omega) nu.out.size).mono ?_;rintro e w6 ⟨rfl,zx,mv,nv⟩;have HBU6:=zh zx;have nd:=zh (nu.out.trans mv);have db:Hid (Lies w6 wr.heap.size 64 #[vI ts[k].kind,vS (ts[k].text.toArray),vI ts[k].place]):=zh (nv.trans dy.out);clear zx mv nv
     go_wp2_with fail
     go_meet
     exact⟨rfl,zh (by rw[HSP.out];exact HBU6.out),db,nd⟩
    case rest=>
     obtain⟨rfl,wt,nf,nd⟩:=hcut;obtain⟨w7,hw7⟩:∃ w7:World,w7=wc:=⟨_,rfl⟩
     subst hw7;clear HBU bm dy mj;have q0:=nf.out.cell 0;have q1:=nf.out.cell 1;simp only[za,zb,zf]at q0 q1;have HX:=zh (HMX.out.next nd.out);have htl:=zw.out ts[k] (List.getElem_mem hlt);have hql:=jZ ts[k].text;have HZ:Hid (sT ts[k]=if ts[k].kind==2 then 34::(bQ ts[k].text++[34]) else ts[k].text):=zh rfl;have ji:(cL none (ts.take k)++kD (cC none (ts.take k)) ts[k]).length<=5000000:=by
      have:(kD (cC none (ts.take k)) ts[k]).length<=1:=by
       rw[gS]
       split <;> decide
      rw[yl];omega
     have HSN2:Hid (cL none (ts.take (k+1))=(cL none (ts.take k)++kD (cC none (ts.take k)) ts[k])++sT ts[k]):=zh (by rw[ws.out];simp);clear ws;generalize cL none (ts.take k)++kD (cC none (ts.take k)) ts[k]=acc at *;cases h2:(ts[k].kind==2)
     ·rw[h2]at HZ;have jd:Hid (sT ts[k]=ts[k].text):=zh (by rw[HZ.out];rfl);clear HZ
      go_wp2_with fail
      refine(kJ w.heap.size w.heap.size acc ts[k].text _ wt.out (by omega) nd.out.size).mono ?_;rintro e w8 ⟨rfl,zx,mv⟩;have wu:=zh zx;have HB8:=zh (nd.out.trans mv);clear zx mv wt nd nf q0 q1
      go_wp2_with fail
      go_roundg (ts.length-(k+1))
      case rel=>exact⟨k+1,by omega,rfl,by go_num,zh (by rw[HSN2.out,jd.out];exact wu.out),HB8⟩
      case measure=>rw[HGK.out];omega
     rw[h2]at HZ;have jd:Hid (sT ts[k]=34::(bQ ts[k].text++[34])):=zh (by rw[HZ.out];rfl);clear HZ
     go_wp2_with fail
     refine(tG ts[k].text _ (by omega) HX.out).mono ?_;rintro e w8 ⟨rfl,hb⟩;have wu:=zh (IsBuilder.next wt.out hb);have HB8:=zT nd hb;clear hb wt nd nf q0 q1
     go_wp2_with fail
     refine(kJ w.heap.size w.heap.size acc (34::(bQ ts[k].text++[34])) _ wu.out (by simp;omega) HB8.out.size).mono ?_;rintro e w9 ⟨rfl,zx,mv⟩;have HBU9:=zh zx;have iy:=zh (HB8.out.trans mv);clear zx mv wu HB8
     go_wp2_with fail
     go_roundg (ts.length-(k+1))
     case rel=>exact⟨k+1,by omega,rfl,by go_num,zh (by rw[HSN2.out,jd.out];exact HBU9.out),iy⟩
     case measure=>rw[HGK.out];omega
  have e:k=ts.length:=by omega
  have HE:Hid (ts.take k=ts):=zh (by rw[e,List.take_length]);have hd:decide ((k:Int)<(ts.length:Int))=false:=by rw[e];simp
  have hd2:¬ k<ts.length:=hlt;clear e;rw[HE.out]at HBU
  go_wp2_with fail
  refine(Tryz.Builder_String_any w.heap.size w.heap.size (cL none ts) _ HBU.out mj.out.size).mono ?_;rintro e w2 ⟨rfl,hb2⟩;have aw:Hid (Below w.heap.size w w2):=zh (mj.out.trans hb2);clear hb2
  go_wp2_with fail
  go_ret
  exact⟨rfl,aw.out⟩
def iG(x:IdR):Nat->List IdR->Int
 |_,[]=>-1
 |i,y::r=>if y=x then (i:Int) else iG x (i+1) r
def bC(l:List IdR)(x:IdR):Int:=iG x 0 l
theorem gP(x:IdR):∀ (l:List IdR) (i k:Nat),x∉l.take k->l[k]?=some x->iG x i l=((i+k:Nat):Int)
 | [],_,_,_,h=>by simp at h
 |y::r,i,0,_,h=>by
  simp at h;unfold iG;rw[if_pos h];rfl
 |y::r,i,k+1,hn,h=>by
  rw[List.take_succ_cons,ym,not_or]at hn;unfold iG;rw[if_neg (fun e=>hn.1 e.symm),gP x r (i+1) k hn.2 (by simpa using h)]
  congr 1
  omega
theorem eW(x:IdR):∀ (l:List IdR) (i:Nat),x∉l->iG x i l=-1
 | [],_,_=>rfl
 |y::r,i,hn=>by
  rw[ym,not_or]at hn;unfold iG;rw[if_neg (fun e=>hn.1 e.symm),eW x r (i+1) hn.2]
theorem jD(x:IdR):∀ (l:List IdR) (i:Nat),x∈l->∃ k:Nat,iG x i l=((i+k:Nat):Int)/\l[k]?=some x
 | [],_,h=>by cases h
 |y::r,i,h=>by
  by_cases e:y=x
  ·exact⟨0,by unfold iG;rw[if_pos e];rfl,by simp[e]⟩
  obtain⟨k,h1,h2⟩:=jD x r (i+1) ((ym.1 h).resolve_left (fun e'=>e e'.symm));exact⟨k+1,by unfold iG;rw[if_neg e,h1];congr 1;omega,by simpa using h2⟩
theorem vG(l:List IdR)(x:IdR):(bC l x<0↔x∉l):=by
 by_cases h:x∈l
 ·obtain⟨k,h1,_⟩:=jD x l 0 h;unfold bC;rw[h1];exact⟨fun h'=>by omega,fun h'=>absurd h h'⟩
 unfold bC;rw[eW x l 0 h];exact⟨fun _=>h,fun _=>by decide⟩
theorem Own.isl{w:World}{base:Nat}{v:Value}{L:List Nat}(h:Own w base v L):∃ A c,v=.slice A L.length c/\ISl w 0 A c L:=by
 rcases Nat.eq_zero_or_pos L.length with z|z
 ·rcases h.2 with⟨rfl,_⟩|⟨g,cap,cur,rfl,hg,hh,hnc,wj,_⟩
  ·exact⟨none,0,by rw[z],by omega,by decide,fun h=>by omega⟩
  exact⟨_,cap,rfl,hnc,wj,fun h=>by omega⟩
 obtain⟨g,cap,e,hs,_⟩:=own_isl (base:=0) h (zm _) z;exact⟨_,cap,e,hs⟩
theorem wU{v:Val}(h:aW v=true):v.kind=0\/v.kind=1\/v.kind=2\/v.kind=3\/v.kind=4:=by
 by_cases h0:v.kind=0
 ·exact .inl h0
 by_cases h1:v.kind=1
 ·exact .inr (.inl h1)
 by_cases h2:v.kind=2
 ·exact .inr (.inr (.inl h2))
 by_cases h3:v.kind=3
 ·exact .inr (.inr (.inr (.inl h3)))
 by_cases h4:v.kind=4
 ·exact .inr (.inr (.inr (.inr h4)))
 rw[oM v h0 h1 h2 h3 h4]at h;cases h
end Go.Proofs.YtjfihpaeglpblaaGreatDoor
