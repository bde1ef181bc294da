/-
  Lemmas, part 3: PlainM PlainK PlT1 Ord2 Par0 Ax1 Ax2 Ax3 Ax4.
-/
import Derived.Orders
import Derived.Laws.AppendOwn
import Derived.Laws.EntriesVeiled
import Derived.DeepKeys4
import Derived.WideKeyArgs2
import Derived.MapViews
import Derived.Laws.MakeOwn
import Derived.Test.YtjfihpaeglpblaaGreatDoorRs2
set_option maxHeartbeats 100000000
set_option maxRecDepth 1000000
namespace Go.Proofs.YtjfihpaeglpblaaGreatDoor
open Go.RowKit
theorem at_get{l:Bs}{k:Nat}{c:UInt8}(hlt:k<l.length)(h:bM l k c=true):l[k]=c:=by
 unfold bM at h;rw[List.getElem?_eq_getElem hlt]at h;have:=eq_of_beq h;injection this
def dS(c:Nat):Bs:=if _h:c=0 then [] else dS ((c-1) / 26)++[UInt8.ofNat (65+(c-1) % 26)]
termination_by c
decreasing_by omega
theorem fK:dS 0=[]:=by rw[dS,dif_pos rfl]
theorem eT(c:Nat)(h:0<c):dS c=dS ((c-1) / 26)++[UInt8.ofNat (65+(c-1) % 26)]:=by rw[dS,dif_neg (by omega)]
def bJ(c:UInt8):Bool:=decide (65<=c.toNat)&&decide (c.toNat<=90)
theorem cap_of(d:Nat)(h:d<26):bJ (UInt8.ofNat (65+d))=true/\(UInt8.ofNat (65+d)).toNat=65+d:=by
 have:=(by decide:∀ d,d<26->bJ (UInt8.ofNat (65+d))=true/\(UInt8.ofNat (65+d)).toNat=65+d)
 exact this d h
theorem lets_pos(c:Nat)(h:0<c):0<(dS c).length:=by rw[eT c h];simp
theorem fY(c:Nat)(h:c<=18278):(dS c).length<=3:=by
 by_cases h0:c=0
 ·subst h0;rw[fK];simp
 rw[eT c (by omega),yl];by_cases h1:(c-1) / 26=0
 ·rw[h1,fK];simp
 rw[eT _ (by omega),yl];by_cases h2:((c-1) / 26-1) / 26=0
 ·rw[h2,fK];simp
 rw[eT _ (by omega),yl];have h3:(((c-1) / 26-1) / 26-1) / 26=0:=by omega
 rw[h3,fK];simp
def qT(b:Bool):Bs:=if b then [36] else []
def iY(row col:Nat)(fr fc:Bool):Bs:=qT fc++(dS (col+1)++(qT fr++Lib.decDigits (row+1)))
theorem bW(u k:Nat)(h:u<10 ^ (k+1)):(Lib.decDigits u).length<=k+1:=by
 induction k generalizing u with
 |zero=>rw[Lib.decDigits,dif_pos (by omega)];simp
 |succ k ih=>
  rw[Lib.decDigits];by_cases h1:u<10
  ·rw[dif_pos h1];simp
  rw[dif_neg h1,yl];have:=ih (u / 10) (by rw[Nat.pow_succ]at h;omega);simp;omega
structure IdR where
 a:Int
 n:Int
theorem IdR.ext'{x y:IdR}(h1:x.a=y.a)(h2:x.n=y.n):x=y:=by
 cases x;cases y;cases h1;cases h2;rfl
instance :DecidableEq IdR:=fun x y=>if h:x.a=y.a/\x.n=y.n then .isTrue (IdR.ext' h.1 h.2) else .isFalse (fun e=>h (by rw[e];exact⟨rfl,rfl⟩))
abbrev id0:IdR:=⟨0,0⟩
structure Cor where
 row:IdR
 col:IdR
 fr:Bool
 fc:Bool
theorem Cor.ext'{x y:Cor}(h1:x.row=y.row)(h2:x.col=y.col)(h3:x.fr=y.fr)(h4:x.fc=y.fc):x=y:=by
 cases x;cases y;cases h1;cases h2;cases h3;cases h4;rfl
instance :DecidableEq Cor:=fun x y=>if h:x.row=y.row/\x.col=y.col/\x.fr=y.fr/\x.fc=y.fc then .isTrue (Cor.ext' h.1 h.2.1 h.2.2.1 h.2.2.2) else .isFalse (fun e=>h (by rw[e];exact⟨rfl,rfl,rfl,rfl⟩))
abbrev aP:Cor:=⟨id0,id0,false,false⟩
structure NodeH where
 kind:Int
 v:Val
 name:Bs
 a:Cor
 b:Cor
 rows:Int
inductive Tree where
 |mk (h:NodeH) (l:List Tree)
def Tree.h:Tree->NodeH
 | .mk h _=>h
def Tree.l:Tree->List Tree
 | .mk _ l=>l
abbrev head0:NodeH:=⟨0,aE,[],aP,aP,0⟩
abbrev tree0:Tree:=.mk head0 []
mutual
def Tree.size:Tree->Nat
 | .mk _ l=>aM l+1
def aM:List Tree->Nat
 | []=>0
 |t::r=>t.size+aM r
end
mutual
def Tree.depth:Tree->Nat
 | .mk _ l=>cP l+1
def cP:List Tree->Nat
 | []=>0
 |t::r=>max t.depth (cP r)
end
def NodeH.same(x y:NodeH):Bool:=decide (x.kind=y.kind)&&bC x.v y.v&&x.name==y.name&&decide (x.a=y.a)&&decide (x.b=y.b)&&decide (x.rows=y.rows)
mutual
def Tree.same:Tree->Tree->Bool
 | .mk h l,.mk h' l'=>NodeH.same h h'&&fG l l'
def fG:List Tree->List Tree->Bool
 | [],[]=>true
 |t::r,t'::r'=>t.same t'&&fG r r'
 | [],_::_=>false
 |_::_,[]=>false
end
def aH(s:Bs):Nat:=bA aB s
def aF(s:Bs):Nat:=bA bJ s
def bX(s:Bs):Bool :=
 decide (0<s.length)&&decide (s.length<=32)&&bJ (s.headD 0)&&s.all (fun c=>bJ c||aB c||c==46) &&
  !(decide (aF s+aH (s.drop (aF s))=s.length)&&decide (aF s<=3)&&decide (1<=aH (s.drop (aF s)))&&decide (aH (s.drop (aF s))<=7)&&!bM s (aF s) 48)
def dY(s:Bs):Bool :=
 let a:=if bM s 0 82 then 1+aH (s.drop 1) else 0
 let b:=if bM s a 67 then a+1+aH (s.drop (a+1)) else a
 decide (b=s.length)
def mK:Bs:=[84,82,85,69]
def iP:Bs:=[70,65,76,83,69]
def bQ(s:Bs):Bool :=
 decide (0<s.length)&&decide (s.length<=32)&&(bJ (s.headD 0)||s.headD 0==95)&&s.all (fun c=>bJ c||aB c||c==95||c==46) &&
  !(s==mK||s==iP||dY s) &&
  !(decide (aF s+aH (s.drop (aF s))=s.length)&&decide (1<=aF s)&&decide (aF s<=3)&&decide (1<=aH (s.drop (aF s))))
def unB(s:Bs):Bool:=s==[45]||s==[43]||s==[37]
def mR(s:Bs):Bool:=s==[43]||s==[45]||s==[42]||s==[47]||s==[94]||s==[38]||s==[61]||s==[60,62]||s==[60]||s==[60,61]||s==[62]||s==[62,61]
def dG(v:Val)(inMat:Bool):Bool:=decide (v.kind≠0)&&aW v&&(inMat||decide (0<=v.mant))
def cF(a b:Cor):Bool :=
 let rows:=decide (a.row≠id0)
 let cols:=decide (a.col≠id0)
 (rows==decide (b.row≠id0))&&(cols==decide (b.col≠id0))&&(rows||cols)&&(rows||(!a.fr&&!b.fr))&&(cols||(!a.fc&&!b.fc))
def bI(h:NodeH)(n:Nat)(kids:List Int)(above:Int):Bool :=
 if h.kind=0 then dG h.v (decide (above=8))&&NodeH.same h ⟨0,h.v,[],aP,aP,0⟩&&decide (n=0)
 else if h.kind=1\/h.kind=3 then decide (h.a.row≠id0)&&decide (h.a.col≠id0)&&NodeH.same h ⟨h.kind,aE,[],h.a,aP,0⟩&&decide (n=0)
 else if h.kind=2 then cF h.a h.b&&NodeH.same h ⟨2,aE,[],h.a,h.b,0⟩&&decide (n=0)
 else if h.kind=4 then bX h.name&&decide (n<=32)&&!(decide (n=1)&&decide (kids=[9]))&&NodeH.same h ⟨4,aE,h.name,aP,aP,0⟩
 else if h.kind=5 then unB h.name&&decide (n=1)&&NodeH.same h ⟨5,aE,h.name,aP,aP,0⟩
 else if h.kind=6 then mR h.name&&decide (n=2)&&NodeH.same h ⟨6,aE,h.name,aP,aP,0⟩
 else if h.kind=7 then bQ h.name&&NodeH.same h ⟨7,aE,h.name,aP,aP,0⟩&&decide (n=0)
 else if h.kind=8 then decide (1<=h.rows)&&decide (1<=n)&&decide ((n:Int).tmod h.rows=0)&&NodeH.same h ⟨8,aE,[],aP,aP,h.rows⟩
 else if h.kind=9 then decide (above=4)&&NodeH.same h ⟨9,aE,[],aP,aP,0⟩&&decide (n=0)
 else false
mutual
def Tree.right:Tree->Int->Bool
 | .mk h l,above=>bI h l.length (l.map fun t=>t.h.kind) above&&aZ l h.kind
def aZ:List Tree->Int->Bool
 | [],_=>true
 |t::r,k=>(decide (k≠8)||decide (t.h.kind=0))&&t.right k&&aZ r k
end
def dO(t:Tree):Nat:=if 256<t.size then 5 else if 32<t.depth then 8 else if t.right 6 then 0 else 6
def hd(ts:List Tok):Tok:=ts.headD ⟨0,[],0⟩
open Go
def Up(zl:Array Bool)(i:Nat):Prop:=zl.getD i false=true
theorem Up.of_false{zl:Array Bool}{i:Nat}(h:zl.getD i true=false):i<zl.size:=by
 rcases Nat.lt_or_ge i zl.size with h1|h1
 ·exact h1
 simp[Array.getElem?_eq_none h1]at h
theorem Up.set{zl:Array Bool}{i j:Nat}(hs:i<zl.size):Up (zl.setIfInBounds i true) j↔(j=i\/Up zl j):=by
 unfold Up;by_cases h:i=j
 ·subst h;simp[hs]
 rw[getD_set_ne false h];constructor
 ·exact .inr
 rintro(e|e)
 ·exact absurd e.symm h
 exact e
theorem Up.none(n i:Nat):¬ Up (Array.replicate n false) i:=by
 unfold Up;simp only[Array.getD_eq_getD_getElem?,Array.getElem?_replicate]
 split <;> simp
def kM(ops:Array Oper):Bool:=(List.range ops.size).all fun i=>((ops[i]?).map fun o=>o.after.all fun e=>decide (e.on<i)).getD true
theorem mD{ops:Array Oper}(h:kM ops=true){i:Nat}{o:Oper}(ho:ops[i]?=some o):∀ e∈o.after,e.on<i:=by
 intro e he;have hlt:i<ops.size:=(zk.1 ho).1;have:=List.all_eq_true.1 h i (yg.2 hlt);rw[ho]at this;simp only[Option.map_some,Option.getD_some,Array.all_eq_true_iff_forall_mem]at this;exact of_decide_eq_true (this e he)
theorem all_up{md:Region.Mode}{ops:Array Oper}(hb:kM ops=true){zl:Array Bool}(hs:zl.size=ops.size)(hr:Region.ready md ops zl=[]):∀ i,i<ops.size->Up zl i:=by
 intro i
 induction i using Nat.strongRecOn with
 |_ i ih=>
  intro hi;cases hu:zl.getD i true
  ·exfalso
   have ho:ops[i]?=some ops[i]:=Array.getElem?_eq_getElem hi;have:i∈Region.ready md ops zl:=mem_ready.2 ⟨hu,ops[i],ho,fun e he _=>ih e.on (mD hb ho e he) (Nat.lt_trans (mD hb ho e he) hi)⟩;rw[hr]at this;cases this
  have ws:i<zl.size:=by omega
  unfold Up;simp only[Array.getD_eq_getD_getElem?,Array.getElem?_eq_getElem ws,Option.getD_some]at hu ⊢;exact hu
def left(zl:Array Bool):Nat:=zl.toList.countP (fun b=>!b)
theorem sD{zl:Array Bool}{i:Nat}(h:zl.getD i true=false):left (zl.setIfInBounds i true)+1=left zl:=by
 have hi:=Up.of_false h;have hv:zl[i]=false:=by simpa [hi] using h
 unfold left;obtain⟨l⟩:=zl;simp only[yd]at hi;simp only[List.getElem_toArray]at hv;simp only[yz];have e1:l=l.take i++l[i]::l.drop (i+1):=by
  rw[<- yx hi,List.take_append_drop]
 have e2:l.set i true=l.take i++true::l.drop (i+1):=List.set_eq_take_append_cons_drop.trans (if_pos hi);rw[e2]
 conv=>rhs;rw[e1]
 rw[List.countP_append,List.countP_append,List.countP_cons,List.countP_cons,hv];simp;omega
theorem uR{zl:Array Bool}(h:left zl=0)(i:Nat):zl.getD i true=true:=by
 cases hu:zl.getD i true
 ·have:=sD hu;omega
 rfl
section
variable {P:Program} {ops:Array Oper} {Q:Exit->Act->World->Prop} {md:Region.Mode}
theorem vW(hb:kM ops=true)(I:Array Bool->Act->World->Prop)
  (cg:∀ zl a w i o,zl.size=ops.size->I zl a w->zl.getD i true=false->ops[i]?=some o->(∀ e∈o.after,Region.binds md e=true->Up zl e.on)->wpOp P ops Q i (I (zl.setIfInBounds i true)) a w)
  (co:∀ zl a w,I zl a w->(∀ i,i<ops.size->Up zl i)->Q .normal a w) :
  ∀ (fuel:Nat) (zl:Array Bool) (a:Act) (w:World),zl.size=ops.size->left zl<=fuel->I zl a w->wpAny P md ops Q fuel zl a w
 |0,zl,a,w,hs,hf,hI=>by
  have hr:Region.ready md ops zl=[]:=by
   refine List.eq_nil_iff_forall_not_mem.2 (fun i hi=>?_);have h1:=(mem_ready.1 hi).1;rw[uR (by omega) i]at h1;cases h1
  exact⟨hr,co zl a w hI (all_up hb hs hr)⟩
 |fuel+1,zl,a,w,hs,hf,hI=>by
  refine⟨fun hr=>co zl a w hI (all_up hb hs hr),fun i hi=>?_⟩;obtain⟨h1,o,ho,zd⟩:=mem_ready.1 hi;refine wpOp_mono (fun a' w' h'=>vW hb I cg co fuel _ a' w' (by rw[Array.size_setIfInBounds];exact hs) (by have:=sD h1;omega) h') (cg zl a w i o hs hI h1 ho zd)
theorem kV(n:Nat):left (Array.replicate n false)=n:=by
 unfold left;simp[List.countP_replicate]
theorem uF{id:Nat}{a:Act}{w:World}(hm:P.follows .mixedOrders=true)(hb:kM ops=true)(I:Array Bool->Act->World->Prop)
  (h0:I (Array.replicate ops.size false) a w.drew)
  (cg:∀ zl a w i o,zl.size=ops.size->I zl a w->zl.getD i true=false->ops[i]?=some o->(∀ e∈o.after,Region.binds .any e=true->Up zl e.on)->wpOp P ops Q i (I (zl.setIfInBounds i true)) a w)
  (co:∀ zl a w,I zl a w->(∀ i,i<ops.size->Up zl i)->Q .normal a w):(Code.region id ops true).wp P Q a w :=
 wp_region_any hm (vW hb I cg co ops.size _ a _ (by simp) (by rw[kV];exact zr) h0)
theorem wp_region_inv'{id:Nat}{a:Act}{w:World}(hm:P.follows .mixedOrders=true)(hb:kM ops=true)(F:Act->Prop)(I:Act->Array Bool->Act->World->Prop)(hF:F a)
  (h0:I a (Array.replicate ops.size false) a w.drew)
  (cg:∀ a0,F a0->∀ zl a w i o,zl.size=ops.size->I a0 zl a w->zl.getD i true=false->ops[i]?=some o->(∀ e∈o.after,Region.binds .any e=true->Up zl e.on)->wpOp P ops Q i (I a0 (zl.setIfInBounds i true)) a w)
  (co:∀ zl a' w',I a zl a' w'->(∀ i,i<ops.size->Up zl i)->Q .normal a' w'):(Code.region id ops true).wp P Q a w :=
 uF hm hb (I a) h0 (cg a hF) co
theorem kD{i:Nat}{o:Oper}{K:Act->World->Prop}{a:Act}{w:World}(ho:ops[i]?=some o)(hg:o.guard=none)(h:o.wp P a w K Q):wpOp P ops Q i K a w:=by
 unfold wpOp;rw[ho];simp only;rw[if_pos (by simp[Region.wanted,hg])];exact .inl h
end
theorem iL(a:Act)(v:Value){t s:Nat}(h:t≠s):(a.put (some t) v).eval (.tmp s)=a.eval (.tmp s):=Act.eval_put (fun _ hd e=>h ((Option.some.inj hd).trans (Operand.tmp.inj e).symm))
theorem fW(a:Act)(v:Value){t:Nat}(h:t<a.tmps.size):(a.put (some t) v).eval (.tmp t)=v:=by simp[Act.eval,Act.put,h]
theorem oF(a:Act)(v:Value)(t:Nat):(a.put (some t) v).tmps.size=a.tmps.size:=by simp[Act.put]
open Go
structure Off(S:List Nat)(a0 a:Act):Prop where
 defers:a.defers=a0.defers
 size:a.tmps.size=a0.tmps.size
 same:∀ t:Nat,t∉S->a.tmps[t]?=a0.tmps[t]?
theorem Off.refl(S:List Nat)(a:Act):Off S a a:=⟨rfl,rfl,fun _ _=>rfl⟩
theorem Off.put{S:List Nat}{a0 a:Act}(h:Off S a0 a){s:Nat}(hs:s∈S)(v:Value):Off S a0 (a.put (some s) v):=by
 refine⟨h.defers,by rw[oF];exact h.size,fun t ht=>?_⟩;have dg:s≠t:=fun e=>ht (e ▸ hs)
 rw[<- h.same t ht];simp[Act.put,dg]
theorem Off.eval{S:List Nat}{a0 a:Act}(h:Off S a0 a){t:Nat}(ht:t∉S):a.eval (.tmp t)=a0.eval (.tmp t):=by
 have:=h.same t ht;simp only[Act.eval,Array.getD_eq_getD_getElem?,this]
theorem Off.form:∀ (S:List Nat) (a0 a:Act),Off S a0 a->a=S.foldl (fun b s=>b.put (some s) (a.tmps.getD s undef)) a0
 | [],a0,a,h=>by
  obtain⟨tmps,df⟩:=a;obtain⟨tmps0,df0⟩:=a0;have h1:=h.defers;dsimp only at h1;subst h1;have h2:tmps=tmps0:=Array.ext_getElem? (fun t=>h.same t (by simp));rw[h2];rfl
 |s::S,a0,a,h=>by
  rw[List.foldl_cons];refine Off.form S _ a ⟨h.defers,by rw[oF];exact h.size,fun t ht=>?_⟩;by_cases eu:s=t
  ·subst eu;have hz:=h.size;simp only[Act.put,Array.getElem?_setIfInBounds,if_true,Array.getD_eq_getD_getElem?]
   split
   ·next hlt=>
    have:s<a.tmps.size:=by omega
    rw[Array.getElem?_eq_getElem this];rfl
   next hlt=>rw[Array.getElem?_eq_none (by omega)]
  rw[h.same t (by simp only[ym,not_or];exact⟨fun e=>eu e.symm,ht⟩)];simp[Act.put,eu]
theorem Off.forms{S:List Nat}{a0 a:Act}(h:Off S a0 a):∃ f:Nat->Value,a=S.foldl (fun b s=>b.put (some s) (f s)) a0/\∀ s,f s=a.eval (.tmp s) :=
 ⟨fun s=>a.tmps.getD s undef,Off.form S a0 a h,fun _=>rfl⟩
theorem cD{a:Act}{t:Nat}{v:Value}(h:a.eval (.tmp t)=v):a.tmps[t]?.getD undef=v:=by
 rw[<- h];simp[Act.eval]
def PT(T:List (Nat×Nat×Value))(zl:Array Bool)(a:Act):Prop:=∀ e∈T,Up zl e.1->a.eval (.tmp e.2.1)=e.2.2
theorem pk{T:List (Nat×Nat×Value)}{zl:Array Bool}{a:Act}(hp:PT T zl a)(n:Nat){i s:Nat}{v:Value}(h:T[n]?=some (i,s,v))(hu:Up zl i):a.eval (.tmp s)=v:=hp (i,s,v) (List.mem_of_getElem? h) hu
theorem ud{zl:Array Bool}{o:Oper}(zd:∀ e∈o.after,Region.binds .any e=true->Up zl e.on)(i:Nat)(hm:{ on:=i,ground:=.data }∈o.after:=by simp):Up zl i:=zd _ hm rfl
theorem PT.start(T:List (Nat×Nat×Value))(n:Nat)(a:Act):PT T (Array.replicate n false) a:=fun _ _ h=>absurd h (Up.none _ _)
theorem PT.step{T:List (Nat×Nat×Value)}{zl:Array Bool}{a:Act}(h:PT T zl a){i s:Nat}{v:Value}(hi:i<zl.size)(hs:s<a.tmps.size)(h1:∀ e∈T,e.2.1=s->e.2.2=v)(h2:∀ e∈T,e.1=i->e.2.1=s):PT T (zl.setIfInBounds i true) (a.put (some s) v):=by
 intro e he hu;by_cases hes:s=e.2.1
 ·rw[<- hes,fW _ _ hs,h1 e he hes.symm]
 rw[iL _ _ hes];rcases(Up.set hi).1 hu with hu|hu
 ·exact absurd (h2 e he hu).symm hes
 exact h e he hu
theorem PT.skip{T:List (Nat×Nat×Value)}{zl:Array Bool}{a:Act}(h:PT T zl a){i:Nat}(hi:i<zl.size)(h1:∀ e∈T,e.1≠i):PT T (zl.setIfInBounds i true) a:=by
 intro e he hu;rcases(Up.set hi).1 hu with hu|hu
 ·exact absurd hu (h1 e he)
 exact h e he hu
theorem lK{zl:Array Bool}{i j:Nat}(hi:i<zl.size)(h:Up (zl.setIfInBounds i true) j)(dg:j≠i):Up zl j:=((Up.set hi).1 h).resolve_left dg
theorem eP{zl:Array Bool}{i j:Nat}(hi:i<zl.size)(h:Up zl j):Up (zl.setIfInBounds i true) j:=(Up.set hi).2 (.inr h)
theorem qY{zl:Array Bool}{i:Nat}(hi:i<zl.size):Up (zl.setIfInBounds i true) i:=(Up.set hi).2 (.inl rfl)
theorem jT{zl:Array Bool}{i:Nat}(aj:zl.getD i true=false):¬ Up zl i:=fun h=>by
 have hi:=Up.of_false aj;unfold Up at h;simp[hi]at aj h;rw[aj]at h;cases h
theorem pM{P:Program}{o:Oper}{a:Act}{w w1:World}{K:Act->World->Prop}{Q:Exit->Act->World->Prop}(v:Value)(hr:(execOp a.eval o).run P w=.ok (.value v) w1)(hk:K (a.put o.dst v) w1):o.wp P a w K Q:=by
 unfold Oper.wp;rw[hr];exact hk
theorem uDE{P:Program}{o:Oper}{a:Act}{w w1:World}{K:Act->World->Prop}{Q:Exit->Act->World->Prop}(hr:(execOp a.eval o).run P w=.ok .skip w1)(hk:K (a.put o.dst undef) w1):o.wp P a w K Q:=by
 unfold Oper.wp;rw[hr];exact hk
structure Kp(Y:List Nat)(w w':World):Prop where
 os:w'.os=w.os
 tape:w'.tape=w.tape
 output:w'.output=w.output
 size:w.heap.size<=w'.heap.size
 block:∀ k,k<w.heap.size->k∉Y->w'.heap[k]?=w.heap[k]?
theorem Kp.refl(Y:List Nat)(w:World):Kp Y w w:=⟨rfl,rfl,rfl,zr,fun _ _ _=>rfl⟩
theorem Kp.trans{Y:List Nat}{a b c:World}(h:Kp Y a b)(k:Kp Y b c):Kp Y a c :=
 ⟨k.os.trans h.os,k.tape.trans h.tape,k.output.trans h.output,yv h.size k.size,fun i hi hn=>(k.block i (yu hi h.size) hn).trans (h.block i hi hn)⟩
theorem Kp.mono{Y Z:List Nat}{a b:World}(h:Kp Y a b)(hs:∀ k∈Y,k<a.heap.size->k∈Z):Kp Z a b :=
 ⟨h.os,h.tape,h.output,h.size,fun i hi hn=>h.block i hi (fun hm=>hn (hs i hm hi))⟩
theorem Kp.of_below{Y:List Nat}{a b:World}(h:Below a.heap.size a b):Kp Y a b:=⟨h.os,h.tape,h.output,h.size,fun i hi _=>h.block i hi⟩
theorem Kp.below{Y:List Nat}{a b:World}{B:Nat}(h:Kp Y a b)(hB:∀ k∈Y,B<=k)(hs:B<=a.heap.size):Below B a b :=
 ⟨h.os,h.tape,h.output,h.size,fun i hi=>h.block i (yu hi hs) (fun hm=>absurd (hB i hm) (by omega))⟩
theorem Kp.alloc{Y:List Nat}{a b:World}(h:Kp Y a b)(o:Obj):Kp Y a (b.alloc o):=h.trans (Kp.of_below ((Below.refl _ b).alloc zr o))
theorem Kp.drew{Y:List Nat}{a b:World}(h:Kp Y a b):Kp Y a b.drew:=h.trans (Kp.of_below (Below.refl _ b).drew)
theorem Kp.set{Y:List Nat}{a b:World}(h:Kp Y a b){r:Nat}(hr:r∈Y\/a.heap.size<=r)(i:Nat)(u:Value):Kp Y a (b.setCell ⟨r,i,none⟩ u) :=
 ⟨h.os,h.tape,h.output,by rw[World.size_setCell];exact h.size,fun k hk hn=>(Below.heap_setCell b ⟨r,i,none⟩ u k (fun e=>by
  have e':k=r:=e;rcases hr with hr|hr
  ·exact hn (e' ▸ hr)
  omega)).trans (h.block k hk hn)⟩
theorem Kp.grown{Y:List Nat}{a b c:World}(h:Kp Y a b){row:Option Nat}(hg:b.grownBy c row)(hr:∀ g,row=some g->g∈Y\/a.heap.size<=g):Kp Y a c :=
 ⟨hg.os.trans h.os,hg.tape.trans h.tape,hg.output.trans h.output,yv h.size hg.size,fun k hk hn=>(hg.block k (yu hk h.size) (fun e=>by
  rcases hr k e.symm with h1|h1
  ·exact hn h1
  omega)).trans (h.block k hk hn)⟩
theorem Kp.andThen{Y Z:List Nat}{a b c:World}(h:Kp Y a b)(k:Kp Z b c)(hz:∀ g∈Z,g∈Y\/a.heap.size<=g):Kp Y a c :=
 ⟨k.os.trans h.os,k.tape.trans h.tape,k.output.trans h.output,yv h.size k.size,fun i hi hn=>(k.block i (yu hi h.size) (fun hm=>by
  rcases hz i hm with h1|h1
  ·exact hn h1
  omega)).trans (h.block i hi hn)⟩
theorem Kp.lies{Y:List Nat}{a b:World}(h:Kp Y a b){g:Nat}{t:TypeId}{cs:Array Value}(hl:Lies a g t cs)(hn:g∉Y):Lies b g t cs:=(h.block g hl.lt hn).trans hl
theorem Kp.cell{Y:List Nat}{a b:World}(h:Kp Y a b){g i:Nat}(hg:g<a.heap.size)(hn:g∉Y):b.cell? ⟨g,i,none⟩=a.cell? ⟨g,i,none⟩:=World.cell?_of_block (w:=a) (a:=⟨g,i,none⟩) (h.block g hg hn)
structure Only(m:Nat)(w w':World):Prop where
 os:w'.os=w.os
 tape:w'.tape=w.tape
 output:w'.output=w.output
 size:w'.heap.size=w.heap.size
 block:∀ k,k≠m->w'.heap[k]?=w.heap[k]?
theorem Only.kp{m:Nat}{w w':World}(h:Only m w w'):Kp [m] w w':=⟨h.os,h.tape,h.output,by rw[h.size];exact zr,fun k _ hn=>h.block k (fun e=>hn (by rw[e];exact .head _))⟩
def fI(ops:Array Oper):Bool:=(List.range ops.size).all fun i=>((ops[i]?).map fun o=>o.after.all fun e=>!Region.binds .any e||decide (e.on<i)).getD true
theorem gS{ops:Array Oper}(h:fI ops=true){i:Nat}{o:Oper}(ho:ops[i]?=some o):∀ e∈o.after,Region.binds .any e=true->e.on<i:=by
 intro e he hb;have hlt:i<ops.size:=(zk.1 ho).1;have:=List.all_eq_true.1 h i (yg.2 hlt);rw[ho]at this;simp only[Option.map_some,Option.getD_some,Array.all_eq_true_iff_forall_mem]at this;have h1:=this e he;rw[hb]at h1;exact of_decide_eq_true h1
theorem uDG{ops:Array Oper}(hb:fI ops=true){zl:Array Bool}(hs:zl.size=ops.size)(hr:Region.ready .any ops zl=[]):∀ i,i<ops.size->Up zl i:=by
 intro i
 induction i using Nat.strongRecOn with
 |_ i ih=>
  intro hi;cases hu:zl.getD i true
  ·exfalso
   have ho:ops[i]?=some ops[i]:=Array.getElem?_eq_getElem hi;have:i∈Region.ready .any ops zl:=mem_ready.2 ⟨hu,ops[i],ho,fun e he hd=>ih e.on (gS hb ho e he hd) (Nat.lt_trans (gS hb ho e he hd) hi)⟩;rw[hr]at this;cases this
  have ws:i<zl.size:=by omega
  unfold Up;simp only[Array.getD_eq_getD_getElem?,Array.getElem?_eq_getElem ws,Option.getD_some]at hu ⊢;exact hu
theorem tR{P:Program}{ops:Array Oper}{Q:Exit->Act->World->Prop}(hb:fI ops=true)(I:Array Bool->Act->World->Prop)
  (cg:∀ zl a w i o,zl.size=ops.size->I zl a w->zl.getD i true=false->ops[i]?=some o->(∀ e∈o.after,Region.binds .any e=true->Up zl e.on)->wpOp P ops Q i (I (zl.setIfInBounds i true)) a w)
  (co:∀ zl a w,I zl a w->(∀ i,i<ops.size->Up zl i)->Q .normal a w) :
  ∀ (fuel:Nat) (zl:Array Bool) (a:Act) (w:World),zl.size=ops.size->left zl<=fuel->I zl a w->wpAny P .any ops Q fuel zl a w
 |0,zl,a,w,hs,hf,hI=>by
  have hr:Region.ready .any ops zl=[]:=by
   refine List.eq_nil_iff_forall_not_mem.2 (fun i hi=>?_);have h1:=(mem_ready.1 hi).1;rw[uR (by omega) i]at h1;cases h1
  exact⟨hr,co zl a w hI (uDG hb hs hr)⟩
 |fuel+1,zl,a,w,hs,hf,hI=>by
  refine⟨fun hr=>co zl a w hI (uDG hb hs hr),fun i hi=>?_⟩;obtain⟨h1,o,ho,zd⟩:=mem_ready.1 hi;refine wpOp_mono (fun a' w' h'=>tR hb I cg co fuel _ a' w' (by rw[Array.size_setIfInBounds];exact hs) (by have:=sD h1;omega) h') (cg zl a w i o hs hI h1 ho zd)
theorem fE{P:Program}{ops:Array Oper}{Q:Exit->Act->World->Prop}{id:Nat}{a:Act}{w:World}(hm:P.follows .mixedOrders=true)(hb:fI ops=true)(F:Act->Prop)(I:Act->Array Bool->Act->World->Prop)(hF:F a)
  (h0:I a (Array.replicate ops.size false) a w.drew)
  (cg:∀ a0,F a0->∀ zl a w i o,zl.size=ops.size->I a0 zl a w->zl.getD i true=false->ops[i]?=some o->(∀ e∈o.after,Region.binds .any e=true->Up zl e.on)->wpOp P ops Q i (I a0 (zl.setIfInBounds i true)) a w)
  (co:∀ zl a' w',I a zl a' w'->(∀ i,i<ops.size->Up zl i)->Q .normal a' w'):(Code.region id ops true).wp P Q a w :=
 wp_region_any hm (tR hb (I a) (cg a hF) co ops.size _ a _ (by simp) (by rw[kV];exact zr) h0)
theorem bE{w:World}{b n sz:Nat}{te tb:TypeId}(ht:te≠tb){v:Value}{xs:List Value}(h:w.ownsRow b te sz v n xs){bx:Nat}{cs:Array Value}(hl:Lies w bx tb cs):some bx≠v.ownBlock:=fun e=>by
 rcases h.2 with⟨rfl,_⟩|⟨g,cap,cur,rfl,_,hg,_⟩
 ·simp[Value.ownBlock]at e
 simp[Value.ownBlock]at e;subst e;unfold Lies at hl;rw[hg]at hl;injection hl with hl;injection hl with _ hl _;exact ht hl
theorem lR{w:World}{b n sz:Nat}{te tb:TypeId}(ht:te≠tb){v:Value}{xs:List Value}(h:w.ownsRow b te sz v n xs){bx:Nat}{cs:Array Value}(hl:Lies w bx tb cs)(i:Nat)(u:Value):(w.setCell ⟨bx,i,none⟩ u).ownsRow b te sz v n xs:=by
 have hg:w.grownBy (w.setCell ⟨bx,i,none⟩ u) (some bx):=⟨rfl,rfl,rfl,by rw[World.size_setCell];exact zr,fun j _ dg=>Below.heap_setCell w ⟨bx,i,none⟩ u j (fun e=>dg (congrArg some e))⟩
 exact World.ownsRow.kept h hg (.inr (fun e=>bE ht h hl e.symm))
theorem Lies.grownA{w w':World}{g:Nat}{t:TypeId}{cs:Array Value}{row:Option Nat}(h:Lies w g t cs)(hg:w.grownBy w' row)(hr:some g≠row):Lies w' g t cs:=(hg.block g h.lt hr).trans h
theorem aC{w:World}{g:Nat}{t:TypeId}{cs:Array Value}(h:Lies w g t cs){b:Nat}(hb:g≠b)(i:Nat)(u:Value):Lies (w.setCell ⟨b,i,none⟩ u) g t cs:=(Below.heap_setCell w ⟨b,i,none⟩ u g hb).trans h
structure GA(S:List Nat)(T:List (Nat×Nat×Value))(Y:List Nat)(X:World)(il ib sb ia sa is bx ci:Nat)(te tb:TypeId)(z:Array Value)(base sz n:Nat)(v0:Value)(xs news:List Value)(a0:Act)(zl:Array Bool)(a:Act)(w:World):Prop where
 off:Off S a0 a
 pt:PT T zl a
 kp:Kp Y X w
 dp:Up zl ia->Up zl il/\Up zl ib
 nb:Up zl ib->¬ Up zl ia->∃ g,a.eval (.tmp sb)=.slice (some ⟨g,0,none⟩) 1 1/\Lies w g te news.toArray
 o1:¬ Up zl ia->w.ownsRow base te sz v0 n xs
 o2:Up zl ia->w.ownsRow base te sz (a.eval (.tmp sa)) (n+1) (xs++news)
 b1:¬ Up zl is->Lies w bx tb z
 b2:Up zl is->Up zl ia/\Lies w bx tb (z.setIfInBounds ci (a.eval (.tmp sa)))
def okA(nums:List (Nat×Nat))(S:List Nat)(ib sb ia sa is N:Nat):Bool :=
 nums.all (fun e=>e.2 != sa&&e.2 != sb&&e.1 != ib&&e.1 != ia&&e.1 != is&&S.contains e.2&&decide (e.2<N))&&decide (nums.Pairwise (fun p q=>p.1≠q.1/\p.2≠q.2))&&ib != ia&&ib != is&&ia != is&&sa != sb&&S.contains sa&&S.contains sb&&decide (sa<N)&&decide (sb<N)
structure GAk(S:List Nat)(T:List (Nat×Nat×Value))(Y:List Nat)(ib sb ia sa is bx:Nat)(te tb:TypeId)(v0:Value)(N:Nat):Prop where
 num:okA (T.map fun e=>(e.1,e.2.1)) S ib sb ia sa is N=true
 ty:te≠tb
 row:∀ g,v0.ownBlock=some g->g∈Y
 box:bx∈Y
section
variable {S:List Nat} {T:List (Nat×Nat×Value)} {Y:List Nat} {X w:World} {il ib sb ia sa is bx ci:Nat} {te tb:TypeId} {z:Array Value} {base sz n N:Nat} {v0:Value} {xs news:List Value} {a0 a:Act} {zl:Array Bool} {ops:Array Oper} {Q:Exit->Act->World->Prop} {o:Oper}
theorem GAk.parts(hk:GAk S T Y ib sb ia sa is bx te tb v0 N):(∀ e∈T,e.2.1≠sa/\e.2.1≠sb/\e.1≠ib/\e.1≠ia/\e.1≠is/\e.2.1∈S/\e.2.1<N)/\T.Pairwise (fun p q=>p.1≠q.1/\p.2.1≠q.2.1)/\(ib≠ia/\ib≠is/\ia≠is/\sa≠sb/\sa∈S/\sb∈S/\sa<N/\sb<N):=by
 have hn:=hk.num;simp only[okA,yh,List.all_eq_true,bne_iff_ne,decide_eq_true_eq,List.contains_iff_mem,List.pairwise_map,yj,forall_exists_index,and_imp,forall_apply_eq_imp_iff₂]at hn;obtain⟨⟨⟨⟨⟨⟨⟨⟨⟨h1,h2⟩,h3⟩,h4⟩,h5⟩,h6⟩,h7⟩,h8⟩,h9⟩,vi⟩:=hn;refine⟨fun e he=>?_,h2,h3,h4,h5,h6,h7,h8,h9,vi⟩;obtain⟨⟨⟨⟨⟨⟨g1,g2⟩,g3⟩,g4⟩,g5⟩,g6⟩,g7⟩:=h1 e he;exact⟨g1,g2,g3,g4,g5,g6,g7⟩
theorem GAk.row_of(hk:GAk S T Y ib sb ia sa is bx te tb v0 N){e:Nat×Nat×Value}(he:e∈T):e.2.1≠sa/\e.2.1≠sb/\e.1≠ib/\e.1≠ia/\e.1≠is/\e.2.1∈S/\e.2.1<N:=hk.parts.1 e he
theorem GAk.ne(hk:GAk S T Y ib sb ia sa is bx te tb v0 N):ib≠ia/\ib≠is/\ia≠is/\sa≠sb/\sa∈S/\sb∈S/\sa<N/\sb<N:=hk.parts.2.2
theorem GAk.uniq(hk:GAk S T Y ib sb ia sa is bx te tb v0 N){e e':Nat×Nat×Value}(he:e∈T)(kc:e'∈T)(hs:e.1=e'.1\/e.2.1=e'.2.1):e=e':=by
 by_cases heq:e=e'
 ·exact heq
 exfalso
 have h2:=hk.parts.2.1;have key:∀ l:List (Nat×Nat×Value),l.Pairwise (fun p q=>p.1≠q.1/\p.2.1≠q.2.1)->∀ x∈l,∀ y∈l,x≠y->x.1≠y.1/\x.2.1≠y.2.1:=by
  intro l
  induction l with
  |nil=>intro _ x hx;cases hx
  |cons c l ih=>
   intro hp x hx y hy dg;rw[List.pairwise_cons]at hp;rcases ym.1 hx with ex|hx <;> rcases ym.1 hy with ey|hy
   ·exact absurd (ex.trans ey.symm) dg
   ·rw[ex];exact hp.1 y hy
   ·rw[ey];exact⟨fun e=>(hp.1 x hx).1 e.symm,fun e=>(hp.1 x hx).2 e.symm⟩
   exact ih hp.2 x hx y hy dg
 have:=key T h2 e he e' kc heq;rcases hs with hs|hs
 ·exact this.1 hs
 exact this.2 hs
theorem GA.unl(hI:GA S T Y X il ib sb ia sa is bx ci te tb z base sz n v0 xs news a0 zl a w)(aj:zl.getD il true=false):Lies w bx tb z :=
 hI.b1 (fun h=>jT aj (hI.dp (hI.b2 h).1).1)
theorem GA.start(a:Act)(m:Nat)(hk:Kp Y X w)(ho:w.ownsRow base te sz v0 n xs)(hl:Lies w bx tb z):GA S T Y X il ib sb ia sa is bx ci te tb z base sz n v0 xs news a (Array.replicate m false) a w :=
 ⟨Off.refl _ _,PT.start _ _ _,hk,fun h=>absurd h (Up.none _ _),fun h=>absurd h (Up.none _ _),fun _=>ho,fun h=>absurd h (Up.none _ _),fun _=>hl,fun h=>absurd h (Up.none _ _)⟩
theorem bP(hk:GAk S T Y ib sb ia sa is bx te tb v0 N)(hI:GA S T Y X il ib sb ia sa is bx ci te tb z base sz n v0 xs news a0 zl a w)(hN:N<=a0.tmps.size){i s:Nat}{v:Value}(he:(i,s,v)∈T)(aj:zl.getD i true=false)(ho:ops[i]?=some o)(hg:o.guard=none)(hd:o.dst=some s)
  (hr:(execOp a.eval o).run Tryz.prog w=.ok (.value v) w):wpOp Tryz.prog ops Q i (GA S T Y X il ib sb ia sa is bx ci te tb z base sz n v0 xs news a0 (zl.setIfInBounds i true)) a w:=by
 have hi:=Up.of_false aj;obtain⟨h1,h2,h3,h4,h5,h6,h7⟩:=hk.row_of he;refine kD ho hg (pM v hr ?_);rw[hd];have nh:∀ {k},k≠i->(Up (zl.setIfInBounds i true) k↔Up zl k):=fun dg=>⟨fun h=>lK hi h dg,fun h=>eP hi h⟩
 have ea:(a.put (some s) v).eval (.tmp sa)=a.eval (.tmp sa):=iL _ _ h1;have eb:(a.put (some s) v).eval (.tmp sb)=a.eval (.tmp sb):=iL _ _ h2;refine⟨hI.off.put h6 v,hI.pt.step hi (by rw[hI.off.size];exact yu h7 hN) (fun e' kc hs=>by rw[hk.uniq kc he (.inr hs)]) (fun e' kc hs=>by rw[hk.uniq kc he (.inl hs)]),hI.kp,fun h=>⟨eP hi (hI.dp (lK hi h (Ne.symm h4))).1,eP hi (hI.dp (lK hi h (Ne.symm h4))).2⟩,?_,?_,?_,?_,?_⟩
 ·rw[eb,nh (Ne.symm h3),nh (Ne.symm h4)];exact hI.nb
 ·rw[nh (Ne.symm h4)];exact hI.o1
 ·rw[ea,nh (Ne.symm h4)];exact hI.o2
 ·rw[nh (Ne.symm h5)];exact hI.b1
 rw[ea,nh (Ne.symm h5),nh (Ne.symm h4)];exact hI.b2
theorem rR(hk:GAk S T Y ib sb ia sa is bx te tb v0 N)(hI:GA S T Y X il ib sb ia sa is bx ci te tb z base sz n v0 xs news a0 zl a w)(hN:N<=a0.tmps.size)(aj:zl.getD ib true=false)(ho:ops[ib]?=some o)(hg:o.guard=none)(hd:o.dst=some sb)
  (hr:(execOp a.eval o).run Tryz.prog w=.ok (.value (.slice (some ⟨w.heap.size,0,none⟩) 1 1)) (w.alloc (.cells news.toArray te))):wpOp Tryz.prog ops Q ib (GA S T Y X il ib sb ia sa is bx ci te tb z base sz n v0 xs news a0 (zl.setIfInBounds ib true)) a w:=by
 have hi:=Up.of_false aj;have hna:¬ Up zl ia:=fun h=>jT aj (hI.dp h).2
 obtain⟨n1,n2,n3,n4,n5,n6,n7,n8⟩:=hk.ne;refine kD ho hg (pM _ hr ?_);rw[hd];have nh:∀ {k},k≠ib->(Up (zl.setIfInBounds ib true) k↔Up zl k):=fun dg=>⟨fun h=>lK hi h dg,fun h=>eP hi h⟩
 have ea:(a.put (some sb) (.slice (some ⟨w.heap.size,0,none⟩) 1 1)).eval (.tmp sa)=a.eval (.tmp sa):=iL _ _ (Ne.symm n4);have hs:sb<a.tmps.size:=by rw[hI.off.size];omega
 refine⟨hI.off.put n6 _,hI.pt.step hi hs (fun e' kc hs'=>absurd hs' (hk.row_of kc).2.1) (fun e' kc hs'=>absurd hs' (hk.row_of kc).2.2.1),hI.kp.alloc _,fun h=>absurd (lK hi h (Ne.symm n1)) hna,?_,?_,?_,?_,?_⟩
 ·exact fun _ _=>⟨w.heap.size,fW _ _ hs,Lies.new _ _ _⟩
 ·rw[nh (Ne.symm n1)];exact fun h=>World.ownsRow.alloc (hI.o1 h) _
 ·rw[nh (Ne.symm n1)];exact fun h=>absurd h hna
 ·rw[nh (Ne.symm n2)];exact fun h=>(hI.b1 h).alloc _
 rw[nh (Ne.symm n2)];exact fun h=>absurd (hI.b2 h).1 hna
theorem uAY(hk:GAk S T Y ib sb ia sa is bx te tb v0 N)(hI:GA S T Y X il ib sb ia sa is bx ci te tb z base sz n v0 xs news a0 zl a w)(hN:N<=a0.tmps.size)(aj:zl.getD ia true=false)(ho:ops[ia]?=some o)(hg:o.guard=none)(hd:o.dst=some sa)(qg:Up zl il)(hb:Up zl ib)
  (t:TypeId) (so:Nat) (hop:o.op=.call { callee:=.builtin .append,args:=#[.tmp so,.tmp sb],argTypes:=#[t,t] }) (hv:a.eval (.tmp so)=v0)
  (i0:TypeInfo) (zv:Value) (bytes:Nat) (ht:Tryz.prog.underlying t=some (.slice te)) (hi0:Tryz.prog.info? te=some i0) (hz:i0.zero=some zv) (oq:i0.size=sz) (ng:i0.bytes=bytes) (hzs:zv.cells.size=sz) (aq:0<sz)
  (hl:news.length=sz) (h1:∀ u∈news,u.oneCell'=true) (h63:n+1<=maxLen) (ly:(n+1)*bytes<=140737488355328) (dt:base<=w.heap.size) :
  wpOp Tryz.prog ops Q ia (GA S T Y X il ib sb ia sa is bx ci te tb z base sz n v0 xs news a0 (zl.setIfInBounds ia true)) a w:=by
 have hi:=Up.of_false aj;have hna:=jT aj;have hns:¬ Up zl is:=fun h=>hna (hI.b2 h).1
 obtain⟨n1,n2,n3,n4,n5,n6,n7,n8⟩:=hk.ne;obtain⟨g,e1,hL⟩:=hI.nb hb hna;have ba:=hI.o1 hna;refine kD ho hg (wp_append_own w (.tmp so) (.tmp sb) t hop base te i0 zv sz bytes ht hi0 hz oq ng hzs aq v0 n xs hv ba ⟨g,0,none⟩ 1 1 news e1 (by rw[Nat.one_mul];exact hl) (fun j u hj=>?_) h1 h63 ly dt ?_)
 ·have hc:=hL.cell j;rw[za,hj]at hc;have e:(⟨g,0,none⟩:Addr).add j=⟨g,j,none⟩:=by cases j <;> simp[Addr.add]
  rw[e];exact hc
 intro v' w' ej dr _;rw[hd];have nh:∀ {k},k≠ia->(Up (zl.setIfInBounds ia true) k↔Up zl k):=fun dg=>⟨fun h=>lK hi h dg,fun h=>eP hi h⟩
 have hs:sa<a.tmps.size:=by rw[hI.off.size];omega
 refine⟨hI.off.put n5 _,hI.pt.step hi hs (fun e' kc hs'=>absurd hs' (hk.row_of kc).1) (fun e' kc hs'=>absurd hs' (hk.row_of kc).2.2.2.1),hI.kp.grown dr (fun g hg=>.inl (hk.row g hg)),fun _=>⟨eP hi qg,eP hi hb⟩,?_,?_,?_,?_,?_⟩
 ·exact fun _ h=>absurd (qY hi) h
 ·exact fun h=>absurd (qY hi) h
 ·intro _;rw[fW _ _ hs];exact ej
 ·rw[nh (Ne.symm n3)];exact fun h=>(hI.b1 h).grownA dr (bE hk.ty ba (hI.b1 h))
 rw[nh (Ne.symm n3)];exact fun h=>absurd h hns
theorem rS(hk:GAk S T Y ib sb ia sa is bx te tb v0 N)(hI:GA S T Y X il ib sb ia sa is bx ci te tb z base sz n v0 xs news a0 zl a w)(aj:zl.getD is true=false)(ho:ops[is]?=some o)(hg:o.guard=none)(hd:o.dst=none)(ha:Up zl ia)
  (hr:Lies w bx tb z->(∃ g c,a.eval (.tmp sa)=.slice (some ⟨g,0,none⟩) (n+1) c)->(execOp a.eval o).run Tryz.prog w=.ok .skip (w.setCell ⟨bx,ci,none⟩ (a.eval (.tmp sa)))):wpOp Tryz.prog ops Q is (GA S T Y X il ib sb ia sa is bx ci te tb z base sz n v0 xs news a0 (zl.setIfInBounds is true)) a w:=by
 have hi:=Up.of_false aj;have hns:=jT aj;obtain⟨n1,n2,n3,n4,n5,n6,n7,n8⟩:=hk.ne;have hl:=hI.b1 hns;have ba:=hI.o2 ha;obtain⟨g,c,jd⟩:∃ g c,a.eval (.tmp sa)=.slice (some ⟨g,0,none⟩) (n+1) c:=by
  rcases ba.2 with⟨_,h0⟩|⟨g,cap,cur,e,_⟩
  ·omega
  exact⟨g,cap,e⟩
 refine kD ho hg (uDE (hr hl ⟨g,c,jd⟩) ?_);rw[hd];show GA S T Y X il ib sb ia sa is bx ci te tb z base sz n v0 xs news a0 _ a _;have nh:∀ {k},k≠is->(Up (zl.setIfInBounds is true) k↔Up zl k):=fun dg=>⟨fun h=>lK hi h dg,fun h=>eP hi h⟩
 refine⟨hI.off,hI.pt.skip hi (fun e' kc=>(hk.row_of kc).2.2.2.2.1),hI.kp.set (.inl hk.box) _ _,fun _=>⟨eP hi (hI.dp ha).1,eP hi (hI.dp ha).2⟩,?_,?_,?_,?_,?_⟩
 ·rw[nh n3];exact fun _ h=>absurd ha h
 ·rw[nh n3];exact fun h=>absurd ha h
 ·rw[nh n3];exact fun _=>lR hk.ty ba hl _ _
 ·exact fun h=>absurd (qY hi) h
 exact fun _=>⟨eP hi ha,hl.put _ _⟩
end
abbrev idV(x:IdR):Value:=.agg #[.int .i64 x.a,.int .i64 x.n]
theorem uDT{x y:IdR}(h:idV x=idV y):x=y:=by
 injection h with h1;simp at h1;exact IdR.ext' h1.1 h1.2
theorem dF(x y:IdR)(w:World):(binOp .eql 27 (idV x) (idV y)).run Tryz.prog w=.ok (.bool (decide (x=y))) w:=by
 obtain⟨a,n⟩:=x;obtain⟨a2,n2⟩:=y
 go_simp
 by_cases h0:a=a2
 case neg=>simp[h0]
 by_cases h1:n=n2
 case neg=>simp[h0,h1]
 simp[h0,h1]
theorem wJ:Tryz.prog.cellsOf 27=2:=by kernel_rfl
theorem rW:Tryz.prog.cellsOf 3=1:=by kernel_rfl
theorem idKeyT:Tryz.prog.keyType 27=true:=by kernel_rfl
theorem idSize:∃ m,Tryz.prog.types.size+1=m+1+1:=⟨Tryz.prog.types.size-1,by have h:0<Tryz.prog.types.size:=of_decide_eq_true (by kernel_rfl);omega⟩
theorem idLaid:laidOutB Tryz.prog=true:=by kernel_rfl
theorem idRow:(27:TypeId)<Tryz.prog.types.size:=of_decide_eq_true (by kernel_rfl)
theorem idWide:(match Tryz.prog.underlying 27 with|some (.array _ _)|some (.struct _)=>true|_=>false)=true:=by kernel_rfl
theorem uP:WideMaps.KeyLaw Tryz.prog 27:=deep_law_laid idLaid (m:=2) (by omega) idRow (by kernel_rfl) idWide
def IdR.fits(x:IdR):Prop:=(Lit.int .i64 x.a).wf=true/\(Lit.int .i64 x.n).wf=true
theorem oV(x:IdR)(h:x.fits):∃ l,keyOf Tryz.prog 27 (idV x)=some l:=by
 obtain⟨m,hm⟩:=idSize;have hf:(idV x).formed Tryz.prog 27=true:=by simp[Value.formed,Tryz.underlying27,wJ]
 have hl:Tryz.prog.keyLits (m+1+1) 27 [.int .i64 x.a,.int .i64 x.n]=some [.int .i64 x.a,.int .i64 x.n]:=by
  simp[Program.keyLits,Tryz.underlying27,Tryz.underlying3,wJ,rW,h.1,h.2]
 refine⟨.string (keyBytes [.int .i64 x.a,.int .i64 x.n]),?_⟩;unfold keyOf;rw[Tryz.underlying27];simp only[idKeyT,hf,Bool.and_self,if_true];rw[hm];show Option.map _ (Tryz.prog.keyLits (m+1+1) 27 [.int .i64 x.a,.int .i64 x.n])=_;rw[hl];rfl
def KMap(W:World)(m:Nat)(ys:List IdR)(Pv:Value->Prop):Prop:=∃ es clock,W.heap[m]?=some (.map es clock)/\es.toList.map (·.key)=ys.map idV/\∀ e∈es.toList,Pv e.val
theorem KMap.at{W W':World}{m:Nat}{ys:List IdR}{Pv:Value->Prop}(h:KMap W m ys Pv)(hb:W'.heap[m]?=W.heap[m]?):KMap W' m ys Pv:=by
 obtain⟨es,clock,h1,h2⟩:=h;exact⟨es,clock,hb.trans h1,h2⟩
theorem KMap.lt{W:World}{m:Nat}{ys:List IdR}{Pv:Value->Prop}(h:KMap W m ys Pv):m<W.heap.size:=by
 obtain⟨es,clock,h1,_⟩:=h;exact(zk.1 h1).1
theorem xV{es:List MapEntry}{ys:List IdR}(h:es.map (·.key)=ys.map idV)(hf:∀ y∈ys,y.fits):∀ e∈es,∃ l,keyOf Tryz.prog 27 e.key=some l:=by
 intro e he;have h1:e.key∈es.map (·.key):=yj.2 ⟨e,he,rfl⟩;rw[h]at h1;obtain⟨y,hy,e1⟩:=yj.1 h1;rw[<- e1];exact oV y (hf y hy)
theorem KMap.find{W:World}{es:Array MapEntry}{ys:List IdR}(h:es.toList.map (·.key)=ys.map idV)(hf:∀ y∈ys,y.fits)(x:IdR)(hx:x.fits) :
  (x∉ys/\(Instr.findKey 27 (idV x) es.toList).run Tryz.prog W=.ok none W)\/(x∈ys/\∃ j e,(Instr.findKey 27 (idV x) es.toList).run Tryz.prog W=.ok (some (j,e.val)) W/\e∈es.toList):=by
 obtain⟨l,hl⟩:=oV x hx;have hm:∀ y,y∈ys↔idV y∈es.toList.map (·.key):=fun y=>by
  rw[h];exact⟨fun hy=>yj.2 ⟨y,hy,rfl⟩,fun hy=>by obtain⟨z,hz,e⟩:=yj.1 hy;rw[<- uDT e];exact hz⟩
 rcases uP.find W hl es.toList (xV h hf) with⟨h1,h2⟩|⟨j,e,h1,h2,h3⟩
 ·refine .inl ⟨fun hxy=>?_,h1⟩;obtain⟨e,he,e1⟩:=yj.1 ((hm x).1 hxy);exact h2 e he e1
 have he:=List.mem_of_getElem? h2;exact .inr ⟨(hm x).2 (yj.2 ⟨e,he,h3⟩),j,e,h1,he⟩
theorem KMap.look{W:World}{m:Nat}{ys:List IdR}{u z:Value}{t et:TypeId}(h:KMap W m ys (fun v=>v=u))(hu:Tryz.prog.underlying t=some (.map 27 et))(hz:(zeroValue et).run Tryz.prog W=.ok z W)(hf:∀ y∈ys,y.fits)(x:IdR)(hx:x.fits) :
  (Instr.lookup t (.map (some m)) (idV x) false).run Tryz.prog W=.ok (if x∈ys then u else z) W:=by
 obtain⟨es,clock,h1,h2,h3⟩:=h;obtain⟨l,hl⟩:=oV x hx;have hc:=uP.check W es.isEmpty hl;rcases KMap.find (W:=W) h2 hf x hx with⟨g1,g2⟩|⟨g1,j,e,g2,g3⟩
 ·simp[Instr.lookup,run_underlying hu,MapKept.run_getObj_map h1,hc,g2,hz,Result.andThen,g1]
 simp[Instr.lookup,run_underlying hu,MapKept.run_getObj_map h1,hc,g2,Result.andThen,g1,h3 e g3]
theorem KMap.put{W:World}{m:Nat}{ys:List IdR}{Pv:Value->Prop}{t et:TypeId}(h:KMap W m ys Pv)(hu:Tryz.prog.underlying t=some (.map 27 et))(hf:∀ y∈ys,y.fits)(x:IdR)(hx:x.fits)(hn:x∉ys)(val:Value)(hv:Pv val) :
  ∃ W',(Instr.mapUpdate t (.map (some m)) (idV x) val).run Tryz.prog W=.ok () W'/\KMap W' m (ys++[x]) Pv/\Only m W W':=by
 obtain⟨es,clock,h1,h2,h3⟩:=h;obtain⟨l,hl⟩:=oV x hx;have hc:=uP.check W false hl;rcases KMap.find (W:=W) h2 hf x hx with⟨g1,g2⟩|⟨g1,_⟩
 ·have hlt:=(zk.1 h1).1;refine⟨{ W with heap:=W.heap.setIfInBounds m (.map (es.push { key:=idV x,val:=val,born:=clock }) (clock+1)) },?_,⟨es.push { key:=idV x,val:=val,born:=clock },clock+1,?_,?_,?_⟩,⟨rfl,rfl,rfl,by simp,fun k hk=>by simp[Ne.symm hk]⟩⟩
  ·simp[Instr.mapUpdate,run_underlying hu,MapKept.run_getObj_map h1,hc,g2,MapKept.run_setObj_map _ h1,Result.andThen]
  ·simp[hlt]
  ·simp[h2]
  intro e he;simp only[Array.toList_push,List.mem_append,yf]at he;rcases he with he|he
  ·exact h3 e he
  rw[he];exact hv
 exact absurd g1 hn
def IdRow(W:World)(g o:Nat)(l:List IdR):Prop:=g<W.heap.size/\∀ j (h:j<l.length),W.cell? ⟨g,o+j*2,none⟩=some (.int .i64 l[j].a)/\W.cell? ⟨g,o+j*2+1,none⟩=some (.int .i64 l[j].n)
theorem IdRow.at{W W':World}{g o:Nat}{l:List IdR}(h:IdRow W g o l)(hs:W.heap.size<=W'.heap.size)(hb:W'.heap[g]?=W.heap[g]?):IdRow W' g o l :=
 ⟨yu h.1 hs,fun j hj=>⟨(World.cell?_of_block (w:=W) (a:=⟨g,_,none⟩) hb).trans (h.2 j hj).1,(World.cell?_of_block (w:=W) (a:=⟨g,_,none⟩) hb).trans (h.2 j hj).2⟩⟩
def aI(l:List IdR):List Value:=l.flatMap (fun x=>[vI x.a,vI x.n])
theorem jP(l:List IdR)(x:IdR):aI (l++[x])=aI l++[vI x.a,vI x.n]:=by simp[aI]
theorem rU:(Tryz.prog.info? 27).map (fun i=>(i.zero,i.size,i.bytes))=some (some (.agg #[vI 0,vI 0]),2,16):=by kernel_rfl
theorem nQ:(Tryz.prog.info? 4).map (fun i=>(i.zero,i.size,i.bytes))=some (some (.bool false),1,1):=by kernel_rfl
theorem aV{w:World}{b n sz:Nat}{te:TypeId}{v:Value}{xs:List Value}(h:w.ownsRow b te sz v n xs):∃ A c,v=.slice A n c:=by
 rcases h.2 with⟨rfl,rfl⟩|⟨g,cap,cur,e,_⟩
 ·exact⟨none,0,rfl⟩
 exact⟨_,_,e⟩
theorem bT{w w':World}{Y:List Nat}{b n sz:Nat}{te:TypeId}{v:Value}{xs:List Value}(h:w.ownsRow b te sz v n xs)(hk:Kp Y w w')(hn:∀ g,v.ownBlock=some g->g∉Y):w'.ownsRow b te sz v n xs:=by
 rcases h with⟨hl,⟨e,hz⟩|⟨g,cap,cur,e1,e2,e3,e4⟩⟩
 ·exact⟨hl,.inl ⟨e,hz⟩⟩
 have hg:g∉Y:=hn g (by rw[e1];rfl);exact⟨hl,.inr ⟨g,cap,cur,e1,e2,(hk.block g (zk.1 e3).1 hg).trans e3,e4⟩⟩
theorem iA{w:World}{b b' n n' sz sz':Nat}{te te':TypeId}(ht:te≠te'){v v':Value}{xs xs':List Value}(h:w.ownsRow b te sz v n xs)(h':w.ownsRow b' te' sz' v' n' xs'):∀ g,v.ownBlock=some g->v'.ownBlock≠some g:=by
 intro g hg kh;rcases h.2 with⟨rfl,_⟩|⟨g1,cap,cur,rfl,_,hh,_⟩
 ·simp[Value.ownBlock]at hg
 rcases h'.2 with⟨rfl,_⟩|⟨g2,ou,cur',rfl,_,hh',_⟩
 ·simp[Value.ownBlock]at kh
 simp[Value.ownBlock]at hg kh;subst hg;subst kh;rw[hh]at hh';injection hh' with e1;injection e1 with _ e2 _;exact ht e2
theorem bZ{w:World}{b n sz:Nat}{te:TypeId}{v:Value}{xs:List Value}(h:w.ownsRow b te sz v n xs):∀ g,v.ownBlock=some g->b<=g/\g<w.heap.size:=h.lt
def jG(acc:List IdR)(x:IdR):List IdR:=if x=id0\/x∈acc then acc else acc++[x]
def bL(ids:List IdR):List IdR:=ids.foldl jG []
theorem iB(ids:List IdR)(k:Nat)(h:k<ids.length):bL (ids.take (k+1))=jG (bL (ids.take k)) ids[k]:=by
 rw[yw h];unfold bL;rw[List.foldl_append];rfl
theorem uAI(acc:List IdR)(x:IdR):(jG acc x).length<=acc.length+1:=by
 unfold jG
 split
 ·omega
 simp
theorem uAJ(acc:List IdR)(x y:IdR)(h:y∈jG acc x):y∈acc\/y=x:=by
 unfold jG at h
 split at h
 ·exact .inl h
 simpa using h
theorem pA(ids:List IdR):∀ k,k<=ids.length->(bL (ids.take k)).length<=k:=by
 intro k
 induction k with
 |zero=>intro _;exact zr
 |succ k ih=>
  intro h;rw[iB ids k h];have:=uAI (bL (ids.take k)) ids[k];have:=ih (by omega);omega
theorem uW(ids:List IdR):∀ k,k<=ids.length->∀ y∈bL (ids.take k),y∈ids:=by
 intro k
 induction k with
 |zero=>intro _ y hy;cases hy
 |succ k ih=>
  intro h y hy;rw[iB ids k h]at hy;rcases uAJ _ _ _ hy with h1|h1
  ·exact ih (by omega) y h1
  rw[h1];exact List.getElem_mem h
structure AxMk(q base:Nat)(acc:List IdR)(v1 v2:Value)(W:World):Prop where
 ax:Lies W q 152 #[v1,v2,.map none,.slice none 0 0,.slice none 0 0]
 r1:W.ownsRow base 27 2 v1 acc.length (aI acc)
 r2:W.ownsRow base 4 1 v2 acc.length (List.replicate acc.length (.bool true))
theorem AxMk.next{q base:Nat}{acc:List IdR}{v1 v2:Value}{W W':World}(h:AxMk q base acc v1 v2 W)(hb:Below W.heap.size W W'):AxMk q base acc v1 v2 W' :=
 ⟨h.ax.next hb,aD hb h.r1,aD hb h.r2⟩
def eQ(W:World)(A:Option Addr)(l:List IdR):Prop:=0<l.length->∃ g o,A=some ⟨g,o,none⟩/\IdRow W g o l
theorem uEK(A:Option Addr)(cap:Nat)(ids:List IdR)(w:World)(hA:eQ w A ids)(hn:ids.length<=300)(hf:∀ y∈ids,y.fits) :
  Calls Tryz.prog 69 #[.slice A ids.length cap] w fun e w'=>∃ v1 v2,e=.returned (vP w.heap.size 0)/\AxMk w.heap.size (w.heap.size+2) (bL ids) v1 v2 w'/\Below w.heap.size w w':=by
 have td:=@run_makeMap Tryz.prog;have HF:=zh hf;have HA:=zh hA;have HS:=zh (iB ids);have i6:=zh (pA ids);have HMm:=zh (uW ids);have mo:Hid (bL (ids.take ids.length)=bL ids):=zh (by rw[List.take_length]);obtain⟨n,dw⟩:=zD ids.length
 have HN:=zh dw;rw[<- dw]at hn ⊢;clear hf hA dw
 go_in
 go_upto_region 4 with fail
 generalize fz:(w.alloc (.cells #[.slice none 0 0,.slice none 0 0,.map none,.slice none 0 0,.slice none 0 0] 152)).alloc (.map #[] 0)=W2 at *;have HM0:Hid (AxMk w.heap.size (w.heap.size+2) [] (.slice none 0 0) (.slice none 0 0) W2):=zh (by
  rw[<- fz];exact⟨(Lies.new w _ _).alloc _,⟨rfl,.inl ⟨rfl,rfl⟩⟩,⟨rfl,.inl ⟨rfl,rfl⟩⟩⟩)
 have HK0:Hid (KMap W2 (w.heap.size+1) [] (fun v=>v=.bool true)):=zh (by
  rw[<- fz];refine⟨#[],0,?_,rfl,fun e he=>by cases he⟩;have h:=heap_alloc_new (w.alloc (.cells #[.slice none 0 0,.slice none 0 0,.map none,.slice none 0 0,.slice none 0 0] 152)) (.map #[] 0);rw[World.size_alloc]at h;exact h)
 have ag:Hid (Below w.heap.size w W2):=zh (by rw[<- fz];exact((Below.refl _ w).alloc zr _).alloc (by simp) _);have wt:Hid (w.heap.size+2<=W2.heap.size):=zh (by rw[<- fz];simp);clear fz
 go_loopw [12] (fun v12 wx=>∃ (k:Nat) (v1 v2:Value),v12=vI (k:Int)/\k<=n/\Hid (AxMk w.heap.size (w.heap.size+2) (bL (ids.take k)) v1 v2 wx)/\Hid (KMap wx (w.heap.size+1) (bL (ids.take k)) (fun v=>v=.bool true))/\Hid (Below w.heap.size w wx)/\Hid (w.heap.size+2<=wx.heap.size)) (fun v12 _=>n-(intOf v12).toNat)
 case atStart=>exact⟨0,_,_,rfl,zm _,HM0,HK0,ag,wt⟩
 case round=>
  obtain⟨k,v1,v2,rfl,hk,hM,hK,hB,hZ⟩:=hrel;generalize ra:w.heap.size=q at *;have HQ:=zh ra;clear ra;clear HM0 HK0 ag wt;by_cases hlt:k<n
  ·have iu:k<ids.length:=by rw[<- HN.out];exact hlt
   obtain⟨ga,oa,rfl,kl,bp⟩:=HA.out (by omega);obtain⟨c0,c1⟩:=bp k iu;have hxf:=HF.out _ (List.getElem_mem iu);have jr:=yv (i6.out k (by omega)) (Nat.le_of_lt iu);have rd:=zh (fun y hy=>HF.out y (HMm.out k (by omega) y hy));have re:=zh (HS.out k iu);have d0:wr.cell? ⟨ga,oa+k*2,none⟩=some (vI ids[k].a):=(hB.out.cell (p:=⟨ga,_,none⟩) (by rw[<- HQ.out];exact kl)).trans c0;have d1:wr.cell? ⟨ga,oa+k*2+1,none⟩=some (vI ids[k].n):=(hB.out.cell (p:=⟨ga,_,none⟩) (by rw[<- HQ.out];exact kl)).trans c1;rw[<- HN.out]at jr;generalize ids[k]=x at *;generalize bL (ids.take k)=acc at *;generalize ox:bL (ids.take (k+1))=acc' at *;have js:=zh ox;clear ox c0 c1 bp;obtain⟨xa,xn⟩:=x;dsimp only at d0 d1;obtain⟨A1,cm,rfl⟩:=aV hM.out.r1;obtain⟨A2,di,rfl⟩:=aV hM.out.r2;generalize hle:acc.length=m at *
   go_upto_region 6 with fail
   have ro:=zh (hM.out.next ((Below.refl _ wr).alloc zr (.cells #[vI xa,vI xn] 27)));have hK3:=zh (hK.out.at (Below.heap_alloc wr (.cells #[vI xa,vI xn] 27) (q+1) hK.out.lt));have hB3:=zh (hB.out.alloc (yv (Nat.le_add_right q 2) hZ.out) (.cells #[vI xa,vI xn] 27));have vn:=zh (Lies.new wr 27 #[vI xa,vI xn]);have hZ3:Hid (q+2<=(wr.alloc (.cells #[vI xa,vI xn] 27)).heap.size):=zh (by rw[World.size_alloc];have:=hZ.out;omega);have hbq:q+2<=wr.heap.size:=hZ.out;have hbo:Hid (∀ g,(Value.slice A1 m cm).ownBlock=some g->g<wr.heap.size):=zh (fun g hg=>(bZ hM.out.r1 g hg).2);generalize wr.alloc (.cells #[vI xa,vI xn] 27)=W3 at *;generalize wr.heap.size=bx at *;clear d0 d1 hM hK hB hZ;have a0:=ro.out.ax.cell 0;have a1:=ro.out.ax.cell 1;have b0:=vn.out.cell 0;have b1:=vn.out.cell 1
   simp only[za,zb,zf]at a0 a1 b0 b1;have tf:((m:Int)==1000)=false:=by simp;omega
   have hlk0:=hK3.out.look (t:=183) (et:=4) Tryz.underlying183 (z:=.bool false) (by kernel_rfl) rd.out ⟨xa,xn⟩ hxf;have hlk:∀ a' n',a'=xa->n'=xn->(Instr.lookup 183 (.map (some (q+1))) (.agg #[vI a',vI n']) false).run Tryz.prog W3=.ok (.bool (decide ((⟨xa,xn⟩:IdR)∈acc))) W3:=by
    intro a' n' e1 e2;rw[e1,e2];refine hlk0.trans ?_;by_cases h:(⟨xa,xn⟩:IdR)∈acc <;> simp[h]
   have HD:Hid (∀ d,(d=true↔((⟨xa,xn⟩:IdR)=id0\/(⟨xa,xn⟩:IdR)∈acc))->acc'=if d then acc else acc++[⟨xa,xn⟩]):=zh (by
    intro d hd;rw[re.out,jG];cases d
    ·rw[if_neg (fun h=>by have:=hd.2 h;cases this)];rfl
    rw[if_pos (hd.1 rfl)];rfl)
   clear hlk0
   go_upto_region 7 with fail
   go_cut [29] (fun v29 wx=>∃ d:Bool,v29=.bool d/\Hid (d=true↔((⟨xa,xn⟩:IdR)=id0\/(⟨xa,xn⟩:IdR)∈acc))/\Hid (wx=W3))
   case first=>
    by_cases hxa:xa=0
    ·subst hxa;by_cases hxn:xn=0
     ·subst hxn
      go_wp2_with fail
      go_meet
      exact⟨true,rfl,zh (by simp),zh rfl⟩
     have hxb:(xn==0)=false:=by simpa using hxn
     have hid:¬ (⟨0,xn⟩:IdR)=id0:=fun h=>hxn (congrArg IdR.n h)
     clear hxn
     go_wp2_with fail
     all_goals go_meet
     all_goals exact⟨_,rfl,zh (by simp[hid]),zh rfl⟩
    have hxb:(xa==0)=false:=by simpa using hxa
    have hid:¬ (⟨xa,xn⟩:IdR)=id0:=fun h=>hxa (congrArg IdR.a h)
    clear hxa
    go_wp2_with fail
    all_goals go_meet
    all_goals exact⟨_,rfl,zh (by simp[hid]),zh rfl⟩
   case rest=>
    obtain⟨d,rfl,hd,hw⟩:=hcut;obtain rfl:=hw.out;clear hw hlk;have eu:=HD.out d hd.out;cases d
    ·rw[if_neg (by decide)]at eu;have rg:¬ (⟨xa,xn⟩:IdR)∈acc:=fun h=>by have:=hd.out.2 (.inr h);cases this
     obtain⟨W4,bi,hK4,tg⟩:=hK3.out.put (t:=183) (et:=4) Tryz.underlying183 rd.out ⟨xa,xn⟩ hxf rg (.bool true) rfl;dsimp only[idV]at bi;clear hd HD rg
     go_upto_region 9 with fail
     clear a0 a1 b0 b1;have pn:=tg.kp;have hL4:Lies W4 bx 27 #[vI xa,vI xn]:=pn.lies vn.out (by simp;omega);have wu:Lies W4 q 152 #[.slice A1 m cm,.slice A2 m di,.map none,.slice none 0 0,.slice none 0 0]:=pn.lies ro.out.ax (by simp);have hR1:W4.ownsRow (q+2) 27 2 (.slice A1 m cm) m (aI acc):=bT (hle ▸ ro.out.r1) pn (fun g hg=>by have:=(bZ ro.out.r1 g hg).1;simp;omega);have ux:W4.ownsRow (q+2) 4 1 (.slice A2 m di) m (List.replicate m (.bool true)):=bT (hle ▸ ro.out.r2) pn (fun g hg=>by have:=(bZ ro.out.r2 g hg).1;simp;omega);have hB4:=zh (hB3.out.trans ((pn.below (B:=q) (by simp) (by have:=hZ3.out;omega))));have HY:Hid (∀ g,(Value.slice A1 m cm).ownBlock=some g->g∈q::(Value.slice A1 m cm).ownBlock.toList):=zh (fun g hg=>by rw[hg];simp);have sv:=zh hL4;have HX4:=zh wu;have ld:=zh hR1;have i7:=zh ux;have f8:=zh hK4
     have uy:Hid (q+2<=W4.heap.size):=zh (by rw[tg.size];exact hZ3.out);clear bi tg pn hL4 wu hR1 ux hK4 ro hK3 hB3 vn hZ3;have aw:bx≠q:=by omega
     have ww:Hid (bx∉q::(Value.slice A1 m cm).ownBlock.toList):=zh (fun h=>by
      rcases ym.1 h with h|h
      ·exact aw h
      have:=hbo.out bx (by simpa using h);omega)
     go_cut [39] (fun v39 wx=>∃ v1',Hid (Lies wx q 152 #[v1',.slice A2 m di,.map none,.slice none 0 0,.slice none 0 0])/\Hid (wx.ownsRow (q+2) 27 2 v1' (m+1) (aI acc++[vI xa,vI xn]))/\Hid (Kp (q::(Value.slice A1 m cm).ownBlock.toList) W4 wx))
     case first=>
      obtain⟨TT,ah⟩:∃ TT:List (Nat×Nat×Value),TT=[(0,32,vP q 0),(1,33,vP q 0),(2,34,vP q 0),(3,35,vP q 0),(4,36,.slice A1 m cm),(5,37,.agg #[vI xa,vI xn]),(8,40,vP q 0),(9,41,vP q 0)]:=⟨_,rfl⟩
      have bd:=zh ah;clear ah;refine fE (by kernel_rfl) (by kernel_rfl) (fun a0=>53<=a0.tmps.size/\a0.eval (.tmp 3)=vP q 0/\a0.eval (.tmp 6)=vP bx 0) (GA [32,33,34,35,36,37,38,39,40,41] TT (q::(Value.slice A1 m cm).ownBlock.toList) W4 4 6 38 7 39 10 q 0 27 152 #[.slice A1 m cm,.slice A2 m di,.map none,.slice none 0 0,.slice none 0 0] (q+2) 2 m (.slice A1 m cm) (aI acc) [vI xa,vI xn]) ⟨by simp,rfl,rfl⟩ (GA.start _ _ (Kp.refl _ _).drew ld.out HX4.out) ?_ ?_
      ·rintro a0 ⟨hs,kn,vo⟩ zl a1 w1 j o aq hI aj ho zd;have ah:=bd.out;subst ah;have hk:GAk [32,33,34,35,36,37,38,39,40,41] [(0,32,vP q 0),(1,33,vP q 0),(2,34,vP q 0),(3,35,vP q 0),(4,36,.slice A1 m cm),(5,37,.agg #[vI xa,vI xn]),(8,40,vP q 0),(9,41,vP q 0)] (q::(Value.slice A1 m cm).ownBlock.toList) 6 38 7 39 10 q 27 152 (.slice A1 m cm) 53:=⟨rfl,by decide,HY.out,.head _⟩
       have hj:=Up.of_false aj;have hj12:j<11:=by rw[aq]at hj;exact hj
       have e3x:a1.eval (.tmp 3)=vP q 0:=(hI.off.eval (by decide)).trans kn;have e6x:a1.eval (.tmp 6)=vP bx 0:=(hI.off.eval (by decide)).trans vo;rcases(by omega:j=0\/j=1\/j=2\/j=3\/j=4\/j=5\/j=6\/j=7\/j=8\/j=9\/j=10) with rfl|rfl|rfl|rfl|rfl|rfl|rfl|rfl|rfl|rfl|rfl<;>obtain rfl:=oi ho
       ·exact bP hk hI hs (.head _) aj ho rfl rfl (by simp[execOp,go_sem,cD e3x])
       ·exact bP hk hI hs (.tail _ (.head _)) aj ho rfl rfl (by simp[execOp,go_sem,cD e3x])
       ·have d1:=ud zd 1;have p1:=pk hI.pt 1 rfl d1;exact bP hk hI hs (mm 2 rfl) aj ho rfl rfl (by simp[execOp,go_sem,cD p1])
       ·have d2:=ud zd 2;have p2:=pk hI.pt 2 rfl d2;exact bP hk hI hs (mm 3 rfl) aj ho rfl rfl (by simp[execOp,go_sem,cD p2])
       ·have d3:=ud zd 3;have p3:=pk hI.pt 3 rfl d3;have c0:=(hI.unl aj).cell 0;simp only[za,zb]at c0;exact bP hk hI hs (mm 4 rfl) aj ho rfl rfl (by simp[execOp,go_sem,cD p3,c0])
       ·have hLb:=hI.kp.lies sv.out ww.out;have l0:=hLb.cell 0;have l1:=hLb.cell 1;simp only[za,zb,zf]at l0 l1;exact bP hk hI hs (mm 5 rfl) aj ho rfl rfl (by simp[execOp,go_sem,cD e6x,l0,l1])
       ·have d5:=ud zd 5;have p5:=pk hI.pt 5 rfl d5;exact rR hk hI hs aj ho rfl rfl (by simp[execOp,go_sem,cD p5])
       ·have d4:=ud zd 4;have p4:=pk hI.pt 4 rfl d4;have d6:=ud zd 6;obtain⟨i1,gi,gz0,gz1,gz2⟩:=info_parts rU;exact uAY hk hI hs aj ho rfl rfl d4 d6 35 36 rfl p4 i1 (.agg #[vI 0,vI 0]) 16 Tryz.underlying35 gi gz0 gz1 gz2 rfl (by decide) rfl (by intro u hu;simp at hu;rcases hu with rfl|rfl <;> rfl) (by unfold maxLen;omega) (by omega) (yv uy.out hI.kp.size)
       ·have d0:=ud zd 0;have p0:=pk hI.pt 0 rfl d0;exact bP hk hI hs (mm 6 rfl) aj ho rfl rfl (by simp[execOp,go_sem,cD p0])
       ·have d8:=ud zd 8;have p8:=pk hI.pt 6 rfl d8;exact bP hk hI hs (mm 7 rfl) aj ho rfl rfl (by simp[execOp,go_sem,cD p8])
       have d9:=ud zd 9;have p9:=pk hI.pt 7 rfl d9;have d7:=ud zd 7;exact rS hk hI aj ho rfl rfl d7 (fun hL jd=>by
        obtain⟨gs,cs,jd⟩:=jd;have c0:=hL.cell 0;have k0:=hL.frozen 0;simp at c0;rw[jd];simp[execOp,go_sem,cD p9,cD jd,c0,k0])
      intro zl a1 w1 hI bi;have ah:=bd.out;subst ah;have jt:=hI.kp;have ba:=hI.o2 (bi 7 (by decide));have ju:=(hI.b2 (bi 10 (by decide))).2;obtain⟨ff,rfl,hf⟩:=hI.off.forms;rw[<- hf 39]at ba ju;clear hI;generalize ff 39=v' at *;simp only[List.foldl,Act.put,yz,List.set];simp only[Exit.then]
      go_step
      go_meet
      exact⟨v',zh ju,zh ba,zh jt⟩
     case rest=>
      obtain⟨v1',rq,oy,ln⟩:=hcut;obtain⟨A1',oz,rfl⟩:=aV oy.out;have lf:=zh (bT i7.out ln.out (fun g hg=>by
       intro hm;rcases ym.1 hm with h|h
       ·subst h;exact bE (by decide) i7.out HX4.out hg.symm
       exact iA (by decide) i7.out ld.out g hg (by simpa using h)))
      have HK52:=zh (f8.out.at (ln.out.block (q+1) f8.out.lt (fun hm=>by
       rcases ym.1 hm with h|h
       ·omega
       have:=(bZ ld.out (q+1) (by simpa using h)).1;omega)))
      have bk:=zh (hB4.out.trans (ln.out.below (B:=q) (fun g hg=>by
       rcases ym.1 hg with h|h
       ·omega
       have:=(bZ ld.out g (by simpa using h)).1;omega) (by have:=uy.out;omega)))
      have qh:Hid (q+2<=wc.heap.size):=zh (yv uy.out ln.out.size);clear HX4 ld i7 f8 ln sv hB4 uy HY ww;have x1:=rq.out.cell 1;have f1:=rq.out.frozen 1;simp only[za,zb,zf]at x1;have hqz:q<wc.heap.size:=by have:=qh.out;omega
      obtain⟨i1,gi,gz0,gz1,gz2⟩:=info_parts nQ
      go_wp2_with (at_builtin;refine wpList_append_own _ rfl _ _ 148 rfl (q+2) 4 i1 (.bool false) 1 1 Tryz.underlying148 gi gz0 gz1 gz2 rfl (by decide) _ _ _ rfl (World.ownsRow.alloc lf.out _) ⟨wc.heap.size,0,none⟩ 1 1 [.bool true] rfl rfl ?c1 ?c2 ?c3 ?c4 ?c5 ?_)
      case c1=>
       intro j u hj
       match j,hj with
       |0,hj=>simp at hj;subst hj;simp[Addr.add]
      case c2=>intro u hu;simp at hu;subst hu;rfl
      case c3=>unfold maxLen;omega
      case c4=>omega
      case c5=>have:=qh.out;rw[World.size_alloc];omega
      intro v2' W6 ej dr _;obtain⟨A2',o3,rfl⟩:=aV ej;have kl:wc.grownBy W6 (Value.slice A2 m di).ownBlock:=(World.grownBy_alloc wc _ _).trans dr;have rt:=zh (rq.out.grownA kl (bE (by decide) lf.out rq.out));have HR6:=zh (World.ownsRow.kept oy.out kl (by
       cases hv:(Value.slice A1' (m+1) oz).ownBlock with
       |none=>exact .inl rfl
       |some g=>exact .inr (fun e=>iA (by decide) oy.out lf.out g hv e.symm)))
      have HR62:=zh ej;have vp:=zh (HK52.out.at (kl.block (q+1) HK52.out.lt (fun e=>by have:=(bZ lf.out (q+1) e.symm).1;omega)));have ni:=zh (bk.out.grown kl (by have:=qh.out;omega) (fun g hg=>by have:=(bZ lf.out g hg).1;omega));have HZ6:Hid (q+2<=W6.heap.size):=zh (yv qh.out kl.size);clear kl dr ej rq oy lf HK52 bk qh x1 f1 hqz;have x1:=rt.out.cell 1;have f1:=rt.out.frozen 1;simp only[za,zb,zf]at x1
      go_wp2_with fail
      go_roundw
      case rel=>
       refine⟨k+1,.slice A1' (m+1) oz,.slice A2' (m+1) o3,by go_num,by omega,zh ⟨rt.out.put 1 _,?_,?_⟩,zh ?_,zh (ni.out.setCell (p:=⟨q,1,none⟩) (Nat.le_refl q) _),zh (by rw[World.size_setCell];exact HZ6.out)⟩
       ·rw[js.out,eu,jP,yl,hle];exact lR (by decide) HR6.out rt.out 1 _
       ·rw[js.out,eu,yl,hle];have h:=lR (by decide) HR62.out rt.out 1 (.slice A2' (m+1) o3);rw[<- List.replicate_succ']at h;exact h
       rw[js.out,eu];exact vp.out.at (Below.heap_setCell _ _ _ _ (by show q+1≠q;omega))
      case measure=>simp[intOf];omega
    rw[if_pos rfl]at eu
    go_wp2_with fail
    go_roundw
    case rel=>exact⟨k+1,_,_,by go_num,by omega,by rw[js.out,eu];exact ro,by rw[js.out,eu];exact hK3,hB3,hZ3⟩
    case measure=>simp[intOf];omega
  obtain rfl:k=n:=by omega
  rw[HN.out,mo.out]at hM
  go_wp2_with fail
  go_ret
  exact⟨v1,v2,by rw[HQ.out];rfl,by rw[HQ.out];exact hM.out,by rw[HQ.out];exact hB.out⟩
def aG:List IdR->List Bool->List IdR
 |x::r,b::s=>if b then x::aG r s else aG r s
 |_,_=>[]
theorem pZ:∀ (r:List IdR) (s:List Bool) (x:IdR) (b:Bool),r.length=s.length->aG (r++[x]) (s++[b])=aG r s++(if b then [x] else [])
 | [],[],x,b,_=>by cases b <;> rfl
 |y::r,c::s,x,b,h=>by
  have ih:=pZ r s x b (by simpa using h);simp only[yp,aG];rw[ih];cases c <;> simp
 | [],_::_,_,_,h=>by simp at h
 |_::_,[],_,_,h=>by simp at h
theorem cZ:∀ (r:List IdR) (s:List Bool),(aG r s).length<=r.length
 | [],_=>by simp[aG]
 |_::_,[]=>by simp[aG]
 |x::r,b::s=>by
  have ih:=cZ r s;unfold aG
  split
  ·simp;exact ih
  simp;omega
theorem kX(r:List IdR)(s:List Bool)(k:Nat)(h:r.length=s.length)(hk:k<r.length):aG (r.take (k+1)) (s.take (k+1))=aG (r.take k) (s.take k)++(if s[k]'(by omega) then [r[k]] else []):=by
 rw[yw hk,yw (by omega:k<s.length)];exact pZ _ _ _ _ (by simp;omega)
def dX(fl:List Bool):List Value:=fl.map Value.bool
structure AxRaw(b base:Nat)(ids:List IdR)(fl:List Bool)(v1 v2:Value)(W:World):Prop where
 ax:Lies W b 152 #[v1,v2,.map none,.slice none 0 0,.slice none 0 0]
 r1:W.ownsRow base 27 2 v1 ids.length (aI ids)
 r2:W.ownsRow base 4 1 v2 fl.length (dX fl)
theorem aL{W:World}{b b' n sz:Nat}{te:TypeId}{v:Value}{xs:List Value}(h:W.ownsRow b te sz v n xs)(hb:b'<=b):W.ownsRow b' te sz v n xs:=by
 rcases h with⟨hl,⟨e,hz⟩|⟨g,cap,cur,e1,e2,e3⟩⟩
 ·exact⟨hl,.inl ⟨e,hz⟩⟩
 exact⟨hl,.inr ⟨g,cap,cur,e1,yv hb e2,e3⟩⟩
theorem mU:∀ (l:List IdR) (j:Nat) (h:j<l.length),(aI l)[j*2]?=some (vI l[j].a)/\(aI l)[j*2+1]?=some (vI l[j].n)
 |x::l,0,_=>⟨rfl,rfl⟩
 |x::l,j+1,h=>by
  have ih:=mU l j (by simpa using h);have e1:(j+1)*2=j*2+2:=by omega
  rw[e1];exact ih
theorem fX:∀ l:List IdR,(aI l).length=l.length*2
 | []=>rfl
 |x::l=>by
  show (aI l).length+2=_;rw[fX l,yi];omega
theorem fT{W:World}{base n sz:Nat}{te:TypeId}{v:Value}{xs:List Value}(h:W.ownsRow base te sz v n xs)(h0:0<n):∃ g cap,v=.slice (some ⟨g,0,none⟩) n cap/\base<=g/\g<W.heap.size/\∀ j u,xs[j]?=some u->W.cell? ⟨g,j,none⟩=some u:=by
 obtain⟨hl,⟨e,hz⟩|⟨g,cap,cur,e1,e2,e3,e4,e5,e6,e7⟩⟩:=h
 ·omega
 refine⟨g,cap,e1,e2,(zk.1 e3).1,fun j u hj=>?_⟩;rw[Lib.cell_of_heap e3];have hj':j<xs.length:=(List.getElem?_eq_some_iff.1 hj).1;have h2:(cur.toList.take (n*sz))[j]?=cur.toList[j]?:=List.getElem?_take_of_lt (by omega);rw[e7,hj]at h2;show cur[j]?=_;rw[<- Array.getElem?_toList,<- h2]
theorem own_ids{W:World}{base:Nat}{v:Value}{l:List IdR}(h:W.ownsRow base 27 2 v l.length (aI l))(h0:0<l.length):∃ g cap,v=.slice (some ⟨g,0,none⟩) l.length cap/\base<=g/\IdRow W g 0 l:=by
 obtain⟨g,cap,e1,e2,e3,e4⟩:=fT h h0;refine⟨g,cap,e1,e2,e3,fun j hj=>?_⟩;rw[Nat.zero_add];exact⟨e4 _ _ (mU l j hj).1,e4 _ _ (mU l j hj).2⟩
theorem infoI64x:(Tryz.prog.info? 3).map (fun i=>(i.zero,i.size,i.bytes))=some (some (vI 0),1,8):=by kernel_rfl
theorem mk_ints(n:Nat)(hn:n<=300)(w:World):(Instr.makeSlice 150 (vI (n:Int)) (vI (n:Int))).run Tryz.prog w=.ok (.slice (some ⟨w.heap.size,0,none⟩) n n) (w.alloc (.cells (madeCells (vI 0).cells n) 3)):=by
 obtain⟨i0,hi,my,i5,lm⟩:=info_parts infoI64x;have h:=run_makeSlice (P:=Tryz.prog) w 150 3 i0 (vI 0) Tryz.underlying150 hi my .i64 .i64 (n:Int) (n:Int) (by omega) (Int.le_refl _) (by rw[i5];omega) (by rw[lm];omega) (by omega);rw[i5]at h;simpa using h
theorem neq_nil(w:World):(binOp .neq 149 (.map none) (.map none)).run Tryz.prog w=.ok (.bool false) w:=by kernel_rfl
theorem neq_some(m:Nat)(w:World):(binOp .neq 149 (.map (some m)) (.map none)).run Tryz.prog w=.ok (.bool true) w:=by kernel_rfl
theorem mk_map(n:Nat)(w:World):(Instr.makeMap 149 (some (vI (n:Int)))).run Tryz.prog w=.ok (.map (some w.heap.size)) (w.alloc (.map #[] 0)):=by
 simp[Instr.makeMap,run_underlying Tryz.underlying149,go_sem,Result.andThen]
def ptr:Option Nat->Option Addr
 |none=>none
 |some b=>some ⟨b,0,none⟩
end Go.Proofs.YtjfihpaeglpblaaGreatDoor
