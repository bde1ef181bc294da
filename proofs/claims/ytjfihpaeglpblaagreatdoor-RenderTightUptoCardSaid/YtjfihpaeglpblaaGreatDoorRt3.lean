/-
  Lemmas, part 3: PlainK PlT1 Ord2 Par0 Ax1 Ax2.
-/
import Derived.Orders
import Derived.Laws.AppendOwn
import Derived.Laws.EntriesVeiled
import Derived.DeepKeys4
import Derived.WideKeyArgs2
import Derived.MapViews
import Derived.Test.YtjfihpaeglpblaaGreatDoorRt2
set_option maxHeartbeats 100000000
set_option maxRecDepth 1000000
namespace Go.Proofs.YtjfihpaeglpblaaGreatDoor
open Go.RowKit
def dY(c:Nat):Bs:=if _h:c=0 then [] else dY ((c-1) / 26)++[UInt8.ofNat (65+(c-1) % 26)]
termination_by c
decreasing_by omega
theorem fT:dY 0=[]:=by rw[dY,dif_pos rfl]
theorem fS(c:Nat)(h:0<c):dY c=dY ((c-1) / 26)++[UInt8.ofNat (65+(c-1) % 26)]:=by rw[dY,dif_neg (by omega)]
def aW(c:UInt8):Bool:=decide (65<=c.toNat)&&decide (c.toNat<=90)
theorem cap_of(d:Nat)(h:d<26):aW (UInt8.ofNat (65+d))=true/\(UInt8.ofNat (65+d)).toNat=65+d:=by
 have:=(by decide:∀ d,d<26->aW (UInt8.ofNat (65+d))=true/\(UInt8.ofNat (65+d)).toNat=65+d)
 exact this d h
def uCJ(l:Bs):Nat:=l.foldl (fun a c=>a*26+(c.toNat-65)+1) 0
theorem yT(l:Bs)(c:UInt8):uCJ (l++[c])=uCJ l*26+(c.toNat-65)+1:=by simp[uCJ]
theorem lets_is(c:Nat):(∀ x∈dY c,aW x=true)/\uCJ (dY c)=c:=by
 induction c using Nat.strongRecOn with
 |_ c ih=>
  by_cases h:c=0
  ·subst h;rw[fT];exact⟨fun x hx=>by simp at hx,rfl⟩
  rw[fS c (by omega)];obtain⟨i1,i2⟩:=ih ((c-1) / 26) (by omega);obtain⟨c1,c2⟩:=cap_of ((c-1) % 26) (by omega);refine⟨fun x hx=>?_,?_⟩
  ·rcases List.mem_append.1 hx with h|h
   ·exact i1 x h
   rw[yf.1 h];exact c1
  rw[yT,i2,c2];omega
theorem wH(c:Nat)(h:0<c):0<(dY c).length:=by rw[fS c h];simp
theorem hG(c:Nat)(h:c<=18278):(dY c).length<=3:=by
 by_cases h0:c=0
 ·subst h0;rw[fT];simp
 rw[fS c (by omega),yl];by_cases h1:(c-1) / 26=0
 ·rw[h1,fT];simp
 rw[fS _ (by omega),yl];by_cases h2:((c-1) / 26-1) / 26=0
 ·rw[h2,fT];simp
 rw[fS _ (by omega),yl];have h3:(((c-1) / 26-1) / 26-1) / 26=0:=by omega
 rw[h3,fT];simp
def qH(b:Bool):Bs:=if b then [36] else []
def mJ(row col:Nat)(fr fc:Bool):Bs:=qH fc++(dY (col+1)++(qH fr++Lib.decDigits (row+1)))
theorem uCL(u:Nat):0<(Lib.decDigits u).length:=by rw[Lib.decDigits];split <;> simp
theorem eC(u k:Nat)(h:u<10 ^ (k+1)):(Lib.decDigits u).length<=k+1:=by
 induction k generalizing u with
 |zero=>rw[Lib.decDigits,dif_pos (by omega)];simp
 |succ k ih=>
  rw[Lib.decDigits];by_cases h1:u<10
  ·rw[dif_pos h1];simp
  rw[dif_neg h1,yl];have:=ih (u / 10) (by rw[Nat.pow_succ]at h;omega);simp;omega
structure IdR where
 a:Int
 n:Int
theorem IdR.ext'{x y:IdR}(h1:x.a=y.a)(h2:x.n=y.n):x=y:=by
 cases x;cases y;cases h1;cases h2;rfl
instance :DecidableEq IdR:=fun x y=>if h:x.a=y.a/\x.n=y.n then .isTrue (IdR.ext' h.1 h.2) else .isFalse (fun e=>h (by rw[e];exact⟨rfl,rfl⟩))
abbrev id0:IdR:=⟨0,0⟩
structure Cor where
 row:IdR
 col:IdR
 fr:Bool
 fc:Bool
theorem Cor.ext'{x y:Cor}(h1:x.row=y.row)(h2:x.col=y.col)(h3:x.fr=y.fr)(h4:x.fc=y.fc):x=y:=by
 cases x;cases y;cases h1;cases h2;cases h3;cases h4;rfl
instance :DecidableEq Cor:=fun x y=>if h:x.row=y.row/\x.col=y.col/\x.fr=y.fr/\x.fc=y.fc then .isTrue (Cor.ext' h.1 h.2.1 h.2.2.1 h.2.2.2) else .isFalse (fun e=>h (by rw[e];exact⟨rfl,rfl,rfl,rfl⟩))
abbrev aK:Cor:=⟨id0,id0,false,false⟩
structure NodeH where
 kind:Int
 v:Val
 name:Bs
 a:Cor
 b:Cor
 rows:Int
inductive Tree where
 |mk (h:NodeH) (l:List Tree)
def Tree.h:Tree->NodeH
 | .mk h _=>h
def Tree.l:Tree->List Tree
 | .mk _ l=>l
abbrev head0:NodeH:=⟨0,aD,[],aK,aK,0⟩
abbrev tree0:Tree:=.mk head0 []
mutual
def Tree.size:Tree->Nat
 | .mk _ l=>aL l+1
def aL:List Tree->Nat
 | []=>0
 |t::r=>t.size+aL r
end
mutual
def Tree.depth:Tree->Nat
 | .mk _ l=>cG l+1
def cG:List Tree->Nat
 | []=>0
 |t::r=>max t.depth (cG r)
end
def NodeH.same(x y:NodeH):Bool:=decide (x.kind=y.kind)&&aX x.v y.v&&x.name==y.name&&decide (x.a=y.a)&&decide (x.b=y.b)&&decide (x.rows=y.rows)
mutual
def Tree.same:Tree->Tree->Bool
 | .mk h l,.mk h' l'=>NodeH.same h h'&&eP l l'
def eP:List Tree->List Tree->Bool
 | [],[]=>true
 |t::r,t'::r'=>t.same t'&&eP r r'
 | [],_::_=>false
 |_::_,[]=>false
end
def aF(s:Bs):Nat:=aT aB s
def aE(s:Bs):Nat:=aT aW s
def bI(s:Bs):Bool :=
 decide (0<s.length)&&decide (s.length<=32)&&aW (s.headD 0)&&s.all (fun c=>aW c||aB c||c==46) &&
  !(decide (aE s+aF (s.drop (aE s))=s.length)&&decide (aE s<=3)&&decide (1<=aF (s.drop (aE s)))&&decide (aF (s.drop (aE s))<=7)&&!bJ s (aE s) 48)
def dF(s:Bs):Bool :=
 let a:=if bJ s 0 82 then 1+aF (s.drop 1) else 0
 let b:=if bJ s a 67 then a+1+aF (s.drop (a+1)) else a
 decide (b=s.length)
def lE:Bs:=[84,82,85,69]
def gS:Bs:=[70,65,76,83,69]
def bB(s:Bs):Bool :=
 decide (0<s.length)&&decide (s.length<=32)&&(aW (s.headD 0)||s.headD 0==95)&&s.all (fun c=>aW c||aB c||c==95||c==46) &&
  !(s==lE||s==gS||dF s) &&
  !(decide (aE s+aF (s.drop (aE s))=s.length)&&decide (1<=aE s)&&decide (aE s<=3)&&decide (1<=aF (s.drop (aE s))))
def unB(s:Bs):Bool:=s==[45]||s==[43]||s==[37]
def iM(s:Bs):Bool:=s==[43]||s==[45]||s==[42]||s==[47]||s==[94]||s==[38]||s==[61]||s==[60,62]||s==[60]||s==[60,61]||s==[62]||s==[62,61]
def cS(v:Val)(inMat:Bool):Bool:=decide (v.kind≠0)&&aR v&&(inMat||decide (0<=v.mant))
def bV(a b:Cor):Bool :=
 let rows:=decide (a.row≠id0)
 let cols:=decide (a.col≠id0)
 (rows==decide (b.row≠id0))&&(cols==decide (b.col≠id0))&&(rows||cols)&&(rows||(!a.fr&&!b.fr))&&(cols||(!a.fc&&!b.fc))
def aV(h:NodeH)(n:Nat)(kids:List Int)(above:Int):Bool :=
 if h.kind=0 then cS h.v (decide (above=8))&&NodeH.same h ⟨0,h.v,[],aK,aK,0⟩&&decide (n=0)
 else if h.kind=1\/h.kind=3 then decide (h.a.row≠id0)&&decide (h.a.col≠id0)&&NodeH.same h ⟨h.kind,aD,[],h.a,aK,0⟩&&decide (n=0)
 else if h.kind=2 then bV h.a h.b&&NodeH.same h ⟨2,aD,[],h.a,h.b,0⟩&&decide (n=0)
 else if h.kind=4 then bI h.name&&decide (n<=32)&&!(decide (n=1)&&decide (kids=[9]))&&NodeH.same h ⟨4,aD,h.name,aK,aK,0⟩
 else if h.kind=5 then unB h.name&&decide (n=1)&&NodeH.same h ⟨5,aD,h.name,aK,aK,0⟩
 else if h.kind=6 then iM h.name&&decide (n=2)&&NodeH.same h ⟨6,aD,h.name,aK,aK,0⟩
 else if h.kind=7 then bB h.name&&NodeH.same h ⟨7,aD,h.name,aK,aK,0⟩&&decide (n=0)
 else if h.kind=8 then decide (1<=h.rows)&&decide (1<=n)&&decide ((n:Int).tmod h.rows=0)&&NodeH.same h ⟨8,aD,[],aK,aK,h.rows⟩
 else if h.kind=9 then decide (above=4)&&NodeH.same h ⟨9,aD,[],aK,aK,0⟩&&decide (n=0)
 else false
mutual
def Tree.right:Tree->Int->Bool
 | .mk h l,above=>aV h l.length (l.map fun t=>t.h.kind) above&&aQ l h.kind
def aQ:List Tree->Int->Bool
 | [],_=>true
 |t::r,k=>(decide (k≠8)||decide (t.h.kind=0))&&t.right k&&aQ r k
end
def cI(t:Tree):Nat:=if 256<t.size then 5 else if 32<t.depth then 8 else if t.right 6 then 0 else 6
def hd(ts:List Tok):Tok:=ts.headD ⟨0,[],0⟩
open Go
def Up(zl:Array Bool)(i:Nat):Prop:=zl.getD i false=true
theorem Up.of_false{zl:Array Bool}{i:Nat}(h:zl.getD i true=false):i<zl.size:=by
 rcases Nat.lt_or_ge i zl.size with h1|h1
 ·exact h1
 simp[Array.getElem?_eq_none h1]at h
theorem Up.set{zl:Array Bool}{i j:Nat}(hs:i<zl.size):Up (zl.setIfInBounds i true) j↔(j=i\/Up zl j):=by
 unfold Up;by_cases h:i=j
 ·subst h;simp[hs]
 rw[getD_set_ne false h];constructor
 ·exact .inr
 rintro(e|e)
 ·exact absurd e.symm h
 exact e
theorem Up.none(n i:Nat):¬ Up (Array.replicate n false) i:=by
 unfold Up;simp only[Array.getD_eq_getD_getElem?,Array.getElem?_replicate]
 split <;> simp
def jH(ops:Array Oper):Bool:=(List.range ops.size).all fun i=>((ops[i]?).map fun o=>o.after.all fun e=>decide (e.on<i)).getD true
theorem kX{ops:Array Oper}(h:jH ops=true){i:Nat}{o:Oper}(ho:ops[i]?=some o):∀ e∈o.after,e.on<i:=by
 intro e he;have hlt:i<ops.size:=(zk.1 ho).1;have:=List.all_eq_true.1 h i (yg.2 hlt);rw[ho]at this;simp only[Option.map_some,Option.getD_some,Array.all_eq_true_iff_forall_mem]at this;exact of_decide_eq_true (this e he)
theorem all_up{md:Region.Mode}{ops:Array Oper}(hb:jH ops=true){zl:Array Bool}(hs:zl.size=ops.size)(hr:Region.ready md ops zl=[]):∀ i,i<ops.size->Up zl i:=by
 intro i
 induction i using Nat.strongRecOn with
 |_ i ih=>
  intro hi;cases hu:zl.getD i true
  ·exfalso
   have ho:ops[i]?=some ops[i]:=Array.getElem?_eq_getElem hi;have:i∈Region.ready md ops zl:=mem_ready.2 ⟨hu,ops[i],ho,fun e he _=>ih e.on (kX hb ho e he) (Nat.lt_trans (kX hb ho e he) hi)⟩;rw[hr]at this;cases this
  have um:i<zl.size:=by omega
  unfold Up;simp only[Array.getD_eq_getD_getElem?,Array.getElem?_eq_getElem um,Option.getD_some]at hu ⊢;exact hu
def left(zl:Array Bool):Nat:=zl.toList.countP (fun b=>!b)
theorem qY{zl:Array Bool}{i:Nat}(h:zl.getD i true=false):left (zl.setIfInBounds i true)+1=left zl:=by
 have hi:=Up.of_false h;have hv:zl[i]=false:=by simpa [hi] using h
 unfold left;obtain⟨l⟩:=zl;simp only[yd]at hi;simp only[List.getElem_toArray]at hv;simp only[yz];have e1:l=l.take i++l[i]::l.drop (i+1):=by
  rw[<- yx hi,List.take_append_drop]
 have e2:l.set i true=l.take i++true::l.drop (i+1):=List.set_eq_take_append_cons_drop.trans (if_pos hi);rw[e2]
 conv=>rhs;rw[e1]
 rw[List.countP_append,List.countP_append,List.countP_cons,List.countP_cons,hv];simp;omega
theorem tC{zl:Array Bool}(h:left zl=0)(i:Nat):zl.getD i true=true:=by
 cases hu:zl.getD i true
 ·have:=qY hu;omega
 rfl
section
variable {P:Program} {ops:Array Oper} {Q:Exit->Act->World->Prop} {md:Region.Mode}
theorem uC(hb:jH ops=true)(I:Array Bool->Act->World->Prop)
  (bu:∀ zl a w i o,zl.size=ops.size->I zl a w->zl.getD i true=false->ops[i]?=some o->(∀ e∈o.after,Region.binds md e=true->Up zl e.on)->wpOp P ops Q i (I (zl.setIfInBounds i true)) a w)
  (bv:∀ zl a w,I zl a w->(∀ i,i<ops.size->Up zl i)->Q .normal a w) :
  ∀ (fuel:Nat) (zl:Array Bool) (a:Act) (w:World),zl.size=ops.size->left zl<=fuel->I zl a w->wpAny P md ops Q fuel zl a w
 |0,zl,a,w,hs,hf,hI=>by
  have hr:Region.ready md ops zl=[]:=by
   refine List.eq_nil_iff_forall_not_mem.2 (fun i hi=>?_);have h1:=(mem_ready.1 hi).1;rw[tC (by omega) i]at h1;cases h1
  exact⟨hr,bv zl a w hI (all_up hb hs hr)⟩
 |fuel+1,zl,a,w,hs,hf,hI=>by
  refine⟨fun hr=>bv zl a w hI (all_up hb hs hr),fun i hi=>?_⟩;obtain⟨h1,o,ho,zd⟩:=mem_ready.1 hi;refine wpOp_mono (fun a' w' h'=>uC hb I bu bv fuel _ a' w' (by rw[Array.size_setIfInBounds];exact hs) (by have:=qY h1;omega) h') (bu zl a w i o hs hI h1 ho zd)
theorem jQ(n:Nat):left (Array.replicate n false)=n:=by
 unfold left;simp[List.countP_replicate]
theorem sQ{id:Nat}{a:Act}{w:World}(hm:P.follows .mixedOrders=true)(hb:jH ops=true)(I:Array Bool->Act->World->Prop)
  (h0:I (Array.replicate ops.size false) a w.drew)
  (bu:∀ zl a w i o,zl.size=ops.size->I zl a w->zl.getD i true=false->ops[i]?=some o->(∀ e∈o.after,Region.binds .any e=true->Up zl e.on)->wpOp P ops Q i (I (zl.setIfInBounds i true)) a w)
  (bv:∀ zl a w,I zl a w->(∀ i,i<ops.size->Up zl i)->Q .normal a w):(Code.region id ops true).wp P Q a w :=
 wp_region_any hm (uC hb I bu bv ops.size _ a _ (by simp) (by rw[jQ];exact zr) h0)
theorem wp_region_inv'{id:Nat}{a:Act}{w:World}(hm:P.follows .mixedOrders=true)(hb:jH ops=true)(F:Act->Prop)(I:Act->Array Bool->Act->World->Prop)(hF:F a)
  (h0:I a (Array.replicate ops.size false) a w.drew)
  (bu:∀ a0,F a0->∀ zl a w i o,zl.size=ops.size->I a0 zl a w->zl.getD i true=false->ops[i]?=some o->(∀ e∈o.after,Region.binds .any e=true->Up zl e.on)->wpOp P ops Q i (I a0 (zl.setIfInBounds i true)) a w)
  (bv:∀ zl a' w',I a zl a' w'->(∀ i,i<ops.size->Up zl i)->Q .normal a' w'):(Code.region id ops true).wp P Q a w :=
 sQ hm hb (I a) h0 (bu a hF) bv
theorem jA{i:Nat}{o:Oper}{K:Act->World->Prop}{a:Act}{w:World}(ho:ops[i]?=some o)(hg:o.guard=none)(h:o.wp P a w K Q):wpOp P ops Q i K a w:=by
 unfold wpOp;rw[ho];simp only;rw[if_pos (by simp[Region.wanted,hg])];exact .inl h
end
theorem gO(a:Act)(v:Value){t s:Nat}(h:t≠s):(a.put (some t) v).eval (.tmp s)=a.eval (.tmp s):=Act.eval_put (fun _ hd e=>h ((Option.some.inj hd).trans (Operand.tmp.inj e).symm))
theorem fE(a:Act)(v:Value){t:Nat}(h:t<a.tmps.size):(a.put (some t) v).eval (.tmp t)=v:=by simp[Act.eval,Act.put,h]
theorem mT(a:Act)(v:Value)(t:Nat):(a.put (some t) v).tmps.size=a.tmps.size:=by simp[Act.put]
open Go
structure Off(S:List Nat)(a0 a:Act):Prop where
 defers:a.defers=a0.defers
 size:a.tmps.size=a0.tmps.size
 same:∀ t:Nat,t∉S->a.tmps[t]?=a0.tmps[t]?
theorem Off.refl(S:List Nat)(a:Act):Off S a a:=⟨rfl,rfl,fun _ _=>rfl⟩
theorem Off.put{S:List Nat}{a0 a:Act}(h:Off S a0 a){s:Nat}(hs:s∈S)(v:Value):Off S a0 (a.put (some s) v):=by
 refine⟨h.defers,by rw[mT];exact h.size,fun t ht=>?_⟩;have cv:s≠t:=fun e=>ht (e ▸ hs)
 rw[<- h.same t ht];simp[Act.put,cv]
theorem Off.eval{S:List Nat}{a0 a:Act}(h:Off S a0 a){t:Nat}(ht:t∉S):a.eval (.tmp t)=a0.eval (.tmp t):=by
 have:=h.same t ht;simp only[Act.eval,Array.getD_eq_getD_getElem?,this]
theorem Off.form:∀ (S:List Nat) (a0 a:Act),Off S a0 a->a=S.foldl (fun b s=>b.put (some s) (a.tmps.getD s undef)) a0
 | [],a0,a,h=>by
  obtain⟨tmps,df⟩:=a;obtain⟨tmps0,df0⟩:=a0;have h1:=h.defers;dsimp only at h1;subst h1;have h2:tmps=tmps0:=Array.ext_getElem? (fun t=>h.same t (by simp));rw[h2];rfl
 |s::S,a0,a,h=>by
  rw[List.foldl_cons];refine Off.form S _ a ⟨h.defers,by rw[mT];exact h.size,fun t ht=>?_⟩;by_cases ec:s=t
  ·subst ec;have hz:=h.size;simp only[Act.put,Array.getElem?_setIfInBounds,if_true,Array.getD_eq_getD_getElem?]
   split
   ·next hlt=>
    have:s<a.tmps.size:=by omega
    rw[Array.getElem?_eq_getElem this];rfl
   next hlt=>rw[Array.getElem?_eq_none (by omega)]
  rw[h.same t (by simp only[ym,not_or];exact⟨fun e=>ec e.symm,ht⟩)];simp[Act.put,ec]
theorem Off.forms{S:List Nat}{a0 a:Act}(h:Off S a0 a):∃ f:Nat->Value,a=S.foldl (fun b s=>b.put (some s) (f s)) a0/\∀ s,f s=a.eval (.tmp s) :=
 ⟨fun s=>a.tmps.getD s undef,Off.form S a0 a h,fun _=>rfl⟩
theorem bQ{a:Act}{t:Nat}{v:Value}(h:a.eval (.tmp t)=v):a.tmps[t]?.getD undef=v:=by
 rw[<- h];simp[Act.eval]
def PT(T:List (Nat×Nat×Value))(zl:Array Bool)(a:Act):Prop:=∀ e∈T,Up zl e.1->a.eval (.tmp e.2.1)=e.2.2
theorem pk{T:List (Nat×Nat×Value)}{zl:Array Bool}{a:Act}(hp:PT T zl a)(n:Nat){i s:Nat}{v:Value}(h:T[n]?=some (i,s,v))(hu:Up zl i):a.eval (.tmp s)=v:=hp (i,s,v) (List.mem_of_getElem? h) hu
theorem ud{zl:Array Bool}{o:Oper}(zd:∀ e∈o.after,Region.binds .any e=true->Up zl e.on)(i:Nat)(hm:{ on:=i,ground:=.data }∈o.after:=by simp):Up zl i:=zd _ hm rfl
theorem PT.start(T:List (Nat×Nat×Value))(n:Nat)(a:Act):PT T (Array.replicate n false) a:=fun _ _ h=>absurd h (Up.none _ _)
theorem PT.step{T:List (Nat×Nat×Value)}{zl:Array Bool}{a:Act}(h:PT T zl a){i s:Nat}{v:Value}(hi:i<zl.size)(hs:s<a.tmps.size)(h1:∀ e∈T,e.2.1=s->e.2.2=v)(h2:∀ e∈T,e.1=i->e.2.1=s):PT T (zl.setIfInBounds i true) (a.put (some s) v):=by
 intro e he hu;by_cases hes:s=e.2.1
 ·rw[<- hes,fE _ _ hs,h1 e he hes.symm]
 rw[gO _ _ hes];rcases(Up.set hi).1 hu with hu|hu
 ·exact absurd (h2 e he hu).symm hes
 exact h e he hu
theorem PT.skip{T:List (Nat×Nat×Value)}{zl:Array Bool}{a:Act}(h:PT T zl a){i:Nat}(hi:i<zl.size)(h1:∀ e∈T,e.1≠i):PT T (zl.setIfInBounds i true) a:=by
 intro e he hu;rcases(Up.set hi).1 hu with hu|hu
 ·exact absurd hu (h1 e he)
 exact h e he hu
theorem jX{zl:Array Bool}{i j:Nat}(hi:i<zl.size)(h:Up (zl.setIfInBounds i true) j)(cv:j≠i):Up zl j:=((Up.set hi).1 h).resolve_left cv
theorem dZ{zl:Array Bool}{i j:Nat}(hi:i<zl.size)(h:Up zl j):Up (zl.setIfInBounds i true) j:=(Up.set hi).2 (.inr h)
theorem pT{zl:Array Bool}{i:Nat}(hi:i<zl.size):Up (zl.setIfInBounds i true) i:=(Up.set hi).2 (.inl rfl)
theorem iU{zl:Array Bool}{i:Nat}(ag:zl.getD i true=false):¬ Up zl i:=fun h=>by
 have hi:=Up.of_false ag;unfold Up at h;simp[hi]at ag h;rw[ag]at h;cases h
theorem oC{P:Program}{o:Oper}{a:Act}{w w1:World}{K:Act->World->Prop}{Q:Exit->Act->World->Prop}(v:Value)(hr:(execOp a.eval o).run P w=.ok (.value v) w1)(hk:K (a.put o.dst v) w1):o.wp P a w K Q:=by
 unfold Oper.wp;rw[hr];exact hk
theorem uCB{P:Program}{o:Oper}{a:Act}{w w1:World}{K:Act->World->Prop}{Q:Exit->Act->World->Prop}(hr:(execOp a.eval o).run P w=.ok .skip w1)(hk:K (a.put o.dst undef) w1):o.wp P a w K Q:=by
 unfold Oper.wp;rw[hr];exact hk
structure Kp(Y:List Nat)(w w':World):Prop where
 os:w'.os=w.os
 tape:w'.tape=w.tape
 output:w'.output=w.output
 size:w.heap.size<=w'.heap.size
 block:∀ k,k<w.heap.size->k∉Y->w'.heap[k]?=w.heap[k]?
theorem Kp.refl(Y:List Nat)(w:World):Kp Y w w:=⟨rfl,rfl,rfl,zr,fun _ _ _=>rfl⟩
theorem Kp.trans{Y:List Nat}{a b c:World}(h:Kp Y a b)(k:Kp Y b c):Kp Y a c :=
 ⟨k.os.trans h.os,k.tape.trans h.tape,k.output.trans h.output,yv h.size k.size,fun i hi hn=>(k.block i (yu hi h.size) hn).trans (h.block i hi hn)⟩
theorem Kp.mono{Y Z:List Nat}{a b:World}(h:Kp Y a b)(hs:∀ k∈Y,k<a.heap.size->k∈Z):Kp Z a b :=
 ⟨h.os,h.tape,h.output,h.size,fun i hi hn=>h.block i hi (fun hm=>hn (hs i hm hi))⟩
theorem Kp.of_below{Y:List Nat}{a b:World}(h:Below a.heap.size a b):Kp Y a b:=⟨h.os,h.tape,h.output,h.size,fun i hi _=>h.block i hi⟩
theorem Kp.below{Y:List Nat}{a b:World}{B:Nat}(h:Kp Y a b)(hB:∀ k∈Y,B<=k)(hs:B<=a.heap.size):Below B a b :=
 ⟨h.os,h.tape,h.output,h.size,fun i hi=>h.block i (yu hi hs) (fun hm=>absurd (hB i hm) (by omega))⟩
theorem Kp.alloc{Y:List Nat}{a b:World}(h:Kp Y a b)(o:Obj):Kp Y a (b.alloc o):=h.trans (Kp.of_below ((Below.refl _ b).alloc zr o))
theorem Kp.drew{Y:List Nat}{a b:World}(h:Kp Y a b):Kp Y a b.drew:=h.trans (Kp.of_below (Below.refl _ b).drew)
theorem Kp.set{Y:List Nat}{a b:World}(h:Kp Y a b){r:Nat}(hr:r∈Y\/a.heap.size<=r)(i:Nat)(u:Value):Kp Y a (b.setCell ⟨r,i,none⟩ u) :=
 ⟨h.os,h.tape,h.output,by rw[World.size_setCell];exact h.size,fun k hk hn=>(Below.heap_setCell b ⟨r,i,none⟩ u k (fun e=>by
  have e':k=r:=e;rcases hr with hr|hr
  ·exact hn (e' ▸ hr)
  omega)).trans (h.block k hk hn)⟩
theorem Kp.grown{Y:List Nat}{a b c:World}(h:Kp Y a b){row:Option Nat}(hg:b.grownBy c row)(hr:∀ g,row=some g->g∈Y\/a.heap.size<=g):Kp Y a c :=
 ⟨hg.os.trans h.os,hg.tape.trans h.tape,hg.output.trans h.output,yv h.size hg.size,fun k hk hn=>(hg.block k (yu hk h.size) (fun e=>by
  rcases hr k e.symm with h1|h1
  ·exact hn h1
  omega)).trans (h.block k hk hn)⟩
theorem Kp.andThen{Y Z:List Nat}{a b c:World}(h:Kp Y a b)(k:Kp Z b c)(hz:∀ g∈Z,g∈Y\/a.heap.size<=g):Kp Y a c :=
 ⟨k.os.trans h.os,k.tape.trans h.tape,k.output.trans h.output,yv h.size k.size,fun i hi hn=>(k.block i (yu hi h.size) (fun hm=>by
  rcases hz i hm with h1|h1
  ·exact hn h1
  omega)).trans (h.block i hi hn)⟩
theorem Kp.lies{Y:List Nat}{a b:World}(h:Kp Y a b){g:Nat}{t:TypeId}{cs:Array Value}(hl:Lies a g t cs)(hn:g∉Y):Lies b g t cs:=(h.block g hl.lt hn).trans hl
theorem Kp.cell{Y:List Nat}{a b:World}(h:Kp Y a b){g i:Nat}(hg:g<a.heap.size)(hn:g∉Y):b.cell? ⟨g,i,none⟩=a.cell? ⟨g,i,none⟩:=World.cell?_of_block (w:=a) (a:=⟨g,i,none⟩) (h.block g hg hn)
structure Only(m:Nat)(w w':World):Prop where
 os:w'.os=w.os
 tape:w'.tape=w.tape
 output:w'.output=w.output
 size:w'.heap.size=w.heap.size
 block:∀ k,k≠m->w'.heap[k]?=w.heap[k]?
theorem Only.kp{m:Nat}{w w':World}(h:Only m w w'):Kp [m] w w':=⟨h.os,h.tape,h.output,by rw[h.size];exact zr,fun k _ hn=>h.block k (fun e=>hn (by rw[e];exact .head _))⟩
def eS(ops:Array Oper):Bool:=(List.range ops.size).all fun i=>((ops[i]?).map fun o=>o.after.all fun e=>!Region.binds .any e||decide (e.on<i)).getD true
theorem fW{ops:Array Oper}(h:eS ops=true){i:Nat}{o:Oper}(ho:ops[i]?=some o):∀ e∈o.after,Region.binds .any e=true->e.on<i:=by
 intro e he hb;have hlt:i<ops.size:=(zk.1 ho).1;have:=List.all_eq_true.1 h i (yg.2 hlt);rw[ho]at this;simp only[Option.map_some,Option.getD_some,Array.all_eq_true_iff_forall_mem]at this;have h1:=this e he;rw[hb]at h1;exact of_decide_eq_true h1
theorem uCD{ops:Array Oper}(hb:eS ops=true){zl:Array Bool}(hs:zl.size=ops.size)(hr:Region.ready .any ops zl=[]):∀ i,i<ops.size->Up zl i:=by
 intro i
 induction i using Nat.strongRecOn with
 |_ i ih=>
  intro hi;cases hu:zl.getD i true
  ·exfalso
   have ho:ops[i]?=some ops[i]:=Array.getElem?_eq_getElem hi;have:i∈Region.ready .any ops zl:=mem_ready.2 ⟨hu,ops[i],ho,fun e he hd=>ih e.on (fW hb ho e he hd) (Nat.lt_trans (fW hb ho e he hd) hi)⟩;rw[hr]at this;cases this
  have um:i<zl.size:=by omega
  unfold Up;simp only[Array.getD_eq_getD_getElem?,Array.getElem?_eq_getElem um,Option.getD_some]at hu ⊢;exact hu
theorem sD{P:Program}{ops:Array Oper}{Q:Exit->Act->World->Prop}(hb:eS ops=true)(I:Array Bool->Act->World->Prop)
  (bu:∀ zl a w i o,zl.size=ops.size->I zl a w->zl.getD i true=false->ops[i]?=some o->(∀ e∈o.after,Region.binds .any e=true->Up zl e.on)->wpOp P ops Q i (I (zl.setIfInBounds i true)) a w)
  (bv:∀ zl a w,I zl a w->(∀ i,i<ops.size->Up zl i)->Q .normal a w) :
  ∀ (fuel:Nat) (zl:Array Bool) (a:Act) (w:World),zl.size=ops.size->left zl<=fuel->I zl a w->wpAny P .any ops Q fuel zl a w
 |0,zl,a,w,hs,hf,hI=>by
  have hr:Region.ready .any ops zl=[]:=by
   refine List.eq_nil_iff_forall_not_mem.2 (fun i hi=>?_);have h1:=(mem_ready.1 hi).1;rw[tC (by omega) i]at h1;cases h1
  exact⟨hr,bv zl a w hI (uCD hb hs hr)⟩
 |fuel+1,zl,a,w,hs,hf,hI=>by
  refine⟨fun hr=>bv zl a w hI (uCD hb hs hr),fun i hi=>?_⟩;obtain⟨h1,o,ho,zd⟩:=mem_ready.1 hi;refine wpOp_mono (fun a' w' h'=>sD hb I bu bv fuel _ a' w' (by rw[Array.size_setIfInBounds];exact hs) (by have:=qY h1;omega) h') (bu zl a w i o hs hI h1 ho zd)
theorem eN{P:Program}{ops:Array Oper}{Q:Exit->Act->World->Prop}{id:Nat}{a:Act}{w:World}(hm:P.follows .mixedOrders=true)(hb:eS ops=true)(F:Act->Prop)(I:Act->Array Bool->Act->World->Prop)(hF:F a)
  (h0:I a (Array.replicate ops.size false) a w.drew)
  (bu:∀ a0,F a0->∀ zl a w i o,zl.size=ops.size->I a0 zl a w->zl.getD i true=false->ops[i]?=some o->(∀ e∈o.after,Region.binds .any e=true->Up zl e.on)->wpOp P ops Q i (I a0 (zl.setIfInBounds i true)) a w)
  (bv:∀ zl a' w',I a zl a' w'->(∀ i,i<ops.size->Up zl i)->Q .normal a' w'):(Code.region id ops true).wp P Q a w :=
 wp_region_any hm (sD hb (I a) (bu a hF) bv ops.size _ a _ (by simp) (by rw[jQ];exact zr) h0)
theorem aY{w:World}{b n sz:Nat}{te tb:TypeId}(ht:te≠tb){v:Value}{xs:List Value}(h:w.ownsRow b te sz v n xs){bx:Nat}{cs:Array Value}(hl:Lies w bx tb cs):some bx≠v.ownBlock:=fun e=>by
 rcases h.2 with⟨rfl,_⟩|⟨g,cap,cur,rfl,_,hg,_⟩
 ·simp[Value.ownBlock]at e
 simp[Value.ownBlock]at e;subst e;unfold Lies at hl;rw[hg]at hl;injection hl with hl;injection hl with _ hl _;exact ht hl
theorem kF{w:World}{b n sz:Nat}{te tb:TypeId}(ht:te≠tb){v:Value}{xs:List Value}(h:w.ownsRow b te sz v n xs){bx:Nat}{cs:Array Value}(hl:Lies w bx tb cs)(i:Nat)(u:Value):(w.setCell ⟨bx,i,none⟩ u).ownsRow b te sz v n xs:=by
 have hg:w.grownBy (w.setCell ⟨bx,i,none⟩ u) (some bx):=⟨rfl,rfl,rfl,by rw[World.size_setCell];exact zr,fun j _ cv=>Below.heap_setCell w ⟨bx,i,none⟩ u j (fun e=>cv (congrArg some e))⟩
 exact World.ownsRow.kept h hg (.inr (fun e=>aY ht h hl e.symm))
theorem Lies.grownA{w w':World}{g:Nat}{t:TypeId}{cs:Array Value}{row:Option Nat}(h:Lies w g t cs)(hg:w.grownBy w' row)(hr:some g≠row):Lies w' g t cs:=(hg.block g h.lt hr).trans h
theorem aC{w:World}{g:Nat}{t:TypeId}{cs:Array Value}(h:Lies w g t cs){b:Nat}(hb:g≠b)(i:Nat)(u:Value):Lies (w.setCell ⟨b,i,none⟩ u) g t cs:=(Below.heap_setCell w ⟨b,i,none⟩ u g hb).trans h
structure GA(S:List Nat)(T:List (Nat×Nat×Value))(Y:List Nat)(X:World)(il ib sb ia sa is bx ci:Nat)(te tb:TypeId)(z:Array Value)(base sz n:Nat)(v0:Value)(xs news:List Value)(a0:Act)(zl:Array Bool)(a:Act)(w:World):Prop where
 off:Off S a0 a
 pt:PT T zl a
 kp:Kp Y X w
 dp:Up zl ia->Up zl il/\Up zl ib
 nb:Up zl ib->¬ Up zl ia->∃ g,a.eval (.tmp sb)=.slice (some ⟨g,0,none⟩) 1 1/\Lies w g te news.toArray
 o1:¬ Up zl ia->w.ownsRow base te sz v0 n xs
 o2:Up zl ia->w.ownsRow base te sz (a.eval (.tmp sa)) (n+1) (xs++news)
 b1:¬ Up zl is->Lies w bx tb z
 b2:Up zl is->Up zl ia/\Lies w bx tb (z.setIfInBounds ci (a.eval (.tmp sa)))
def okA(nums:List (Nat×Nat))(S:List Nat)(ib sb ia sa is N:Nat):Bool :=
 nums.all (fun e=>e.2 != sa&&e.2 != sb&&e.1 != ib&&e.1 != ia&&e.1 != is&&S.contains e.2&&decide (e.2<N))&&decide (nums.Pairwise (fun p q=>p.1≠q.1/\p.2≠q.2))&&ib != ia&&ib != is&&ia != is&&sa != sb&&S.contains sa&&S.contains sb&&decide (sa<N)&&decide (sb<N)
structure GAk(S:List Nat)(T:List (Nat×Nat×Value))(Y:List Nat)(ib sb ia sa is bx:Nat)(te tb:TypeId)(v0:Value)(N:Nat):Prop where
 num:okA (T.map fun e=>(e.1,e.2.1)) S ib sb ia sa is N=true
 ty:te≠tb
 row:∀ g,v0.ownBlock=some g->g∈Y
 box:bx∈Y
section
variable {S:List Nat} {T:List (Nat×Nat×Value)} {Y:List Nat} {X w:World} {il ib sb ia sa is bx ci:Nat} {te tb:TypeId} {z:Array Value} {base sz n N:Nat} {v0:Value} {xs news:List Value} {a0 a:Act} {zl:Array Bool} {ops:Array Oper} {Q:Exit->Act->World->Prop} {o:Oper}
theorem GAk.parts(hk:GAk S T Y ib sb ia sa is bx te tb v0 N):(∀ e∈T,e.2.1≠sa/\e.2.1≠sb/\e.1≠ib/\e.1≠ia/\e.1≠is/\e.2.1∈S/\e.2.1<N)/\T.Pairwise (fun p q=>p.1≠q.1/\p.2.1≠q.2.1)/\(ib≠ia/\ib≠is/\ia≠is/\sa≠sb/\sa∈S/\sb∈S/\sa<N/\sb<N):=by
 have hn:=hk.num;simp only[okA,yh,List.all_eq_true,bne_iff_ne,decide_eq_true_eq,List.contains_iff_mem,List.pairwise_map,yj,forall_exists_index,and_imp,forall_apply_eq_imp_iff₂]at hn;obtain⟨⟨⟨⟨⟨⟨⟨⟨⟨h1,h2⟩,h3⟩,h4⟩,h5⟩,h6⟩,h7⟩,h8⟩,h9⟩,s7⟩:=hn;refine⟨fun e he=>?_,h2,h3,h4,h5,h6,h7,h8,h9,s7⟩;obtain⟨⟨⟨⟨⟨⟨g1,g2⟩,g3⟩,g4⟩,g5⟩,g6⟩,g7⟩:=h1 e he;exact⟨g1,g2,g3,g4,g5,g6,g7⟩
theorem GAk.row_of(hk:GAk S T Y ib sb ia sa is bx te tb v0 N){e:Nat×Nat×Value}(he:e∈T):e.2.1≠sa/\e.2.1≠sb/\e.1≠ib/\e.1≠ia/\e.1≠is/\e.2.1∈S/\e.2.1<N:=hk.parts.1 e he
theorem GAk.ne(hk:GAk S T Y ib sb ia sa is bx te tb v0 N):ib≠ia/\ib≠is/\ia≠is/\sa≠sb/\sa∈S/\sb∈S/\sa<N/\sb<N:=hk.parts.2.2
theorem GAk.uniq(hk:GAk S T Y ib sb ia sa is bx te tb v0 N){e e':Nat×Nat×Value}(he:e∈T)(jn:e'∈T)(hs:e.1=e'.1\/e.2.1=e'.2.1):e=e':=by
 by_cases heq:e=e'
 ·exact heq
 exfalso
 have h2:=hk.parts.2.1;have key:∀ l:List (Nat×Nat×Value),l.Pairwise (fun p q=>p.1≠q.1/\p.2.1≠q.2.1)->∀ x∈l,∀ y∈l,x≠y->x.1≠y.1/\x.2.1≠y.2.1:=by
  intro l
  induction l with
  |nil=>intro _ x hx;cases hx
  |cons c l ih=>
   intro hp x hx y hy cv;rw[List.pairwise_cons]at hp;rcases ym.1 hx with ex|hx <;> rcases ym.1 hy with ey|hy
   ·exact absurd (ex.trans ey.symm) cv
   ·rw[ex];exact hp.1 y hy
   ·rw[ey];exact⟨fun e=>(hp.1 x hx).1 e.symm,fun e=>(hp.1 x hx).2 e.symm⟩
   exact ih hp.2 x hx y hy cv
 have:=key T h2 e he e' jn heq;rcases hs with hs|hs
 ·exact this.1 hs
 exact this.2 hs
theorem GA.unl(hI:GA S T Y X il ib sb ia sa is bx ci te tb z base sz n v0 xs news a0 zl a w)(ag:zl.getD il true=false):Lies w bx tb z :=
 hI.b1 (fun h=>iU ag (hI.dp (hI.b2 h).1).1)
theorem GA.start(a:Act)(m:Nat)(hk:Kp Y X w)(ho:w.ownsRow base te sz v0 n xs)(hl:Lies w bx tb z):GA S T Y X il ib sb ia sa is bx ci te tb z base sz n v0 xs news a (Array.replicate m false) a w :=
 ⟨Off.refl _ _,PT.start _ _ _,hk,fun h=>absurd h (Up.none _ _),fun h=>absurd h (Up.none _ _),fun _=>ho,fun h=>absurd h (Up.none _ _),fun _=>hl,fun h=>absurd h (Up.none _ _)⟩
theorem bH(hk:GAk S T Y ib sb ia sa is bx te tb v0 N)(hI:GA S T Y X il ib sb ia sa is bx ci te tb z base sz n v0 xs news a0 zl a w)(hN:N<=a0.tmps.size){i s:Nat}{v:Value}(he:(i,s,v)∈T)(ag:zl.getD i true=false)(ho:ops[i]?=some o)(hg:o.guard=none)(hd:o.dst=some s)
  (hr:(execOp a.eval o).run Tryz.prog w=.ok (.value v) w):wpOp Tryz.prog ops Q i (GA S T Y X il ib sb ia sa is bx ci te tb z base sz n v0 xs news a0 (zl.setIfInBounds i true)) a w:=by
 have hi:=Up.of_false ag;obtain⟨h1,h2,h3,h4,h5,h6,h7⟩:=hk.row_of he;refine jA ho hg (oC v hr ?_);rw[hd];have lk:∀ {k},k≠i->(Up (zl.setIfInBounds i true) k↔Up zl k):=fun cv=>⟨fun h=>jX hi h cv,fun h=>dZ hi h⟩
 have ea:(a.put (some s) v).eval (.tmp sa)=a.eval (.tmp sa):=gO _ _ h1;have eb:(a.put (some s) v).eval (.tmp sb)=a.eval (.tmp sb):=gO _ _ h2;refine⟨hI.off.put h6 v,hI.pt.step hi (by rw[hI.off.size];exact yu h7 hN) (fun e' jn hs=>by rw[hk.uniq jn he (.inr hs)]) (fun e' jn hs=>by rw[hk.uniq jn he (.inl hs)]),hI.kp,fun h=>⟨dZ hi (hI.dp (jX hi h (Ne.symm h4))).1,dZ hi (hI.dp (jX hi h (Ne.symm h4))).2⟩,?_,?_,?_,?_,?_⟩
 ·rw[eb,lk (Ne.symm h3),lk (Ne.symm h4)];exact hI.nb
 ·rw[lk (Ne.symm h4)];exact hI.o1
 ·rw[ea,lk (Ne.symm h4)];exact hI.o2
 ·rw[lk (Ne.symm h5)];exact hI.b1
 rw[ea,lk (Ne.symm h5),lk (Ne.symm h4)];exact hI.b2
theorem qM(hk:GAk S T Y ib sb ia sa is bx te tb v0 N)(hI:GA S T Y X il ib sb ia sa is bx ci te tb z base sz n v0 xs news a0 zl a w)(hN:N<=a0.tmps.size)(ag:zl.getD ib true=false)(ho:ops[ib]?=some o)(hg:o.guard=none)(hd:o.dst=some sb)
  (hr:(execOp a.eval o).run Tryz.prog w=.ok (.value (.slice (some ⟨w.heap.size,0,none⟩) 1 1)) (w.alloc (.cells news.toArray te))):wpOp Tryz.prog ops Q ib (GA S T Y X il ib sb ia sa is bx ci te tb z base sz n v0 xs news a0 (zl.setIfInBounds ib true)) a w:=by
 have hi:=Up.of_false ag;have vy:¬ Up zl ia:=fun h=>iU ag (hI.dp h).2
 obtain⟨n1,n2,n3,n4,n5,n6,n7,n8⟩:=hk.ne;refine jA ho hg (oC _ hr ?_);rw[hd];have lk:∀ {k},k≠ib->(Up (zl.setIfInBounds ib true) k↔Up zl k):=fun cv=>⟨fun h=>jX hi h cv,fun h=>dZ hi h⟩
 have ea:(a.put (some sb) (.slice (some ⟨w.heap.size,0,none⟩) 1 1)).eval (.tmp sa)=a.eval (.tmp sa):=gO _ _ (Ne.symm n4);have hs:sb<a.tmps.size:=by rw[hI.off.size];omega
 refine⟨hI.off.put n6 _,hI.pt.step hi hs (fun e' jn vz=>absurd vz (hk.row_of jn).2.1) (fun e' jn vz=>absurd vz (hk.row_of jn).2.2.1),hI.kp.alloc _,fun h=>absurd (jX hi h (Ne.symm n1)) vy,?_,?_,?_,?_,?_⟩
 ·exact fun _ _=>⟨w.heap.size,fE _ _ hs,Lies.new _ _ _⟩
 ·rw[lk (Ne.symm n1)];exact fun h=>World.ownsRow.alloc (hI.o1 h) _
 ·rw[lk (Ne.symm n1)];exact fun h=>absurd h vy
 ·rw[lk (Ne.symm n2)];exact fun h=>(hI.b1 h).alloc _
 rw[lk (Ne.symm n2)];exact fun h=>absurd (hI.b2 h).1 vy
theorem zK(hk:GAk S T Y ib sb ia sa is bx te tb v0 N)(hI:GA S T Y X il ib sb ia sa is bx ci te tb z base sz n v0 xs news a0 zl a w)(hN:N<=a0.tmps.size)(ag:zl.getD ia true=false)(ho:ops[ia]?=some o)(hg:o.guard=none)(hd:o.dst=some sa)(om:Up zl il)(hb:Up zl ib)
  (t:TypeId) (so:Nat) (hop:o.op=.call { callee:=.builtin .append,args:=#[.tmp so,.tmp sb],argTypes:=#[t,t] }) (hv:a.eval (.tmp so)=v0)
  (i0:TypeInfo) (zv:Value) (bytes:Nat) (ht:Tryz.prog.underlying t=some (.slice te)) (v7:Tryz.prog.info? te=some i0) (hz:i0.zero=some zv) (me:i0.size=sz) (lj:i0.bytes=bytes) (hzs:zv.cells.size=sz) (ap:0<sz)
  (hl:news.length=sz) (h1:∀ u∈news,u.oneCell'=true) (h63:n+1<=maxLen) (j8:(n+1)*bytes<=140737488355328) (ft:base<=w.heap.size) :
  wpOp Tryz.prog ops Q ia (GA S T Y X il ib sb ia sa is bx ci te tb z base sz n v0 xs news a0 (zl.setIfInBounds ia true)) a w:=by
 have hi:=Up.of_false ag;have vy:=iU ag;have hns:¬ Up zl is:=fun h=>vy (hI.b2 h).1
 obtain⟨n1,n2,n3,n4,n5,n6,n7,n8⟩:=hk.ne;obtain⟨g,e1,hL⟩:=hI.nb hb vy;have aw:=hI.o1 vy;refine jA ho hg (wp_append_own w (.tmp so) (.tmp sb) t hop base te i0 zv sz bytes ht v7 hz me lj hzs ap v0 n xs hv aw ⟨g,0,none⟩ 1 1 news e1 (by rw[Nat.one_mul];exact hl) (fun j u hj=>?_) h1 h63 j8 ft ?_)
 ·have hc:=hL.cell j;rw[za,hj]at hc;have e:(⟨g,0,none⟩:Addr).add j=⟨g,j,none⟩:=by cases j <;> simp[Addr.add]
  rw[e];exact hc
 intro v' w' du dc _;rw[hd];have lk:∀ {k},k≠ia->(Up (zl.setIfInBounds ia true) k↔Up zl k):=fun cv=>⟨fun h=>jX hi h cv,fun h=>dZ hi h⟩
 have hs:sa<a.tmps.size:=by rw[hI.off.size];omega
 refine⟨hI.off.put n5 _,hI.pt.step hi hs (fun e' jn vz=>absurd vz (hk.row_of jn).1) (fun e' jn vz=>absurd vz (hk.row_of jn).2.2.2.1),hI.kp.grown dc (fun g hg=>.inl (hk.row g hg)),fun _=>⟨dZ hi om,dZ hi hb⟩,?_,?_,?_,?_,?_⟩
 ·exact fun _ h=>absurd (pT hi) h
 ·exact fun h=>absurd (pT hi) h
 ·intro _;rw[fE _ _ hs];exact du
 ·rw[lk (Ne.symm n3)];exact fun h=>(hI.b1 h).grownA dc (aY hk.ty aw (hI.b1 h))
 rw[lk (Ne.symm n3)];exact fun h=>absurd h hns
theorem qN(hk:GAk S T Y ib sb ia sa is bx te tb v0 N)(hI:GA S T Y X il ib sb ia sa is bx ci te tb z base sz n v0 xs news a0 zl a w)(ag:zl.getD is true=false)(ho:ops[is]?=some o)(hg:o.guard=none)(hd:o.dst=none)(ha:Up zl ia)
  (hr:Lies w bx tb z->(∃ g c,a.eval (.tmp sa)=.slice (some ⟨g,0,none⟩) (n+1) c)->(execOp a.eval o).run Tryz.prog w=.ok .skip (w.setCell ⟨bx,ci,none⟩ (a.eval (.tmp sa)))):wpOp Tryz.prog ops Q is (GA S T Y X il ib sb ia sa is bx ci te tb z base sz n v0 xs news a0 (zl.setIfInBounds is true)) a w:=by
 have hi:=Up.of_false ag;have hns:=iU ag;obtain⟨n1,n2,n3,n4,n5,n6,n7,n8⟩:=hk.ne;have hl:=hI.b1 hns;have aw:=hI.o2 ha;obtain⟨g,c,jp⟩:∃ g c,a.eval (.tmp sa)=.slice (some ⟨g,0,none⟩) (n+1) c:=by
  rcases aw.2 with⟨_,h0⟩|⟨g,cap,cur,e,_⟩
  ·omega
  exact⟨g,cap,e⟩
 refine jA ho hg (uCB (hr hl ⟨g,c,jp⟩) ?_);rw[hd];show GA S T Y X il ib sb ia sa is bx ci te tb z base sz n v0 xs news a0 _ a _;have lk:∀ {k},k≠is->(Up (zl.setIfInBounds is true) k↔Up zl k):=fun cv=>⟨fun h=>jX hi h cv,fun h=>dZ hi h⟩
 refine⟨hI.off,hI.pt.skip hi (fun e' jn=>(hk.row_of jn).2.2.2.2.1),hI.kp.set (.inl hk.box) _ _,fun _=>⟨dZ hi (hI.dp ha).1,dZ hi (hI.dp ha).2⟩,?_,?_,?_,?_,?_⟩
 ·rw[lk n3];exact fun _ h=>absurd ha h
 ·rw[lk n3];exact fun h=>absurd ha h
 ·rw[lk n3];exact fun _=>kF hk.ty aw hl _ _
 ·exact fun h=>absurd (pT hi) h
 exact fun _=>⟨dZ hi ha,hl.put _ _⟩
end
abbrev idV(x:IdR):Value:=.agg #[.int .i64 x.a,.int .i64 x.n]
theorem uCR{x y:IdR}(h:idV x=idV y):x=y:=by
 injection h with h1;simp at h1;exact IdR.ext' h1.1 h1.2
theorem cR(x y:IdR)(w:World):(binOp .eql 27 (idV x) (idV y)).run Tryz.prog w=.ok (.bool (decide (x=y))) w:=by
 obtain⟨a,n⟩:=x;obtain⟨a2,n2⟩:=y
 go_simp
 by_cases h0:a=a2
 case neg=>simp[h0]
 by_cases h1:n=n2
 case neg=>simp[h0,h1]
 simp[h0,h1]
theorem uQ:Tryz.prog.cellsOf 27=2:=by kernel_rfl
theorem qQ:Tryz.prog.cellsOf 3=1:=by kernel_rfl
theorem idKeyT:Tryz.prog.keyType 27=true:=by kernel_rfl
theorem idSize:∃ m,Tryz.prog.types.size+1=m+1+1:=⟨Tryz.prog.types.size-1,by have h:0<Tryz.prog.types.size:=of_decide_eq_true (by kernel_rfl);omega⟩
theorem idLaid:laidOutB Tryz.prog=true:=by kernel_rfl
theorem idRow:(27:TypeId)<Tryz.prog.types.size:=of_decide_eq_true (by kernel_rfl)
theorem idWide:(match Tryz.prog.underlying 27 with|some (.array _ _)|some (.struct _)=>true|_=>false)=true:=by kernel_rfl
theorem tA:WideMaps.KeyLaw Tryz.prog 27:=deep_law_laid idLaid (m:=2) (by omega) idRow (by kernel_rfl) idWide
def IdR.fits(x:IdR):Prop:=(Lit.int .i64 x.a).wf=true/\(Lit.int .i64 x.n).wf=true
theorem nM(x:IdR)(h:x.fits):∃ l,keyOf Tryz.prog 27 (idV x)=some l:=by
 obtain⟨m,hm⟩:=idSize;have hf:(idV x).formed Tryz.prog 27=true:=by simp[Value.formed,Tryz.underlying27,uQ]
 have hl:Tryz.prog.keyLits (m+1+1) 27 [.int .i64 x.a,.int .i64 x.n]=some [.int .i64 x.a,.int .i64 x.n]:=by
  simp[Program.keyLits,Tryz.underlying27,Tryz.underlying3,uQ,qQ,h.1,h.2]
 refine⟨.string (keyBytes [.int .i64 x.a,.int .i64 x.n]),?_⟩;unfold keyOf;rw[Tryz.underlying27];simp only[idKeyT,hf,Bool.and_self,if_true];rw[hm];show Option.map _ (Tryz.prog.keyLits (m+1+1) 27 [.int .i64 x.a,.int .i64 x.n])=_;rw[hl];rfl
def KMap(W:World)(m:Nat)(ys:List IdR)(Pv:Value->Prop):Prop:=∃ es clock,W.heap[m]?=some (.map es clock)/\es.toList.map (·.key)=ys.map idV/\∀ e∈es.toList,Pv e.val
theorem KMap.at{W W':World}{m:Nat}{ys:List IdR}{Pv:Value->Prop}(h:KMap W m ys Pv)(hb:W'.heap[m]?=W.heap[m]?):KMap W' m ys Pv:=by
 obtain⟨es,clock,h1,h2⟩:=h;exact⟨es,clock,hb.trans h1,h2⟩
theorem KMap.lt{W:World}{m:Nat}{ys:List IdR}{Pv:Value->Prop}(h:KMap W m ys Pv):m<W.heap.size:=by
 obtain⟨es,clock,h1,_⟩:=h;exact(zk.1 h1).1
theorem wD{es:List MapEntry}{ys:List IdR}(h:es.map (·.key)=ys.map idV)(hf:∀ y∈ys,y.fits):∀ e∈es,∃ l,keyOf Tryz.prog 27 e.key=some l:=by
 intro e he;have h1:e.key∈es.map (·.key):=yj.2 ⟨e,he,rfl⟩;rw[h]at h1;obtain⟨y,hy,e1⟩:=yj.1 h1;rw[<- e1];exact nM y (hf y hy)
theorem KMap.find{W:World}{es:Array MapEntry}{ys:List IdR}(h:es.toList.map (·.key)=ys.map idV)(hf:∀ y∈ys,y.fits)(x:IdR)(hx:x.fits) :
  (x∉ys/\(Instr.findKey 27 (idV x) es.toList).run Tryz.prog W=.ok none W)\/(x∈ys/\∃ j e,(Instr.findKey 27 (idV x) es.toList).run Tryz.prog W=.ok (some (j,e.val)) W/\e∈es.toList):=by
 obtain⟨l,hl⟩:=nM x hx;have hm:∀ y,y∈ys↔idV y∈es.toList.map (·.key):=fun y=>by
  rw[h];exact⟨fun hy=>yj.2 ⟨y,hy,rfl⟩,fun hy=>by obtain⟨z,hz,e⟩:=yj.1 hy;rw[<- uCR e];exact hz⟩
 rcases tA.find W hl es.toList (wD h hf) with⟨h1,h2⟩|⟨j,e,h1,h2,h3⟩
 ·refine .inl ⟨fun hxy=>?_,h1⟩;obtain⟨e,he,e1⟩:=yj.1 ((hm x).1 hxy);exact h2 e he e1
 have he:=List.mem_of_getElem? h2;exact .inr ⟨(hm x).2 (yj.2 ⟨e,he,h3⟩),j,e,h1,he⟩
theorem KMap.look{W:World}{m:Nat}{ys:List IdR}{u z:Value}{t et:TypeId}(h:KMap W m ys (fun v=>v=u))(hu:Tryz.prog.underlying t=some (.map 27 et))(hz:(zeroValue et).run Tryz.prog W=.ok z W)(hf:∀ y∈ys,y.fits)(x:IdR)(hx:x.fits) :
  (Instr.lookup t (.map (some m)) (idV x) false).run Tryz.prog W=.ok (if x∈ys then u else z) W:=by
 obtain⟨es,clock,h1,h2,h3⟩:=h;obtain⟨l,hl⟩:=nM x hx;have hc:=tA.check W es.isEmpty hl;rcases KMap.find (W:=W) h2 hf x hx with⟨g1,g2⟩|⟨g1,j,e,g2,g3⟩
 ·simp[Instr.lookup,run_underlying hu,MapKept.run_getObj_map h1,hc,g2,hz,Result.andThen,g1]
 simp[Instr.lookup,run_underlying hu,MapKept.run_getObj_map h1,hc,g2,Result.andThen,g1,h3 e g3]
theorem KMap.put{W:World}{m:Nat}{ys:List IdR}{Pv:Value->Prop}{t et:TypeId}(h:KMap W m ys Pv)(hu:Tryz.prog.underlying t=some (.map 27 et))(hf:∀ y∈ys,y.fits)(x:IdR)(hx:x.fits)(hn:x∉ys)(val:Value)(hv:Pv val) :
  ∃ W',(Instr.mapUpdate t (.map (some m)) (idV x) val).run Tryz.prog W=.ok () W'/\KMap W' m (ys++[x]) Pv/\Only m W W':=by
 obtain⟨es,clock,h1,h2,h3⟩:=h;obtain⟨l,hl⟩:=nM x hx;have hc:=tA.check W false hl;rcases KMap.find (W:=W) h2 hf x hx with⟨g1,g2⟩|⟨g1,_⟩
 ·have hlt:=(zk.1 h1).1;refine⟨{ W with heap:=W.heap.setIfInBounds m (.map (es.push { key:=idV x,val:=val,born:=clock }) (clock+1)) },?_,⟨es.push { key:=idV x,val:=val,born:=clock },clock+1,?_,?_,?_⟩,⟨rfl,rfl,rfl,by simp,fun k hk=>by simp[Ne.symm hk]⟩⟩
  ·simp[Instr.mapUpdate,run_underlying hu,MapKept.run_getObj_map h1,hc,g2,MapKept.run_setObj_map _ h1,Result.andThen]
  ·simp[hlt]
  ·simp[h2]
  intro e he;simp only[Array.toList_push,List.mem_append,yf]at he;rcases he with he|he
  ·exact h3 e he
  rw[he];exact hv
 exact absurd g1 hn
def IdRow(W:World)(g o:Nat)(l:List IdR):Prop:=g<W.heap.size/\∀ j (h:j<l.length),W.cell? ⟨g,o+j*2,none⟩=some (.int .i64 l[j].a)/\W.cell? ⟨g,o+j*2+1,none⟩=some (.int .i64 l[j].n)
theorem IdRow.at{W W':World}{g o:Nat}{l:List IdR}(h:IdRow W g o l)(hs:W.heap.size<=W'.heap.size)(hb:W'.heap[g]?=W.heap[g]?):IdRow W' g o l :=
 ⟨yu h.1 hs,fun j hj=>⟨(World.cell?_of_block (w:=W) (a:=⟨g,_,none⟩) hb).trans (h.2 j hj).1,(World.cell?_of_block (w:=W) (a:=⟨g,_,none⟩) hb).trans (h.2 j hj).2⟩⟩
def aJ(l:List IdR):List Value:=l.flatMap (fun x=>[vI x.a,vI x.n])
theorem iQ(l:List IdR)(x:IdR):aJ (l++[x])=aJ l++[vI x.a,vI x.n]:=by simp[aJ]
theorem uS:(Tryz.prog.info? 27).map (fun i=>(i.zero,i.size,i.bytes))=some (some (.agg #[vI 0,vI 0]),2,16):=by kernel_rfl
theorem mG:(Tryz.prog.info? 4).map (fun i=>(i.zero,i.size,i.bytes))=some (some (.bool false),1,1):=by kernel_rfl
theorem aZ{w:World}{b n sz:Nat}{te:TypeId}{v:Value}{xs:List Value}(h:w.ownsRow b te sz v n xs):∃ A c,v=.slice A n c:=by
 rcases h.2 with⟨rfl,rfl⟩|⟨g,cap,cur,e,_⟩
 ·exact⟨none,0,rfl⟩
 exact⟨_,_,e⟩
theorem bN{w w':World}{Y:List Nat}{b n sz:Nat}{te:TypeId}{v:Value}{xs:List Value}(h:w.ownsRow b te sz v n xs)(hk:Kp Y w w')(hn:∀ g,v.ownBlock=some g->g∉Y):w'.ownsRow b te sz v n xs:=by
 rcases h with⟨hl,⟨e,hz⟩|⟨g,cap,cur,e1,e2,e3,e4⟩⟩
 ·exact⟨hl,.inl ⟨e,hz⟩⟩
 have hg:g∉Y:=hn g (by rw[e1];rfl);exact⟨hl,.inr ⟨g,cap,cur,e1,e2,(hk.block g (zk.1 e3).1 hg).trans e3,e4⟩⟩
theorem gD{w:World}{b b' n n' sz sz':Nat}{te te':TypeId}(ht:te≠te'){v v':Value}{xs xs':List Value}(h:w.ownsRow b te sz v n xs)(h':w.ownsRow b' te' sz' v' n' xs'):∀ g,v.ownBlock=some g->v'.ownBlock≠some g:=by
 intro g hg jw;rcases h.2 with⟨rfl,_⟩|⟨g1,cap,cur,rfl,_,hh,_⟩
 ·simp[Value.ownBlock]at hg
 rcases h'.2 with⟨rfl,_⟩|⟨g2,pd,cur',rfl,_,hh',_⟩
 ·simp[Value.ownBlock]at jw
 simp[Value.ownBlock]at hg jw;subst hg;subst jw;rw[hh]at hh';injection hh' with e1;injection e1 with _ e2 _;exact ht e2
theorem bR{w:World}{b n sz:Nat}{te:TypeId}{v:Value}{xs:List Value}(h:w.ownsRow b te sz v n xs):∀ g,v.ownBlock=some g->b<=g/\g<w.heap.size:=h.lt
def iI(acc:List IdR)(x:IdR):List IdR:=if x=id0\/x∈acc then acc else acc++[x]
def bD(ids:List IdR):List IdR:=ids.foldl iI []
theorem gE(ids:List IdR)(k:Nat)(h:k<ids.length):bD (ids.take (k+1))=iI (bD (ids.take k)) ids[k]:=by
 rw[yw h];unfold bD;rw[List.foldl_append];rfl
theorem yK(acc:List IdR)(x:IdR):(iI acc x).length<=acc.length+1:=by
 unfold iI
 split
 ·omega
 simp
theorem yL(acc:List IdR)(x y:IdR)(h:y∈iI acc x):y∈acc\/y=x:=by
 unfold iI at h
 split at h
 ·exact .inl h
 simpa using h
theorem nP(ids:List IdR):∀ k,k<=ids.length->(bD (ids.take k)).length<=k:=by
 intro k
 induction k with
 |zero=>intro _;exact zr
 |succ k ih=>
  intro h;rw[gE ids k h];have:=yK (bD (ids.take k)) ids[k];have:=ih (by omega);omega
theorem tH(ids:List IdR):∀ k,k<=ids.length->∀ y∈bD (ids.take k),y∈ids:=by
 intro k
 induction k with
 |zero=>intro _ y hy;cases hy
 |succ k ih=>
  intro h y hy;rw[gE ids k h]at hy;rcases yL _ _ _ hy with h1|h1
  ·exact ih (by omega) y h1
  rw[h1];exact List.getElem_mem h
structure AxMk(q base:Nat)(acc:List IdR)(v1 v2:Value)(W:World):Prop where
 ax:Lies W q 152 #[v1,v2,.map none,.slice none 0 0,.slice none 0 0]
 r1:W.ownsRow base 27 2 v1 acc.length (aJ acc)
 r2:W.ownsRow base 4 1 v2 acc.length (List.replicate acc.length (.bool true))
theorem AxMk.next{q base:Nat}{acc:List IdR}{v1 v2:Value}{W W':World}(h:AxMk q base acc v1 v2 W)(hb:Below W.heap.size W W'):AxMk q base acc v1 v2 W' :=
 ⟨h.ax.next hb,aI hb h.r1,aI hb h.r2⟩
def eA(W:World)(A:Option Addr)(l:List IdR):Prop:=0<l.length->∃ g o,A=some ⟨g,o,none⟩/\IdRow W g o l
theorem uDM(A:Option Addr)(cap:Nat)(ids:List IdR)(w:World)(hA:eA w A ids)(hn:ids.length<=300)(hf:∀ y∈ids,y.fits) :
  Calls Tryz.prog 69 #[.slice A ids.length cap] w fun e w'=>∃ v1 v2,e=.returned (vP w.heap.size 0)/\AxMk w.heap.size (w.heap.size+2) (bD ids) v1 v2 w'/\Below w.heap.size w w':=by
 have un:=@run_makeMap Tryz.prog;have HF:=zh hf;have HA:=zh hA;have HS:=zh (gE ids);have iv:=zh (nP ids);have HMm:=zh (tH ids);have mf:Hid (bD (ids.take ids.length)=bD ids):=zh (by rw[List.take_length]);obtain⟨n,ev⟩:=zD ids.length
 have HN:=zh ev;rw[<- ev]at hn ⊢;clear hf hA ev
 go_in
 go_upto_region 4 with fail
 generalize fe:(w.alloc (.cells #[.slice none 0 0,.slice none 0 0,.map none,.slice none 0 0,.slice none 0 0] 152)).alloc (.map #[] 0)=W2 at *;have HM0:Hid (AxMk w.heap.size (w.heap.size+2) [] (.slice none 0 0) (.slice none 0 0) W2):=zh (by
  rw[<- fe];exact⟨(Lies.new w _ _).alloc _,⟨rfl,.inl ⟨rfl,rfl⟩⟩,⟨rfl,.inl ⟨rfl,rfl⟩⟩⟩)
 have HK0:Hid (KMap W2 (w.heap.size+1) [] (fun v=>v=.bool true)):=zh (by
  rw[<- fe];refine⟨#[],0,?_,rfl,fun e he=>by cases he⟩;have h:=heap_alloc_new (w.alloc (.cells #[.slice none 0 0,.slice none 0 0,.map none,.slice none 0 0,.slice none 0 0] 152)) (.map #[] 0);rw[World.size_alloc]at h;exact h)
 have au:Hid (Below w.heap.size w W2):=zh (by rw[<- fe];exact((Below.refl _ w).alloc zr _).alloc (by simp) _);have uo:Hid (w.heap.size+2<=W2.heap.size):=zh (by rw[<- fe];simp);clear fe
 go_loopw [12] (fun v12 wx=>∃ (k:Nat) (v1 v2:Value),v12=vI (k:Int)/\k<=n/\Hid (AxMk w.heap.size (w.heap.size+2) (bD (ids.take k)) v1 v2 wx)/\Hid (KMap wx (w.heap.size+1) (bD (ids.take k)) (fun v=>v=.bool true))/\Hid (Below w.heap.size w wx)/\Hid (w.heap.size+2<=wx.heap.size)) (fun v12 _=>n-(intOf v12).toNat)
 case atStart=>exact⟨0,_,_,rfl,zm _,HM0,HK0,au,uo⟩
 case round=>
  obtain⟨k,v1,v2,rfl,hk,hM,hK,hB,hZ⟩:=hrel;generalize oo:w.heap.size=q at *;have HQ:=zh oo;clear oo;clear HM0 HK0 au uo;by_cases hlt:k<n
  ·have ii:k<ids.length:=by rw[<- HN.out];exact hlt
   obtain⟨ga,oa,rfl,js,bi⟩:=HA.out (by omega);obtain⟨c0,c1⟩:=bi k ii;have hxf:=HF.out _ (List.getElem_mem ii);have pf:=yv (iv.out k (by omega)) (Nat.le_of_lt ii);have oq:=zh (fun y hy=>HF.out y (HMm.out k (by omega) y hy));have uq:=zh (HS.out k ii);have d0:wr.cell? ⟨ga,oa+k*2,none⟩=some (vI ids[k].a):=(hB.out.cell (p:=⟨ga,_,none⟩) (by rw[<- HQ.out];exact js)).trans c0;have d1:wr.cell? ⟨ga,oa+k*2+1,none⟩=some (vI ids[k].n):=(hB.out.cell (p:=⟨ga,_,none⟩) (by rw[<- HQ.out];exact js)).trans c1;rw[<- HN.out]at pf;generalize ids[k]=x at *;generalize bD (ids.take k)=acc at *;generalize mg:bD (ids.take (k+1))=acc' at *;have i6:=zh mg;clear mg c0 c1 bi;obtain⟨xa,xn⟩:=x;dsimp only at d0 d1;obtain⟨A1,bw,rfl⟩:=aZ hM.out.r1;obtain⟨A2,cy,rfl⟩:=aZ hM.out.r2;generalize hle:acc.length=m at *
   go_upto_region 6 with fail
   have ph:=zh (hM.out.next ((Below.refl _ wr).alloc zr (.cells #[vI xa,vI xn] 27)));have v9:=zh (hK.out.at (Below.heap_alloc wr (.cells #[vI xa,vI xn] 27) (q+1) hK.out.lt));have hB3:=zh (hB.out.alloc (yv (Nat.le_add_right q 2) hZ.out) (.cells #[vI xa,vI xn] 27));have tf:=zh (Lies.new wr 27 #[vI xa,vI xn]);have wa:Hid (q+2<=(wr.alloc (.cells #[vI xa,vI xn] 27)).heap.size):=zh (by rw[World.size_alloc];have:=hZ.out;omega);have hbq:q+2<=wr.heap.size:=hZ.out;have wb:Hid (∀ g,(Value.slice A1 m bw).ownBlock=some g->g<wr.heap.size):=zh (fun g hg=>(bR hM.out.r1 g hg).2);generalize wr.alloc (.cells #[vI xa,vI xn] 27)=W3 at *;generalize wr.heap.size=bx at *;clear d0 d1 hM hK hB hZ;have a0:=ph.out.ax.cell 0;have a1:=ph.out.ax.cell 1;have b0:=tf.out.cell 0;have b1:=tf.out.cell 1
   simp only[za,zb,zf]at a0 a1 b0 b1;have q8:((m:Int)==1000)=false:=by simp;omega
   have hlk0:=v9.out.look (t:=183) (et:=4) Tryz.underlying183 (z:=.bool false) (by kernel_rfl) oq.out ⟨xa,xn⟩ hxf;have wd:∀ a' n',a'=xa->n'=xn->(Instr.lookup 183 (.map (some (q+1))) (.agg #[vI a',vI n']) false).run Tryz.prog W3=.ok (.bool (decide ((⟨xa,xn⟩:IdR)∈acc))) W3:=by
    intro a' n' e1 e2;rw[e1,e2];refine hlk0.trans ?_;by_cases h:(⟨xa,xn⟩:IdR)∈acc <;> simp[h]
   have HD:Hid (∀ d,(d=true↔((⟨xa,xn⟩:IdR)=id0\/(⟨xa,xn⟩:IdR)∈acc))->acc'=if d then acc else acc++[⟨xa,xn⟩]):=zh (by
    intro d hd;rw[uq.out,iI];cases d
    ·rw[if_neg (fun h=>by have:=hd.2 h;cases this)];rfl
    rw[if_pos (hd.1 rfl)];rfl)
   clear hlk0
   go_upto_region 7 with fail
   go_cut [29] (fun v29 wx=>∃ d:Bool,v29=.bool d/\Hid (d=true↔((⟨xa,xn⟩:IdR)=id0\/(⟨xa,xn⟩:IdR)∈acc))/\Hid (wx=W3))
   case first=>
    by_cases hxa:xa=0
    ·subst hxa;by_cases xw:xn=0
     ·subst xw
      go_wp2_with fail
      go_meet
      exact⟨true,rfl,zh (by simp),zh rfl⟩
     have hxb:(xn==0)=false:=by simpa using xw
     have hid:¬ (⟨0,xn⟩:IdR)=id0:=fun h=>xw (congrArg IdR.n h)
     clear xw
     go_wp2_with fail
     all_goals go_meet
     all_goals exact⟨_,rfl,zh (by simp[hid]),zh rfl⟩
    have hxb:(xa==0)=false:=by simpa using hxa
    have hid:¬ (⟨xa,xn⟩:IdR)=id0:=fun h=>hxa (congrArg IdR.a h)
    clear hxa
    go_wp2_with fail
    all_goals go_meet
    all_goals exact⟨_,rfl,zh (by simp[hid]),zh rfl⟩
   case rest=>
    obtain⟨d,rfl,hd,hw⟩:=hcut;obtain rfl:=hw.out;clear hw wd;have ec:=HD.out d hd.out;cases d
    ·rw[if_neg (by decide)]at ec;have tg:¬ (⟨xa,xn⟩:IdR)∈acc:=fun h=>by have:=hd.out.2 (.inr h);cases this
     obtain⟨W4,az,hK4,q9⟩:=v9.out.put (t:=183) (et:=4) Tryz.underlying183 oq.out ⟨xa,xn⟩ hxf tg (.bool true) rfl;dsimp only[idV]at az;clear hd HD tg
     go_upto_region 9 with fail
     clear a0 a1 b0 b1;have m9:=q9.kp;have hL4:Lies W4 bx 27 #[vI xa,vI xn]:=m9.lies tf.out (by simp;omega);have ur:Lies W4 q 152 #[.slice A1 m bw,.slice A2 m cy,.map none,.slice none 0 0,.slice none 0 0]:=m9.lies ph.out.ax (by simp);have hR1:W4.ownsRow (q+2) 27 2 (.slice A1 m bw) m (aJ acc):=bN (hle ▸ ph.out.r1) m9 (fun g hg=>by have:=(bR ph.out.r1 g hg).1;simp;omega);have yc:W4.ownsRow (q+2) 4 1 (.slice A2 m cy) m (List.replicate m (.bool true)):=bN (hle ▸ ph.out.r2) m9 (fun g hg=>by have:=(bR ph.out.r2 g hg).1;simp;omega);have ye:=zh (hB3.out.trans ((m9.below (B:=q) (by simp) (by have:=wa.out;omega))));have HY:Hid (∀ g,(Value.slice A1 m bw).ownBlock=some g->g∈q::(Value.slice A1 m bw).ownBlock.toList):=zh (fun g hg=>by rw[hg];simp);have qj:=zh hL4;have we:=zh ur;have kn:=zh hR1;have jk:=zh yc;have fh:=zh hK4
     have se:Hid (q+2<=W4.heap.size):=zh (by rw[q9.size];exact wa.out);clear az q9 m9 hL4 ur hR1 yc hK4 ph v9 hB3 tf wa;have bd:bx≠q:=by omega
     have ut:Hid (bx∉q::(Value.slice A1 m bw).ownBlock.toList):=zh (fun h=>by
      rcases ym.1 h with h|h
      ·exact bd h
      have:=wb.out bx (by simpa using h);omega)
     go_cut [39] (fun v39 wx=>∃ v1',Hid (Lies wx q 152 #[v1',.slice A2 m cy,.map none,.slice none 0 0,.slice none 0 0])/\Hid (wx.ownsRow (q+2) 27 2 v1' (m+1) (aJ acc++[vI xa,vI xn]))/\Hid (Kp (q::(Value.slice A1 m bw).ownBlock.toList) W4 wx))
     case first=>
      obtain⟨TT,ae⟩:∃ TT:List (Nat×Nat×Value),TT=[(0,32,vP q 0),(1,33,vP q 0),(2,34,vP q 0),(3,35,vP q 0),(4,36,.slice A1 m bw),(5,37,.agg #[vI xa,vI xn]),(8,40,vP q 0),(9,41,vP q 0)]:=⟨_,rfl⟩
      have aq:=zh ae;clear ae;refine eN (by kernel_rfl) (by kernel_rfl) (fun a0=>53<=a0.tmps.size/\a0.eval (.tmp 3)=vP q 0/\a0.eval (.tmp 6)=vP bx 0) (GA [32,33,34,35,36,37,38,39,40,41] TT (q::(Value.slice A1 m bw).ownBlock.toList) W4 4 6 38 7 39 10 q 0 27 152 #[.slice A1 m bw,.slice A2 m cy,.map none,.slice none 0 0,.slice none 0 0] (q+2) 2 m (.slice A1 m bw) (aJ acc) [vI xa,vI xn]) ⟨by simp,rfl,rfl⟩ (GA.start _ _ (Kp.refl _ _).drew kn.out we.out) ?_ ?_
      ·rintro a0 ⟨hs,jt,ti⟩ zl a1 w1 j o ap hI ag ho zd;have ae:=aq.out;subst ae;have hk:GAk [32,33,34,35,36,37,38,39,40,41] [(0,32,vP q 0),(1,33,vP q 0),(2,34,vP q 0),(3,35,vP q 0),(4,36,.slice A1 m bw),(5,37,.agg #[vI xa,vI xn]),(8,40,vP q 0),(9,41,vP q 0)] (q::(Value.slice A1 m bw).ownBlock.toList) 6 38 7 39 10 q 27 152 (.slice A1 m bw) 53:=⟨rfl,by decide,HY.out,.head _⟩
       have hj:=Up.of_false ag;have hj12:j<11:=by rw[ap]at hj;exact hj
       have e3x:a1.eval (.tmp 3)=vP q 0:=(hI.off.eval (by decide)).trans jt;have e6x:a1.eval (.tmp 6)=vP bx 0:=(hI.off.eval (by decide)).trans ti;rcases(by omega:j=0\/j=1\/j=2\/j=3\/j=4\/j=5\/j=6\/j=7\/j=8\/j=9\/j=10) with rfl|rfl|rfl|rfl|rfl|rfl|rfl|rfl|rfl|rfl|rfl<;>obtain rfl:=oi ho
       ·exact bH hk hI hs (.head _) ag ho rfl rfl (by simp[execOp,go_sem,bQ e3x])
       ·exact bH hk hI hs (.tail _ (.head _)) ag ho rfl rfl (by simp[execOp,go_sem,bQ e3x])
       ·have d1:=ud zd 1;have p1:=pk hI.pt 1 rfl d1;exact bH hk hI hs (mm 2 rfl) ag ho rfl rfl (by simp[execOp,go_sem,bQ p1])
       ·have d2:=ud zd 2;have p2:=pk hI.pt 2 rfl d2;exact bH hk hI hs (mm 3 rfl) ag ho rfl rfl (by simp[execOp,go_sem,bQ p2])
       ·have d3:=ud zd 3;have p3:=pk hI.pt 3 rfl d3;have c0:=(hI.unl ag).cell 0;simp only[za,zb]at c0;exact bH hk hI hs (mm 4 rfl) ag ho rfl rfl (by simp[execOp,go_sem,bQ p3,c0])
       ·have hLb:=hI.kp.lies qj.out ut.out;have l0:=hLb.cell 0;have l1:=hLb.cell 1;simp only[za,zb,zf]at l0 l1;exact bH hk hI hs (mm 5 rfl) ag ho rfl rfl (by simp[execOp,go_sem,bQ e6x,l0,l1])
       ·have d5:=ud zd 5;have p5:=pk hI.pt 5 rfl d5;exact qM hk hI hs ag ho rfl rfl (by simp[execOp,go_sem,bQ p5])
       ·have d4:=ud zd 4;have p4:=pk hI.pt 4 rfl d4;have d6:=ud zd 6;obtain⟨i1,gi,gz0,gz1,gz2⟩:=info_parts uS;exact zK hk hI hs ag ho rfl rfl d4 d6 35 36 rfl p4 i1 (.agg #[vI 0,vI 0]) 16 Tryz.underlying35 gi gz0 gz1 gz2 rfl (by decide) rfl (by intro u hu;simp at hu;rcases hu with rfl|rfl <;> rfl) (by unfold maxLen;omega) (by omega) (yv se.out hI.kp.size)
       ·have d0:=ud zd 0;have p0:=pk hI.pt 0 rfl d0;exact bH hk hI hs (mm 6 rfl) ag ho rfl rfl (by simp[execOp,go_sem,bQ p0])
       ·have d8:=ud zd 8;have p8:=pk hI.pt 6 rfl d8;exact bH hk hI hs (mm 7 rfl) ag ho rfl rfl (by simp[execOp,go_sem,bQ p8])
       have d9:=ud zd 9;have p9:=pk hI.pt 7 rfl d9;have d7:=ud zd 7;exact qN hk hI ag ho rfl rfl d7 (fun hL jp=>by
        obtain⟨gs,cs,jp⟩:=jp;have c0:=hL.cell 0;have k0:=hL.frozen 0;simp at c0;rw[jp];simp[execOp,go_sem,bQ p9,bQ jp,c0,k0])
      intro zl a1 w1 hI az;have ae:=aq.out;subst ae;have i7:=hI.kp;have aw:=hI.o2 (az 7 (by decide));have i8:=(hI.b2 (az 10 (by decide))).2;obtain⟨ff,rfl,hf⟩:=hI.off.forms;rw[<- hf 39]at aw i8;clear hI;generalize ff 39=v' at *;simp only[List.foldl,Act.put,yz,List.set];simp only[Exit.then]
      go_step
      go_meet
      exact⟨v',zh i8,zh aw,zh i7⟩
     case rest=>
      obtain⟨v1',pi,mh,j3⟩:=hcut;obtain⟨A1',mi,rfl⟩:=aZ mh.out;have jx:=zh (bN jk.out j3.out (fun g hg=>by
       intro hm;rcases ym.1 hm with h|h
       ·subst h;exact aY (by decide) jk.out we.out hg.symm
       exact gD (by decide) jk.out kn.out g hg (by simpa using h)))
      have wg:=zh (fh.out.at (j3.out.block (q+1) fh.out.lt (fun hm=>by
       rcases ym.1 hm with h|h
       ·omega
       have:=(bR kn.out (q+1) (by simpa using h)).1;omega)))
      have bg:=zh (ye.out.trans (j3.out.below (B:=q) (fun g hg=>by
       rcases ym.1 hg with h|h
       ·omega
       have:=(bR kn.out g (by simpa using h)).1;omega) (by have:=se.out;omega)))
      have ni:Hid (q+2<=wc.heap.size):=zh (yv se.out j3.out.size);clear we kn jk fh j3 qj ye se HY ut;have x1:=pi.out.cell 1;have f1:=pi.out.frozen 1;simp only[za,zb,zf]at x1;have hqz:q<wc.heap.size:=by have:=ni.out;omega
      obtain⟨i1,gi,gz0,gz1,gz2⟩:=info_parts mG
      go_wp2_with (at_builtin;refine wpList_append_own _ rfl _ _ 148 rfl (q+2) 4 i1 (.bool false) 1 1 Tryz.underlying148 gi gz0 gz1 gz2 rfl (by decide) _ _ _ rfl (World.ownsRow.alloc jx.out _) ⟨wc.heap.size,0,none⟩ 1 1 [.bool true] rfl rfl ?c1 ?c2 ?c3 ?c4 ?c5 ?_)
      case c1=>
       intro j u hj
       match j,hj with
       |0,hj=>simp at hj;subst hj;simp[Addr.add]
      case c2=>intro u hu;simp at hu;subst hu;rfl
      case c3=>unfold maxLen;omega
      case c4=>omega
      case c5=>have:=ni.out;rw[World.size_alloc];omega
      intro v2' W6 du dc _;obtain⟨A2',mj,rfl⟩:=aZ du;have js:wc.grownBy W6 (Value.slice A2 m cy).ownBlock:=(World.grownBy_alloc wc _ _).trans dc;have pj:=zh (pi.out.grownA js (aY (by decide) jx.out pi.out));have HR6:=zh (World.ownsRow.kept mh.out js (by
       cases hv:(Value.slice A1' (m+1) mi).ownBlock with
       |none=>exact .inl rfl
       |some g=>exact .inr (fun e=>gD (by decide) mh.out jx.out g hv e.symm)))
      have wh:=zh du;have tj:=zh (wg.out.at (js.block (q+1) wg.out.lt (fun e=>by have:=(bR jx.out (q+1) e.symm).1;omega)));have ot:=zh (bg.out.grown js (by have:=ni.out;omega) (fun g hg=>by have:=(bR jx.out g hg).1;omega));have HZ6:Hid (q+2<=W6.heap.size):=zh (yv ni.out js.size);clear js dc du pi mh jx wg bg ni x1 f1 hqz;have x1:=pj.out.cell 1;have f1:=pj.out.frozen 1;simp only[za,zb,zf]at x1
      go_wp2_with fail
      go_roundw
      case rel=>
       refine⟨k+1,.slice A1' (m+1) mi,.slice A2' (m+1) mj,by go_num,by omega,zh ⟨pj.out.put 1 _,?_,?_⟩,zh ?_,zh (ot.out.setCell (p:=⟨q,1,none⟩) (Nat.le_refl q) _),zh (by rw[World.size_setCell];exact HZ6.out)⟩
       ·rw[i6.out,ec,iQ,yl,hle];exact kF (by decide) HR6.out pj.out 1 _
       ·rw[i6.out,ec,yl,hle];have h:=kF (by decide) wh.out pj.out 1 (.slice A2' (m+1) mj);rw[<- List.replicate_succ']at h;exact h
       rw[i6.out,ec];exact tj.out.at (Below.heap_setCell _ _ _ _ (by show q+1≠q;omega))
      case measure=>simp[intOf];omega
    rw[if_pos rfl]at ec
    go_wp2_with fail
    go_roundw
    case rel=>exact⟨k+1,_,_,by go_num,by omega,by rw[i6.out,ec];exact ph,by rw[i6.out,ec];exact v9,hB3,wa⟩
    case measure=>simp[intOf];omega
  obtain rfl:k=n:=by omega
  rw[HN.out,mf.out]at hM
  go_wp2_with fail
  go_ret
  exact⟨v1,v2,by rw[HQ.out];rfl,by rw[HQ.out];exact hM.out,by rw[HQ.out];exact hB.out⟩
end Go.Proofs.YtjfihpaeglpblaaGreatDoor
