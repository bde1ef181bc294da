/-
  Lemmas, part 6: PaT Rn0 Wr0 Wr1 Wr2 RefD3 ShownP RefC Wr4.
-/
import Derived.Test.YtjfihpaeglpblaaGreatDoorRs5
set_option maxHeartbeats 100000000
set_option maxRecDepth 1000000
namespace Go.Proofs.YtjfihpaeglpblaaGreatDoor
open Go.RowKit
def TreeIn(W:World)(t:Tree)(cs:Array Value):Prop:=∃ A cp,cs=aJ t.h A t.l.length cp/\KidsOk W [] A t.l
theorem TreeIn.kp{W W':World}{t:Tree}{cs:Array Value}(h:TreeIn W t cs)(hk:Kp [] W W'):TreeIn W' t cs:=by
 obtain⟨A,cp,h1,h2⟩:=h;exact⟨A,cp,h1,h2.kp hk⟩
theorem KidsAt.get{W:World}{X:List Nat}{g:Nat}:∀ {l:List Tree} {j:Nat} (i:Nat) (hi:i<l.length),KidsAt W X g j l->NodeAt W X g (j+i*22) l[i]
 | [],_,_,hi,_=>absurd hi (by simp)
 |t::r,j,0,_,h=>by rw[Nat.zero_mul,Nat.add_zero];exact h.1
 |t::r,j,i+1,hi,h=>by
  have:=KidsAt.get (l:=r) (j:=j+22) i (by simpa using hi) h.2;rw[show j+(i+1)*22=j+22+i*22 by omega];exact this
theorem gK{W:World}{A:Option Addr}{l:List Tree}(h:KidsOk W [] A l)(i:Nat)(hi:i<l.length):∃ g og ci,A=some ⟨g,og,none⟩/\(ci:List Value).length=22/\∀ W',Kp [] W W'->W'.rangeAt g (og+i*22) ci/\TreeIn W' l[i] ci.toArray:=by
 rcases h with h|⟨g,og,hA,hx,hg,hk⟩
 ·subst h;exact absurd hi (by simp)
 have hn:=KidsAt.get i hi hk;generalize l[i]=t at *;cases t with
 |mk th tl=>
  obtain⟨A2,c2,h1,h2⟩:=hn;refine⟨g,og,(aJ th A2 tl.length c2).toList,hA,rfl,fun W' jt=>⟨fun j v hv=>?_,⟨A2,c2,rfl,KidsOk.kp jt h2⟩⟩⟩;have hj:j<22:=(List.getElem?_eq_some_iff.1 hv).1;rw[jt.cell hg (by simp),h1 j hj];rw[<- hv];simp
theorem lU:∀ {l l':List Tree},l.length=l'.length->(fG l l'=true↔∀ i (h:i<l.length) (h':i<l'.length),l[i].same l'[i]=true)
 | [],[],_=>by simp[fG]
 | [],_::_,h=>by simp at h
 |_::_,[],h=>by simp at h
 |t::r,t'::r',h=>by
  have ih:=lU (l:=r) (l':=r') (by simpa using h);unfold fG;rw[yh,ih];constructor
  ·rintro⟨h1,h2⟩ i hi ws;cases i with
   |zero=>exact h1
   |succ i=>exact h2 i (by simpa using hi) (by simpa using ws)
  intro h1;exact⟨h1 0 (by simp) (by simp),fun i hi ws=>h1 (i+1) (by simpa using hi) (by simpa using ws)⟩
theorem vM:∀ {l l':List Tree},l.length≠l'.length->fG l l'=false
 | [],[],h=>absurd rfl h
 | [],_::_,_=>by simp[fG]
 |_::_,[],_=>by simp[fG]
 |t::r,t'::r',h=>by
  unfold fG;rw[vM (l:=r) (l':=r') (by simpa using h),Bool.and_false]
theorem fB{t:Tree}{i:Nat}(hi:i<t.l.length):(t.l[i]).size<t.size:=by
 cases t with
 |mk h l=>
  show l[i].size<aM l+1;have key:∀ (l:List Tree) (i:Nat) (hi:i<l.length),l[i].size<=aM l:=by
   intro l
   induction l with
   |nil=>intro i hi;exact absurd hi (by simp)
   |cons u r ih=>
    intro i hi;unfold aM;cases i with
    |zero=>simp only[List.getElem_cons_zero];omega
    |succ i=>have:=ih i (by simpa using hi);simp only[List.getElem_cons_succ];omega
  have:=key l i hi;omega
theorem Lies.sub{w:World}{b:Nat}{t:TypeId}{C:Array Value}(h:Lies w b t C)(o:Nat)(cs:List Value)(hs:(C.toList.drop o).take cs.length=cs):w.rangeAt b o cs:=fun j v hv=>by
 have hj:j<cs.length:=(List.getElem?_eq_some_iff.1 hv).1;have key:=List.getElem?_take_of_lt (l:=C.toList.drop o) hj;rw[hs,hv,List.getElem?_drop]at key;rw[h.cell,key];simp
theorem cE:∀ (l:List Tree),l.length<=aM l
 | []=>zm _
 |t::r=>by
  have:=cE r;have h1:1<=t.size:=by cases t;unfold Tree.size;omega
  unfold aM;rw[yi];omega
structure KP(P:Nat->Prop)(a b:World):Prop where
 size:a.heap.size<=b.heap.size
 at':∀ g,P g->b.heap[g]?=a.heap[g]?
theorem KP.refl(P:Nat->Prop)(a:World):KP P a a:=⟨zr,fun _ _=>rfl⟩
def PLo(lo:Nat)(Y:List Nat)(g:Nat):Prop:=g<lo/\g∉Y
mutual
def NodeP(P:Nat->Prop)(W:World)(g o:Nat):Tree->Prop
 | .mk h l=>∃ A c,l.length<=c/\(∀ j,j<22->W.cell? ⟨g,o+j,none⟩=(aJ h A l.length c)[j]?)/\(l=[]\/∃ g' o',A=some ⟨g',o',none⟩/\P g'/\g'<W.heap.size/\KidsP P W g' o' l)
def KidsP(P:Nat->Prop)(W:World)(g:Nat):Nat->List Tree->Prop
 |_,[]=>True
 |o,t::r=>NodeP P W g o t/\KidsP P W g (o+22) r
end
def KidsPO(P:Nat->Prop)(W:World)(A:Option Addr)(l:List Tree):Prop:=l=[]\/∃ g' o',A=some ⟨g',o',none⟩/\P g'/\g'<W.heap.size/\KidsP P W g' o' l
def TreeP(P:Nat->Prop)(W:World)(t:Tree)(cs:Array Value):Prop:=∃ A cp,cs=aJ t.h A t.l.length cp/\t.l.length<=cp/\KidsPO P W A t.l
mutual
theorem NodeP.keep{P:Nat->Prop}{W W':World}(hk:KP P W W'){g o:Nat}(hg:P g):∀ {t:Tree},NodeP P W g o t->NodeP P W' g o t
 | .mk h l,hn=>by
  obtain⟨A,c,hc,h1,h2⟩:=hn;refine⟨A,c,hc,fun j hj=>(World.cell?_of_block (w:=W) (a:=⟨g,o+j,none⟩) (hk.at' g hg)).trans (h1 j hj),?_⟩;rcases h2 with h2|⟨g',o',e,h3,h4,h5⟩
  ·exact .inl h2
  exact .inr ⟨g',o',e,h3,yu h4 hk.size,KidsP.keep hk h3 h5⟩
theorem KidsP.keep{P:Nat->Prop}{W W':World}(hk:KP P W W'){g:Nat}(hg:P g):∀ {l:List Tree} {o:Nat},KidsP P W g o l->KidsP P W' g o l
 | [],_,_=>trivial
 |_::_,_,hn=>⟨NodeP.keep hk hg hn.1,KidsP.keep hk hg hn.2⟩
end
theorem KidsPO.keep{P:Nat->Prop}{W W':World}(hk:KP P W W'){A:Option Addr}{l:List Tree}(h:KidsPO P W A l):KidsPO P W' A l:=by
 rcases h with h2|⟨g',o',e,h3,h4,h5⟩
 ·exact .inl h2
 exact .inr ⟨g',o',e,h3,yu h4 hk.size,KidsP.keep hk h3 h5⟩
theorem TreeP.keep{P:Nat->Prop}{W W':World}(hk:KP P W W'){t:Tree}{cs:Array Value}(h:TreeP P W t cs):TreeP P W' t cs:=by
 obtain⟨A,cp,h1,hc,h2⟩:=h;exact⟨A,cp,h1,hc,h2.keep hk⟩
mutual
theorem NodeP.all{P:Nat->Prop}{W:World}{g o:Nat}:∀ {t:Tree},NodeP P W g o t->NodeAt W [] g o t
 | .mk h l,hn=>by
  obtain⟨A,c,-,h1,h2⟩:=hn;refine⟨A,c,h1,?_⟩;rcases h2 with h2|⟨g',o',e,h3,h4,h5⟩
  ·exact .inl h2
  exact .inr ⟨g',o',e,by simp,h4,KidsP.all h5⟩
theorem KidsP.all{P:Nat->Prop}{W:World}{g:Nat}:∀ {l:List Tree} {o:Nat},KidsP P W g o l->KidsAt W [] g o l
 | [],_,_=>trivial
 |_::_,_,hn=>⟨NodeP.all hn.1,KidsP.all hn.2⟩
end
theorem TreeP.all{P:Nat->Prop}{W:World}{t:Tree}{cs:Array Value}(h:TreeP P W t cs):TreeIn W t cs:=by
 obtain⟨A,cp,h1,-,h2⟩:=h;refine⟨A,cp,h1,?_⟩;rcases h2 with h2|⟨g',o',e,h3,h4,h5⟩
 ·exact .inl h2
 exact .inr ⟨g',o',e,by simp,h4,KidsP.all h5⟩
mutual
theorem NodeP.imp{P P':Nat->Prop}{W:World}(hP:∀ g,P g->g<W.heap.size->P' g){g o:Nat}:∀ {t:Tree},NodeP P W g o t->NodeP P' W g o t
 | .mk h l,hn=>by
  obtain⟨A,c,hc,h1,h2⟩:=hn;refine⟨A,c,hc,h1,?_⟩;rcases h2 with h2|⟨g',o',e,h3,h4,h5⟩
  ·exact .inl h2
  exact .inr ⟨g',o',e,hP g' h3 h4,h4,KidsP.imp hP h5⟩
theorem KidsP.imp{P P':Nat->Prop}{W:World}(hP:∀ g,P g->g<W.heap.size->P' g){g:Nat}:∀ {l:List Tree} {o:Nat},KidsP P W g o l->KidsP P' W g o l
 | [],_,_=>trivial
 |_::_,_,hn=>⟨NodeP.imp hP hn.1,KidsP.imp hP hn.2⟩
end
theorem TreeP.imp{P P':Nat->Prop}{W:World}(hP:∀ g,P g->g<W.heap.size->P' g){t:Tree}{cs:Array Value}(h:TreeP P W t cs):TreeP P' W t cs:=by
 obtain⟨A,cp,h1,hc,h2⟩:=h;refine⟨A,cp,h1,hc,?_⟩;rcases h2 with h2|⟨g',o',e,h3,h4,h5⟩
 ·exact .inl h2
 exact .inr ⟨g',o',e,hP g' h3 h4,h4,KidsP.imp hP h5⟩
theorem KidsP.get{P:Nat->Prop}{W:World}{g:Nat}:∀ {l:List Tree} {j:Nat} (i:Nat) (hi:i<l.length),KidsP P W g j l->NodeP P W g (j+i*22) (l[i]'hi)
 | [],_,_,hi,_=>absurd hi (by simp)
 |t::r,j,0,_,h=>by rw[Nat.zero_mul,Nat.add_zero];exact h.1
 |t::r,j,i+1,hi,h=>by
  have:=KidsP.get (l:=r) (j:=j+22) i (by simpa using hi) h.2;rw[show j+(i+1)*22=j+22+i*22 by omega];exact this
theorem gZ{P:Nat->Prop}{W:World}{A:Option Addr}{l:List Tree}(h:KidsPO P W A l)(i:Nat)(hi:i<l.length):∃ g og ci,A=some ⟨g,og,none⟩/\(ci:List Value).length=22/\∀ W',KP P W W'->W'.rangeAt g (og+i*22) ci/\TreeP P W' (l[i]'hi) ci.toArray:=by
 rcases h with h|⟨g,og,hA,hP,hg,hk⟩
 ·subst h;exact absurd hi (by simp)
 have hn:=KidsP.get i hi hk;generalize l[i]'hi=t at *;cases t with
 |mk th tl=>
  obtain⟨A2,c2,ig,h1,h2⟩:=hn;refine⟨g,og,(aJ th A2 tl.length c2).toList,hA,rfl,fun W' jt=>⟨fun j v hv=>?_,⟨A2,c2,rfl,ig,KidsPO.keep jt h2⟩⟩⟩;have hj:j<22:=(List.getElem?_eq_some_iff.1 hv).1;rw[World.cell?_of_block (w:=W) (a:=⟨g,og+i*22+j,none⟩) (jt.at' g hP),h1 j hj];rw[<- hv];simp
def rY(W:World)(g:Nat):Bool:=match W.heap[g]? with
 |some (.cells _ t _)=>decide (t=64)
 |_=>false
theorem uBB{W:World}{g:Nat}{cs:Array Value}(h:Lies W g 64 cs):rY W g=true:=by
 unfold rY;unfold Lies at h;rw[h];rfl
theorem uEW{W:World}{g:Nat}{t:TypeId}{cs:Array Value}(h:Lies W g t cs)(ht:t≠64):rY W g=false:=by
 unfold rY;unfold Lies at h;rw[h];exact decide_eq_false ht
def uCS(W:World)(p:Nat):List Nat:=(List.range W.heap.size).filter (fun g=>decide (p<g)&&rY W g)
theorem eN{W:World}{p g:Nat}:g∈uCS W p↔g<W.heap.size/\p<g/\rY W g=true:=by
 unfold uCS;rw[List.mem_filter,yg,yh,decide_eq_true_eq]
def Kw(p:Nat)(X:List Nat)(a b:World):Prop:=Kp (p::(X++uCS a p)) a b
theorem Kw.size{p:Nat}{X:List Nat}{a b:World}(h:Kw p X a b):a.heap.size<=b.heap.size:=Kp.size h
theorem Kw.refl(p:Nat)(X:List Nat)(a:World):Kw p X a a:=Kp.refl _ _
theorem Kw.trans{p:Nat}{X:List Nat}{a b c:World}(h:Kw p X a b)(k:Kw p X b c):Kw p X a c :=
 Kp.andThen h k (fun g hg=>by
  rcases ym.1 hg with rfl|hg
  ·exact .inl (.head _)
  rcases List.mem_append.1 hg with hg|hg
  ·exact .inl (.tail _ (List.mem_append_left _ hg))
  obtain⟨h1,h2,h3⟩:=eN.1 hg;rcases Nat.lt_or_ge g a.heap.size with hl|hl
  ·by_cases hm:g∈p::(X++uCS a p)
   ·exact .inl hm
   refine .inl (.tail _ (List.mem_append_right _ (eN.2 ⟨hl,h2,?_⟩)));unfold rY at h3 ⊢
   rwa [Kp.block h g hl hm]at h3
  exact .inr hl)
theorem Kw.of_below{p:Nat}{X:List Nat}{a b:World}(h:Below a.heap.size a b):Kw p X a b:=Kp.of_below h
theorem Kw.of_kp{p:Nat}{X Z:List Nat}{a b:World}(h:Kp Z a b)(hz:∀ g∈Z,g∈X):Kw p X a b :=
 Kp.mono h (fun g hg _=>.tail _ (List.mem_append_left _ (hz g hg)))
structure Gl(W:World):Prop where
 tab:Tab W
 pow:PowTab W
 mx:MaxVar W
def mC(b:Nat):Prop:=0<b/\4<b/\1<b
theorem Gl.next{w w':World}(h:Gl w)(hb:Below w.heap.size w w'):Gl w':=⟨h.tab.next hb,h.pow.next hb,h.mx.next hb⟩
theorem Gl.kp{Y:List Nat}{w w':World}(h:Gl w)(hk:Kp Y w w')(hY:∀ b∈Y,mC b):Gl w':=by
 refine⟨fun i hi=>?_,?_,?_⟩
 ·exact(hk.cell h.tab.lt (fun hm=>absurd (hY _ hm).1 (Nat.lt_irrefl _))).trans (h.tab i hi)
 ·have hp:=h.pow;unfold PowTab Lib.TabIs World.var? at *;rw[gPow]at hp ⊢;simp only[Option.bind_some]at hp ⊢;have hlt:4<w.heap.size:=by
   rcases Nat.lt_or_ge 4 w.heap.size with h'|h'
   ·exact h'
   rw[Array.getElem?_eq_none h']at hp;cases hp
  rw[hk.block _ hlt (fun hm=>absurd (hY _ hm).2.1 (Nat.lt_irrefl _))];exact hp
 obtain⟨m,hm⟩:=h.mx;exact⟨m,(hk.cell (wC hm) (fun hq=>absurd (hY _ hq).2.2 (Nat.lt_irrefl _))).trans hm⟩
theorem AxF.other{W W':World}{p q:Option Nat}{A B:AxV}(hA:AxF W p A)(hB:AxF W q B)(hk:Kp q.toList W W')(hn:∀ b,q=some b->p≠some b):AxF W' p A:=by
 match q,B,hB with
 |none,_,_=>exact hA.kp (Y:=[]) hk (fun y hy=>by cases hy)
 |some c,some (ids,fl),hB=>
  have hq:∃ cs,Lies W c 152 cs:=by
   obtain⟨_,_,_,_,⟨base,v1,v2,g⟩|⟨base,g⟩⟩:=hB
   ·exact⟨_,g.ax⟩
   obtain⟨_,_,_,_,_,_,g1,_⟩:=g.ex;exact⟨_,g1⟩
  obtain⟨cs,hc⟩:=hq
  match p,A,hA with
  |none,none,_=>trivial
  |some b,some (ids',fl'),⟨h1,h2,h3,h4,h5⟩=>
   have lh:b∉[c]:=fun hm=>hn c rfl (by rw[yf.1 hm])
   have off:∀ {t:TypeId} {y:Nat} {nn:Array Value},Lies W y t nn->t≠152->y∉[c]:=fun {t y nn} h ht hm=>fZ h hc (fun e=>ht e.symm) (yf.1 hm)
   have offo:∀ {t:TypeId} {v:Value} {bb n sz:Nat} {xs:List Value},W.ownsRow bb t sz v n xs->t≠152->∀ g,v.ownBlock=some g->g∉[c]:=fun {t v bb n sz xs} h ht g hg=>by
    rcases h.2 with⟨rfl,_⟩|⟨g1,cap,cur,rfl,_,hh,_⟩
    ·simp[Value.ownBlock]at hg
    simp[Value.ownBlock]at hg;subst hg;exact off (show Lies W g1 t cur from hh) ht
   refine⟨h1,h2,h3,h4,?_⟩;rcases h5 with⟨base,v1,v2,g⟩|⟨base,g⟩
   ·exact .inl ⟨base,v1,v2,hk.lies g.ax lh,bT g.r1 hk (offo g.r1 (by decide)),bT g.r2 hk (offo g.r2 (by decide))⟩
   obtain⟨v1,v2,v4,m,ga,cs,g1,⟨b1,g2⟩,⟨b2,g3⟩,g4,g5,g6,g7,g8⟩:=g.ex;refine .inr ⟨base,⟨v1,v2,v4,m,ga,cs,hk.lies g1 lh,⟨b1,bT g2 hk (offo g2 (by decide))⟩,⟨b2,bT g3 hk (offo g3 (by decide))⟩,g4.at (hk.block _ g4.lt (fun hm=>?_)),hk.lies g5 (off g5 (by decide)),g6,g7,bT g8 hk (offo g8 (by decide))⟩⟩;obtain⟨es,ck,q2,_⟩:=g4;unfold Lies at hc;rw[yf.1 hm,hc]at q2;cases q2
def nT:List (Bs×Int):=[([61],1),([60,62],1),([60],1),([60,61],1),([62],1),([62,61],1),([38],2),([43],3),([45],3),([42],4),([47],4),([94],5)]
def iX(l:List (Bs×Int)):Array MapEntry:=(l.mapIdx fun i s=>{ key:=vT s.1,val:=vI s.2,born:=i }).toArray
theorem uEZ(l:List (Bs×Int))(s:Bs)(n:Int):(iX l).push { key:=vT s,val:=vI n,born:=l.length }=iX (l++[(s,n)]):=by
 simp[iX,List.mapIdx_append]
def LvM(W:World)(m:Nat):Prop:=W.heap[m]?=some (.map (iX nT) 12)
theorem LvM.at{W W':World}{m:Nat}(h:LvM W m)(hb:W'.heap[m]?=W.heap[m]?):LvM W' m:=hb.trans h
theorem LvM.lt{W:World}{m:Nat}(h:LvM W m):m<W.heap.size:=(zk.1 h).1
theorem LvM.off{W:World}{m:Nat}(h:LvM W m){q:Option Nat}{A:AxV}(hA:AxF W q A)(hm:m∈q.toList):False:=by
 match q,A,hA,hm with
 |some c,some (ids,fl),hq,hm=>
  obtain rfl:m=c:=yf.1 (by simpa using hm);have key:∀ cs,Lies W m 152 cs->False:=fun cs hc=>by
   unfold Lies at hc;unfold LvM at h;rw[h]at hc;cases hc
  obtain⟨_,_,_,_,⟨base,v1,v2,g⟩|⟨base,g⟩⟩:=hq
  ·exact key _ g.ax
  obtain⟨_,_,_,_,_,_,k1,_⟩:=g.ex;exact key _ k1
structure WrS(W:World)(p m:Nat)(rp cp:Option Nat)(R C:AxV)(sf:Value)(ts:List RTok):Prop where
 box:∃ v,Lies W p 135 #[.pointer (ptr rp),.pointer (ptr cp),.map (some m),sf,v]/\W.ownsRow (p+1) 64 3 v ts.length (cL ts)
 ax:AxF W rp R
 ay:AxF W cp C
 ne:∀ b,rp=some b->cp≠some b
 lv:LvM W m
 gl:Gl W
 lo:∀ b∈rp.toList++cp.toList,b<p/\mC b
 pl:mC p
 ml:m<p
theorem WrS.lt{W:World}{p m:Nat}{rp cp:Option Nat}{R C:AxV}{sf:Value}{ts:List RTok}(h:WrS W p m rp cp R C sf ts):p<W.heap.size:=by
 obtain⟨v,h1,_⟩:=h.box;exact h1.lt
theorem wQ{W:World}{p n:Nat}{v:Value}{xs:List Value}(h:W.ownsRow (p+1) 64 3 v n xs):∀ g,v.ownBlock=some g->g∈uCS W p/\∃ cs,Lies W g 64 cs:=by
 intro g hv;have hl:=h.lt g hv;rcases h.2 with⟨rfl,_⟩|⟨g1,cap,cur,rfl,_,hh,_⟩
 ·simp[Value.ownBlock]at hv
 simp[Value.ownBlock]at hv;subst hv;have h0:Lies W g1 64 cur:=hh;exact⟨eN.2 ⟨hl.2,by omega,uBB h0⟩,cur,h0⟩
theorem WrS.next{W W':World}{p m:Nat}{rp cp:Option Nat}{R C:AxV}{sf:Value}{ts:List RTok}(h:WrS W p m rp cp R C sf ts)(hb:Below W.heap.size W W'):WrS W' p m rp cp R C sf ts:=by
 obtain⟨v,h1,h2⟩:=h.box;exact⟨⟨v,h1.next hb,aD hb h2⟩,h.ax.next hb,h.ay.next hb,h.ne,h.lv.at (hb.block _ h.lv.lt),h.gl.next hb,h.lo,h.pl,h.ml⟩
theorem Kw.lies{W W':World}{p m:Nat}{rp cp:Option Nat}{R C:AxV}{sf:Value}{ts:List RTok}(hk:Kw p (rp.toList++cp.toList) W W')(h:WrS W p m rp cp R C sf ts){b:Nat}{t:TypeId}{cs:Array Value}(hl:Lies W b t cs)(h1:t≠64)(h2:t≠135)(h3:t≠152):Lies W' b t cs:=by
 refine Kp.lies hk hl (fun hm=>?_);obtain⟨v,g1,g2⟩:=h.box;have hax:∀ (q:Option Nat) (A:AxV),AxF W q A->b∉q.toList:=fun q A hq hm=>by
  match q,A,hq,hm with
  |some c,some (ids,fl),hq,hm=>
   rw[yf.1 (by simpa using hm:b∈[c])]at hl;obtain⟨_,_,_,_,⟨base,v1,v2,g⟩|⟨base,g⟩⟩:=hq
   ·exact fZ hl g.ax (fun e=>h3 e.symm) rfl
   obtain⟨_,_,_,_,_,_,k1,_⟩:=g.ex;exact fZ hl k1 (fun e=>h3 e.symm) rfl
 rcases ym.1 hm with rfl|hm
 ·exact fZ hl g1 (fun e=>h2 e.symm) rfl
 rcases List.mem_append.1 hm with hm|hm
 ·rcases List.mem_append.1 hm with hm|hm
  ·exact hax _ _ h.ax hm
  exact hax _ _ h.ay hm
 exact absurd (eN.1 hm).2.2 (by rw[uEW hl h1];decide)
theorem Kw.kp{W W':World}{p m:Nat}{rp cp:Option Nat}{R C:AxV}{sf:Value}{ts:List RTok}(hk:Kw p (rp.toList++cp.toList) W W')(h:WrS W p m rp cp R C sf ts):KP (PLo p (rp.toList++cp.toList)) W W' :=
 ⟨hk.size,fun g hg=>Kp.block hk g (Nat.lt_trans hg.1 h.lt) (fun hm=>by
  rcases ym.1 hm with rfl|hm
  ·exact absurd hg.1 (Nat.lt_irrefl _)
  rcases List.mem_append.1 hm with hm|hm
  ·exact hg.2 hm
  exact absurd (eN.1 hm).2.1 (by have:=hg.1;omega))⟩
def WrO(p m:Nat)(rp cp:Option Nat)(R C:AxV)(sf:Value)(ts:List RTok)(w:World)(e:Ending)(w':World):Prop:=e=.returned (.tuple #[])/\WrS w' p m rp cp R C sf ts/\Kw p (rp.toList++cp.toList) w w'
theorem WrS.askR{W W':World}{p m:Nat}{rp cp:Option Nat}{R C:AxV}{sf:Value}{ts:List RTok}(h:WrS W p m rp cp R C sf ts)(hk:Kp rp.toList W W')(hA:AxF W' rp R):WrS W' p m rp cp R C sf ts:=by
 have lz:∀ b∈rp.toList,b<p/\mC b:=fun b hb=>h.lo b (List.mem_append_left _ hb)
 obtain⟨v,h1,h2⟩:=h.box;refine⟨⟨v,hk.lies h1 (fun hm=>absurd (lz _ hm).1 (Nat.lt_irrefl _)),bT h2 hk (fun g hg hm=>by have:=(h2.lt g hg).1;have:=(lz _ hm).1;omega)⟩,hA,h.ay.other h.ax hk (fun b e1 e2=>h.ne b e1 e2),h.ne,h.lv.at (hk.block _ h.lv.lt (fun hm=>?_)),h.gl.kp hk (fun b hb=>(lz b hb).2),h.lo,h.pl,h.ml⟩;exact h.lv.off h.ax hm
theorem WrS.askC{W W':World}{p m:Nat}{rp cp:Option Nat}{R C:AxV}{sf:Value}{ts:List RTok}(h:WrS W p m rp cp R C sf ts)(hk:Kp cp.toList W W')(hA:AxF W' cp C):WrS W' p m rp cp R C sf ts:=by
 have lz:∀ b∈cp.toList,b<p/\mC b:=fun b hb=>h.lo b (List.mem_append_right _ hb)
 obtain⟨v,h1,h2⟩:=h.box;refine⟨⟨v,hk.lies h1 (fun hm=>absurd (lz _ hm).1 (Nat.lt_irrefl _)),bT h2 hk (fun g hg hm=>by have:=(h2.lt g hg).1;have:=(lz _ hm).1;omega)⟩,h.ax.other h.ay hk (fun b e1 e2=>h.ne b e2 e1),hA,h.ne,h.lv.at (hk.block _ h.lv.lt (fun hm=>?_)),h.gl.kp hk (fun b hb=>(lz b hb).2),h.lo,h.pl,h.ml⟩;exact h.lv.off h.ay hm
theorem Kw.askR{W W':World}{p:Nat}{rp cp:Option Nat}(hk:Kp rp.toList W W'):Kw p (rp.toList++cp.toList) W W' :=
 Kw.of_kp hk (fun _ hg=>List.mem_append_left _ hg)
theorem Kw.askC{W W':World}{p:Nat}{rp cp:Option Nat}(hk:Kp cp.toList W W'):Kw p (rp.toList++cp.toList) W W' :=
 Kw.of_kp hk (fun _ hg=>List.mem_append_right _ hg)
theorem WrS.grown{W W':World}{p m:Nat}{rp cp:Option Nat}{R C:AxV}{sf v v':Value}{ts ts':List RTok}(h:WrS W p m rp cp R C sf ts)(hv:W.cell? ⟨p,4,none⟩=some v)(ho:W'.ownsRow (p+1) 64 3 v' ts'.length (cL ts'))(hg:W.grownBy W' v.ownBlock) :
  WrS (W'.setCell ⟨p,4,none⟩ v') p m rp cp R C sf ts'/\Kw p (rp.toList++cp.toList) W (W'.setCell ⟨p,4,none⟩ v'):=by
 obtain⟨v0,h1,h2⟩:=h.box;have hc:W.cell? ⟨p,4,none⟩=some v0:=h1.cell 4;rw[hv]at hc;injection hc with hc;subst hc;have hvo:=wQ h2;have ec:Kp v.ownBlock.toList W W':=(Kp.refl _ W).grown hg (fun g kh=>.inl (by rw[kh];exact .head _));have ba:∀ g∈v.ownBlock.toList,g∈uCS W p:=fun g hm=>(hvo g (by simpa using hm)).1
 have hpo:p∉v.ownBlock.toList:=fun hm=>absurd (eN.1 (ba p hm)).2.1 (Nat.lt_irrefl _)
 have hL:=ec.lies h1 hpo;have hL2:Lies (W'.setCell ⟨p,4,none⟩ v') p 135 #[.pointer (ptr rp),.pointer (ptr cp),.map (some m),sf,v']:=hL.put 4 v';have gr:Kp (p::(rp.toList++cp.toList++uCS W p)) W (W'.setCell ⟨p,4,none⟩ v') :=
  Kp.set (ec.mono (fun k hk _=>.tail _ (List.mem_append_right _ (ba k hk)))) (.inl (.head _)) 4 v'
 have hko:Kp (p::v.ownBlock.toList) W (W'.setCell ⟨p,4,none⟩ v'):=Kp.set (ec.mono (fun k hk _=>.tail _ hk)) (.inl (.head _)) 4 v';have hY:NoAx W (p::v.ownBlock.toList):=fun y hy _=>by
  rcases ym.1 hy with rfl|hy
  ·exact⟨_,_,h1,by decide,by decide,by decide,by decide⟩
  obtain⟨_,cs,k⟩:=hvo y (by simpa using hy);exact⟨_,_,k,by decide,by decide,by decide,by decide⟩
 have hmn:m∉p::v.ownBlock.toList:=fun hm=>by
  rcases ym.1 hm with e|hm
  ·have:=h.ml;omega
  have:=(eN.1 (ba m hm)).2.1;have:=h.ml;omega
 have hO:(W'.setCell ⟨p,4,none⟩ v').ownsRow (p+1) 64 3 v' ts'.length (cL ts'):=ownsRow_setCell_below ho (Nat.lt_succ_self p) v';refine⟨⟨⟨v',hL2,hO⟩,h.ax.kp hko hY,h.ay.kp hko hY,h.ne,h.lv.at (hko.block _ h.lv.lt hmn),h.gl.kp hko (fun b hb=>?_),h.lo,h.pl,h.ml⟩,gr⟩;rcases ym.1 hb with rfl|hb
 ·exact h.pl
 have:=(eN.1 (ba b hb)).2.1;obtain⟨q1,q2,q3⟩:=h.pl;exact⟨by omega,by omega,by omega⟩
def LV(q:Nat)(l:List (Bs×Int))(w W:World):Prop:=W.heap[q]?=some (.map (iX l) l.length)/\Below q w W/\q<W.heap.size
theorem LV.zero(w:World):LV w.heap.size [] w (w.alloc (.map #[] 0)):=⟨heap_alloc_new w _,(Below.refl _ w).alloc zr _,by rw[World.size_alloc];omega⟩
theorem pK:Tryz.prog.underlying 132=some (.map 9 3):=by kernel_rfl
theorem LV.run{q:Nat}{l:List (Bs×Int)}{w W:World}(h:LV q l w W)(s:Bs)(n:Int)(hf:Instr.findNow .string (vT s) (iX l).toList 0=some none) :
  (Instr.mapUpdate 132 (.map (some q)) (vT s) (vI n)).run Tryz.prog W=.ok () (eC W q ((iX l).push { key:=vT s,val:=vI n,born:=l.length }) (l.length+1)) :=
 wZ _ _ _ _ _ _ _ _ pK Tryz.underlying9 trivial h.1 hf
theorem LV.put{q:Nat}{l:List (Bs×Int)}{w W:World}(h:LV q l w W)(s:Bs)(n:Int):LV q (l++[(s,n)]) w (eC W q ((iX l).push { key:=vT s,val:=vI n,born:=l.length }) (l.length+1)) :=
 ⟨by rw[yG h.2.2,uEZ];simp,h.2.1.trans (wA zr _ _),by rw[qO];exact h.2.2⟩
theorem wN(w:World):Calls Tryz.prog 73 #[] w fun e w'=>e=.returned (.map (some w.heap.size))/\LvM w' w.heap.size/\Below w.heap.size w w':=by
 have S0:=zh (LV.zero w);have HP:Hid (∀ W',LV w.heap.size nT w W'->LvM W' w.heap.size/\Below w.heap.size w W'):=zh (fun W' h=>⟨h.1,h.2.1⟩);have td:=@run_makeMap Tryz.prog;generalize hq:w.heap.size=q at *;have HQ:=zh hq
 go_in
 go_wp2_with (first
  |(refine cJ rfl 132 (.tmp 1) (.const (vS #[61])) (.const (vI 1)) rfl (LV.run S0.out [61] 1 rfl) ?_;have S1:=zh (LV.put S0.out [61] 1);generalize eC _ _ _ _=W1 at S1 ⊢;clear S0;have S1:Hid (LV q [([61],1)] w W1):=S1)
  |(refine cJ rfl 132 (.tmp 1) (.const (vS #[60,62])) (.const (vI 1)) rfl (LV.run S1.out [60,62] 1 rfl) ?_;have S2:=zh (LV.put S1.out [60,62] 1);generalize eC _ _ _ _=W2 at S2 ⊢;clear S1;have S2:Hid (LV q [([61],1),([60,62],1)] w W2):=S2)
  |(refine cJ rfl 132 (.tmp 1) (.const (vS #[60])) (.const (vI 1)) rfl (LV.run S2.out [60] 1 rfl) ?_;have S3:=zh (LV.put S2.out [60] 1);generalize eC _ _ _ _=W3 at S3 ⊢;clear S2;have S3:Hid (LV q [([61],1),([60,62],1),([60],1)] w W3):=S3)
  |(refine cJ rfl 132 (.tmp 1) (.const (vS #[60,61])) (.const (vI 1)) rfl (LV.run S3.out [60,61] 1 rfl) ?_;have S4:=zh (LV.put S3.out [60,61] 1);generalize eC _ _ _ _=W4 at S4 ⊢;clear S3;have S4:Hid (LV q [([61],1),([60,62],1),([60],1),([60,61],1)] w W4):=S4)
  |(refine cJ rfl 132 (.tmp 1) (.const (vS #[62])) (.const (vI 1)) rfl (LV.run S4.out [62] 1 rfl) ?_;have S5:=zh (LV.put S4.out [62] 1);generalize eC _ _ _ _=W5 at S5 ⊢;clear S4;have S5:Hid (LV q [([61],1),([60,62],1),([60],1),([60,61],1),([62],1)] w W5):=S5)
  |(refine cJ rfl 132 (.tmp 1) (.const (vS #[62,61])) (.const (vI 1)) rfl (LV.run S5.out [62,61] 1 rfl) ?_;have S6:=zh (LV.put S5.out [62,61] 1);generalize eC _ _ _ _=W6 at S6 ⊢;clear S5;have S6:Hid (LV q [([61],1),([60,62],1),([60],1),([60,61],1),([62],1),([62,61],1)] w W6):=S6)
  |(refine cJ rfl 132 (.tmp 1) (.const (vS #[38])) (.const (vI 2)) rfl (LV.run S6.out [38] 2 rfl) ?_;have S7:=zh (LV.put S6.out [38] 2);generalize eC _ _ _ _=W7 at S7 ⊢;clear S6;have S7:Hid (LV q [([61],1),([60,62],1),([60],1),([60,61],1),([62],1),([62,61],1),([38],2)] w W7):=S7)
  |(refine cJ rfl 132 (.tmp 1) (.const (vS #[43])) (.const (vI 3)) rfl (LV.run S7.out [43] 3 rfl) ?_;have S8:=zh (LV.put S7.out [43] 3);generalize eC _ _ _ _=W8 at S8 ⊢;clear S7;have S8:Hid (LV q [([61],1),([60,62],1),([60],1),([60,61],1),([62],1),([62,61],1),([38],2),([43],3)] w W8):=S8)
  |(refine cJ rfl 132 (.tmp 1) (.const (vS #[45])) (.const (vI 3)) rfl (LV.run S8.out [45] 3 rfl) ?_;have S9:=zh (LV.put S8.out [45] 3);generalize eC _ _ _ _=W9 at S9 ⊢;clear S8;have S9:Hid (LV q [([61],1),([60,62],1),([60],1),([60,61],1),([62],1),([62,61],1),([38],2),([43],3),([45],3)] w W9):=S9)
  |(refine cJ rfl 132 (.tmp 1) (.const (vS #[42])) (.const (vI 4)) rfl (LV.run S9.out [42] 4 rfl) ?_;have S10:=zh (LV.put S9.out [42] 4);generalize eC _ _ _ _=W10 at S10 ⊢;clear S9;have S10:Hid (LV q [([61],1),([60,62],1),([60],1),([60,61],1),([62],1),([62,61],1),([38],2),([43],3),([45],3),([42],4)] w W10):=S10)
  |(refine cJ rfl 132 (.tmp 1) (.const (vS #[47])) (.const (vI 4)) rfl (LV.run S10.out [47] 4 rfl) ?_;have S11:=zh (LV.put S10.out [47] 4);generalize eC _ _ _ _=W11 at S11 ⊢;clear S10;have S11:Hid (LV q [([61],1),([60,62],1),([60],1),([60,61],1),([62],1),([62,61],1),([38],2),([43],3),([45],3),([42],4),([47],4)] w W11):=S11)
  |(refine cJ rfl 132 (.tmp 1) (.const (vS #[94])) (.const (vI 5)) rfl (LV.run S11.out [94] 5 rfl) ?_;have S12:=zh (LV.put S11.out [94] 5);generalize eC _ _ _ _=W12 at S12 ⊢;clear S11;have S12:Hid (LV q [([61],1),([60,62],1),([60],1),([60,61],1),([62],1),([62,61],1),([38],2),([43],3),([45],3),([42],4),([47],4),([94],5)] w W12):=S12))
 go_ret
 exact⟨rfl,HP.out _ S12.out⟩
theorem bU{P:Program}{w:World}(mty kt et:TypeId)(r clock:Nat)(es:Array MapEntry)(s:ByteArray)(i:Nat)(v:Value)(hm:P.underlying mty=some (.map kt et))(hk:P.underlying kt=some .string)(hb:w.heap[r]?=some (.map es clock))(hf:Instr.findNow .string (.string s) es.toList 0=some (some (i,v))) :
  (Instr.lookup mty (.map (some r)) (.string s) false).run P w=.ok v w:=by
 have hc:(Instr.checkKey es.isEmpty 10000 kt (.string s)).run P w=.ok () w:=MapKept.run_checkKey (k:=.string s) hk (by simp[MapKept.IsKey]) _ 9999;simp[Instr.lookup,run_underlying hm,MapKept.run_getObj_map hb,hc,MapKept.run_findKey hk hf,Result.andThen]
theorem look_lev{W:World}{m:Nat}(h:LvM W m){s:Bs}(hs:mR s=true):(Instr.lookup 132 (.map (some m)) (vT s) false).run Tryz.prog W=.ok (vI (bD s)) W:=by
 unfold mR at hs;simp only[Bool.or_eq_true,beq_iff_eq]at hs;rcases hs with((((((((((h1|h1)|h1)|h1)|h1)|h1)|h1)|h1)|h1)|h1)|h1)|h1 <;> subst h1
 ·exact bU 132 9 3 m 12 (iX nT) ⟨#[43]⟩ 7 (vI 3) pK Tryz.underlying9 h rfl
 ·exact bU 132 9 3 m 12 (iX nT) ⟨#[45]⟩ 8 (vI 3) pK Tryz.underlying9 h rfl
 ·exact bU 132 9 3 m 12 (iX nT) ⟨#[42]⟩ 9 (vI 4) pK Tryz.underlying9 h rfl
 ·exact bU 132 9 3 m 12 (iX nT) ⟨#[47]⟩ 10 (vI 4) pK Tryz.underlying9 h rfl
 ·exact bU 132 9 3 m 12 (iX nT) ⟨#[94]⟩ 11 (vI 5) pK Tryz.underlying9 h rfl
 ·exact bU 132 9 3 m 12 (iX nT) ⟨#[38]⟩ 6 (vI 2) pK Tryz.underlying9 h rfl
 ·exact bU 132 9 3 m 12 (iX nT) ⟨#[61]⟩ 0 (vI 1) pK Tryz.underlying9 h rfl
 ·exact bU 132 9 3 m 12 (iX nT) ⟨#[60,62]⟩ 1 (vI 1) pK Tryz.underlying9 h rfl
 ·exact bU 132 9 3 m 12 (iX nT) ⟨#[60]⟩ 2 (vI 1) pK Tryz.underlying9 h rfl
 ·exact bU 132 9 3 m 12 (iX nT) ⟨#[60,61]⟩ 3 (vI 1) pK Tryz.underlying9 h rfl
 ·exact bU 132 9 3 m 12 (iX nT) ⟨#[62]⟩ 4 (vI 1) pK Tryz.underlying9 h rfl
 exact bU 132 9 3 m 12 (iX nT) ⟨#[62,61]⟩ 5 (vI 1) pK Tryz.underlying9 h rfl
theorem uAD{p m:Nat}{rp cp:Option Nat}{R C:AxV}{sf:Value}{ts:List RTok}(k:Int)(s:Bs)(w:World)(h:WrS w p m rp cp R C sf ts)(hn:ts.length<=900000) :
  Calls Tryz.prog 135 #[vP p 0,vI k,vT s] w fun e w'=>WrO p m rp cp R C sf (ts++[tk k s]) w e w':=by
 obtain⟨v,hl,ho⟩:=h.box;obtain⟨A,c,rfl⟩:=aV ho;have c4:w.cell? ⟨p,4,none⟩=some (.slice A ts.length c):=hl.cell 4;have hp:=hl.lt;obtain⟨i1,gi,gz0,gz1,gz2⟩:=info_parts rV;obtain⟨W1,an⟩:=zD (w.alloc (.cells #[vI k,vT s,vI 0] 64))
 have bq:=zA an;have ei:Hid (WrS W1 p m rp cp R C sf ts):=zh (h.next bq.out);have i8:Hid (Lies W1 p 135 #[.pointer (ptr rp),.pointer (ptr cp),.map (some m),sf,.slice A ts.length c]):=zh (hl.next bq.out);have b7:Hid (W1.ownsRow (p+1) 64 3 (.slice A ts.length c) ts.length (cL ts)):=zh (aD bq.out ho);have HN:Hid (∀ j u,(eW (tk k s))[j]?=some u->W1.cell? ((⟨w.heap.size,0,none⟩:Addr).add j)=some u):=zh (fun j u hj=>by
  have hL:Lies W1 w.heap.size 64 #[vI k,vT s,vI 0]:=by rw[an];exact Lies.new w _ _
  have e:(⟨w.heap.size,0,none⟩:Addr).add j=⟨w.heap.size,j,none⟩:=by cases j <;> simp[Addr.add]
  rw[e,hL.cell j];simpa [eW] using hj)
 have al:=zh an;have mh:Hid (p+1<=W1.heap.size):=zh (by have:=bq.out.size;omega);clear h hl ho an
 go_in
 go_wp2_with (first
  |(at_builtin;rw[<- al.out];refine wpList_append_own (P:=Tryz.prog) _ rfl _ _ 60 rfl (p+1) 64 i1 (.agg #[vI 0,vS #[],vI 0]) 3 32 Tryz.underlying60 gi gz0 gz1 gz2 rfl (by decide) (.slice A ts.length c) ts.length (cL ts) rfl b7.out ⟨w.heap.size,0,none⟩ 1 1 (eW (tk k s)) rfl rfl HN.out (jL _) (by unfold maxLen;omega) (by omega) mh.out (fun v' w' k1 k2 _=>?_);obtain⟨A',c',rfl⟩:=aV k1;have K1:=zh k1;have K2:=zh k2;have c5:w'.cell? ⟨p,4,none⟩=some (.slice A ts.length c):=((i8.out.grownA k2 (fun e=>by have:=(b7.out.lt p e.symm).1;omega)).cell 4);have f5:w'.frozen? ⟨p,4,none⟩=false:=((i8.out.grownA k2 (fun e=>by have:=(b7.out.lt p e.symm).1;omega)).frozen 4);clear k1 k2))
 go_end0
 have h1:=K1.out;rw[<- pH]at h1;have du:W1.cell? ⟨p,4,none⟩=some (.slice A ts.length c):=i8.out.cell 4;have hg:=ei.out.grown (ts':=ts++[tk k s]) du (by rw[yl];exact h1) K2.out;exact⟨rfl,hg.1,(Kw.of_below bq.out).trans hg.2⟩
theorem lY{p m:Nat}{rp cp:Option Nat}{R C:AxV}{sf:Value}{ts:List RTok}(w:World)(h:WrS w p m rp cp R C sf ts)(hn:ts.length<=900000) :
  Calls Tryz.prog 193 #[vP p 0] w fun e w'=>WrO p m rp cp R C sf (ts++dB) w e w':=by
 have CF:Hid (Calls Tryz.prog 113 #[vI 3] w fun e w'=>e=.returned (vS #[35,82,69,70,33])/\w=w'):=zh (iQ 3 w h.gl.tab);have CP:Hid (Calls Tryz.prog 135 #[vP p 0,vI 6,vS #[35,82,69,70,33]] w fun e w'=>WrO p m rp cp R C sf (ts++dB) w e w'):=zh (uAD 6 [35,82,69,70,33] w h hn);clear h hn;generalize ts++dB=g at *
 go_in
 go_wp2_with (first
  |((with_reducible refine CF.out.mono ?_);rintro e wx ⟨rfl,rfl⟩)
  |((with_reducible refine CP.out.mono ?_);rintro e wx ⟨rfl,hs,hk⟩;have HS:=zh hs;have HK:=zh hk;clear hs hk))
 go_end0
 exact⟨rfl,HS.out,HK.out⟩
def sR(h:NodeH):Int:=if h.kind=6 then bD h.name else if h.kind=5 then if h.name=[37] then 7 else 6 else 8
theorem uFK(t:Tree):bN t=sR t.h:=rfl
theorem tP{p m:Nat}{rp cp:Option Nat}{R C:AxV}{sf:Value}{ts:List RTok}(h:NodeH)(A:Option Addr)(n c:Nat)(Cn:List Value)(w:World)(af:Hid (Cn.toArray=aJ h A n c))(hw:WrS w p m rp cp R C sf ts)(h6:h.kind=6->mR h.name=true) :
  Calls Tryz.prog 133 #[vP p 0,.agg Cn.toArray] w fun e w'=>e=.returned (vI (sR h))/\Below w.heap.size w w':=by
 obtain⟨W1,an⟩:=zD (w.alloc (.cells Cn.toArray 34))
 have al:=zh an;have HL:=zL an;have HB:=zA an;have HWr:=zh (hw.next HB.out);have c0:=HL.out.cell 0;have c7:=HL.out.cell 7;rw[af.out]at c0 c7;obtain⟨k,v,s,a,b,r⟩:=h;simp only[aJ,za,zb,zf]at c0 c7;obtain⟨x,hx⟩:=zD (sR ⟨k,v,s,a,b,r⟩)
 have HX:=zh hx;rw[<- hx];clear an hx af hw;by_cases e6:k=6
 ·subst e6;have HE:Hid (x=bD s):=zh (HX.out.trans rfl);obtain⟨wv,hl,-⟩:=HWr.out.box;have c2:W1.cell? ⟨p,2,none⟩=some (.map (some m)):=hl.cell 2;have hlk:=look_lev (HWr.out.lv.at (rfl:W1.drew.heap[m]?=W1.heap[m]?)) (h6 rfl);rw[<- HE.out]at hlk;obtain⟨W5,ew⟩:∃ W,W=W1.drew:=⟨_,rfl⟩
  have bk:Hid (Below w.heap.size w W5):=zh (by rw[ew];exact HB.out.drew);clear HX hl h6
  go_in
  go_upto_region 1 with fail
  rw[<- al.out];clear al
  go_upto_region 2 with fail
  go_cut [4] (fun va wx=>va=vI x/\Hid (wx=W5))
  case first=>
   go_region
   all_goals go_wp2_with fail
   all_goals go_meet
   all_goals exact⟨rfl,zh ew.symm⟩
  case rest=>
  obtain⟨rfl,hcut⟩:=hcut;obtain rfl:W5=wc:=hcut.out.symm;clear hlk ew hcut c0 c7 c2
  go_wp2_with fail
  go_ret
  exact⟨rfl,bk.out⟩
 by_cases h5:k=5
 ·subst h5;by_cases s1:s=[37]
  ·subst s1;have HE:Hid (x=7):=zh (HX.out.trans rfl);clear HX h6
   go_in
   go_upto_region 1 with fail
   rw[<- al.out];clear al
   go_wp2_with fail
   go_ret
   exact⟨by(rw[HE.out]) <;> rfl,HB.out⟩
  have HE:Hid (x=6):=zh (HX.out.trans (by unfold sR;rw[if_neg (by show ¬ (5:Int)=6;omega),if_pos rfl,if_neg s1]));have b1:(s==[37])=false:=by simp[s1]
  clear HX h6
  go_in
  go_upto_region 1 with fail
  rw[<- al.out];clear al
  go_wp2_with fail
  go_ret
  exact⟨by(rw[HE.out]) <;> rfl,HB.out⟩
 have HE:Hid (x=8):=zh (HX.out.trans (by unfold sR;rw[if_neg e6,if_neg h5]));have k6:(k==6)=false:=by simp[e6]
 have k5:(k==5)=false:=by simp[h5]
 clear HX h6
 go_in
 go_upto_region 1 with fail
 rw[<- al.out];clear al
 go_wp2_with fail
 go_ret
 exact⟨by(rw[HE.out]) <;> rfl,HB.out⟩
theorem Own.isl{w:World}{base:Nat}{v:Value}{L:List Nat}(h:Own w base v L):∃ A c,v=.slice A L.length c/\ISl w 0 A c L:=by
 rcases Nat.eq_zero_or_pos L.length with z|z
 ·rcases h.2 with⟨rfl,_⟩|⟨g,cap,cur,rfl,hg,hh,hnc,vk,_⟩
  ·exact⟨none,0,by rw[z],by omega,by decide,fun h=>by omega⟩
  exact⟨_,cap,rfl,hnc,vk,fun h=>by omega⟩
 obtain⟨g,cap,e,hs,_⟩:=own_isl (base:=0) h (zm _) z;exact⟨_,cap,e,hs⟩
theorem wM{v:Val}(h:aW v=true):v.kind=0\/v.kind=1\/v.kind=2\/v.kind=3\/v.kind=4:=by
 by_cases h0:v.kind=0
 ·exact .inl h0
 by_cases h1:v.kind=1
 ·exact .inr (.inl h1)
 by_cases h2:v.kind=2
 ·exact .inr (.inr (.inl h2))
 by_cases h3:v.kind=3
 ·exact .inr (.inr (.inr (.inl h3)))
 by_cases h4:v.kind=4
 ·exact .inr (.inr (.inr (.inr h4)))
 rw[oJ v h0 h1 h2 h3 h4]at h;cases h
def dgB(d:Nat):UInt8:=UInt8.ofNat (48+d)
theorem dl_text(n:Nat):0<n->(dl n).map dgB=Lib.decDigits n:=by
 refine wG (fun n=>0<n->(dl n).map dgB=Lib.decDigits n) (fun h=>by omega) (fun n hn ih _=>?_) n;rw[iK n hn,Lib.decDigits,List.map_append];by_cases h:n<10
 ·have h0:n / 10=0:=by omega
  have h1:n % 10=n:=by omega
  rw[dif_pos h,h0,h1];rfl
 rw[dif_neg h,ih (by omega)];rfl
def sP(e:Int)(s:Bs):Bs:=List.replicate ((-e).toNat+1-s.length) 48++s
def dotB(e:Int)(s:Bs):Bs:=s.take (s.length-(-e).toNat)++[46]++s.drop (s.length-(-e).toNat)
theorem rText_eq(m e:Int)(t:Bs)(ht:t=Lib.decDigits m.natAbs) :
  bK m e=(if m<0 then [45] else [])++(if e<0 then dotB e (sP e t) else t++List.replicate e.toNat 48):=by
 have hN:bK m e=if 0<=e then (if m<0 then [45] else [])++t++List.replicate e.toNat 48
   else if 0<(t.length:Int)+e then (if m<0 then [45] else [])++t.take ((t.length:Int)+e).toNat++[46]++t.drop ((t.length:Int)+e).toNat
   else (if m<0 then [45] else [])++[48,46]++List.replicate (-((t.length:Int)+e)).toNat 48++t:=by rw[ht];rfl
 rw[hN];clear hN ht;generalize (if m<0 then [45] else []:Bs)=a;by_cases he:0<=e
 ·rw[if_pos he,if_neg (show ¬ e<0 by omega),List.append_assoc]
 rw[if_neg he,if_pos (show e<0 by omega)];obtain⟨k,hk⟩:∃ k:Nat,-e=k:=⟨(-e).toNat,by omega⟩
 unfold dotB sP;rw[hk];simp only[Int.toNat_natCast];by_cases hw:0<(t.length:Int)+e
 ·rw[if_pos hw];have h1:k+1-t.length=0:=by omega
  rw[h1];simp only[List.replicate_zero,List.nil_append];have h2:((t.length:Int)+e).toNat=t.length-k:=by omega
  rw[h2];simp
 rw[if_neg hw];have h1:(List.replicate (k+1-t.length) (48:UInt8)++t).length-k=1:=by simp;omega
 rw[h1];have h2:k+1-t.length=(-((t.length:Int)+e)).toNat+1:=by omega
 rw[h2,List.replicate_succ];simp
theorem fM{m e:Int}(h:bH m e=true):-9223372036854775808<=m/\m<=9223372036854775807:=by
 by_cases hz:m=0
 ·omega
 have:=gN h hz;omega
theorem jX(m e:Int)(w:World)(h1:-9223372036854775808<=m)(h2:m<=9223372036854775807)(hR:bH m e=true) :
  Calls Tryz.prog 142 #[wP m e] w fun x w'=>x=.returned (vT (bK m e))/\Below w.heap.size w w':=by
 have CR:=zh (fun W=>sY m e W h1 h2);rw[hR]at CR;have T0:=zh (NumIn.start w m e);by_cases hz:m=0
 ·subst hz;have he:e=0:=by unfold bH at hR;rw[if_pos rfl]at hR;simpa using hR
  subst he;have h0:bK 0 0=[48]:=by
   have h1:bK 0 0=([]:Bs)++Lib.decDigits 0++[]:=rfl;rw[h1,Lib.decDigits];rfl
  rw[h0]
  go_in
  go_wp2_with fail
  refine(CR.out _).mono ?_;rintro x w1 ⟨rfl,hb⟩;have T1:=zh (T0.out.next hb);obtain⟨g0,g1,g2,g3⟩:=T1.out;clear hb
  go_wp2_with fail
  go_ret
  exact⟨rfl,g3⟩
 have ke:-40<=e/\e<=40:=by have:=gN hR hz;omega
 obtain⟨ke1,ke2⟩:=ke;have CD:=zh (fun W=>rJ m W h1 h2);have ht:=(dl_text m.natAbs (by omega))
 have HN:=zh (rText_eq m e _ ht);have HD:=zh (dl_dig m.natAbs);have hlen:(dl m.natAbs).length<=20:=oP _ (by omega);have bz:(m==0)=false:=by rw[beq_eq_false_iff_ne];exact hz
 generalize bK m e=r at *;generalize dl m.natAbs=D at *;clear ht h1 h2 hR hz
 go_in
 go_wp2_with fail
 refine(CR.out _).mono ?_;rintro x w1 ⟨rfl,hb⟩;have T1:=zh (T0.out.next hb);clear hb T0 CR;obtain⟨g0,g1,g2,-⟩:=T1.out
 go_wp2_with fail
 refine(CD.out _).mono ?_;rintro x w2 ⟨v,rfl,ba,hb⟩;have T2:=zh (T1.out.next hb);clear hb T1 CD g0 g1 g2;obtain⟨A,c,rfl,jd⟩:=ba.isl;have HS:=zh jd;clear ba jd;obtain⟨g0,g1,g2,-⟩:=T2.out
 go_wp2_with fail
 go_loopw [4,5] (fun s i wr=>∃ (k q:Nat),k<=D.length/\s=vT ((D.take k).map dgB)/\i=vI k/\wr=w2.drewN q) (fun _ i _=>D.length-(intOf i).toNat)
 case atStart=>exact⟨0,0,zm _,rfl,rfl,rfl⟩
 case round=>
  obtain⟨k,q,hk,rfl,rfl,rfl⟩:=hrel;by_cases hlt:k<D.length
  ·obtain⟨b,off,rfl,-,-,hr⟩:=HS.out.2.2 (by omega);have x0:=(hr k hlt).1;unfold kU at x0;have hd9:D[k]<=9:=HD.out _ (List.getElem_mem hlt);have HT:Hid ((D.take k).map dgB++[dgB D[k]]=(D.take (k+1)).map dgB):=zh (by rw[yw hlt,List.map_append];rfl);generalize D[k]=d at *;have fi:((D.take k).map dgB).length<=20:=by simp;omega
   generalize (D.take k).map dgB=s1 at *;have qe:(0:Int)<=(d:Int):=by omega
   have hlI:(k:Int)<(D.length:Int):=by omega
   have hkI:(0:Int)<=(k:Int):=by omega
   have hten:d=0\/d=1\/d=2\/d=3\/d=4\/d=5\/d=6\/d=7\/d=8\/d=9:=by omega
   clear hr qe hd9;rcases hten with rfl|rfl|rfl|rfl|rfl|rfl|rfl|rfl|rfl|rfl
   all_goals go_wp2_with fail
   all_goals go_region
   all_goals go_wp2_with fail
   all_goals go_roundw
   all_goals first|exact⟨k+1,_,by omega,by rw[<- HT.out];rfl,by go_num,rfl⟩ |(simp[intOf];omega)
  have hkD:k=D.length:=by omega
  subst hkD;rw[List.take_length];have hlt2:¬ ((D.length:Int)<(D.length:Int)):=by omega
  have ki:(D.map dgB).length<=20:=by simp;omega
  have T3:Hid (NumIn w m e (w2.drewN q)):=zh (T2.out.next (zNq zB q));generalize D.map dgB=t at *;generalize w2.drewN q=w3 at *;clear HS HD g0 g1 g2 T2;obtain⟨g0,g1,g2,-⟩:=T3.out;by_cases he:e<0
  ·rw[if_pos he]at HN;have he1:decide (e<0)=true:=decide_eq_true he;have he2:decide (0<e)=false:=decide_eq_false (by omega)
   go_wp2_with fail
   go_loopw [4,6] (fun s i wr=>s=vT t/\i=vI 0/\Hid (NumIn w m e wr)) (fun _ _ _=>0)
   case atStart=>exact⟨rfl,rfl,T3⟩
   case round=>
    obtain⟨rfl,rfl,T4⟩:=hrel;clear g0 g1 g2 T3;obtain⟨g0,g1,g2,-⟩:=T4.out
    go_wp2_with fail
    go_loopw [4] (fun s wr=>∃ k:Nat,k<=(-e).toNat+1-t.length/\s=vT (List.replicate k 48++t)/\Hid (NumIn w m e wr)) (fun s _=>match s with|.string b=>(-e).toNat+1-b.size|_=>0)
    case atStart=>exact⟨0,zm _,by simp,T4⟩
    case round=>
     obtain⟨k,hk,rfl,T5⟩:=hrel;clear g0 g1 g2 T4;obtain⟨g0,g1,g2,-⟩:=T5.out;by_cases hlt:k<(-e).toNat+1-t.length
     ·have hlI:((List.replicate k 48++t:Bs).length:Int)<=-e:=by simp;omega
      have aq:(List.replicate k 48++t:Bs).length=k+t.length:=by simp
      have HT:Hid (48::(List.replicate k 48++t)=(List.replicate (k+1) 48++t:Bs)):=zh (by rw[List.replicate_succ];rfl);have HL:Hid ((List.replicate k 48++t:Bs).length<=(-e).toNat):=zh (by rw[aq];omega);generalize (List.replicate k 48++t:Bs)=s1 at *
      go_wp2_with fail
      all_goals go_roundw
      case rel=>exact⟨k+1,by omega,by rw[<- HT.out],T5⟩
      case measure=>have:=HL.out;simp[ByteArray.size];omega
     have hkE:k=(-e).toNat+1-t.length:=by omega
     have hd:List.replicate k 48++t=sP e t:=by subst hkE;rfl
     rw[hd];have aq:(sP e t).length=k+t.length:=by rw[<- hd];simp
     have HD2:Hid (dotB e (sP e t)=(sP e t).take ((sP e t).length-(-e).toNat)++[46]++(sP e t).drop ((sP e t).length-(-e).toNat)):=zh rfl;generalize dotB e (sP e t)=dd at *;generalize sP e t=s1 at *;obtain⟨j,hj⟩:=zE (s1.length-(-e).toNat)
     rw[hj]at HD2;have j1:(s1.length:Int)+e=j:=by omega
     have j2:IntKind.i64.wrap ((s1.length:Int)+e)=j:=by rw[j1];exact IntWalk.i64_in _ (by omega)
     have j3:(0:Int)<=(j:Int):=by omega
     have j4:(j:Int)<=(s1.length:Int):=by omega
     have hlI:¬ ((s1.length:Int)<=-e):=by omega
     have fi:s1.length<=100:=by omega
     have l6:(s1.take j).length<=100:=by simp;omega
     have om:(s1.drop j).length<=100:=by simp;omega
     have HD3:Hid (dd=s1.take j++46::s1.drop j):=zh (by rw[HD2.out,List.append_assoc];rfl);clear hj hkE hd hlt hk aq HD2;by_cases hm:m<0
     ·rw[if_pos hm]at HN;have sr:decide (m<0)=true:=decide_eq_true hm
      go_wp2_with fail
      go_region
      all_goals go_wp2_with fail
      all_goals go_ret
      exact⟨by rw[HN.out,HD3.out];rfl,T5.out.2.2.2.drew⟩
     rw[if_neg hm]at HN;have sr:decide (m<0)=false:=decide_eq_false hm
     go_wp2_with fail
     go_region
     all_goals go_wp2_with fail
     all_goals go_ret
     exact⟨by rw[HN.out,HD3.out];rfl,T5.out.2.2.2.drew⟩
  rw[if_neg he]at HN;have he1:decide (e<0)=false:=decide_eq_false he
  go_wp2_with fail
  go_loopw [4,6] (fun s i wr=>∃ k:Nat,k<=e.toNat/\s=vT (t++List.replicate k 48)/\i=vI k/\Hid (NumIn w m e wr)) (fun _ i _=>e.toNat-(intOf i).toNat)
  case atStart=>exact⟨0,zm _,by simp,rfl,T3⟩
  case round=>
   obtain⟨k,hk,rfl,rfl,T4⟩:=hrel;clear g0 g1 g2 T3;obtain⟨g0,g1,g2,-⟩:=T4.out;by_cases hlt:(k:Int)<e
   ·have HT:Hid (t++List.replicate k 48++[48]=(t++List.replicate (k+1) 48:Bs)):=zh (by rw[List.replicate_succ',List.append_assoc]);have aq:(t++List.replicate k 48:Bs).length<=100:=by simp;omega
    generalize (t++List.replicate k 48:Bs)=s1 at *
    go_wp2_with fail
    all_goals go_roundw
    case rel=>exact⟨k+1,by omega,by rw[<- HT.out],by go_num,T4⟩
    case measure=>simp[intOf];omega
   have hkE:e.toNat=k:=by omega
   rw[hkE]at HN;have aq:(t++List.replicate k 48:Bs).length<=100:=by simp;omega
   generalize (t++List.replicate k 48:Bs)=s1 at *;by_cases hm:m<0
   ·rw[if_pos hm]at HN;have sr:decide (m<0)=true:=decide_eq_true hm
    go_wp2_with fail
    go_ret
    exact⟨by rw[HN.out];rfl,T4.out.2.2.2⟩
   rw[if_neg hm]at HN;have sr:decide (m<0)=false:=decide_eq_false hm
   go_wp2_with fail
   go_ret
   exact⟨by rw[HN.out];rfl,T4.out.2.2.2⟩
theorem lH(v:Val)(hR:aW v=true):v=⟨0,0,0,[],false,0⟩\/(∃ m e,v=⟨1,m,e,[],false,0⟩/\bH m e=true)\/(∃ t,v=⟨2,0,0,t,false,0⟩/\t.length<=255)
  \/ (∃ b,v=⟨3,0,0,[],b,0⟩)\/(∃ f,v=⟨4,0,0,[],false,f⟩/\1<=f/\f<=9):=by
 rcases wM hR with h|h|h|h|h
 ·exact .inl ((gQ _ _).1 ((oH v h).symm.trans hR))
 ·have k:=(tL v h).symm.trans hR;obtain⟨k1,k2⟩:=Bool.and_eq_true_iff.1 k;exact .inr (.inl ⟨_,_,(gQ _ _).1 k2,k1⟩)
 ·have k:=(gQ _ _).1 ((qQ v h).symm.trans hR);rcases Nat.lt_or_ge 255 v.text.length with hl|hl
  ·have:qR v.text=qU 2:=if_pos hl;rw[this]at k;rw[k]at h;exact absurd h (by decide)
  have:qR v.text=⟨2,0,0,v.text,false,0⟩:=if_neg (by omega);rw[this]at k;exact .inr (.inr (.inl ⟨_,k,hl⟩))
 ·exact .inr (.inr (.inr (.inl ⟨_,(gQ _ _).1 ((oK v h).symm.trans hR)⟩)))
 have k:=(gQ _ _).1 ((oI v h).symm.trans hR);refine .inr (.inr (.inr (.inr ⟨v.fault,?_,?_⟩)))
 ·rw[k];show (⟨4,0,0,[],false,if v.fault<1\/9<v.fault then 9 else v.fault⟩:Val)=⟨4,0,0,[],false,(qU v.fault).fault⟩;rfl
 rw[k];show 1<=(if v.fault<1\/9<v.fault then 9 else v.fault)/\(if v.fault<1\/9<v.fault then 9 else v.fault)<=9
 split <;> omega
theorem uA(v:Val)(w:World)(hR:aW v=true) :
  Calls Tryz.prog 116 #[iH v] w fun x w'=>x=.returned (.tuple #[vS ((dE v).1.toArray),vI (dE v).2])/\Below w.heap.size w w':=by
 rcases lH v hR with rfl|⟨m,e,rfl,h⟩|⟨t,rfl,h⟩|⟨b,rfl⟩|⟨f,rfl,h1,h2⟩
 ·clear hR
  go_in
  go_wp2_with fail
  refine yt (v:=.tuple #[vS #[],vI 0]) (by simp[results,Tryz.results116,go_sem]) rfl ?_;exact⟨rfl,(Below.refl _ w).alloc zr _⟩
 ·clear hR;have hN:dE ⟨1,m,e,[],false,0⟩=(bK m e,0):=rfl;rw[hN];have C:=zh (fun W=>jX m e W (fM h).1 (fM h).2 h);have HB:Hid (Below w.heap.size w (w.alloc (.cells (lL ⟨1,m,e,[],false,0⟩) 25))):=zh ((Below.refl _ w).alloc zr _);generalize bK m e=s at *
  go_in
  go_wp2_with fail
  refine(C.out _).mono ?_;rintro x w1 ⟨rfl,hb⟩;have bq:Hid (Below w.heap.size w w1):=zT HB hb;clear hb
  go_wp2_with fail
  refine yt (v:=.tuple #[vT s,vI 0]) (by simp[results,Tryz.results116,go_sem]) rfl ?_;exact⟨rfl,bq.out⟩
 ·clear hR;have hN:dE ⟨2,0,0,t,false,0⟩=(t,0):=rfl;rw[hN]
  go_in
  go_wp2_with fail
  refine yt (v:=.tuple #[vT t,vI 0]) (by simp[results,Tryz.results116,go_sem]) rfl ?_;exact⟨rfl,(Below.refl _ w).alloc zr _⟩
 ·clear hR;cases b
  ·go_in
   go_wp2_with fail
   refine yt (v:=.tuple #[vS #[70,65,76,83,69],vI 0]) (by simp[results,Tryz.results116,go_sem]) rfl ?_;exact⟨rfl,(Below.refl _ w).alloc zr _⟩
  go_in
  go_wp2_with fail
  refine yt (v:=.tuple #[vS #[84,82,85,69],vI 0]) (by simp[results,Tryz.results116,go_sem]) rfl ?_;exact⟨rfl,(Below.refl _ w).alloc zr _⟩
 clear hR;have hN:dE ⟨4,0,0,[],false,f⟩=([],f):=rfl;rw[hN]
 go_in
 go_wp2_with fail
 go_region
 all_goals go_wp2_with fail
 all_goals refine yt (v:=.tuple #[vS #[],vI f]) (by simp[results,Tryz.results116,go_sem]) rfl ?_
 all_goals exact⟨rfl,by first|exact((Below.refl _ w).alloc zr _).drew|exact(Below.refl _ w).drew.alloc zr _⟩
theorem tZ(f:Int)(k:Nat)(hf:f=k)(h1:1<=k)(h9:k<=9):aY f=jN k:=by
 subst hf;have h:k=1\/k=2\/k=3\/k=4\/k=5\/k=6\/k=7\/k=8\/k=9:=by omega
 rcases h with rfl|rfl|rfl|rfl|rfl|rfl|rfl|rfl|rfl <;> rfl
theorem tA(f:Int)(w:World) :
  Calls Tryz.prog 117 #[vI f] w fun x w'=>x=.returned (vT (aY f))/\Below w.heap.size w w':=by
 by_cases h1:f<1
 ·have hN:aY f=[]:=if_neg (by omega);rw[hN];have d1:decide (f<1)=true:=decide_eq_true h1
  go_in
  go_wp2_with fail
  go_ret
  exact⟨rfl,Below.refl _ _⟩
 have d1:decide (f<1)=false:=decide_eq_false h1;by_cases h9:9<f
 ·have hN:aY f=[]:=if_neg (by omega);rw[hN];have d9:decide (9<f)=true:=decide_eq_true h9
  go_in
  go_wp2_with fail
  go_ret
  exact⟨rfl,Below.refl _ _⟩
 have d9:decide (9<f)=false:=decide_eq_false h9;obtain⟨k,rfl⟩:∃ k:Nat,f=k:=⟨f.toNat,by omega⟩
 have hk:k<10:=by omega
 have k0:(0:Int)<=(k:Int):=by omega
 have k9:(k:Int)<10:=by omega
 rw[tZ k k rfl (by omega) (by omega)];clear h1 h9
 go_in
 go_wp2_with fail
 refine(yM _).mono ?_;rintro x w1 ⟨g,rfl,hg,hL,hb⟩;have hc:=xQ hL k hk;have HB:=zh hb;clear hb hL hg
 go_wp2_with fail
 go_ret
 exact⟨rfl,HB.out⟩
theorem Kw.loc{p b:Nat}{X:List Nat}{a W W':World}(h:Kw p X a W)(hk:Kp [b] W W')(hb:a.heap.size<=b):Kw p X a W' :=
 Kp.andThen h hk (fun g hg=>.inr (by rw[yf.1 hg];exact hb))
theorem WrS.loc{W W':World}{p m b:Nat}{rp cp:Option Nat}{R C:AxV}{sf:Value}{ts:List RTok}(h:WrS W p m rp cp R C sf ts)(hk:Kp [b] W W')(hb:p<b){t:TypeId}{cs:Array Value}(hl:Lies W b t cs)(h1:t≠64)(h2:t≠27)(h3:t≠4)(h4:t≠3)(h5:t≠152):WrS W' p m rp cp R C sf ts:=by
 obtain⟨v,g1,g2⟩:=h.box;have hY:NoAx W [b]:=fun y hy _=>by
  rw[yf.1 hy];exact⟨t,cs,hl,h2,h3,h4,h5⟩
 refine⟨⟨v,hk.lies g1 (fun hm=>by have:=yf.1 hm;omega),bT g2 hk (fun g hg hm=>?_)⟩,h.ax.kp hk hY,h.ay.kp hk hY,h.ne,h.lv.at (hk.block _ h.lv.lt (fun hm=>?_)),h.gl.kp hk (fun y hy=>?_),h.lo,h.pl,h.ml⟩
 ·obtain⟨_,nn,k⟩:=wQ g2 g hg;exact fZ hl k (fun e=>h1 e.symm) (yf.1 hm).symm
 ·have:=yf.1 hm;have:=h.ml;omega
 rw[yf.1 hy];obtain⟨q1,q2,q3⟩:=h.pl;exact⟨by omega,by omega,by omega⟩
theorem lQ(W:World)(b i:Nat)(u:Value):Kp [b] W (W.setCell ⟨b,i,none⟩ u):=Kp.set (Kp.refl _ _) (.inl (.head _)) i u
theorem Lies.two{w:World}{b:Nat}{t:TypeId}{x y:Value}(h:Lies w b t #[x,y]):w.cell? ⟨b,0,none⟩=some x/\w.cell? ⟨b,1,none⟩=some y/\w.frozen? ⟨b,0,none⟩=false/\w.frozen? ⟨b,1,none⟩=false/\b<w.heap.size:=⟨h.cell 0,h.cell 1,h.frozen 0,h.frozen 1,h.lt⟩
theorem cB{p m:Nat}{rp cp:Option Nat}{R C:AxV}{sf:Value}(k:Int)(s:Bs)(S:Array UInt8)(hS:S=s.toArray)(t:RTok)(ht:t=tk k s):∀ (W:World) (ts:List RTok),WrS W p m rp cp R C sf ts->ts.length<=900000->Calls Tryz.prog 135 #[vP p 0,vI k,vS S] W fun e w'=>WrO p m rp cp R C sf (ts++[t]) W e w':=fun W ts h hn=>by
 subst hS ht;exact uAD k s W h hn
theorem uGX{p m:Nat}{rp cp:Option Nat}{R C:AxV}{sf:Value}{ts:List RTok}(t:Bs)(w:World)(h:WrS w p m rp cp R C sf ts)(hn:ts.length<=800000) :
  Calls Tryz.prog 132 #[vP p 0,.agg #[vI 2,vI 0,vI 0,vT t,.bool false,vI 0]] w fun e w'=>WrO p m rp cp R C sf (ts++[tk 2 t]) w e w':=by
 obtain⟨W0,ak⟩:=zD (w.alloc (.cells #[vI 2,vI 0,vI 0,vT t,.bool false,vI 0] 25))
 have ai:=zh ak;have ag:=zA ak;have L0:Lies W0 w.heap.size 25 #[vI 2,vI 0,vI 0,vT t,.bool false,vI 0]:=by rw[ak];exact Lies.new w _ _
 have c0:=L0.cell 0;have c3:=L0.cell 3;simp only[za,zb,zf]at c0 c3;obtain⟨x,hx⟩:=zD (tk 2 t)
 have CP:=zh (cB (p:=p) (m:=m) (rp:=rp) (cp:=cp) (R:=R) (C:=C) (sf:=sf) 2 t t.toArray rfl x hx);rw[<- hx];have HS:=zh (h.next ag.out);clear h hx L0 ak
 go_in
 go_upto_region 1 with fail
 rw[<- ai.out];clear ai
 go_wp2_with ((with_reducible refine(CP.out _ _ HS.out (by omega)).mono ?_);rintro e wx ⟨rfl,hs,hk⟩;have jf:=zh hs;have fp:=zh hk;clear hs hk c0 c3)
 go_end0
 exact⟨rfl,jf.out,(Kw.of_below ag.out).trans fp.out⟩
theorem uCW{p m:Nat}{rp cp:Option Nat}{R C:AxV}{sf:Value}{ts:List RTok}(f:Int)(w:World)(h:WrS w p m rp cp R C sf ts)(hn:ts.length<=800000) :
  Calls Tryz.prog 132 #[vP p 0,.agg #[vI 4,vI 0,vI 0,vS #[],.bool false,vI f]] w fun e w'=>WrO p m rp cp R C sf (ts++[tk 6 (aY f)]) w e w':=by
 obtain⟨W0,ak⟩:=zD (w.alloc (.cells #[vI 4,vI 0,vI 0,vS #[],.bool false,vI f] 25))
 have ai:=zh ak;have ag:=zA ak;have L0:Lies W0 w.heap.size 25 #[vI 4,vI 0,vI 0,vS #[],.bool false,vI f]:=by rw[ak];exact Lies.new w _ _
 have c0:=L0.cell 0;have c5:=L0.cell 5;simp only[za,zb,zf]at c0 c5;obtain⟨x,hx⟩:=zD (tk 6 (aY f))
 have CP:=zh (cB (p:=p) (m:=m) (rp:=rp) (cp:=cp) (R:=R) (C:=C) (sf:=sf) 6 (aY f) (aY f).toArray rfl x hx);rw[<- hx];have HS:=zh (h.next ag.out);have CF:=zh (iQ f W0 HS.out.gl.tab);generalize aY f=T at *;clear h hx L0 ak
 go_in
 go_upto_region 1 with fail
 rw[<- ai.out];clear ai
 go_wp2_with (first
  |((with_reducible refine CF.out.mono ?_);rintro e wx ⟨rfl,rfl⟩)
  |((with_reducible refine(CP.out _ _ HS.out (by omega)).mono ?_);rintro e wx ⟨rfl,hs,hk⟩;have jf:=zh hs;have fp:=zh hk;clear hs hk c0 c5))
 go_end0
 exact⟨rfl,jf.out,(Kw.of_below ag.out).trans fp.out⟩
theorem uCX{p m:Nat}{rp cp:Option Nat}{R C:AxV}{sf:Value}{ts:List RTok}(b:Bool)(w:World)(h:WrS w p m rp cp R C sf ts)(hn:ts.length<=800000) :
  Calls Tryz.prog 132 #[vP p 0,.agg #[vI 3,vI 0,vI 0,vS #[],.bool b,vI 0]] w fun e w'=>WrO p m rp cp R C sf (ts++[tk 3 (if b then lN else noB)]) w e w':=by
 obtain⟨W0,ak⟩:=zD (w.alloc (.cells #[vI 3,vI 0,vI 0,vS #[],.bool b,vI 0] 25))
 have ai:=zh ak;have ag:=zA ak;have L0:Lies W0 w.heap.size 25 #[vI 3,vI 0,vI 0,vS #[],.bool b,vI 0]:=by rw[ak];exact Lies.new w _ _
 have c0:=L0.cell 0;have c1:=L0.cell 1;have c2:=L0.cell 2;have c3:=L0.cell 3;have c4:=L0.cell 4;have c5:=L0.cell 5;simp only[za,zb,zf]at c0 c1 c2 c3 c4 c5;obtain⟨x,hx⟩:=zD (tk 3 (if b then lN else noB))
 have CP:=zh (cB (p:=p) (m:=m) (rp:=rp) (cp:=cp) (R:=R) (C:=C) (sf:=sf) 3 (if b then lN else noB) (if b then lN else noB).toArray rfl x hx);rw[<- hx];have HS:=zh (h.next ag.out);have CF:Hid (Calls Tryz.prog 60 #[.agg #[vI 3,vI 0,vI 0,vS #[],.bool b,vI 0]] W0 fun e w'=>e=.returned (vT (if b then lN else noB))/\Below W0.heap.size W0 w'):=zh (by
  have h:=zG ⟨3,0,0,[],b,0⟩ W0 HS.out.gl.tab HS.out.gl.pow (by show (-9223372036854775808:Int)<=0;decide) (by show (0:Int)<=9223372036854775807;decide) (fun h=>by cases h);exact h)
 generalize (if b then lN else noB)=T at *;clear h hx L0 ak
 go_in
 go_upto_region 1 with fail
 rw[<- ai.out];clear ai
 go_wp2_with (first
  |((with_reducible refine CF.out.mono ?_);rintro e wx ⟨rfl,hb⟩;have ei:=zh (HS.out.next hb);have bq:=zh hb;clear hb)
  |((with_reducible refine(CP.out _ _ ei.out (by omega)).mono ?_);rintro e wx ⟨rfl,hs,hk⟩;have jf:=zh hs;have fp:=zh hk;clear hs hk c0 c1 c2 c3 c4 c5))
 go_end0
 exact⟨rfl,jf.out,((Kw.of_below ag.out).trans (Kw.of_below bq.out)).trans fp.out⟩
theorem wlit_pos{p m:Nat}{rp cp:Option Nat}{R C:AxV}{sf:Value}{ts:List RTok}(mt e:Int)(w:World)(h:WrS w p m rp cp R C sf ts)(hn:ts.length<=800000)(hR:bH mt e=true)(h0:0<=mt) :
  Calls Tryz.prog 132 #[vP p 0,.agg #[vI 1,vI mt,vI e,vS #[],.bool false,vI 0]] w fun e' w'=>WrO p m rp cp R C sf (ts++[tk 1 (bK mt e)]) w e' w':=by
 obtain⟨h1,h2⟩:=fM hR;obtain⟨W0,ak⟩:=zD (w.alloc (.cells #[vI 1,vI mt,vI e,vS #[],.bool false,vI 0] 25))
 obtain⟨W1,an⟩:=zD (W0.alloc (.cells #[vI mt,vI e] 23))
 have ai:=zh ak;have al:=zh an;have ag:=zA ak;have bq:=zA an;have L0:Lies W0 w.heap.size 25 #[vI 1,vI mt,vI e,vS #[],.bool false,vI 0]:=by rw[ak];exact Lies.new w _ _
 have L1:Lies W1 W0.heap.size 23 #[vI mt,vI e]:=by rw[an];exact Lies.new W0 _ _
 have c0:=L0.cell 0;have c1:=L0.cell 1;have c2:=L0.cell 2;have d0:=L1.cell 0;have d1:=L1.cell 1;simp only[za,zb,zf]at c0 c1 c2 d0 d1;obtain⟨x,hx⟩:=zD (tk 1 (bK mt e))
 have CP:=zh (cB (p:=p) (m:=m) (rp:=rp) (cp:=cp) (R:=R) (C:=C) (sf:=sf) 1 (bK mt e) (bK mt e).toArray rfl x hx);rw[<- hx];have HS:=zh ((h.next ag.out).next bq.out);have CF:=zh (kY mt e W1 HS.out.gl.pow h1 h2 hR);have hm:¬ mt<0:=by omega
 generalize bK mt e=T at *;clear h hx L0 L1 ak an h1 h2 hR
 go_in
 go_upto_region 1 with fail
 rw[<- ai.out];clear ai
 go_upto_region 4 with fail
 rw[<- al.out];clear al
 go_wp2_with (first
  |((with_reducible refine CF.out.mono ?_);rintro e wx ⟨rfl,hb⟩;have ei:=zh (HS.out.next hb);have au:=zh hb;clear hb)
  |((with_reducible refine(CP.out _ _ ei.out (by omega)).mono ?_);rintro e wx ⟨rfl,hs,hk⟩;have jf:=zh hs;have fp:=zh hk;clear hs hk c0 c1 c2 d0 d1))
 go_end0
 exact⟨rfl,jf.out,(((Kw.of_below ag.out).trans (Kw.of_below bq.out)).trans (Kw.of_below au.out)).trans fp.out⟩
theorem wlit_neg{p m:Nat}{rp cp:Option Nat}{R C:AxV}{sf:Value}{ts:List RTok}(mt e:Int)(w:World)(h:WrS w p m rp cp R C sf ts)(hn:ts.length<=800000)(hR:bH mt e=true)(h0:mt<0) :
  Calls Tryz.prog 132 #[vP p 0,.agg #[vI 1,vI mt,vI e,vS #[],.bool false,vI 0]] w fun e' w'=>WrO p m rp cp R C sf (ts++[tk 5 [45]]++[tk 1 (bK (-mt) e)]) w e' w':=by
 have ux:=vJ mt e hR;obtain⟨g1,g2⟩:=fM hR;obtain⟨h1,h2⟩:=fM ux;have hmb:=(gN hR (by omega)).1;obtain⟨W0,ak⟩:=zD (w.alloc (.cells #[vI 1,vI mt,vI e,vS #[],.bool false,vI 0] 25))
 obtain⟨W1,an⟩:=zD (W0.alloc (.cells #[vI mt,vI e] 23))
 have ai:=zh ak;have al:=zh an;have ag:=zA ak;have bq:=zA an;have L0:Lies W0 w.heap.size 25 #[vI 1,vI mt,vI e,vS #[],.bool false,vI 0]:=by rw[ak];exact Lies.new w _ _
 have L1:Lies W1 W0.heap.size 23 #[vI mt,vI e]:=by rw[an];exact Lies.new W0 _ _
 have c0:=L0.cell 0;have c1:=L0.cell 1;have c2:=L0.cell 2;have d0:=L1.cell 0;have d1:=L1.cell 1;simp only[za,zb,zf]at c0 c1 c2 d0 d1;have i8:=zh L1;have HKa:Hid (Kw p (rp.toList++cp.toList) w W1):=zh ((Kw.of_below ag.out).trans (Kw.of_below bq.out));have mh:Hid (w.heap.size<=W0.heap.size/\p<W0.heap.size):=zh ⟨ag.out.size,yu h.lt ag.out.size⟩;obtain⟨x,hx⟩:=zD (tk 5 [45])
 obtain⟨y,hy⟩:∃ x,x=tk 1 (bK (-mt) e):=⟨_,rfl⟩
 have CP:=zh (cB (p:=p) (m:=m) (rp:=rp) (cp:=cp) (R:=R) (C:=C) (sf:=sf) 5 [45] #[45] rfl x hx);have CQ:=zh (cB (p:=p) (m:=m) (rp:=rp) (cp:=cp) (R:=R) (C:=C) (sf:=sf) 1 (bK (-mt) e) (bK (-mt) e).toArray rfl y hy);rw[<- hx,<- hy];have HS:=zh ((h.next ag.out).next bq.out);have CN:Hid (∀ W,Calls Tryz.prog 192 #[.agg #[vI mt,vI e]] W fun x w'=>x=.returned (.agg #[vI (-mt),vI e])/\Below W.heap.size W w'):=zh (fun W=>uFG mt e W (by omega) g2 hR);have CF:Hid (∀ W,PowTab W->Calls Tryz.prog 181 #[.agg #[vI (-mt),vI e]] W fun x w'=>x=.returned (vT (bK (-mt) e))/\Below W.heap.size W w'):=zh (fun W hp=>kY (-mt) e W hp h1 h2 ux);generalize bK (-mt) e=T at *;obtain⟨mn,hmn⟩:∃ z,z=-mt:=⟨_,rfl⟩
 rw[<- hmn]at CN CF;clear h hx hy L0 L1 ak an h1 h2 hR ux g1 g2 hmb hmn ag bq
 go_in
 go_upto_region 1 with fail
 rw[<- ai.out];clear ai
 go_upto_region 4 with fail
 rw[<- al.out];clear al
 go_wp2_with (first
  |((with_reducible refine(CP.out _ _ HS.out (by omega)).mono ?_);rintro e wx ⟨rfl,hs,hk⟩;have ir:=zh (Kw.lies hk HS.out i8.out (by decide) (by decide) (by decide));have jf:=zh hs;have fp:=zh (HKa.out.trans hk);clear hs hk c0 c1 c2 d0 d1;obtain⟨d0,d1,f0,f1,z0⟩:=ir.out.two)
  |((with_reducible refine(CN.out _).mono ?_);rintro e wx ⟨rfl,hb⟩;have vx:=zh (ir.out.next hb);have rj:=zh (jf.out.next hb);have qi:=zh (fp.out.trans (Kw.of_below hb));clear hb d0 d1 f0 f1 z0;obtain⟨d0,d1,f0,f1,z0⟩:=vx.out.two)
  |(have k1:=lQ wx W0.heap.size 0 (vI mn);have k2:=k1.trans (lQ (wx.setCell ⟨W0.heap.size,0,none⟩ (vI mn)) W0.heap.size 1 (vI e));have sv:Hid (Lies ((wx.setCell ⟨W0.heap.size,0,none⟩ (vI mn)).setCell ⟨W0.heap.size,1,none⟩ (vI e)) W0.heap.size 23 #[vI mn,vI e]):=zh ((vx.out.put 0 (vI mn)).put 1 (vI e));have jo:=zh (rj.out.loc k2 mh.out.2 vx.out (by decide) (by decide) (by decide) (by decide) (by decide));have f8:=zh (qi.out.loc k2 mh.out.1);clear k1 k2;generalize ((wx.setCell ⟨W0.heap.size,0,none⟩ (vI mn)).setCell ⟨W0.heap.size,1,none⟩ (vI e))=W4 at sv jo f8 ⊢;(with_reducible refine(CF.out _ jo.out.gl.pow).mono ?_);rintro e wx ⟨rfl,hb⟩;have xl:=zh (jo.out.next hb);have ln:=zh (f8.out.trans (Kw.of_below hb));clear hb)
  |((with_reducible refine(CQ.out _ _ xl.out (by rw[yl];simp;omega)).mono ?_);rintro e wx ⟨rfl,hs,hk⟩;have fd:=zh hs;have vp:=zh (ln.out.trans hk);clear hs hk))
 go_end0
 exact⟨rfl,fd.out,vp.out⟩
theorem xH{p m:Nat}{rp cp:Option Nat}{R C:AxV}{sf:Value}{ts:List RTok}(v:Val)(w:World)(h:WrS w p m rp cp R C sf ts)(hn:ts.length<=800000)(hR:aW v=true)(h0:v.kind≠0) :
  Calls Tryz.prog 132 #[vP p 0,iH v] w fun e w'=>WrO p m rp cp R C sf (ts++jQ v) w e w':=by
 rcases lH v hR with rfl|⟨mt,e,rfl,g⟩|⟨t,rfl,g⟩|⟨b,rfl⟩|⟨f,rfl,h1,h2⟩
 ·exact absurd rfl h0
 ·by_cases hm:mt<0
  ·have e1:ts++jQ ⟨1,mt,e,[],false,0⟩=ts++[tk 5 [45]]++[tk 1 (bK (-mt) e)]:=by unfold jQ;rw[if_pos rfl,if_pos hm];simp
   rw[e1];exact wlit_neg mt e w h hn g hm
  have e1:jQ ⟨1,mt,e,[],false,0⟩=[tk 1 (bK mt e)]:=by unfold jQ;rw[if_pos rfl,if_neg hm]
  rw[e1];exact wlit_pos mt e w h hn g (by omega)
 ·exact uGX t w h hn
 ·exact uCX b w h hn
 exact uCW f w h hn
end Go.Proofs.YtjfihpaeglpblaaGreatDoor
