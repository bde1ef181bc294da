/-
  Lemmas, part 6: PaI PaT Rn0 Wr0 Wr1 Wr2 ShownP RefC Wr4 Wr5 Wr6.
-/
import Derived.Test.YtjfihpaeglpblaaGreatDoorRt5
set_option maxHeartbeats 100000000
set_option maxRecDepth 1000000
namespace Go.Proofs.YtjfihpaeglpblaaGreatDoor
open Go.RowKit
theorem gA:(Tryz.prog.info? 25).map (·.size)=some 6:=by kernel_rfl
theorem fZ:(Tryz.prog.info? 31).map (·.size)=some 12:=by kernel_rfl
def NodeIn(W:World)(g o:Nat)(h:NodeH)(A:Option Addr)(n c:Nat):Prop:=g<W.heap.size/\∀ j,j<22->W.cell? ⟨g,o+j,none⟩=(aH h A n c)[j]?
theorem NodeIn.kp{W W':World}{g o:Nat}{h:NodeH}{A:Option Addr}{n c:Nat}(hn:NodeIn W g o h A n c)(hk:Kp [] W W'):NodeIn W' g o h A n c :=
 ⟨yu hn.1 hk.size,fun j hj=>(hk.cell hn.1 (by simp)).trans (hn.2 j hj)⟩
theorem NodeIn.sub{W:World}{g o:Nat}{h:NodeH}{A:Option Addr}{n c:Nat}(hn:NodeIn W g o h A n c)(j:Nat)(cs:List Value)(hj:j+cs.length<=22)(hs:((aH h A n c).toList.drop j).take cs.length=cs):W.rangeAt g (o+j) cs:=fun k v hv=>by
 have hk:k<cs.length:=(List.getElem?_eq_some_iff.1 hv).1;have key:=List.getElem?_take_of_lt (l:=(aH h A n c).toList.drop j) hk;rw[hs,hv,List.getElem?_drop]at key;rw[show o+j+k=o+(j+k) by omega,hn.2 (j+k) (by omega),key];simp
def TreeIn(W:World)(t:Tree)(cs:Array Value):Prop:=∃ A cp,cs=aH t.h A t.l.length cp/\KidsOk W [] A t.l
theorem TreeIn.kp{W W':World}{t:Tree}{cs:Array Value}(h:TreeIn W t cs)(hk:Kp [] W W'):TreeIn W' t cs:=by
 obtain⟨A,cp,h1,h2⟩:=h;exact⟨A,cp,h1,h2.kp hk⟩
theorem KidsAt.get{W:World}{X:List Nat}{g:Nat}:∀ {l:List Tree} {j:Nat} (i:Nat) (hi:i<l.length),KidsAt W X g j l->NodeAt W X g (j+i*22) l[i]
 | [],_,_,hi,_=>absurd hi (by simp)
 |t::r,j,0,_,h=>by rw[Nat.zero_mul,Nat.add_zero];exact h.1
 |t::r,j,i+1,hi,h=>by
  have:=KidsAt.get (l:=r) (j:=j+22) i (by simpa using hi) h.2;rw[show j+(i+1)*22=j+22+i*22 by omega];exact this
theorem fR{W:World}{A:Option Addr}{l:List Tree}(h:KidsOk W [] A l)(i:Nat)(hi:i<l.length):∃ g og ci,A=some ⟨g,og,none⟩/\(ci:List Value).length=22/\∀ W',Kp [] W W'->W'.rangeAt g (og+i*22) ci/\TreeIn W' l[i] ci.toArray:=by
 rcases h with h|⟨g,og,hA,hx,hg,hk⟩
 ·subst h;exact absurd hi (by simp)
 have hn:=KidsAt.get i hi hk;generalize l[i]=t at *;cases t with
 |mk th tl=>
  obtain⟨A2,c2,h1,h2⟩:=hn;refine⟨g,og,(aH th A2 tl.length c2).toList,hA,rfl,fun W' i7=>⟨fun j v hv=>?_,⟨A2,c2,rfl,KidsOk.kp i7 h2⟩⟩⟩;have hj:j<22:=(List.getElem?_eq_some_iff.1 hv).1;rw[i7.cell hg (by simp),h1 j hj];rw[<- hv];simp
theorem kK:∀ {l l':List Tree},l.length=l'.length->(eP l l'=true↔∀ i (h:i<l.length) (h':i<l'.length),l[i].same l'[i]=true)
 | [],[],_=>by simp[eP]
 | [],_::_,h=>by simp at h
 |_::_,[],h=>by simp at h
 |t::r,t'::r',h=>by
  have ih:=kK (l:=r) (l':=r') (by simpa using h);unfold eP;rw[yh,ih];constructor
  ·rintro⟨h1,h2⟩ i hi um;cases i with
   |zero=>exact h1
   |succ i=>exact h2 i (by simpa using hi) (by simpa using um)
  intro h1;exact⟨h1 0 (by simp) (by simp),fun i hi um=>h1 (i+1) (by simpa using hi) (by simpa using um)⟩
theorem tU:∀ {l l':List Tree},l.length≠l'.length->eP l l'=false
 | [],[],h=>absurd rfl h
 | [],_::_,_=>by simp[eP]
 |_::_,[],_=>by simp[eP]
 |t::r,t'::r',h=>by
  unfold eP;rw[tU (l:=r) (l':=r') (by simpa using h),Bool.and_false]
theorem eK{t:Tree}{i:Nat}(hi:i<t.l.length):(t.l[i]).size<t.size:=by
 cases t with
 |mk h l=>
  show l[i].size<aL l+1;have key:∀ (l:List Tree) (i:Nat) (hi:i<l.length),l[i].size<=aL l:=by
   intro l
   induction l with
   |nil=>intro i hi;exact absurd hi (by simp)
   |cons u r ih=>
    intro i hi;unfold aL;cases i with
    |zero=>simp only[List.getElem_cons_zero];omega
    |succ i=>have:=ih i (by simpa using hi);simp only[List.getElem_cons_succ];omega
  have:=key l i hi;omega
theorem Lies.sub{w:World}{b:Nat}{t:TypeId}{C:Array Value}(h:Lies w b t C)(o:Nat)(cs:List Value)(hs:(C.toList.drop o).take cs.length=cs):w.rangeAt b o cs:=fun j v hv=>by
 have hj:j<cs.length:=(List.getElem?_eq_some_iff.1 hv).1;have key:=List.getElem?_take_of_lt (l:=C.toList.drop o) hj;rw[hs,hv,List.getElem?_drop]at key;rw[h.cell,key];simp
theorem bU:∀ (l:List Tree),l.length<=aL l
 | []=>zm _
 |t::r=>by
  have:=bU r;have h1:1<=t.size:=by cases t;unfold Tree.size;omega
  unfold aL;rw[yi];omega
structure KP(P:Nat->Prop)(a b:World):Prop where
 size:a.heap.size<=b.heap.size
 at':∀ g,P g->b.heap[g]?=a.heap[g]?
theorem KP.refl(P:Nat->Prop)(a:World):KP P a a:=⟨zr,fun _ _=>rfl⟩
def PLo(lo:Nat)(Y:List Nat)(g:Nat):Prop:=g<lo/\g∉Y
mutual
def NodeP(P:Nat->Prop)(W:World)(g o:Nat):Tree->Prop
 | .mk h l=>∃ A c,l.length<=c/\(∀ j,j<22->W.cell? ⟨g,o+j,none⟩=(aH h A l.length c)[j]?)/\(l=[]\/∃ g' o',A=some ⟨g',o',none⟩/\P g'/\g'<W.heap.size/\KidsP P W g' o' l)
def KidsP(P:Nat->Prop)(W:World)(g:Nat):Nat->List Tree->Prop
 |_,[]=>True
 |o,t::r=>NodeP P W g o t/\KidsP P W g (o+22) r
end
def KidsPO(P:Nat->Prop)(W:World)(A:Option Addr)(l:List Tree):Prop:=l=[]\/∃ g' o',A=some ⟨g',o',none⟩/\P g'/\g'<W.heap.size/\KidsP P W g' o' l
def TreeP(P:Nat->Prop)(W:World)(t:Tree)(cs:Array Value):Prop:=∃ A cp,cs=aH t.h A t.l.length cp/\t.l.length<=cp/\KidsPO P W A t.l
mutual
theorem NodeP.keep{P:Nat->Prop}{W W':World}(hk:KP P W W'){g o:Nat}(hg:P g):∀ {t:Tree},NodeP P W g o t->NodeP P W' g o t
 | .mk h l,hn=>by
  obtain⟨A,c,hc,h1,h2⟩:=hn;refine⟨A,c,hc,fun j hj=>(World.cell?_of_block (w:=W) (a:=⟨g,o+j,none⟩) (hk.at' g hg)).trans (h1 j hj),?_⟩;rcases h2 with h2|⟨g',o',e,h3,h4,h5⟩
  ·exact .inl h2
  exact .inr ⟨g',o',e,h3,yu h4 hk.size,KidsP.keep hk h3 h5⟩
theorem KidsP.keep{P:Nat->Prop}{W W':World}(hk:KP P W W'){g:Nat}(hg:P g):∀ {l:List Tree} {o:Nat},KidsP P W g o l->KidsP P W' g o l
 | [],_,_=>trivial
 |_::_,_,hn=>⟨NodeP.keep hk hg hn.1,KidsP.keep hk hg hn.2⟩
end
theorem KidsPO.keep{P:Nat->Prop}{W W':World}(hk:KP P W W'){A:Option Addr}{l:List Tree}(h:KidsPO P W A l):KidsPO P W' A l:=by
 rcases h with h2|⟨g',o',e,h3,h4,h5⟩
 ·exact .inl h2
 exact .inr ⟨g',o',e,h3,yu h4 hk.size,KidsP.keep hk h3 h5⟩
theorem TreeP.keep{P:Nat->Prop}{W W':World}(hk:KP P W W'){t:Tree}{cs:Array Value}(h:TreeP P W t cs):TreeP P W' t cs:=by
 obtain⟨A,cp,h1,hc,h2⟩:=h;exact⟨A,cp,h1,hc,h2.keep hk⟩
mutual
theorem NodeP.all{P:Nat->Prop}{W:World}{g o:Nat}:∀ {t:Tree},NodeP P W g o t->NodeAt W [] g o t
 | .mk h l,hn=>by
  obtain⟨A,c,-,h1,h2⟩:=hn;refine⟨A,c,h1,?_⟩;rcases h2 with h2|⟨g',o',e,h3,h4,h5⟩
  ·exact .inl h2
  exact .inr ⟨g',o',e,by simp,h4,KidsP.all h5⟩
theorem KidsP.all{P:Nat->Prop}{W:World}{g:Nat}:∀ {l:List Tree} {o:Nat},KidsP P W g o l->KidsAt W [] g o l
 | [],_,_=>trivial
 |_::_,_,hn=>⟨NodeP.all hn.1,KidsP.all hn.2⟩
end
theorem TreeP.all{P:Nat->Prop}{W:World}{t:Tree}{cs:Array Value}(h:TreeP P W t cs):TreeIn W t cs:=by
 obtain⟨A,cp,h1,-,h2⟩:=h;refine⟨A,cp,h1,?_⟩;rcases h2 with h2|⟨g',o',e,h3,h4,h5⟩
 ·exact .inl h2
 exact .inr ⟨g',o',e,by simp,h4,KidsP.all h5⟩
mutual
theorem NodeP.imp{P P':Nat->Prop}{W:World}(hP:∀ g,P g->g<W.heap.size->P' g){g o:Nat}:∀ {t:Tree},NodeP P W g o t->NodeP P' W g o t
 | .mk h l,hn=>by
  obtain⟨A,c,hc,h1,h2⟩:=hn;refine⟨A,c,hc,h1,?_⟩;rcases h2 with h2|⟨g',o',e,h3,h4,h5⟩
  ·exact .inl h2
  exact .inr ⟨g',o',e,hP g' h3 h4,h4,KidsP.imp hP h5⟩
theorem KidsP.imp{P P':Nat->Prop}{W:World}(hP:∀ g,P g->g<W.heap.size->P' g){g:Nat}:∀ {l:List Tree} {o:Nat},KidsP P W g o l->KidsP P' W g o l
 | [],_,_=>trivial
 |_::_,_,hn=>⟨NodeP.imp hP hn.1,KidsP.imp hP hn.2⟩
end
theorem TreeP.imp{P P':Nat->Prop}{W:World}(hP:∀ g,P g->g<W.heap.size->P' g){t:Tree}{cs:Array Value}(h:TreeP P W t cs):TreeP P' W t cs:=by
 obtain⟨A,cp,h1,hc,h2⟩:=h;refine⟨A,cp,h1,hc,?_⟩;rcases h2 with h2|⟨g',o',e,h3,h4,h5⟩
 ·exact .inl h2
 exact .inr ⟨g',o',e,hP g' h3 h4,h4,KidsP.imp hP h5⟩
theorem KidsP.get{P:Nat->Prop}{W:World}{g:Nat}:∀ {l:List Tree} {j:Nat} (i:Nat) (hi:i<l.length),KidsP P W g j l->NodeP P W g (j+i*22) (l[i]'hi)
 | [],_,_,hi,_=>absurd hi (by simp)
 |t::r,j,0,_,h=>by rw[Nat.zero_mul,Nat.add_zero];exact h.1
 |t::r,j,i+1,hi,h=>by
  have:=KidsP.get (l:=r) (j:=j+22) i (by simpa using hi) h.2;rw[show j+(i+1)*22=j+22+i*22 by omega];exact this
theorem gC{P:Nat->Prop}{W:World}{A:Option Addr}{l:List Tree}(h:KidsPO P W A l)(i:Nat)(hi:i<l.length):∃ g og ci,A=some ⟨g,og,none⟩/\(ci:List Value).length=22/\∀ W',KP P W W'->W'.rangeAt g (og+i*22) ci/\TreeP P W' (l[i]'hi) ci.toArray:=by
 rcases h with h|⟨g,og,hA,hP,hg,hk⟩
 ·subst h;exact absurd hi (by simp)
 have hn:=KidsP.get i hi hk;generalize l[i]'hi=t at *;cases t with
 |mk th tl=>
  obtain⟨A2,c2,jb,h1,h2⟩:=hn;refine⟨g,og,(aH th A2 tl.length c2).toList,hA,rfl,fun W' i7=>⟨fun j v hv=>?_,⟨A2,c2,rfl,jb,KidsPO.keep i7 h2⟩⟩⟩;have hj:j<22:=(List.getElem?_eq_some_iff.1 hv).1;rw[World.cell?_of_block (w:=W) (a:=⟨g,og+i*22+j,none⟩) (i7.at' g hP),h1 j hj];rw[<- hv];simp
def qS(W:World)(g:Nat):Bool:=match W.heap[g]? with
 |some (.cells _ t _)=>decide (t=64)
 |_=>false
theorem zQ{W:World}{g:Nat}{cs:Array Value}(h:Lies W g 64 cs):qS W g=true:=by
 unfold qS;unfold Lies at h;rw[h];rfl
theorem uDY{W:World}{g:Nat}{t:TypeId}{cs:Array Value}(h:Lies W g t cs)(ht:t≠64):qS W g=false:=by
 unfold qS;unfold Lies at h;rw[h];exact decide_eq_false ht
def uBP(W:World)(p:Nat):List Nat:=(List.range W.heap.size).filter (fun g=>decide (p<g)&&qS W g)
theorem dV{W:World}{p g:Nat}:g∈uBP W p↔g<W.heap.size/\p<g/\qS W g=true:=by
 unfold uBP;rw[List.mem_filter,yg,yh,decide_eq_true_eq]
def Kw(p:Nat)(X:List Nat)(a b:World):Prop:=Kp (p::(X++uBP a p)) a b
theorem Kw.size{p:Nat}{X:List Nat}{a b:World}(h:Kw p X a b):a.heap.size<=b.heap.size:=Kp.size h
theorem Kw.refl(p:Nat)(X:List Nat)(a:World):Kw p X a a:=Kp.refl _ _
theorem Kw.trans{p:Nat}{X:List Nat}{a b c:World}(h:Kw p X a b)(k:Kw p X b c):Kw p X a c :=
 Kp.andThen h k (fun g hg=>by
  rcases ym.1 hg with rfl|hg
  ·exact .inl (.head _)
  rcases List.mem_append.1 hg with hg|hg
  ·exact .inl (.tail _ (List.mem_append_left _ hg))
  obtain⟨h1,h2,h3⟩:=dV.1 hg;rcases Nat.lt_or_ge g a.heap.size with hl|hl
  ·by_cases hm:g∈p::(X++uBP a p)
   ·exact .inl hm
   refine .inl (.tail _ (List.mem_append_right _ (dV.2 ⟨hl,h2,?_⟩)));unfold qS at h3 ⊢
   rwa [Kp.block h g hl hm]at h3
  exact .inr hl)
theorem Kw.of_below{p:Nat}{X:List Nat}{a b:World}(h:Below a.heap.size a b):Kw p X a b:=Kp.of_below h
theorem Kw.of_kp{p:Nat}{X Z:List Nat}{a b:World}(h:Kp Z a b)(hz:∀ g∈Z,g∈X):Kw p X a b :=
 Kp.mono h (fun g hg _=>.tail _ (List.mem_append_left _ (hz g hg)))
structure Gl(W:World):Prop where
 tab:Tab W
 pow:PowTab W
 mx:MaxVar W
def kW(b:Nat):Prop:=0<b/\4<b/\1<b
theorem Gl.next{w w':World}(h:Gl w)(hb:Below w.heap.size w w'):Gl w':=⟨h.tab.next hb,h.pow.next hb,h.mx.next hb⟩
theorem Gl.kp{Y:List Nat}{w w':World}(h:Gl w)(hk:Kp Y w w')(hY:∀ b∈Y,kW b):Gl w':=by
 refine⟨fun i hi=>?_,?_,?_⟩
 ·exact(hk.cell h.tab.lt (fun hm=>absurd (hY _ hm).1 (Nat.lt_irrefl _))).trans (h.tab i hi)
 ·have hp:=h.pow;unfold PowTab Lib.TabIs World.var? at *;rw[gPow]at hp ⊢;simp only[Option.bind_some]at hp ⊢;have hlt:4<w.heap.size:=by
   rcases Nat.lt_or_ge 4 w.heap.size with h'|h'
   ·exact h'
   rw[Array.getElem?_eq_none h']at hp;cases hp
  rw[hk.block _ hlt (fun hm=>absurd (hY _ hm).2.1 (Nat.lt_irrefl _))];exact hp
 obtain⟨m,hm⟩:=h.mx;exact⟨m,(hk.cell (uI hm) (fun hq=>absurd (hY _ hq).2.2 (Nat.lt_irrefl _))).trans hm⟩
theorem AxF.other{W W':World}{p q:Option Nat}{A B:AxV}(hA:AxF W p A)(hB:AxF W q B)(hk:Kp q.toList W W')(hn:∀ b,q=some b->p≠some b):AxF W' p A:=by
 match q,B,hB with
 |none,_,_=>exact hA.kp (Y:=[]) hk (fun y hy=>by cases hy)
 |some c,some (ids,fl),hB=>
  have hq:∃ cs,Lies W c 152 cs:=by
   obtain⟨_,_,_,_,⟨base,v1,v2,g⟩|⟨base,g⟩⟩:=hB
   ·exact⟨_,g.ax⟩
   obtain⟨_,_,_,_,_,_,g1,_⟩:=g.ex;exact⟨_,g1⟩
  obtain⟨cs,hc⟩:=hq
  match p,A,hA with
  |none,none,_=>trivial
  |some b,some (ids',fl'),⟨h1,h2,h3,h4,h5⟩=>
   have kr:b∉[c]:=fun hm=>hn c rfl (by rw[yf.1 hm])
   have off:∀ {t:TypeId} {y:Nat} {lm:Array Value},Lies W y t lm->t≠152->y∉[c]:=fun {t y lm} h ht hm=>fG h hc (fun e=>ht e.symm) (yf.1 hm)
   have offo:∀ {t:TypeId} {v:Value} {bb n sz:Nat} {xs:List Value},W.ownsRow bb t sz v n xs->t≠152->∀ g,v.ownBlock=some g->g∉[c]:=fun {t v bb n sz xs} h ht g hg=>by
    rcases h.2 with⟨rfl,_⟩|⟨g1,cap,cur,rfl,_,hh,_⟩
    ·simp[Value.ownBlock]at hg
    simp[Value.ownBlock]at hg;subst hg;exact off (show Lies W g1 t cur from hh) ht
   refine⟨h1,h2,h3,h4,?_⟩;rcases h5 with⟨base,v1,v2,g⟩|⟨base,g⟩
   ·exact .inl ⟨base,v1,v2,hk.lies g.ax kr,bN g.r1 hk (offo g.r1 (by decide)),bN g.r2 hk (offo g.r2 (by decide))⟩
   obtain⟨v1,v2,v4,m,ga,cs,g1,⟨b1,g2⟩,⟨b2,g3⟩,g4,g5,g6,g7,g8⟩:=g.ex;refine .inr ⟨base,⟨v1,v2,v4,m,ga,cs,hk.lies g1 kr,⟨b1,bN g2 hk (offo g2 (by decide))⟩,⟨b2,bN g3 hk (offo g3 (by decide))⟩,g4.at (hk.block _ g4.lt (fun hm=>?_)),hk.lies g5 (off g5 (by decide)),g6,g7,bN g8 hk (offo g8 (by decide))⟩⟩;obtain⟨es,ck,q2,_⟩:=g4;unfold Lies at hc;rw[yf.1 hm,hc]at q2;cases q2
def mI:List (Bs×Int):=[([61],1),([60,62],1),([60],1),([60,61],1),([62],1),([62,61],1),([38],2),([43],3),([45],3),([42],4),([47],4),([94],5)]
def hH(l:List (Bs×Int)):Array MapEntry:=(l.mapIdx fun i s=>{ key:=vT s.1,val:=vI s.2,born:=i }).toArray
theorem uEB(l:List (Bs×Int))(s:Bs)(n:Int):(hH l).push { key:=vT s,val:=vI n,born:=l.length }=hH (l++[(s,n)]):=by
 simp[hH,List.mapIdx_append]
def LvM(W:World)(m:Nat):Prop:=W.heap[m]?=some (.map (hH mI) 12)
theorem LvM.at{W W':World}{m:Nat}(h:LvM W m)(hb:W'.heap[m]?=W.heap[m]?):LvM W' m:=hb.trans h
theorem LvM.lt{W:World}{m:Nat}(h:LvM W m):m<W.heap.size:=(zk.1 h).1
theorem LvM.off{W:World}{m:Nat}(h:LvM W m){q:Option Nat}{A:AxV}(hA:AxF W q A)(hm:m∈q.toList):False:=by
 match q,A,hA,hm with
 |some c,some (ids,fl),hq,hm=>
  obtain rfl:m=c:=yf.1 (by simpa using hm);have key:∀ cs,Lies W m 152 cs->False:=fun cs hc=>by
   unfold Lies at hc;unfold LvM at h;rw[h]at hc;cases hc
  obtain⟨_,_,_,_,⟨base,v1,v2,g⟩|⟨base,g⟩⟩:=hq
  ·exact key _ g.ax
  obtain⟨_,_,_,_,_,_,k1,_⟩:=g.ex;exact key _ k1
structure WrS(W:World)(p m:Nat)(rp cp:Option Nat)(R C:AxV)(sf:Value)(ts:List RTok):Prop where
 box:∃ v,Lies W p 135 #[.pointer (ptr rp),.pointer (ptr cp),.map (some m),sf,v]/\W.ownsRow (p+1) 64 3 v ts.length (iY ts)
 ax:AxF W rp R
 ay:AxF W cp C
 ne:∀ b,rp=some b->cp≠some b
 lv:LvM W m
 gl:Gl W
 lo:∀ b∈rp.toList++cp.toList,b<p/\kW b
 pl:kW p
 ml:m<p
theorem WrS.lt{W:World}{p m:Nat}{rp cp:Option Nat}{R C:AxV}{sf:Value}{ts:List RTok}(h:WrS W p m rp cp R C sf ts):p<W.heap.size:=by
 obtain⟨v,h1,_⟩:=h.box;exact h1.lt
theorem uZ{W:World}{p n:Nat}{v:Value}{xs:List Value}(h:W.ownsRow (p+1) 64 3 v n xs):∀ g,v.ownBlock=some g->g∈uBP W p/\∃ cs,Lies W g 64 cs:=by
 intro g hv;have hl:=h.lt g hv;rcases h.2 with⟨rfl,_⟩|⟨g1,cap,cur,rfl,_,hh,_⟩
 ·simp[Value.ownBlock]at hv
 simp[Value.ownBlock]at hv;subst hv;have h0:Lies W g1 64 cur:=hh;exact⟨dV.2 ⟨hl.2,by omega,zQ h0⟩,cur,h0⟩
theorem WrS.next{W W':World}{p m:Nat}{rp cp:Option Nat}{R C:AxV}{sf:Value}{ts:List RTok}(h:WrS W p m rp cp R C sf ts)(hb:Below W.heap.size W W'):WrS W' p m rp cp R C sf ts:=by
 obtain⟨v,h1,h2⟩:=h.box;exact⟨⟨v,h1.next hb,aI hb h2⟩,h.ax.next hb,h.ay.next hb,h.ne,h.lv.at (hb.block _ h.lv.lt),h.gl.next hb,h.lo,h.pl,h.ml⟩
theorem Kw.lies{W W':World}{p m:Nat}{rp cp:Option Nat}{R C:AxV}{sf:Value}{ts:List RTok}(hk:Kw p (rp.toList++cp.toList) W W')(h:WrS W p m rp cp R C sf ts){b:Nat}{t:TypeId}{cs:Array Value}(hl:Lies W b t cs)(h1:t≠64)(h2:t≠135)(h3:t≠152):Lies W' b t cs:=by
 refine Kp.lies hk hl (fun hm=>?_);obtain⟨v,g1,g2⟩:=h.box;have hax:∀ (q:Option Nat) (A:AxV),AxF W q A->b∉q.toList:=fun q A hq hm=>by
  match q,A,hq,hm with
  |some c,some (ids,fl),hq,hm=>
   rw[yf.1 (by simpa using hm:b∈[c])]at hl;obtain⟨_,_,_,_,⟨base,v1,v2,g⟩|⟨base,g⟩⟩:=hq
   ·exact fG hl g.ax (fun e=>h3 e.symm) rfl
   obtain⟨_,_,_,_,_,_,k1,_⟩:=g.ex;exact fG hl k1 (fun e=>h3 e.symm) rfl
 rcases ym.1 hm with rfl|hm
 ·exact fG hl g1 (fun e=>h2 e.symm) rfl
 rcases List.mem_append.1 hm with hm|hm
 ·rcases List.mem_append.1 hm with hm|hm
  ·exact hax _ _ h.ax hm
  exact hax _ _ h.ay hm
 exact absurd (dV.1 hm).2.2 (by rw[uDY hl h1];decide)
theorem Kw.kp{W W':World}{p m:Nat}{rp cp:Option Nat}{R C:AxV}{sf:Value}{ts:List RTok}(hk:Kw p (rp.toList++cp.toList) W W')(h:WrS W p m rp cp R C sf ts):KP (PLo p (rp.toList++cp.toList)) W W' :=
 ⟨hk.size,fun g hg=>Kp.block hk g (Nat.lt_trans hg.1 h.lt) (fun hm=>by
  rcases ym.1 hm with rfl|hm
  ·exact absurd hg.1 (Nat.lt_irrefl _)
  rcases List.mem_append.1 hm with hm|hm
  ·exact hg.2 hm
  exact absurd (dV.1 hm).2.1 (by have:=hg.1;omega))⟩
def WrO(p m:Nat)(rp cp:Option Nat)(R C:AxV)(sf:Value)(ts:List RTok)(w:World)(e:Ending)(w':World):Prop:=e=.returned (.tuple #[])/\WrS w' p m rp cp R C sf ts/\Kw p (rp.toList++cp.toList) w w'
theorem WrS.askR{W W':World}{p m:Nat}{rp cp:Option Nat}{R C:AxV}{sf:Value}{ts:List RTok}(h:WrS W p m rp cp R C sf ts)(hk:Kp rp.toList W W')(hA:AxF W' rp R):WrS W' p m rp cp R C sf ts:=by
 have kq:∀ b∈rp.toList,b<p/\kW b:=fun b hb=>h.lo b (List.mem_append_left _ hb)
 obtain⟨v,h1,h2⟩:=h.box;refine⟨⟨v,hk.lies h1 (fun hm=>absurd (kq _ hm).1 (Nat.lt_irrefl _)),bN h2 hk (fun g hg hm=>by have:=(h2.lt g hg).1;have:=(kq _ hm).1;omega)⟩,hA,h.ay.other h.ax hk (fun b e1 e2=>h.ne b e1 e2),h.ne,h.lv.at (hk.block _ h.lv.lt (fun hm=>?_)),h.gl.kp hk (fun b hb=>(kq b hb).2),h.lo,h.pl,h.ml⟩;exact h.lv.off h.ax hm
theorem WrS.askC{W W':World}{p m:Nat}{rp cp:Option Nat}{R C:AxV}{sf:Value}{ts:List RTok}(h:WrS W p m rp cp R C sf ts)(hk:Kp cp.toList W W')(hA:AxF W' cp C):WrS W' p m rp cp R C sf ts:=by
 have kq:∀ b∈cp.toList,b<p/\kW b:=fun b hb=>h.lo b (List.mem_append_right _ hb)
 obtain⟨v,h1,h2⟩:=h.box;refine⟨⟨v,hk.lies h1 (fun hm=>absurd (kq _ hm).1 (Nat.lt_irrefl _)),bN h2 hk (fun g hg hm=>by have:=(h2.lt g hg).1;have:=(kq _ hm).1;omega)⟩,h.ax.other h.ay hk (fun b e1 e2=>h.ne b e2 e1),hA,h.ne,h.lv.at (hk.block _ h.lv.lt (fun hm=>?_)),h.gl.kp hk (fun b hb=>(kq b hb).2),h.lo,h.pl,h.ml⟩;exact h.lv.off h.ay hm
theorem Kw.askR{W W':World}{p:Nat}{rp cp:Option Nat}(hk:Kp rp.toList W W'):Kw p (rp.toList++cp.toList) W W' :=
 Kw.of_kp hk (fun _ hg=>List.mem_append_left _ hg)
theorem Kw.askC{W W':World}{p:Nat}{rp cp:Option Nat}(hk:Kp cp.toList W W'):Kw p (rp.toList++cp.toList) W W' :=
 Kw.of_kp hk (fun _ hg=>List.mem_append_right _ hg)
theorem WrS.grown{W W':World}{p m:Nat}{rp cp:Option Nat}{R C:AxV}{sf v v':Value}{ts ts':List RTok}(h:WrS W p m rp cp R C sf ts)(hv:W.cell? ⟨p,4,none⟩=some v)(ho:W'.ownsRow (p+1) 64 3 v' ts'.length (iY ts'))(hg:W.grownBy W' v.ownBlock) :
  WrS (W'.setCell ⟨p,4,none⟩ v') p m rp cp R C sf ts'/\Kw p (rp.toList++cp.toList) W (W'.setCell ⟨p,4,none⟩ v'):=by
 obtain⟨v0,h1,h2⟩:=h.box;have hc:W.cell? ⟨p,4,none⟩=some v0:=h1.cell 4;rw[hv]at hc;injection hc with hc;subst hc;have hvo:=uZ h2;have fi:Kp v.ownBlock.toList W W':=(Kp.refl _ W).grown hg (fun g jw=>.inl (by rw[jw];exact .head _));have aw:∀ g∈v.ownBlock.toList,g∈uBP W p:=fun g hm=>(hvo g (by simpa using hm)).1
 have hpo:p∉v.ownBlock.toList:=fun hm=>absurd (dV.1 (aw p hm)).2.1 (Nat.lt_irrefl _)
 have hL:=fi.lies h1 hpo;have hL2:Lies (W'.setCell ⟨p,4,none⟩ v') p 135 #[.pointer (ptr rp),.pointer (ptr cp),.map (some m),sf,v']:=hL.put 4 v';have fv:Kp (p::(rp.toList++cp.toList++uBP W p)) W (W'.setCell ⟨p,4,none⟩ v') :=
  Kp.set (fi.mono (fun k hk _=>.tail _ (List.mem_append_right _ (aw k hk)))) (.inl (.head _)) 4 v'
 have hko:Kp (p::v.ownBlock.toList) W (W'.setCell ⟨p,4,none⟩ v'):=Kp.set (fi.mono (fun k hk _=>.tail _ hk)) (.inl (.head _)) 4 v';have hY:NoAx W (p::v.ownBlock.toList):=fun y hy _=>by
  rcases ym.1 hy with rfl|hy
  ·exact⟨_,_,h1,by decide,by decide,by decide,by decide⟩
  obtain⟨_,cs,k⟩:=hvo y (by simpa using hy);exact⟨_,_,k,by decide,by decide,by decide,by decide⟩
 have hmn:m∉p::v.ownBlock.toList:=fun hm=>by
  rcases ym.1 hm with e|hm
  ·have:=h.ml;omega
  have:=(dV.1 (aw m hm)).2.1;have:=h.ml;omega
 have hO:(W'.setCell ⟨p,4,none⟩ v').ownsRow (p+1) 64 3 v' ts'.length (iY ts'):=ownsRow_setCell_below ho (Nat.lt_succ_self p) v';refine⟨⟨⟨v',hL2,hO⟩,h.ax.kp hko hY,h.ay.kp hko hY,h.ne,h.lv.at (hko.block _ h.lv.lt hmn),h.gl.kp hko (fun b hb=>?_),h.lo,h.pl,h.ml⟩,fv⟩;rcases ym.1 hb with rfl|hb
 ·exact h.pl
 have:=(dV.1 (aw b hb)).2.1;obtain⟨q1,q2,q3⟩:=h.pl;exact⟨by omega,by omega,by omega⟩
def LV(q:Nat)(l:List (Bs×Int))(w W:World):Prop:=W.heap[q]?=some (.map (hH l) l.length)/\Below q w W/\q<W.heap.size
theorem LV.zero(w:World):LV w.heap.size [] w (w.alloc (.map #[] 0)):=⟨heap_alloc_new w _,(Below.refl _ w).alloc zr _,by rw[World.size_alloc];omega⟩
theorem oA:Tryz.prog.underlying 132=some (.map 9 3):=by kernel_rfl
theorem LV.run{q:Nat}{l:List (Bs×Int)}{w W:World}(h:LV q l w W)(s:Bs)(n:Int)(hf:Instr.findNow .string (vT s) (hH l).toList 0=some none) :
  (Instr.mapUpdate 132 (.map (some q)) (vT s) (vI n)).run Tryz.prog W=.ok () (dM W q ((hH l).push { key:=vT s,val:=vI n,born:=l.length }) (l.length+1)) :=
 vG _ _ _ _ _ _ _ _ oA Tryz.underlying9 trivial h.1 hf
theorem LV.put{q:Nat}{l:List (Bs×Int)}{w W:World}(h:LV q l w W)(s:Bs)(n:Int):LV q (l++[(s,n)]) w (dM W q ((hH l).push { key:=vT s,val:=vI n,born:=l.length }) (l.length+1)) :=
 ⟨by rw[wV h.2.2,uEB];simp,h.2.1.trans (uG zr _ _),by rw[pD];exact h.2.2⟩
theorem uV(w:World):Calls Tryz.prog 73 #[] w fun e w'=>e=.returned (.map (some w.heap.size))/\LvM w' w.heap.size/\Below w.heap.size w w':=by
 have S0:=zh (LV.zero w);have HP:Hid (∀ W',LV w.heap.size mI w W'->LvM W' w.heap.size/\Below w.heap.size w W'):=zh (fun W' h=>⟨h.1,h.2.1⟩);have un:=@run_makeMap Tryz.prog;generalize hq:w.heap.size=q at *;have HQ:=zh hq
 go_in
 go_wp2_with (first
  |(refine bX rfl 132 (.tmp 1) (.const (vS #[61])) (.const (vI 1)) rfl (LV.run S0.out [61] 1 rfl) ?_;have S1:=zh (LV.put S0.out [61] 1);generalize dM _ _ _ _=W1 at S1 ⊢;clear S0;have S1:Hid (LV q [([61],1)] w W1):=S1)
  |(refine bX rfl 132 (.tmp 1) (.const (vS #[60,62])) (.const (vI 1)) rfl (LV.run S1.out [60,62] 1 rfl) ?_;have S2:=zh (LV.put S1.out [60,62] 1);generalize dM _ _ _ _=W2 at S2 ⊢;clear S1;have S2:Hid (LV q [([61],1),([60,62],1)] w W2):=S2)
  |(refine bX rfl 132 (.tmp 1) (.const (vS #[60])) (.const (vI 1)) rfl (LV.run S2.out [60] 1 rfl) ?_;have S3:=zh (LV.put S2.out [60] 1);generalize dM _ _ _ _=W3 at S3 ⊢;clear S2;have S3:Hid (LV q [([61],1),([60,62],1),([60],1)] w W3):=S3)
  |(refine bX rfl 132 (.tmp 1) (.const (vS #[60,61])) (.const (vI 1)) rfl (LV.run S3.out [60,61] 1 rfl) ?_;have S4:=zh (LV.put S3.out [60,61] 1);generalize dM _ _ _ _=W4 at S4 ⊢;clear S3;have S4:Hid (LV q [([61],1),([60,62],1),([60],1),([60,61],1)] w W4):=S4)
  |(refine bX rfl 132 (.tmp 1) (.const (vS #[62])) (.const (vI 1)) rfl (LV.run S4.out [62] 1 rfl) ?_;have S5:=zh (LV.put S4.out [62] 1);generalize dM _ _ _ _=W5 at S5 ⊢;clear S4;have S5:Hid (LV q [([61],1),([60,62],1),([60],1),([60,61],1),([62],1)] w W5):=S5)
  |(refine bX rfl 132 (.tmp 1) (.const (vS #[62,61])) (.const (vI 1)) rfl (LV.run S5.out [62,61] 1 rfl) ?_;have S6:=zh (LV.put S5.out [62,61] 1);generalize dM _ _ _ _=W6 at S6 ⊢;clear S5;have S6:Hid (LV q [([61],1),([60,62],1),([60],1),([60,61],1),([62],1),([62,61],1)] w W6):=S6)
  |(refine bX rfl 132 (.tmp 1) (.const (vS #[38])) (.const (vI 2)) rfl (LV.run S6.out [38] 2 rfl) ?_;have S7:=zh (LV.put S6.out [38] 2);generalize dM _ _ _ _=W7 at S7 ⊢;clear S6;have S7:Hid (LV q [([61],1),([60,62],1),([60],1),([60,61],1),([62],1),([62,61],1),([38],2)] w W7):=S7)
  |(refine bX rfl 132 (.tmp 1) (.const (vS #[43])) (.const (vI 3)) rfl (LV.run S7.out [43] 3 rfl) ?_;have S8:=zh (LV.put S7.out [43] 3);generalize dM _ _ _ _=W8 at S8 ⊢;clear S7;have S8:Hid (LV q [([61],1),([60,62],1),([60],1),([60,61],1),([62],1),([62,61],1),([38],2),([43],3)] w W8):=S8)
  |(refine bX rfl 132 (.tmp 1) (.const (vS #[45])) (.const (vI 3)) rfl (LV.run S8.out [45] 3 rfl) ?_;have S9:=zh (LV.put S8.out [45] 3);generalize dM _ _ _ _=W9 at S9 ⊢;clear S8;have S9:Hid (LV q [([61],1),([60,62],1),([60],1),([60,61],1),([62],1),([62,61],1),([38],2),([43],3),([45],3)] w W9):=S9)
  |(refine bX rfl 132 (.tmp 1) (.const (vS #[42])) (.const (vI 4)) rfl (LV.run S9.out [42] 4 rfl) ?_;have S10:=zh (LV.put S9.out [42] 4);generalize dM _ _ _ _=W10 at S10 ⊢;clear S9;have S10:Hid (LV q [([61],1),([60,62],1),([60],1),([60,61],1),([62],1),([62,61],1),([38],2),([43],3),([45],3),([42],4)] w W10):=S10)
  |(refine bX rfl 132 (.tmp 1) (.const (vS #[47])) (.const (vI 4)) rfl (LV.run S10.out [47] 4 rfl) ?_;have S11:=zh (LV.put S10.out [47] 4);generalize dM _ _ _ _=W11 at S11 ⊢;clear S10;have S11:Hid (LV q [([61],1),([60,62],1),([60],1),([60,61],1),([62],1),([62,61],1),([38],2),([43],3),([45],3),([42],4),([47],4)] w W11):=S11)
  |(refine bX rfl 132 (.tmp 1) (.const (vS #[94])) (.const (vI 5)) rfl (LV.run S11.out [94] 5 rfl) ?_;have S12:=zh (LV.put S11.out [94] 5);generalize dM _ _ _ _=W12 at S12 ⊢;clear S11;have S12:Hid (LV q [([61],1),([60,62],1),([60],1),([60,61],1),([62],1),([62,61],1),([38],2),([43],3),([45],3),([42],4),([47],4),([94],5)] w W12):=S12))
 go_ret
 exact⟨rfl,HP.out _ S12.out⟩
theorem bL{P:Program}{w:World}(mty kt et:TypeId)(r clock:Nat)(es:Array MapEntry)(s:ByteArray)(i:Nat)(v:Value)(hm:P.underlying mty=some (.map kt et))(hk:P.underlying kt=some .string)(hb:w.heap[r]?=some (.map es clock))(hf:Instr.findNow .string (.string s) es.toList 0=some (some (i,v))) :
  (Instr.lookup mty (.map (some r)) (.string s) false).run P w=.ok v w:=by
 have hc:(Instr.checkKey es.isEmpty 10000 kt (.string s)).run P w=.ok () w:=MapKept.run_checkKey (k:=.string s) hk (by simp[MapKept.IsKey]) _ 9999;simp[Instr.lookup,run_underlying hm,MapKept.run_getObj_map hb,hc,MapKept.run_findKey hk hf,Result.andThen]
theorem look_lev{W:World}{m:Nat}(h:LvM W m){s:Bs}(hs:iM s=true):(Instr.lookup 132 (.map (some m)) (vT s) false).run Tryz.prog W=.ok (vI (bS s)) W:=by
 unfold iM at hs;simp only[Bool.or_eq_true,beq_iff_eq]at hs;rcases hs with((((((((((h1|h1)|h1)|h1)|h1)|h1)|h1)|h1)|h1)|h1)|h1)|h1 <;> subst h1
 ·exact bL 132 9 3 m 12 (hH mI) ⟨#[43]⟩ 7 (vI 3) oA Tryz.underlying9 h rfl
 ·exact bL 132 9 3 m 12 (hH mI) ⟨#[45]⟩ 8 (vI 3) oA Tryz.underlying9 h rfl
 ·exact bL 132 9 3 m 12 (hH mI) ⟨#[42]⟩ 9 (vI 4) oA Tryz.underlying9 h rfl
 ·exact bL 132 9 3 m 12 (hH mI) ⟨#[47]⟩ 10 (vI 4) oA Tryz.underlying9 h rfl
 ·exact bL 132 9 3 m 12 (hH mI) ⟨#[94]⟩ 11 (vI 5) oA Tryz.underlying9 h rfl
 ·exact bL 132 9 3 m 12 (hH mI) ⟨#[38]⟩ 6 (vI 2) oA Tryz.underlying9 h rfl
 ·exact bL 132 9 3 m 12 (hH mI) ⟨#[61]⟩ 0 (vI 1) oA Tryz.underlying9 h rfl
 ·exact bL 132 9 3 m 12 (hH mI) ⟨#[60,62]⟩ 1 (vI 1) oA Tryz.underlying9 h rfl
 ·exact bL 132 9 3 m 12 (hH mI) ⟨#[60]⟩ 2 (vI 1) oA Tryz.underlying9 h rfl
 ·exact bL 132 9 3 m 12 (hH mI) ⟨#[60,61]⟩ 3 (vI 1) oA Tryz.underlying9 h rfl
 ·exact bL 132 9 3 m 12 (hH mI) ⟨#[62]⟩ 4 (vI 1) oA Tryz.underlying9 h rfl
 exact bL 132 9 3 m 12 (hH mI) ⟨#[62,61]⟩ 5 (vI 1) oA Tryz.underlying9 h rfl
theorem yF{p m:Nat}{rp cp:Option Nat}{R C:AxV}{sf:Value}{ts:List RTok}(k:Int)(s:Bs)(w:World)(h:WrS w p m rp cp R C sf ts)(hn:ts.length<=900000) :
  Calls Tryz.prog 135 #[vP p 0,vI k,vT s] w fun e w'=>WrO p m rp cp R C sf (ts++[tk k s]) w e w':=by
 obtain⟨v,hl,ho⟩:=h.box;obtain⟨A,c,rfl⟩:=aZ ho;have c4:w.cell? ⟨p,4,none⟩=some (.slice A ts.length c):=hl.cell 4;have hp:=hl.lt;obtain⟨i1,gi,gz0,gz1,gz2⟩:=info_parts qP;obtain⟨W1,am⟩:=zD (w.alloc (.cells #[vI k,vT s,vI 0] 64))
 have b6:=zA am;have ew:Hid (WrS W1 p m rp cp R C sf ts):=zh (h.next b6.out);have i9:Hid (Lies W1 p 135 #[.pointer (ptr rp),.pointer (ptr cp),.map (some m),sf,.slice A ts.length c]):=zh (hl.next b6.out);have pn:Hid (W1.ownsRow (p+1) 64 3 (.slice A ts.length c) ts.length (iY ts)):=zh (aI b6.out ho);have HN:Hid (∀ j u,(fH (tk k s))[j]?=some u->W1.cell? ((⟨w.heap.size,0,none⟩:Addr).add j)=some u):=zh (fun j u hj=>by
  have hL:Lies W1 w.heap.size 64 #[vI k,vT s,vI 0]:=by rw[am];exact Lies.new w _ _
  have e:(⟨w.heap.size,0,none⟩:Addr).add j=⟨w.heap.size,j,none⟩:=by cases j <;> simp[Addr.add]
  rw[e,hL.cell j];simpa [fH] using hj)
 have al:=zh am;have jy:Hid (p+1<=W1.heap.size):=zh (by have:=b6.out.size;omega);clear h hl ho am
 go_in
 go_wp2_with (first
  |(at_builtin;rw[<- al.out];refine wpList_append_own (P:=Tryz.prog) _ rfl _ _ 60 rfl (p+1) 64 i1 (.agg #[vI 0,vS #[],vI 0]) 3 32 Tryz.underlying60 gi gz0 gz1 gz2 rfl (by decide) (.slice A ts.length c) ts.length (iY ts) rfl pn.out ⟨w.heap.size,0,none⟩ 1 1 (fH (tk k s)) rfl rfl HN.out (lJ _) (by unfold maxLen;omega) (by omega) jy.out (fun v' w' k1 k2 _=>?_);obtain⟨A',c',rfl⟩:=aZ k1;have K1:=zh k1;have K2:=zh k2;have c5:w'.cell? ⟨p,4,none⟩=some (.slice A ts.length c):=((i9.out.grownA k2 (fun e=>by have:=(pn.out.lt p e.symm).1;omega)).cell 4);have f5:w'.frozen? ⟨p,4,none⟩=false:=((i9.out.grownA k2 (fun e=>by have:=(pn.out.lt p e.symm).1;omega)).frozen 4);clear k1 k2))
 go_end0
 have h1:=K1.out;rw[<- nW]at h1;have dj:W1.cell? ⟨p,4,none⟩=some (.slice A ts.length c):=i9.out.cell 4;have hg:=ew.out.grown (ts':=ts++[tk k s]) dj (by rw[yl];exact h1) K2.out;exact⟨rfl,hg.1,(Kw.of_below b6.out).trans hg.2⟩
theorem kN{p m:Nat}{rp cp:Option Nat}{R C:AxV}{sf:Value}{ts:List RTok}(w:World)(h:WrS w p m rp cp R C sf ts)(hn:ts.length<=900000) :
  Calls Tryz.prog 193 #[vP p 0] w fun e w'=>WrO p m rp cp R C sf (ts++dS) w e w':=by
 have CF:Hid (Calls Tryz.prog 113 #[vI 3] w fun e w'=>e=.returned (vS #[35,82,69,70,33])/\w=w'):=zh (gT 3 w h.gl.tab);have CP:Hid (Calls Tryz.prog 135 #[vP p 0,vI 6,vS #[35,82,69,70,33]] w fun e w'=>WrO p m rp cp R C sf (ts++dS) w e w'):=zh (yF 6 [35,82,69,70,33] w h hn);clear h hn;generalize ts++dS=g at *
 go_in
 go_wp2_with (first
  |((with_reducible refine CF.out.mono ?_);rintro e wx ⟨rfl,rfl⟩)
  |((with_reducible refine CP.out.mono ?_);rintro e wx ⟨rfl,hs,hk⟩;have HS:=zh hs;have HK:=zh hk;clear hs hk))
 go_end0
 exact⟨rfl,HS.out,HK.out⟩
def rI(h:NodeH):Int:=if h.kind=6 then bS h.name else if h.kind=5 then if h.name=[37] then 7 else 6 else 8
theorem uEN(t:Tree):eI t=rI t.h:=rfl
theorem sB{p m:Nat}{rp cp:Option Nat}{R C:AxV}{sf:Value}{ts:List RTok}(h:NodeH)(A:Option Addr)(n c:Nat)(Cn:List Value)(w:World)(ah:Hid (Cn.toArray=aH h A n c))(hw:WrS w p m rp cp R C sf ts)(h6:h.kind=6->iM h.name=true) :
  Calls Tryz.prog 133 #[vP p 0,.agg Cn.toArray] w fun e w'=>e=.returned (vI (rI h))/\Below w.heap.size w w':=by
 obtain⟨W1,am⟩:=zD (w.alloc (.cells Cn.toArray 34))
 have al:=zh am;have HL:=zL am;have HB:=zA am;have HWr:=zh (hw.next HB.out);have c0:=HL.out.cell 0;have c7:=HL.out.cell 7;rw[ah.out]at c0 c7;obtain⟨k,v,s,a,b,r⟩:=h;simp only[aH,za,zb,zf]at c0 c7;obtain⟨x,hx⟩:=zD (rI ⟨k,v,s,a,b,r⟩)
 have HX:=zh hx;rw[<- hx];clear am hx ah hw;by_cases e6:k=6
 ·subst e6;have HE:Hid (x=bS s):=zh (HX.out.trans rfl);obtain⟨wv,hl,-⟩:=HWr.out.box;have c2:W1.cell? ⟨p,2,none⟩=some (.map (some m)):=hl.cell 2;have wd:=look_lev (HWr.out.lv.at (rfl:W1.drew.heap[m]?=W1.heap[m]?)) (h6 rfl);rw[<- HE.out]at wd;obtain⟨W5,ee⟩:∃ W,W=W1.drew:=⟨_,rfl⟩
  have bg:Hid (Below w.heap.size w W5):=zh (by rw[ee];exact HB.out.drew);clear HX hl h6
  go_in
  go_upto_region 1 with fail
  rw[<- al.out];clear al
  go_upto_region 2 with fail
  go_cut [4] (fun va wx=>va=vI x/\Hid (wx=W5))
  case first=>
   go_region
   all_goals go_wp2_with fail
   all_goals go_meet
   all_goals exact⟨rfl,zh ee.symm⟩
  case rest=>
  obtain⟨rfl,hcut⟩:=hcut;obtain rfl:W5=wc:=hcut.out.symm;clear wd ee hcut c0 c7 c2
  go_wp2_with fail
  go_ret
  exact⟨rfl,bg.out⟩
 by_cases h5:k=5
 ·subst h5;by_cases s1:s=[37]
  ·subst s1;have HE:Hid (x=7):=zh (HX.out.trans rfl);clear HX h6
   go_in
   go_upto_region 1 with fail
   rw[<- al.out];clear al
   go_wp2_with fail
   go_ret
   exact⟨by(rw[HE.out]) <;> rfl,HB.out⟩
  have HE:Hid (x=6):=zh (HX.out.trans (by unfold rI;rw[if_neg (by show ¬ (5:Int)=6;omega),if_pos rfl,if_neg s1]));have b1:(s==[37])=false:=by simp[s1]
  clear HX h6
  go_in
  go_upto_region 1 with fail
  rw[<- al.out];clear al
  go_wp2_with fail
  go_ret
  exact⟨by(rw[HE.out]) <;> rfl,HB.out⟩
 have HE:Hid (x=8):=zh (HX.out.trans (by unfold rI;rw[if_neg e6,if_neg h5]));have k6:(k==6)=false:=by simp[e6]
 have k5:(k==5)=false:=by simp[h5]
 clear HX h6
 go_in
 go_upto_region 1 with fail
 rw[<- al.out];clear al
 go_wp2_with fail
 go_ret
 exact⟨by(rw[HE.out]) <;> rfl,HB.out⟩
theorem uU{v:Val}(h:aR v=true):v.kind=0\/v.kind=1\/v.kind=2\/v.kind=3\/v.kind=4:=by
 by_cases h0:v.kind=0
 ·exact .inl h0
 by_cases h1:v.kind=1
 ·exact .inr (.inl h1)
 by_cases h2:v.kind=2
 ·exact .inr (.inr (.inl h2))
 by_cases h3:v.kind=3
 ·exact .inr (.inr (.inr (.inl h3)))
 by_cases h4:v.kind=4
 ·exact .inr (.inr (.inr (.inr h4)))
 rw[mY v h0 h1 h2 h3 h4]at h;cases h
theorem nS{m e:Int}(h:bF m e=true):-9223372036854775808<=m/\m<=9223372036854775807:=by
 by_cases hz:m=0
 ·omega
 have:=kG h hz;omega
theorem xF(v:Val)(hR:aR v=true):v=⟨0,0,0,[],false,0⟩\/(∃ m e,v=⟨1,m,e,[],false,0⟩/\bF m e=true)\/(∃ t,v=⟨2,0,0,t,false,0⟩/\t.length<=255)
  \/ (∃ b,v=⟨3,0,0,[],b,0⟩)\/(∃ f,v=⟨4,0,0,[],false,f⟩/\1<=f/\f<=9):=by
 rcases uU hR with h|h|h|h|h
 ·exact .inl ((fU _ _).1 ((mW v h).symm.trans hR))
 ·have k:=(rY v h).symm.trans hR;obtain⟨k1,k2⟩:=Bool.and_eq_true_iff.1 k;exact .inr (.inl ⟨_,_,(fU _ _).1 k2,k1⟩)
 ·have k:=(fU _ _).1 ((pG v h).symm.trans hR);rcases Nat.lt_or_ge 255 v.text.length with hl|hl
  ·have:pH v.text=pL 2:=if_pos hl;rw[this]at k;rw[k]at h;exact absurd h (by decide)
  have:pH v.text=⟨2,0,0,v.text,false,0⟩:=if_neg (by omega);rw[this]at k;exact .inr (.inr (.inl ⟨_,k,hl⟩))
 ·exact .inr (.inr (.inr (.inl ⟨_,(fU _ _).1 ((mZ v h).symm.trans hR)⟩)))
 have k:=(fU _ _).1 ((mX v h).symm.trans hR);refine .inr (.inr (.inr (.inr ⟨v.fault,?_,?_⟩)))
 ·rw[k];show (⟨4,0,0,[],false,if v.fault<1\/9<v.fault then 9 else v.fault⟩:Val)=⟨4,0,0,[],false,(pL v.fault).fault⟩;rfl
 rw[k];show 1<=(if v.fault<1\/9<v.fault then 9 else v.fault)/\(if v.fault<1\/9<v.fault then 9 else v.fault)<=9
 split <;> omega
theorem Kw.loc{p b:Nat}{X:List Nat}{a W W':World}(h:Kw p X a W)(hk:Kp [b] W W')(hb:a.heap.size<=b):Kw p X a W' :=
 Kp.andThen h hk (fun g hg=>.inr (by rw[yf.1 hg];exact hb))
theorem WrS.loc{W W':World}{p m b:Nat}{rp cp:Option Nat}{R C:AxV}{sf:Value}{ts:List RTok}(h:WrS W p m rp cp R C sf ts)(hk:Kp [b] W W')(hb:p<b){t:TypeId}{cs:Array Value}(hl:Lies W b t cs)(h1:t≠64)(h2:t≠27)(h3:t≠4)(h4:t≠3)(h5:t≠152):WrS W' p m rp cp R C sf ts:=by
 obtain⟨v,g1,g2⟩:=h.box;have hY:NoAx W [b]:=fun y hy _=>by
  rw[yf.1 hy];exact⟨t,cs,hl,h2,h3,h4,h5⟩
 refine⟨⟨v,hk.lies g1 (fun hm=>by have:=yf.1 hm;omega),bN g2 hk (fun g hg hm=>?_)⟩,h.ax.kp hk hY,h.ay.kp hk hY,h.ne,h.lv.at (hk.block _ h.lv.lt (fun hm=>?_)),h.gl.kp hk (fun y hy=>?_),h.lo,h.pl,h.ml⟩
 ·obtain⟨_,lm,k⟩:=uZ g2 g hg;exact fG hl k (fun e=>h1 e.symm) (yf.1 hm).symm
 ·have:=yf.1 hm;have:=h.ml;omega
 rw[yf.1 hy];obtain⟨q1,q2,q3⟩:=h.pl;exact⟨by omega,by omega,by omega⟩
theorem kD(W:World)(b i:Nat)(u:Value):Kp [b] W (W.setCell ⟨b,i,none⟩ u):=Kp.set (Kp.refl _ _) (.inl (.head _)) i u
theorem Lies.two{w:World}{b:Nat}{t:TypeId}{x y:Value}(h:Lies w b t #[x,y]):w.cell? ⟨b,0,none⟩=some x/\w.cell? ⟨b,1,none⟩=some y/\w.frozen? ⟨b,0,none⟩=false/\w.frozen? ⟨b,1,none⟩=false/\b<w.heap.size:=⟨h.cell 0,h.cell 1,h.frozen 0,h.frozen 1,h.lt⟩
theorem bP{p m:Nat}{rp cp:Option Nat}{R C:AxV}{sf:Value}(k:Int)(s:Bs)(S:Array UInt8)(hS:S=s.toArray)(t:RTok)(ht:t=tk k s):∀ (W:World) (ts:List RTok),WrS W p m rp cp R C sf ts->ts.length<=900000->Calls Tryz.prog 135 #[vP p 0,vI k,vS S] W fun e w'=>WrO p m rp cp R C sf (ts++[t]) W e w':=fun W ts h hn=>by
 subst hS ht;exact yF k s W h hn
theorem uFM{p m:Nat}{rp cp:Option Nat}{R C:AxV}{sf:Value}{ts:List RTok}(t:Bs)(w:World)(h:WrS w p m rp cp R C sf ts)(hn:ts.length<=800000) :
  Calls Tryz.prog 132 #[vP p 0,.agg #[vI 2,vI 0,vI 0,vT t,.bool false,vI 0]] w fun e w'=>WrO p m rp cp R C sf (ts++[tk 2 t]) w e w':=by
 obtain⟨W0,ak⟩:=zD (w.alloc (.cells #[vI 2,vI 0,vI 0,vT t,.bool false,vI 0] 25))
 have ai:=zh ak;have au:=zA ak;have L0:Lies W0 w.heap.size 25 #[vI 2,vI 0,vI 0,vT t,.bool false,vI 0]:=by rw[ak];exact Lies.new w _ _
 have c0:=L0.cell 0;have c3:=L0.cell 3;simp only[za,zb,zf]at c0 c3;obtain⟨x,hx⟩:=zD (tk 2 t)
 have CP:=zh (bP (p:=p) (m:=m) (rp:=rp) (cp:=cp) (R:=R) (C:=C) (sf:=sf) 2 t t.toArray rfl x hx);rw[<- hx];have HS:=zh (h.next au.out);clear h hx L0 ak
 go_in
 go_upto_region 1 with fail
 rw[<- ai.out];clear ai
 go_wp2_with ((with_reducible refine(CP.out _ _ HS.out (by omega)).mono ?_);rintro e wx ⟨rfl,hs,hk⟩;have ln:=zh hs;have ep:=zh hk;clear hs hk c0 c3)
 go_end0
 exact⟨rfl,ln.out,(Kw.of_below au.out).trans ep.out⟩
theorem uBT{p m:Nat}{rp cp:Option Nat}{R C:AxV}{sf:Value}{ts:List RTok}(f:Int)(w:World)(h:WrS w p m rp cp R C sf ts)(hn:ts.length<=800000) :
  Calls Tryz.prog 132 #[vP p 0,.agg #[vI 4,vI 0,vI 0,vS #[],.bool false,vI f]] w fun e w'=>WrO p m rp cp R C sf (ts++[tk 6 (bA f)]) w e w':=by
 obtain⟨W0,ak⟩:=zD (w.alloc (.cells #[vI 4,vI 0,vI 0,vS #[],.bool false,vI f] 25))
 have ai:=zh ak;have au:=zA ak;have L0:Lies W0 w.heap.size 25 #[vI 4,vI 0,vI 0,vS #[],.bool false,vI f]:=by rw[ak];exact Lies.new w _ _
 have c0:=L0.cell 0;have c5:=L0.cell 5;simp only[za,zb,zf]at c0 c5;obtain⟨x,hx⟩:=zD (tk 6 (bA f))
 have CP:=zh (bP (p:=p) (m:=m) (rp:=rp) (cp:=cp) (R:=R) (C:=C) (sf:=sf) 6 (bA f) (bA f).toArray rfl x hx);rw[<- hx];have HS:=zh (h.next au.out);have CF:=zh (gT f W0 HS.out.gl.tab);generalize bA f=T at *;clear h hx L0 ak
 go_in
 go_upto_region 1 with fail
 rw[<- ai.out];clear ai
 go_wp2_with (first
  |((with_reducible refine CF.out.mono ?_);rintro e wx ⟨rfl,rfl⟩)
  |((with_reducible refine(CP.out _ _ HS.out (by omega)).mono ?_);rintro e wx ⟨rfl,hs,hk⟩;have ln:=zh hs;have ep:=zh hk;clear hs hk c0 c5))
 go_end0
 exact⟨rfl,ln.out,(Kw.of_below au.out).trans ep.out⟩
theorem uBU{p m:Nat}{rp cp:Option Nat}{R C:AxV}{sf:Value}{ts:List RTok}(b:Bool)(w:World)(h:WrS w p m rp cp R C sf ts)(hn:ts.length<=800000) :
  Calls Tryz.prog 132 #[vP p 0,.agg #[vI 3,vI 0,vI 0,vS #[],.bool b,vI 0]] w fun e w'=>WrO p m rp cp R C sf (ts++[tk 3 (if b then sF else noB)]) w e w':=by
 obtain⟨W0,ak⟩:=zD (w.alloc (.cells #[vI 3,vI 0,vI 0,vS #[],.bool b,vI 0] 25))
 have ai:=zh ak;have au:=zA ak;have L0:Lies W0 w.heap.size 25 #[vI 3,vI 0,vI 0,vS #[],.bool b,vI 0]:=by rw[ak];exact Lies.new w _ _
 have c0:=L0.cell 0;have c1:=L0.cell 1;have c2:=L0.cell 2;have c3:=L0.cell 3;have c4:=L0.cell 4;have c5:=L0.cell 5;simp only[za,zb,zf]at c0 c1 c2 c3 c4 c5;obtain⟨x,hx⟩:=zD (tk 3 (if b then sF else noB))
 have CP:=zh (bP (p:=p) (m:=m) (rp:=rp) (cp:=cp) (R:=R) (C:=C) (sf:=sf) 3 (if b then sF else noB) (if b then sF else noB).toArray rfl x hx);rw[<- hx];have HS:=zh (h.next au.out);have CF:Hid (Calls Tryz.prog 60 #[.agg #[vI 3,vI 0,vI 0,vS #[],.bool b,vI 0]] W0 fun e w'=>e=.returned (vT (if b then sF else noB))/\Below W0.heap.size W0 w'):=zh (by
  have h:=xL ⟨3,0,0,[],b,0⟩ W0 HS.out.gl.tab HS.out.gl.pow (by show (-9223372036854775808:Int)<=0;decide) (by show (0:Int)<=9223372036854775807;decide) (fun h=>by cases h);exact h)
 generalize (if b then sF else noB)=T at *;clear h hx L0 ak
 go_in
 go_upto_region 1 with fail
 rw[<- ai.out];clear ai
 go_wp2_with (first
  |((with_reducible refine CF.out.mono ?_);rintro e wx ⟨rfl,hb⟩;have ew:=zh (HS.out.next hb);have b6:=zh hb;clear hb)
  |((with_reducible refine(CP.out _ _ ew.out (by omega)).mono ?_);rintro e wx ⟨rfl,hs,hk⟩;have ln:=zh hs;have ep:=zh hk;clear hs hk c0 c1 c2 c3 c4 c5))
 go_end0
 exact⟨rfl,ln.out,((Kw.of_below au.out).trans (Kw.of_below b6.out)).trans ep.out⟩
theorem wlit_pos{p m:Nat}{rp cp:Option Nat}{R C:AxV}{sf:Value}{ts:List RTok}(mt e:Int)(w:World)(h:WrS w p m rp cp R C sf ts)(hn:ts.length<=800000)(hR:bF mt e=true)(h0:0<=mt) :
  Calls Tryz.prog 132 #[vP p 0,.agg #[vI 1,vI mt,vI e,vS #[],.bool false,vI 0]] w fun e' w'=>WrO p m rp cp R C sf (ts++[tk 1 (cF mt e)]) w e' w':=by
 obtain⟨h1,h2⟩:=nS hR;obtain⟨W0,ak⟩:=zD (w.alloc (.cells #[vI 1,vI mt,vI e,vS #[],.bool false,vI 0] 25))
 obtain⟨W1,am⟩:=zD (W0.alloc (.cells #[vI mt,vI e] 23))
 have ai:=zh ak;have al:=zh am;have au:=zA ak;have b6:=zA am;have L0:Lies W0 w.heap.size 25 #[vI 1,vI mt,vI e,vS #[],.bool false,vI 0]:=by rw[ak];exact Lies.new w _ _
 have L1:Lies W1 W0.heap.size 23 #[vI mt,vI e]:=by rw[am];exact Lies.new W0 _ _
 have c0:=L0.cell 0;have c1:=L0.cell 1;have c2:=L0.cell 2;have d0:=L1.cell 0;have d1:=L1.cell 1;simp only[za,zb,zf]at c0 c1 c2 d0 d1;obtain⟨x,hx⟩:=zD (tk 1 (cF mt e))
 have CP:=zh (bP (p:=p) (m:=m) (rp:=rp) (cp:=cp) (R:=R) (C:=C) (sf:=sf) 1 (cF mt e) (cF mt e).toArray rfl x hx);rw[<- hx];have HS:=zh ((h.next au.out).next b6.out);have CF:=zh (jS mt e W1 HS.out.gl.pow h1 h2 hR);have hm:¬ mt<0:=by omega
 generalize cF mt e=T at *;clear h hx L0 L1 ak am h1 h2 hR
 go_in
 go_upto_region 1 with fail
 rw[<- ai.out];clear ai
 go_upto_region 4 with fail
 rw[<- al.out];clear al
 go_wp2_with (first
  |((with_reducible refine CF.out.mono ?_);rintro e wx ⟨rfl,hb⟩;have ew:=zh (HS.out.next hb);have bm:=zh hb;clear hb)
  |((with_reducible refine(CP.out _ _ ew.out (by omega)).mono ?_);rintro e wx ⟨rfl,hs,hk⟩;have ln:=zh hs;have ep:=zh hk;clear hs hk c0 c1 c2 d0 d1))
 go_end0
 exact⟨rfl,ln.out,(((Kw.of_below au.out).trans (Kw.of_below b6.out)).trans (Kw.of_below bm.out)).trans ep.out⟩
theorem wlit_neg{p m:Nat}{rp cp:Option Nat}{R C:AxV}{sf:Value}{ts:List RTok}(mt e:Int)(w:World)(h:WrS w p m rp cp R C sf ts)(hn:ts.length<=800000)(hR:bF mt e=true)(h0:mt<0) :
  Calls Tryz.prog 132 #[vP p 0,.agg #[vI 1,vI mt,vI e,vS #[],.bool false,vI 0]] w fun e' w'=>WrO p m rp cp R C sf (ts++[tk 5 [45]]++[tk 1 (cF (-mt) e)]) w e' w':=by
 have yc:=uEV mt e hR;obtain⟨g1,g2⟩:=nS hR;obtain⟨h1,h2⟩:=nS yc;have hmb:=(kG hR (by omega)).1;obtain⟨W0,ak⟩:=zD (w.alloc (.cells #[vI 1,vI mt,vI e,vS #[],.bool false,vI 0] 25))
 obtain⟨W1,am⟩:=zD (W0.alloc (.cells #[vI mt,vI e] 23))
 have ai:=zh ak;have al:=zh am;have au:=zA ak;have b6:=zA am;have L0:Lies W0 w.heap.size 25 #[vI 1,vI mt,vI e,vS #[],.bool false,vI 0]:=by rw[ak];exact Lies.new w _ _
 have L1:Lies W1 W0.heap.size 23 #[vI mt,vI e]:=by rw[am];exact Lies.new W0 _ _
 have c0:=L0.cell 0;have c1:=L0.cell 1;have c2:=L0.cell 2;have d0:=L1.cell 0;have d1:=L1.cell 1;simp only[za,zb,zf]at c0 c1 c2 d0 d1;have i9:=zh L1;have ws:Hid (Kw p (rp.toList++cp.toList) w W1):=zh ((Kw.of_below au.out).trans (Kw.of_below b6.out));have jy:Hid (w.heap.size<=W0.heap.size/\p<W0.heap.size):=zh ⟨au.out.size,yu h.lt au.out.size⟩;obtain⟨x,hx⟩:=zD (tk 5 [45])
 obtain⟨y,hy⟩:∃ x,x=tk 1 (cF (-mt) e):=⟨_,rfl⟩
 have CP:=zh (bP (p:=p) (m:=m) (rp:=rp) (cp:=cp) (R:=R) (C:=C) (sf:=sf) 5 [45] #[45] rfl x hx);have CQ:=zh (bP (p:=p) (m:=m) (rp:=rp) (cp:=cp) (R:=R) (C:=C) (sf:=sf) 1 (cF (-mt) e) (cF (-mt) e).toArray rfl y hy);rw[<- hx,<- hy];have HS:=zh ((h.next au.out).next b6.out);have CN:Hid (∀ W,Calls Tryz.prog 192 #[.agg #[vI mt,vI e]] W fun x w'=>x=.returned (.agg #[vI (-mt),vI e])/\Below W.heap.size W w'):=zh (fun W=>uEI mt e W (by omega) g2 hR);have CF:Hid (∀ W,PowTab W->Calls Tryz.prog 181 #[.agg #[vI (-mt),vI e]] W fun x w'=>x=.returned (vT (cF (-mt) e))/\Below W.heap.size W w'):=zh (fun W hp=>jS (-mt) e W hp h1 h2 yc);generalize cF (-mt) e=T at *;obtain⟨mn,hmn⟩:∃ z,z=-mt:=⟨_,rfl⟩
 rw[<- hmn]at CN CF;clear h hx hy L0 L1 ak am h1 h2 hR yc g1 g2 hmb hmn au b6
 go_in
 go_upto_region 1 with fail
 rw[<- ai.out];clear ai
 go_upto_region 4 with fail
 rw[<- al.out];clear al
 go_wp2_with (first
  |((with_reducible refine(CP.out _ _ HS.out (by omega)).mono ?_);rintro e wx ⟨rfl,hs,hk⟩;have ie:=zh (Kw.lies hk HS.out i9.out (by decide) (by decide) (by decide));have ln:=zh hs;have ep:=zh (ws.out.trans hk);clear hs hk c0 c1 c2 d0 d1;obtain⟨d0,d1,f0,f1,z0⟩:=ie.out.two)
  |((with_reducible refine(CN.out _).mono ?_);rintro e wx ⟨rfl,hb⟩;have tu:=zh (ie.out.next hb);have qn:=zh (ln.out.next hb);have nj:=zh (ep.out.trans (Kw.of_below hb));clear hb d0 d1 f0 f1 z0;obtain⟨d0,d1,f0,f1,z0⟩:=tu.out.two)
  |(have k1:=kD wx W0.heap.size 0 (vI mn);have k2:=k1.trans (kD (wx.setCell ⟨W0.heap.size,0,none⟩ (vI mn)) W0.heap.size 1 (vI e));have qj:Hid (Lies ((wx.setCell ⟨W0.heap.size,0,none⟩ (vI mn)).setCell ⟨W0.heap.size,1,none⟩ (vI e)) W0.heap.size 23 #[vI mn,vI e]):=zh ((tu.out.put 0 (vI mn)).put 1 (vI e));have ik:=zh (qn.out.loc k2 jy.out.2 tu.out (by decide) (by decide) (by decide) (by decide) (by decide));have fh:=zh (nj.out.loc k2 jy.out.1);clear k1 k2;generalize ((wx.setCell ⟨W0.heap.size,0,none⟩ (vI mn)).setCell ⟨W0.heap.size,1,none⟩ (vI e))=W4 at qj ik fh ⊢;(with_reducible refine(CF.out _ ik.out.gl.pow).mono ?_);rintro e wx ⟨rfl,hb⟩;have qo:=zh (ik.out.next hb);have j3:=zh (fh.out.trans (Kw.of_below hb));clear hb)
  |((with_reducible refine(CQ.out _ _ qo.out (by rw[yl];simp;omega)).mono ?_);rintro e wx ⟨rfl,hs,hk⟩;have dq:=zh hs;have tj:=zh (j3.out.trans hk);clear hs hk))
 go_end0
 exact⟨rfl,dq.out,tj.out⟩
theorem vN{p m:Nat}{rp cp:Option Nat}{R C:AxV}{sf:Value}{ts:List RTok}(v:Val)(w:World)(h:WrS w p m rp cp R C sf ts)(hn:ts.length<=800000)(hR:aR v=true)(h0:v.kind≠0) :
  Calls Tryz.prog 132 #[vP p 0,gW v] w fun e w'=>WrO p m rp cp R C sf (ts++kR v) w e w':=by
 rcases xF v hR with rfl|⟨mt,e,rfl,g⟩|⟨t,rfl,g⟩|⟨b,rfl⟩|⟨f,rfl,h1,h2⟩
 ·exact absurd rfl h0
 ·by_cases hm:mt<0
  ·have e1:ts++kR ⟨1,mt,e,[],false,0⟩=ts++[tk 5 [45]]++[tk 1 (cF (-mt) e)]:=by unfold kR;rw[if_pos rfl,if_pos hm];simp
   rw[e1];exact wlit_neg mt e w h hn g hm
  have e1:kR ⟨1,mt,e,[],false,0⟩=[tk 1 (cF mt e)]:=by unfold kR;rw[if_pos rfl,if_neg hm]
  rw[e1];exact wlit_pos mt e w h hn g (by omega)
 ·exact uFM t w h hn
 ·exact uBU b w h hn
 exact uBT f w h hn
theorem Lies.rangeM{w:World}{b:Nat}{t:TypeId}{C:List Value}(h:Lies w b t C.toArray):w.rangeAt b 0 C:=by
 have:=h.range
 rwa [List.toList_toArray]at this
theorem dE{C:List Value}(h2:C.length=22):(Tryz.prog.info? 34).map (·.size)=some C.length:=by
 rw[h2];exact cM
theorem oP{C:List Value}{h:NodeH}{A:Option Addr}{n cp:Nat}(e:C.toArray=aH h A n cp):C.length=22:=by
 rw[<- yd,e];rfl
theorem yI{p m:Nat}{rp cp:Option Nat}{R C:AxV}{sf:Value}{ts:List RTok}(h:NodeH)(A:Option Addr)(n c:Nat)(Cn:List Value)(lev:Int)(oy:List RTok)(w:World)(ah:Hid (Cn.toArray=aH h A n c))(hw:WrS w p m rp cp R C sf ts)(h6:h.kind=6->iM h.name=true)(hn:ts.length+oy.length<=700000)
  (hT:∀ W ts',WrS W p m rp cp R C sf ts'->Kw p (rp.toList++cp.toList) w W->ts'.length<=ts.length+1->Calls Tryz.prog 74 #[vP p 0,.agg Cn.toArray] W fun e w'=>WrO p m rp cp R C sf (ts'++oy) W e w') :
  Calls Tryz.prog 134 #[vP p 0,.agg Cn.toArray,vI lev] w fun e w'=>WrO p m rp cp R C sf (ts++wrapT (rI h) lev oy) w e w':=by
 obtain⟨W0,ak⟩:=zD (w.alloc (.cells Cn.toArray 34))
 have ai:=zh ak;have au:=zA ak;have HK:Hid (Kw p (rp.toList++cp.toList) w W0):=zh (Kw.of_below au.out);have HL:=zL ak;have HS:=zh (hw.next au.out);have bk:=zh (dE (oP ah.out));have CV:=zh (fun W (hs:WrS W p m rp cp R C sf ts)=>sB h A n c Cn W ah hs h6);have CT:=zh hT;have iv:=zh hn;obtain⟨lv,lh⟩:=zD (rI h)
 rw[<- lh]at CV ⊢;clear ak hw hT h6 lh ah hn;by_cases hle:lev<=lv
 ·have e1:wrapT lv lev oy=oy:=by unfold wrapT;rw[if_pos hle]
  rw[e1];clear e1
  go_in
  go_upto_region 1 with fail
  rw[<- ai.out];clear ai
  go_wp2_with (first
   |(refine yr rfl 34 (.tmp 4) rfl w.heap.size 0 rfl Cn _ HL.out.rangeM Tryz.underlying34 rfl bk.out ?_)
   |((with_reducible refine(CV.out _ HS.out).mono ?_);rintro e wx ⟨rfl,hb⟩;replace HK:=zh (HK.out.trans (Kw.of_below hb));replace HL:=zh (HL.out.next hb);replace HS:=zh (HS.out.next hb);clear hb)
   |((with_reducible refine(CT.out _ _ HS.out HK.out (Nat.le_succ _)).mono ?_);rintro e wx ⟨rfl,hs,hk⟩;replace HK:=zh (HK.out.trans hk);replace HS:=zh hs;clear hs hk))
  go_end0
  exact⟨rfl,HS.out,HK.out⟩
 have e1:ts++wrapT lv lev oy=ts++[tk 5 [40]]++oy++[tk 5 [41]]:=by unfold wrapT;rw[if_neg hle];simp
 rw[e1];obtain⟨x,hx⟩:=zD (tk 5 [40])
 obtain⟨y,hy⟩:∃ x,x=tk 5 [41]:=⟨_,rfl⟩
 have CP:=zh (bP (p:=p) (m:=m) (rp:=rp) (cp:=cp) (R:=R) (C:=C) (sf:=sf) 5 [40] #[40] rfl x hx);have CQ:=zh (bP (p:=p) (m:=m) (rp:=rp) (cp:=cp) (R:=R) (C:=C) (sf:=sf) 5 [41] #[41] rfl y hy);rw[<- hx,<- hy];clear e1 hx hy
 go_in
 go_upto_region 1 with fail
 rw[<- ai.out];clear ai
 go_wp2_with (first
  |(refine yr rfl 34 (.tmp 4) rfl w.heap.size 0 rfl Cn _ HL.out.rangeM Tryz.underlying34 rfl bk.out ?_)
  |((with_reducible refine(CV.out _ HS.out).mono ?_);rintro e wx ⟨rfl,hb⟩;replace HK:=zh (HK.out.trans (Kw.of_below hb));replace HL:=zh (HL.out.next hb);replace HS:=zh (HS.out.next hb);clear hb)
  |((with_reducible refine(CP.out _ _ HS.out (by have:=iv.out;omega)).mono ?_);rintro e wx ⟨rfl,hs,hk⟩;replace HL:=zh (Kw.lies hk HS.out HL.out (by decide) (by decide) (by decide));replace HK:=zh (HK.out.trans hk);have ln:=zh hs;clear hs hk CP)
  |((with_reducible refine(CT.out _ _ ln.out HK.out (by simp)).mono ?_);rintro e wx ⟨rfl,hs,hk⟩;replace HK:=zh (HK.out.trans hk);have qn:=zh hs;clear hs hk)
  |((with_reducible refine(CQ.out _ _ qn.out (by have:=iv.out;simp only[yl,yi,List.length_nil];omega)).mono ?_);rintro e wx ⟨rfl,hs,hk⟩;replace HK:=zh (HK.out.trans hk);have ik:=zh hs;clear hs hk))
 go_end0
 exact⟨rfl,ik.out,HK.out⟩
theorem uDZ{W W':World}(h:Kp [] W W'):Below W.heap.size W W':=h.below (fun k hk=>by cases hk) zr
theorem oQ(y:List RTok):∀ (xs:List (List RTok)),bO (xs++[y])=if xs=[] then y else bO xs++([tk 5 [44]]++y)
 | []=>by simp[bO]
 | [a]=>by simp[bO]
 |a::b::r=>by
  have ih:=oQ y (b::r);rw[if_neg (by simp)]at ih;rw[if_neg (by simp)];show a++tk 5 [44]::bO (b::(r++[y]))=_;rw[show b::(r++[y])=(b::r)++[y] from rfl,ih];simp[bO]
theorem uFL{p m:Nat}{rp cp:Option Nat}{R C:AxV}{sf:Value}{ts:List RTok}(A:Option Addr)(ca:Nat)(TS:List (List RTok))(w:World)(hw:WrS w p m rp cp R C sf ts)
  (hK:∀ k (hk:k<TS.length),∃ g o ci,A=some ⟨g,o,none⟩/\(ci:List Value).length=22/\ci.toArray.all (·.oneCell')=true/\∀ W ts',WrS W p m rp cp R C sf ts'->Kw p (rp.toList++cp.toList) w W->W.rangeAt g (o+k*22) ci/\(ts'.length<=ts.length+(bO (TS.take k)).length+1->Calls Tryz.prog 74 #[vP p 0,.agg ci.toArray] W fun e w'=>WrO p m rp cp R C sf (ts'++TS[k]) W e w'))
  (hn:TS.length<=100000) (hl:∀ k,ts.length+(bO (TS.take k)).length<=700000) :
  Calls Tryz.prog 136 #[vP p 0,.slice A TS.length ca] w fun e w'=>WrO p m rp cp R C sf (ts++bO TS) w e w':=by
 obtain⟨tc,nn⟩:∃ x,x=tk 5 [44]:=⟨_,rfl⟩
 have CP:=zh (bP (p:=p) (m:=m) (rp:=rp) (cp:=cp) (R:=R) (C:=C) (sf:=sf) 5 [44] #[44] rfl tc nn);have sj:Hid (∀ k (hk:k<TS.length),bO (TS.take (k+1))=if k=0 then TS[k] else bO (TS.take k)++([tc]++TS[k])):=zh (fun k hk=>by
  rw[yw hk,oQ,nn];by_cases h0:k=0
  ·subst h0;simp
  rw[if_neg h0,if_neg (by
   intro h;rcases List.take_eq_nil_iff.1 h with h|h
   ·exact h0 h
   rw[h]at hk;exact absurd hk (Nat.not_lt_zero _))])
 have HKs:=zh hK;have HLl:=zh hl;have re:Hid (WrS w p m rp cp R C sf (ts++bO (TS.take 0))):=zh (by rw[List.take_zero];simpa [bO] using hw);have HTn:Hid (TS.take TS.length=TS):=zh (List.take_length);obtain⟨n,ev⟩:=zD TS.length
 have HN:=zh ev;rw[<- ev]at hn ⊢;clear hw hK hl nn ev
 go_in
 go_wp2_with fail
 go_loopw [8] (fun v8 wr=>∃ k:Nat,k<=n/\v8=vI (k:Int)/\Hid (WrS wr p m rp cp R C sf (ts++bO (TS.take k)))/\Hid (Kw p (rp.toList++cp.toList) w wr)) (fun v8 _=>n-(intOf v8).toNat)
 case atStart=>exact⟨0,zm _,rfl,re,zh (Kw.refl _ _ _)⟩
 case round=>
  obtain⟨k,hk,rfl,HS,HK⟩:=hrel;have tm:(k:Int)<=100000:=by omega
  clear re;by_cases hlt:k<n
  ·have ii:(k:Int)<(n:Int):=by omega
   have fi:k<TS.length:=by rw[<- HN.out];exact hlt
   have HE:=zh (sj.out k fi);obtain⟨g,o,ci,rfl,eh,hone,dv⟩:=HKs.out k fi;have bk:=zh (dE eh);have HInz:Hid ((Tryz.prog.info? 34).map (·.size)=some ci.toArray.size):=zh (by rw[yd,eh];exact cM);have HOne:=zh hone;have jv:=zh (dv wr _ HS.out HK.out).1;have CN:=zh (fun W ts' h1 h2=>(dv W ts' h1 h2).2);have ct:=zh (HLl.out k);have wt:Hid (Below wr.heap.size wr (World.setCells (wr.alloc (.cells eR.toArray 34)) wr.heap.size 0 ci)):=zh (uDZ (mH (.inr zr) ci 0 ((Kp.refl _ _).alloc _)));have HZ:Hid (Lies (World.setCells (wr.alloc (.cells eR.toArray 34)) wr.heap.size 0 ci) wr.heap.size 34 ci.toArray):=zh ((Lies.new wr 34 eR.toArray).putAll (by rw[eh];rfl))
   have HT:Hid (World.there (wr.alloc (.cells eR.toArray 34)) wr.heap.size 0 ci.toArray.size):=zh (by have h:=(Lies.new wr 34 eR.toArray).thereA;have h0:ci.toArray.size=22:=(by rw[yd,eh]);rw[h0];exact h);simp only[eR]at wt HZ;obtain⟨q,hq⟩:=zD wr.heap.size
   have HQ:=zh hq;obtain⟨tt,htt⟩:∃ t,TS[k]=t:=⟨_,rfl⟩
   rw[htt]at HE CN;clear dv hone eh HKs sj HTn htt hq;by_cases na:k=0
   ·have hk0i:(k:Int)<=0:=by omega
    have wu:Hid (ts++bO (TS.take (k+1))=(ts++bO (TS.take k))++tt):=zh (by rw[HE.out,if_pos na,na];simp[bO]);clear HE na
    go_wp2_with (first
     |(refine yr rfl 34 (.tmp 11) rfl g (o+k*22) rfl ci _ jv.out Tryz.underlying34 rfl bk.out ?_)
     |(refine yq rfl 34 (.tmp 5) (.tmp 12) rfl wr.heap.size 0 ci.toArray rfl rfl HT.out HInz.out HOne.out ?_;change wpList _ _ _ _ _ (World.setCells _ wr.heap.size 0 ci);generalize World.setCells _ _ _ _=wz at wt HZ ⊢;have ln:=zh (HS.out.next wt.out);have ep:=zh (HK.out.trans (Kw.of_below wt.out)))
     |(refine yr rfl 34 (.tmp 5) rfl wr.heap.size 0 rfl ci _ HZ.out.rangeM Tryz.underlying34 rfl bk.out ?_)
     |((with_reducible refine(CN.out _ _ ln.out ep.out (by simp only[yl];omega)).mono ?_);rintro e wx ⟨rfl,hs,iy⟩;have qn:=zh hs;have nj:=zh (ep.out.trans iy);clear hs iy))
    go_roundw
    case rel=>exact⟨k+1,by omega,by go_num,zh (by rw[wu.out];exact qn.out),nj⟩
    case measure=>first |(simp[intOf];done) |(simp[intOf];omega)
   have hk0i:(0:Int)<(k:Int):=by omega
   have wu:Hid (ts++bO (TS.take (k+1))=(ts++bO (TS.take k))++[tc]++tt):=zh (by rw[HE.out,if_neg na];simp);clear HE na
   go_wp2_with (first
    |(refine yr rfl 34 (.tmp 11) rfl g (o+k*22) rfl ci _ jv.out Tryz.underlying34 rfl bk.out ?_)
    |(refine yq rfl 34 (.tmp 5) (.tmp 12) rfl wr.heap.size 0 ci.toArray rfl rfl HT.out HInz.out HOne.out ?_;change wpList _ _ _ _ _ (World.setCells _ wr.heap.size 0 ci);generalize World.setCells _ _ _ _=wz at wt HZ ⊢;have ln:=zh (HS.out.next wt.out);have ep:=zh (HK.out.trans (Kw.of_below wt.out)))
    |((with_reducible refine(CP.out _ _ ln.out (by have:=ct.out;rw[yl];omega)).mono ?_);rintro e wx ⟨rfl,hs,iy⟩;have se:=zh (Kw.lies iy ln.out HZ.out (by decide) (by decide) (by decide));have ik:=zh hs;have fh:=zh (ep.out.trans iy);clear hs iy)
    |(refine yr rfl 34 (.tmp 5) rfl wr.heap.size 0 rfl ci _ se.out.rangeM Tryz.underlying34 rfl bk.out ?_)
    |((with_reducible refine(CN.out _ _ ik.out fh.out (by simp only[yl,yi,List.length_nil];omega)).mono ?_);rintro e wx ⟨rfl,hs,iy⟩;have qn:=zh hs;have nj:=zh (fh.out.trans iy);clear hs iy))
   go_roundw
   case rel=>exact⟨k+1,by omega,by go_num,zh (by rw[wu.out];exact qn.out),nj⟩
   case measure=>first |(simp[intOf];done) |(simp[intOf];omega)
  obtain rfl:k=n:=by omega
  go_wp2_with fail
  go_end0
  have h1:TS.take k=TS:=by rw[HN.out];exact HTn.out
  rw[h1]at HS;exact⟨rfl,HS.out,HK.out⟩
end Go.Proofs.YtjfihpaeglpblaaGreatDoor
