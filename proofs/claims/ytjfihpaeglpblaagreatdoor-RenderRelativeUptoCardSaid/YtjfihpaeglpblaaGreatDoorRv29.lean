/-
  Lemmas, part 29: RrM RrN RrO RrP RrQ RrS.
-/
import Derived.Test.YtjfihpaeglpblaaGreatDoorRv16
import Derived.Test.YtjfihpaeglpblaaGreatDoorRv26
import Derived.Test.YtjfihpaeglpblaaGreatDoorRv28
set_option maxHeartbeats 100000000
set_option maxRecDepth 1000000
namespace Go.Proofs.YtjfihpaeglpblaaGreatDoor
open Go.RowKit
abbrev kK:Nat->Prop:=fun _=>True
theorem TreeP.nextA{W W':World}{t:Tree}{cs:Array Value}(h:TreeP kK W t cs)(hb:Below W.heap.size W W'):TreeP kK W' t cs:=by
 have h1:TreeP (fun g=>g<W.heap.size) W t cs:=h.imp (fun g _ hg=>hg);exact(h1.keep ⟨hb.size,fun g hg=>hb.block g hg⟩).imp (fun _ _ _=>trivial)
theorem nV{W:World}{A:Option Addr}{l:List Tree}(h:KidsPO kK W A l)(i:Nat)(hi:i<l.length):∃ g og ci,A=some ⟨g,og,none⟩/\(ci:List Value).length=22/\∀ W',Below W.heap.size W W'->W'.rangeAt g (og+i*22) ci/\TreeP kK W' (l[i]'hi) ci.toArray:=by
 have h1:KidsPO (fun g=>g<W.heap.size) W A l:=by
  rcases h with h|⟨g',o',e,h3,h4,h5⟩
  ·exact .inl h
  exact .inr ⟨g',o',e,h4,h4,KidsP.imp (fun g _ hg=>hg) h5⟩
 obtain⟨g,og,ci,e1,e2,e3⟩:=iC h1 i hi;exact⟨g,og,ci,e1,e2,fun W' hb=>by
  obtain⟨k1,k2⟩:=e3 W' ⟨hb.size,fun g hg=>hb.block g hg⟩;exact⟨k1,k2.imp (fun _ _ _=>trivial)⟩⟩
def uS(p q:Option Nat)(R C:AxV)(v:Say)(t:Tree):Prop:=∀ (w:World) (Cn:List Value),AxQ w p R->AxQ w q C->TreeP kK w t Cn.toArray->Calls Tryz.prog 36 #[.agg #[.pointer (ptr p),.pointer (ptr q),vI v.r,vI v.c],.agg Cn.toArray] w fun e w'=>TkO w w' e (t.toks v R C)
theorem iS{p q:Option Nat}{R C:AxV}{v:Say}{t:Tree}{kd:Int}(hr:t.right kd=true)(aq:t.size<=1000)(hk:uS p q R C v t){w:World}(hp:AxQ w p R)(hq:AxQ w q C){ci:List Value}(da:∀ W,Below w.heap.size w W->TreeP kK W t ci.toArray)(f:Bool)(least:Int)(hf:f=decide (¬ least<=bP t)) :
  ∀ W,Below w.heap.size w W->Calls Tryz.prog 85 #[.agg #[.pointer (ptr p),.pointer (ptr q),vI v.r,vI v.c],.agg ci.toArray,.bool f] W fun e w'=>TkO W w' e (dV (bP t) least (t.toks v R C)):=fun W hb=>by
 obtain⟨A,n,c,e⟩:=(da w zB).cells;have hl:=eF v R C t kd hr;have h:=xF (ptr p) (ptr q) v t.h A n c ci (zh e) (t.toks v R C) (by omega) f W (fun W2 hb2=>hk W2 ci ((hp.next hb).next hb2) ((hq.next hb).next hb2) (da W2 (zU hb hb2)));have e2:(if f then tk 5 [40]::(t.toks v R C++[tk 5 [41]]) else t.toks v R C)=dV (bP t) least (t.toks v R C):=by
  unfold dV;rw[hf];by_cases h0:least<=bP t
  ·simp[h0]
  simp[h0]
 rw[e2]at h;exact h
theorem yH{p q:Option Nat}{R C:AxV}{v:Say}{A:Option Addr}{l:List Tree}{kd:Int}(lo n ca:Nat)(jn:lo+n<=l.length)(g o:Nat)(hA2:0<n->A=some ⟨g,o,none⟩)(A':Option Addr)(hA3:0<n->A'=some ⟨g,o+lo*22,none⟩)(hr:aZ l kd=true)(hk:∀ i (hi:i<l.length),uS p q R C v (l[i]'hi))(w:World)(hp:AxQ w p R)(hq:AxQ w q C)(hP:KidsPO kK w A l)(aq:aN l<=1000)(hn:l.length<=1000) :
  ∀ W,Below w.heap.size w W->Calls Tryz.prog 84 #[.agg #[.pointer (ptr p),.pointer (ptr q),vI v.r,vI v.c],.slice A' n ca,vS #[44]] W fun e w'=>TkO W w' e (bG (((bH v R C l).drop lo).take n)):=fun W hb=>by
 obtain⟨L,hL⟩:∃ L,L=(l.drop lo).take n:=⟨_,rfl⟩
 have e0:((bH v R C l).drop lo).take n=bH v R C L:=by rw[nI,fU,hL]
 have hrL:aZ L kd=true:=by rw[hL];exact oE n (xC lo hr)
 have vh:L.length=n:=by rw[hL,zc,yk];omega
 have hLs:aN L<=aN l:=by
  rw[hL];refine yv (xH _ _) ?_;have:=jH (l.take lo) (l.drop lo);rw[List.take_append_drop]at this;omega
 rw[e0];have hsum:=fT v R C L kd hrL;have xu:∀ k,(bG ((bH v R C L).take k)).length<=400000:=by
  intro k;have h1:=gO ((bH v R C L).take k);have h2:=lZ (bH v R C L) k;have h3:((bH v R C L).take k).length<=L.length:=by rw[zc,bT];omega
  omega
 have key:=uGA (ptr p) (ptr q) v A' ca (bH v R C L) W (fun k en=>?_) (by rw[bT,vh];omega) xu (fun k en=>by
  have:=zP (List.getElem_mem en);omega)
 ·rw[bT,vh]at key;exact key
 rw[bT,vh]at en;have hi:lo+k<l.length:=by omega
 obtain⟨g',og,ci,e1,fv,da⟩:=nV hP (lo+k) hi;have e2:=hA2 (by omega);rw[e2]at e1;injection e1 with e1;injection e1 with e1 e3 _;subst e1 e3;refine⟨g,o+lo*22,ci,hA3 (by omega),fv,fun W2 hb2=>?_⟩;have hbw:=zU hb hb2;obtain⟨c1,c2⟩:=da W2 hbw;have hkL:k<L.length:=by omega
 have eL:L[k]'hkL=l[lo+k]'hi:=by
  subst hL;rw[List.getElem_take,List.getElem_drop]
 have e4:(bH v R C L)[k]'(by rw[bT];exact hkL)=(l[lo+k]'hi).toks v R C:=by
  rw[pO _ _ _ L k hkL,eL]
 rw[e4];exact⟨by rw[show o+lo*22+k*22=o+(lo+k)*22 by omega];exact c1,hk (lo+k) hi W2 ci (hp.next hbw) (hq.next hbw) c2⟩
theorem uFV{p q:Option Nat}{R C:AxV}{v:Say}(hv:v.ok)(k:Int)(hk:k=1\/k=3)(vv:Val)(s:Bs)(a b:Cor)(r:Int)(A:Option Addr)(n cp:Nat)(Cn:List Value)(ah:Cn.toArray=aK ⟨k,vv,s,a,b,r⟩ A n cp)(w:World)(hp:AxQ w p R)(hq:AxQ w q C) :
  Calls Tryz.prog 36 #[.agg #[.pointer (ptr p),.pointer (ptr q),vI v.r,vI v.c],.agg Cn.toArray] w fun e w'=>TkO w w' e (kF v R C ⟨k,vv,s,a,b,r⟩):=by
 have hP:∀ W,Below w.heap.size w W->Calls Tryz.prog 20 #[.pointer (ptr p),.agg #[vI a.row.a,vI a.row.n]] W fun e w'=>e=.returned (vI (aI R a.row))/\Below W.heap.size W w':=fun W hb=>gD p R a.row W (hp.next hb)
 have hQ:∀ W,Below w.heap.size w W->Calls Tryz.prog 20 #[.pointer (ptr q),.agg #[vI a.col.a,vI a.col.n]] W fun e w'=>e=.returned (vI (aI C a.col))/\Below W.heap.size W w':=fun W hb=>gD q C a.col W (hq.next hb)
 have hR:=eO hp.av a.row;have hC:=eO hq.av a.col;unfold kF;by_cases hx:aI R a.row<0
 ·rw[if_pos (.inl hx)];rcases hk with rfl|rfl
  ·exact nD _ _ v vv s a b r A n cp Cn ah _ w _ _ (tk 0 []) (.inl ⟨.inl hx,rfl⟩) hP hQ
  exact nE _ _ v vv s a b r A n cp Cn ah _ w _ _ (tk 0 []) _ rfl (.inl ⟨.inl hx,rfl⟩) hP hQ
 by_cases hy:aI C a.col<0
 ·rw[if_pos (.inr hy)];rcases hk with rfl|rfl
  ·exact nD _ _ v vv s a b r A n cp Cn ah _ w _ _ (tk 0 []) (.inl ⟨.inr ⟨by omega,hy⟩,rfl⟩) hP hQ
  exact nE _ _ v vv s a b r A n cp Cn ah _ w _ _ (tk 0 []) _ rfl (.inl ⟨.inr ⟨by omega,hy⟩,rfl⟩) hP hQ
 rw[if_neg (by show ¬ (aI R a.row<0\/aI C a.col<0);omega)];have hM:∀ W,Calls Tryz.prog 81 #[.agg #[.pointer (ptr p),.pointer (ptr q),vI v.r,vI v.c],.agg #[vI (aI R a.row),vI (aI C a.col),.bool a.fr,.bool a.fc]] W fun e w'=>TkO W w' e [cE v (aI R a.row).toNat (aI C a.col).toNat a.fr a.fc]:=fun W=>by
  obtain⟨i,hi⟩:∃ i:Nat,aI R a.row=(i:Int):=⟨(aI R a.row).toNat,by omega⟩
  obtain⟨j,hj⟩:∃ j:Nat,aI C a.col=(j:Int):=⟨(aI C a.col).toNat,by omega⟩
  rw[hi,hj,Int.toNat_natCast,Int.toNat_natCast];exact pL p q v i j a.fr a.fc W (by omega) (by omega) hv
 rcases hk with rfl|rfl
 ·rw[if_neg (by show ¬ (1:Int)=3;omega)];exact nD _ _ v vv s a b r A n cp Cn ah _ w _ _ _ (.inr ⟨by omega,by omega,rfl,hM⟩) hP hQ
 rw[if_pos (by rfl)];exact nE _ _ v vv s a b r A n cp Cn ah _ w _ _ _ _ rfl (.inr ⟨by omega,by omega,rfl,hM⟩) hP hQ
theorem uGN{p q:Option Nat}{R C:AxV}{v:Say}(hv:v.ok){t:Tree}{kd:Int}(hr:t.right kd=true)(aq:t.size<=1000)(hk:∀ i (hi:i<t.l.length),uS p q R C v (t.l[i]'hi)):uS p q R C v t:=by
 intro w Cn hp hq hP;have pj:=eF v R C t kd hr;obtain⟨⟨kind,vv,s,a,b,r⟩,l⟩:=t;obtain⟨A,ca,ah,ll,l7⟩:=hP;replace hk:∀ i (hi:i<l.length),uS p q R C v (l[i]'hi):=hk
 replace ah:Cn.toArray=aK ⟨kind,vv,s,a,b,r⟩ A l.length ca:=ah;replace ll:l.length<=ca:=ll;replace l7:KidsPO kK w A l:=l7;obtain⟨h1,h2⟩:=eC hr;have hs0:(Tree.mk ⟨kind,vv,s,a,b,r⟩ l).size=aN l+1:=by rw[Tree.size]
 rw[hs0]at aq pj;have qp:l.length<=aN l:=by
  have:∀ l:List Tree,l.length<=aN l:=by
   intro l
   induction l with
   |nil=>simp
   |cons t r ih=>
    have:1<=t.size:=by cases t;rw[Tree.size];omega
    rw[yi,aN];omega
  exact this l
 have hsum:=fT v R C l kind h2;rcases qP h1 with z|z|z|z|z|z|z|z|z
 ·have z:kind=0:=z;subst z;have e:(Tree.mk ⟨0,vv,s,a,b,r⟩ l).toks v R C=jT vv:=by rw[Tree.toks];unfold dN;rw[if_pos rfl]
  rw[e];obtain⟨g1,g2⟩:=nB h1 rfl;exact rtok_lit _ _ v vv s a b r A _ ca Cn ah (jT vv) w (fun W=>xD vv W g1 g2)
 ·have z:kind=1\/kind=3:=z;have e:(Tree.mk ⟨kind,vv,s,a,b,r⟩ l).toks v R C=kF v R C ⟨kind,vv,s,a,b,r⟩:=by rw[Tree.toks];unfold dN;rw[if_neg (by show ¬ kind=0;omega),if_pos (by exact z)]
  rw[e];exact uFV hv kind z vv s a b r A _ ca Cn ah w hp hq
 ·have z:kind=2:=z;subst z;have e:(Tree.mk ⟨2,vv,s,a,b,r⟩ l).toks v R C=gF v R C a b:=by rw[Tree.toks];unfold dN;rw[if_neg (by show ¬ (2:Int)=0;omega),if_neg (by show ¬ ((2:Int)=1\/(2:Int)=3);omega),if_pos rfl]
  rw[e];exact uGM _ _ v vv s a b r A _ ca Cn ah _ w (fun W hb=>uGD p q R C v a b W (hp.next hb) (hq.next hb) hv (qO h1 rfl).1)
 ·have z:kind=4:=z;subst z;have e:(Tree.mk ⟨4,vv,s,a,b,r⟩ l).toks v R C=[tk 3 s]++[tk 5 [40]]++bG (bH v R C l)++[tk 5 [41]]:=by
   rw[Tree.toks];unfold dN;rw[if_neg (by show ¬ (4:Int)=0;omega),if_neg (by show ¬ ((4:Int)=1\/(4:Int)=3);omega),if_neg (by show ¬ (4:Int)=2;omega),if_pos rfl];simp
  rw[e];obtain⟨g,o,hA⟩:∃ g o,0<l.length->A=some ⟨g,o,none⟩:=by
   rcases l7 with h0|⟨g,o,e,_⟩
   ·have h0:l=[]:=h0;exact⟨0,0,fun h=>by rw[h0]at h;simp at h⟩
   exact⟨g,o,fun _=>e⟩
  have hll2:=gO (bH v R C l);rw[bT]at hll2;have key:=yH (p:=p) (q:=q) (R:=R) (C:=C) (v:=v) (A:=A) (l:=l) (kd:=4) 0 l.length ca (by omega) g o hA A (fun h=>by rw[hA h,Nat.zero_mul,Nat.add_zero]) h2 hk w hp hq l7 (by omega) (by omega);rw[List.drop_zero,List.take_of_length_le (by rw[bT];exact zr)]at key;exact uGI _ _ v vv s a b r A _ ca Cn ah _ w _ _ _ _ rfl rfl rfl rfl (by omega) key
 ·have z:kind=5:=z;subst z;obtain⟨hu,bk⟩:=pJ h1 rfl;obtain⟨t0,rfl⟩:=one_of bk;have fq:=(dQ (l:=[t0]) 0 (by simp) h2).1;have gy:=hk 0 (by simp);have m9:t0.size+0=aN [t0]:=by simp[aN]
  obtain⟨g,og,ci,hA,fv,da⟩:=nV l7 0 (by simp);simp only[List.getElem_cons_zero,Nat.zero_mul,Nat.add_zero]at fq gy da;obtain⟨A2,n2,c2,im⟩:=(da w zB).2.cells;have el:=eF v R C t0 5 fq;have hw0:=eK (bP t0) 7 (t0.toks v R C);have vr:=eK (bP t0) 6 (t0.toks v R C);have zi:(Tryz.prog.info? 34).map (·.size)=some ci.length:=by rw[fv];exact bZ
  have hV:∀ W,Calls Tryz.prog 86 #[.agg ci.toArray] W fun e w'=>e=.returned (vI (bP t0))/\Below W.heap.size W w':=fun W=>by
   rw[mX];exact kB t0.h A2 n2 c2 ci W (zh im)
  by_cases hs:s=[37]
  ·have e:(Tree.mk ⟨5,vv,s,a,b,r⟩ [t0]).toks v R C=dV (bP t0) 7 (t0.toks v R C)++[tk 5 [37]]:=by
    rw[Tree.toks];unfold dN;rw[if_neg (by show ¬ (5:Int)=0;omega),if_neg (by show ¬ ((5:Int)=1\/(5:Int)=3);omega),if_neg (by show ¬ (5:Int)=2;omega),if_neg (by show ¬ (5:Int)=4;omega),if_pos rfl,if_pos (by exact hs),hs];rfl
   rw[e];exact uCK _ _ v vv s a b r A _ ca Cn ah _ w g og ci (bP t0) _ _ hs hA rfl rfl rfl (by omega) zi (fun W hb=>(da W hb).1) hV (iS fq (by omega) gy hp hq (fun W hb=>(da W hb).2) _ 7 (by rw[decide_eq_decide];omega))
  have e:(Tree.mk ⟨5,vv,s,a,b,r⟩ [t0]).toks v R C=[tk 5 s]++dV (bP t0) 6 (t0.toks v R C):=by
   rw[Tree.toks];unfold dN;rw[if_neg (by show ¬ (5:Int)=0;omega),if_neg (by show ¬ ((5:Int)=1\/(5:Int)=3);omega),if_neg (by show ¬ (5:Int)=2;omega),if_neg (by show ¬ (5:Int)=4;omega),if_pos rfl,if_neg (by exact hs)];rfl
  rw[e];exact uGL _ _ v vv s a b r A _ ca Cn ah _ w g og ci (bP t0) _ _ (beq_eq_false_iff_ne.2 hs) hA rfl rfl rfl (by omega) zi (fun W hb=>(da W hb).1) hV (iS fq (by omega) gy hp hq (fun W hb=>(da W hb).2) _ 6 (by rw[decide_eq_decide];omega))
 ·have z:kind=6:=z;subst z;obtain⟨hu,vt⟩:=iH h1 rfl;obtain⟨t0,t1,rfl⟩:=two_of vt;have fq:=(dQ (l:=[t0,t1]) 0 (by simp) h2).1;have gy:=hk 0 (by simp);have fh:=(dQ (l:=[t0,t1]) 1 (by simp) h2).1;have eh:=hk 1 (by simp);have m9:t0.size+t1.size=aN [t0,t1]:=by simp[aN]
  obtain⟨g,og,ci,hA,fv,da⟩:=nV l7 0 (by simp);obtain⟨g',og',cj,sx,h22',hcj⟩:=nV l7 1 (by simp);rw[hA]at sx;injection sx with sx;injection sx with e1 e2 _;subst e1 e2;simp only[List.getElem_cons_zero,List.getElem_cons_succ,Nat.zero_mul,Nat.one_mul,Nat.add_zero]at fq gy da fh eh hcj;obtain⟨A2,n2,c2,im⟩:=(da w zB).2.cells;obtain⟨A3,n3,c3,rv⟩:=(hcj w zB).2.cells;have el:=eF v R C t0 6 fq;have xz:=eF v R C t1 6 fh;have hw0:=eK (bP t0) (bE s) (t0.toks v R C);have vr:=eK (bP t1) (bE s+1) (t1.toks v R C);have hii:(Tryz.prog.info? 34).map (·.size)=some ci.length:=by rw[fv];exact bZ
  have hij:(Tryz.prog.info? 34).map (·.size)=some cj.length:=by rw[h22'];exact bZ
  have e:(Tree.mk ⟨6,vv,s,a,b,r⟩ [t0,t1]).toks v R C=dV (bP t0) (bE s) (t0.toks v R C)++[tk 5 s]++dV (bP t1) (bE s+1) (t1.toks v R C):=by
   rw[Tree.toks];unfold dN;rw[if_neg (by show ¬ (6:Int)=0;omega),if_neg (by show ¬ ((6:Int)=1\/(6:Int)=3);omega),if_neg (by show ¬ (6:Int)=2;omega),if_neg (by show ¬ (6:Int)=4;omega),if_neg (by show ¬ (6:Int)=5;omega),if_pos rfl,List.append_assoc];rfl
  rw[e];refine rtok_two _ _ v vv s a b r A _ ca Cn ah _ w g og ci cj (bE s) (bP t0) (bP t1) _ _ _ hA rfl rfl rfl (by omega) hii hij (fun W hb=>⟨(da W hb).1,(hcj W hb).1⟩) (fun W=>?_) (fun W=>?_) (fun W=>?_)
   (iS fq (by omega) gy hp hq (fun W hb=>(da W hb).2) _ (bE s) (by rw[decide_eq_decide];omega))
   (iS fh (by omega) eh hp hq (fun W hb=>(hcj W hb).2) _ (bE s+1) (by rw[decide_eq_decide];omega))
  ·exact kB ⟨6,vv,s,a,b,r⟩ A _ ca Cn W (zh ah)
  ·rw[mX];exact kB t0.h A2 n2 c2 ci W (zh im)
  rw[mX];exact kB t1.h A3 n3 c3 cj W (zh rv)
 ·have z:kind=7:=z;subst z;have e:(Tree.mk ⟨7,vv,s,a,b,r⟩ l).toks v R C=[tk 3 s]:=by
   rw[Tree.toks];unfold dN;rw[if_neg (by show ¬ (7:Int)=0;omega),if_neg (by show ¬ ((7:Int)=1\/(7:Int)=3);omega),if_neg (by show ¬ (7:Int)=2;omega),if_neg (by show ¬ (7:Int)=4;omega),if_neg (by show ¬ (7:Int)=5;omega),if_neg (by show ¬ (7:Int)=6;omega),if_pos rfl]
  rw[e];exact uGJ _ _ v vv s a b r A _ ca Cn ah _ w (fun W=>aS 3 s W)
 ·have z:kind=8:=z;subst z;obtain⟨rr,cc,ny,fh,dv,dx⟩:=nC h1 rfl;have ny:r=(rr:Int):=ny;have hd:l.length / (rr:Int).toNat=cc:=by rw[Int.toNat_natCast,dx];exact Nat.mul_div_cancel_left cc (by omega)
  have e:(Tree.mk ⟨8,vv,s,a,b,r⟩ l).toks v R C=cT cc (bH v R C l) rr++[tk 5 [125]]:=by
   rw[Tree.toks];unfold dN;rw[if_neg (by show ¬ (8:Int)=0;omega),if_neg (by show ¬ ((8:Int)=1\/(8:Int)=3);omega),if_neg (by show ¬ (8:Int)=2;omega),if_neg (by show ¬ (8:Int)=4;omega),if_neg (by show ¬ (8:Int)=5;omega),if_neg (by show ¬ (8:Int)=6;omega),if_neg (by show ¬ (8:Int)=7;omega),if_pos rfl,bT];show cT (l.length / r.toNat) _ r.toNat++_=_;rw[ny,hd,Int.toNat_natCast]
  have ij:0<l.length:=by rw[dx];exact Nat.mul_pos (by omega) (by omega)
  obtain⟨g,o,hA⟩:∃ g o,A=some ⟨g,o,none⟩:=by
   rcases l7 with h0|⟨g,o,e,_⟩
   ·have h0:l=[]:=h0;rw[h0]at ij;simp at ij
   exact⟨g,o,e⟩
  rw[e];refine rtok_mat _ _ v vv s a b r A _ ca Cn ah _ w g o rr cc (bH v R C l) hA ny dx fh dv (by rw[<- dx];exact ll) (by rw[<- dx];omega) rfl (fun i hi=>?_) (fun i hi=>?_)
  ·have h6:=jF cc (bH v R C l) i;have h7:=lZ (bH v R C l) (i*cc);have h4:i*cc<=l.length:=by rw[dx];exact Nat.mul_le_mul_right cc hi
   have h5:i<=i*cc:=Nat.le_mul_of_pos_right i dv;omega
  have h4:i*cc+cc<=l.length:=by
   have:=Nat.mul_le_mul_right cc (by omega:i+1<=rr);rw[Nat.succ_mul,<- dx]at this;exact this
  exact yH (p:=p) (q:=q) (R:=R) (C:=C) (v:=v) (A:=A) (l:=l) (kd:=8) (i*cc) cc (ca-i*cc) h4 g o (fun _=>hA) _ (fun _=>rfl) h2 hk w hp hq l7 (by omega) (by omega)
 have z:kind=9:=z;subst z;have e:(Tree.mk ⟨9,vv,s,a,b,r⟩ l).toks v R C=[]:=by
  rw[Tree.toks];unfold dN;rw[if_neg (by show ¬ (9:Int)=0;omega),if_neg (by show ¬ ((9:Int)=1\/(9:Int)=3);omega),if_neg (by show ¬ (9:Int)=2;omega),if_neg (by show ¬ (9:Int)=4;omega),if_neg (by show ¬ (9:Int)=5;omega),if_neg (by show ¬ (9:Int)=6;omega),if_neg (by show ¬ (9:Int)=7;omega),if_neg (by show ¬ (9:Int)=8;omega)]
 rw[e];exact uGK _ _ v vv s a b r A _ ca Cn ah _ w rfl
theorem rtok_any(p q:Option Nat)(R C:AxV)(v:Say)(hv:v.ok):∀ (n:Nat) (t:Tree),t.size<=n->t.size<=1000->∀ (kd:Int),t.right kd=true->uS p q R C v t:=by
 intro n
 induction n with
 |zero=>intro t h;cases t;rw[Tree.size]at h;omega
 |succ n ih=>
  intro t aq ed kd hr;refine uGN hv hr ed (fun i hi=>?_);obtain⟨h,l⟩:=t;have hi:i<l.length:=hi;have h1:=lY (l:=l) i hi;have hs:(Tree.mk h l).size=aN l+1:=by rw[Tree.size]
  rw[hs]at aq ed;exact ih _ (by show (l[i]'hi).size<=n;omega) (by show (l[i]'hi).size<=1000;omega) h.kind (dQ i hi (eC hr).2).1
theorem TreeP.nextIn{W W':World}{t:Tree}{cs:Array Value}(h:TreeP kK W t cs)(hb:Below W.heap.size W W'):TreeIn W' t cs:=(h.nextA hb).all
def fK:Nat->Tree->Bool
 |0,_=>true
 |d+1,t=>decide (400<t.l.length)||decide (300<t.h.name.length)||decide (300<t.h.v.text.length)||t.l.any (fK d)
theorem rK{f:Tree->Bool}{l:List Tree}(h:∀ j (hj:j<l.length),f (l[j]'hj)=false):l.any f=false:=by
 rw[List.any_eq_false];intro x hx;obtain⟨j,hj,rfl⟩:=List.getElem_of_mem hx;rw[h j hj]
 decide
theorem xP{f:Tree->Bool}{l:List Tree}(j:Nat)(hj:j<l.length)(h:f (l[j]'hj)=true):l.any f=true:=by
 rw[List.any_eq_true];exact⟨_,List.getElem_mem hj,h⟩
theorem uGC:∀ (d:Nat),d<=40->∀ (t:Tree) (Cn:List Value) (w:World),TreeP kK w t Cn.toArray ->
  Calls Tryz.prog 68 #[.agg Cn.toArray,vI (d:Int)] w fun e w'=>e=.returned (.bool (fK d t))/\Below w.heap.size w w':=by
 intro d
 induction d with
 |zero=>
  intro _ t Cn w hP;obtain⟨W0,ak⟩:=zD (w.alloc (.cells Cn.toArray 34))
  have aj:=zh ak;have af:=zA ak;clear ak hP;have e:((0:Nat):Int)=0:=rfl;rw[e];clear e
  go_in
  go_upto_region 1 with fail
  rw[<- aj.out];clear aj
  go_wp2_with fail
  go_ret
  exact⟨rfl,af.out⟩
 |succ d ih=>
  intro hd t Cn w hP;have IH:=zh (ih (by omega));clear ih;obtain⟨⟨kind,vv,s,a,b,r⟩,l⟩:=t;obtain⟨A,ca,ah,ll,l7⟩:=hP;replace ah:Cn.toArray=aK ⟨kind,vv,s,a,b,r⟩ A l.length ca:=ah;replace ll:l.length<=ca:=ll;replace l7:KidsPO kK w A l:=l7;obtain⟨W0,ak⟩:=zD (w.alloc (.cells Cn.toArray 34))
  have aj:=zh ak;have af:=zA ak;have HL:=zL ak;have HC:Hid (∀ W,Below W0.heap.size W0 W->W.cell? ⟨w.heap.size,4,none⟩=some (vT vv.text)/\W.cell? ⟨w.heap.size,7,none⟩=some (vT s)/\W.cell? ⟨w.heap.size,21,none⟩=some (.slice A l.length ca)):=zh (fun W hb=>by
   have e4:=(HL.out.next hb).cell 4;have e7:=(HL.out.next hb).cell 7;have e21:=(HL.out.next hb).cell 21;rw[ah]at e4 e7 e21;exact⟨e4,e7,e21⟩)
  have qo:(((d+1:Nat):Int)==0)=false:=by rw[beq_eq_false_iff_ne];omega
  have HD:Hid (fK (d+1) (.mk ⟨kind,vv,s,a,b,r⟩ l)=(decide (400<l.length)||decide (300<s.length)||decide (300<vv.text.length)||l.any (fK d))):=zh rfl;obtain⟨res,oe⟩:∃ x,x=fK (d+1) (.mk ⟨kind,vv,s,a,b,r⟩ l):=⟨_,rfl⟩
  rw[<- oe]at HD ⊢;have HK:=zh (fun i (hi:i<l.length)=>nV l7 i hi);have hdi:(d:Int)<=40:=by omega
  obtain⟨c4,c7,jw⟩:=HC.out _ zB;clear ak ah ll l7 oe HL;generalize vv.text=tx at *;by_cases h1:400<l.length
  ·have HR:Hid (res=true):=zh (by rw[HD.out,decide_eq_true h1];rfl);have h1i:(400:Int)<(l.length:Int):=by omega
   clear HD HK
   go_in
   go_upto_region 1 with fail
   rw[<- aj.out];clear aj
   go_wp2_with fail
   go_ret
   exact⟨by(rw[HR.out]) <;> rfl,af.out⟩
  have h1i:¬ (400:Int)<(l.length:Int):=by omega
  by_cases h2:300<s.length
  ·have HR:Hid (res=true):=zh (by rw[HD.out,decide_eq_true h2];simp);have h2i:(300:Int)<(s.length:Int):=by omega
   clear HD HK
   go_in
   go_upto_region 1 with fail
   rw[<- aj.out];clear aj
   go_wp2_with fail
   go_ret
   exact⟨by(rw[HR.out]) <;> rfl,af.out⟩
  have h2i:¬ (300:Int)<(s.length:Int):=by omega
  by_cases h3:300<tx.length
  ·have HR:Hid (res=true):=zh (by rw[HD.out,decide_eq_true h3];simp);have h3i:(300:Int)<(tx.length:Int):=by omega
   clear HD HK
   go_in
   go_upto_region 1 with fail
   rw[<- aj.out];clear aj
   go_wp2_with fail
   go_ret
   exact⟨by(rw[HR.out]) <;> rfl,af.out⟩
  have h3i:¬ (300:Int)<(tx.length:Int):=by omega
  have HR:Hid (res=l.any (fK d)):=zh (by rw[HD.out,decide_eq_false h1,decide_eq_false h2,decide_eq_false h3];simp);obtain⟨n,hn⟩:=zD l.length
  have HN:=zh hn;have hni:(n:Int)<=400:=by omega
  rw[<- hn]at HC jw h1i;clear HD h1 h2 h3 hn
  go_in
  go_upto_region 1 with fail
  rw[<- aj.out];clear aj
  go_wp2_with fail
  clear c4 c7 jw
  go_loopw [5] (fun v5 wr=>∃ i:Nat,i<=n/\v5=vI (i:Int)/\Hid (∀ j (hj:j<l.length),j<i->fK d (l[j]'hj)=false)/\Hid (Below W0.heap.size W0 wr)) (fun v5 _=>n-(intOf v5).toNat)
  case atStart=>exact⟨0,zm _,rfl,zh (fun j _ h=>absurd h (Nat.not_lt_zero _)),zh zB⟩
  case round=>
   obtain⟨i,hi,rfl,uu,HB⟩:=hrel;obtain⟨c4,c7,jw⟩:=HC.out _ HB.out;by_cases hlt:i<n
   ·have hlti:(i:Int)<(n:Int):=by omega
    have lz:i<l.length:=by rw[<- HN.out];exact hlt
    obtain⟨g,og,ci,hA,fv,da⟩:=HK.out i lz;subst hA;have bg:=zh (dE fv);have hbw:=zU af.out HB.out;obtain⟨k1,k2⟩:=da wr hbw;have j6:=zh k1;have CN:Hid (Calls Tryz.prog 68 #[.agg ci.toArray,vI (d:Int)] wr fun e w'=>e=.returned (.bool (fK d (l[i]'lz)))/\Below wr.heap.size wr w'):=zh (IH.out _ ci wr k2);obtain⟨bo,hbo⟩:∃ x,x=fK d (l[i]'lz):=⟨_,rfl⟩
    rw[<- hbo]at CN;have HBo:=zh hbo;have vr:IntKind.i64.wrap (((d+1:Nat):Int)-1)=(d:Int):=by rw[IntWalk.i64_in _ (by omega)];omega
    have hw2:IntKind.i64.wrap ((d:Int)+1-1)=(d:Int):=by rw[IntWalk.i64_in _ (by omega)];omega
    clear k1 k2 da fv hbo HK hbw;cases bo
    ·go_wp2_with (first
      |(refine yr rfl 34 (.tmp 37) rfl g (og+i*22) rfl ci _ j6.out Tryz.underlying34 rfl bg.out ?_)
      |((with_reducible refine CN.out.mono ?_);rintro e wx ⟨rfl,hb⟩;have aw:=zT HB hb;clear hb c4 c7 jw))
     go_roundw
     case rel=>exact⟨i+1,by omega,by go_num,zh (fun j hj hji=>by
      rcases Nat.lt_or_ge j i with h|h
      ·exact uu.out j hj h
      obtain rfl:j=i:=by omega
      exact HBo.out.symm),aw⟩
     case measure=>first |(simp[intOf];done) |(simp[intOf];omega)
    go_wp2_with (first
     |(refine yr rfl 34 (.tmp 37) rfl g (og+i*22) rfl ci _ j6.out Tryz.underlying34 rfl bg.out ?_)
     |((with_reducible refine CN.out.mono ?_);rintro e wx ⟨rfl,hb⟩;have aw:=zT HB hb;clear hb c4 c7 jw))
    go_ret
    exact⟨by(rw[HR.out,xP (f:=fK d) i lz HBo.out.symm]) <;> rfl,zU af.out aw.out⟩
   obtain rfl:i=n:=by omega
   go_wp2_with fail
   go_ret
   exact⟨by(rw[HR.out,rK (f:=fK d) (fun j hj=>uu.out j hj (by rw[HN.out];exact hj))]) <;> rfl,zU af.out HB.out⟩
def jR(t:Tree):Bool:=fK 40 t||decide (400<t.size)
theorem uCD(t:Tree)(Cn:List Value)(w:World)(hP:TreeP kK w t Cn.toArray)(aq:t.size<=1000000) :
  Calls Tryz.prog 31 #[.agg Cn.toArray] w fun e w'=>e=.returned (.bool (jR t))/\Below w.heap.size w w':=by
 obtain⟨W0,ak⟩:=zD (w.alloc (.cells Cn.toArray 34))
 have aj:=zh ak;have af:=zA ak;have HL:=zL ak;have fv:Cn.length=22:=by
  obtain⟨A,li,e,_⟩:=hP;exact mF e
 have bg:=zh (dE fv);have CO:Hid (Calls Tryz.prog 68 #[.agg Cn.toArray,vI 40] W0 fun e w'=>e=.returned (.bool (fK 40 t))/\Below W0.heap.size W0 w'):=zh (uGC 40 zr t Cn W0 (hP.nextA af.out));have CN:Hid (∀ W,Below w.heap.size w W->Calls Tryz.prog 15 #[.agg Cn.toArray] W fun e w'=>∃ A c,e=.returned (.slice A t.size c)/\Below W.heap.size W w'):=zh (fun W hb=>(tE 1000000 zr t Cn.toArray W aq (hP.nextIn hb)).mono (by
  rintro e w' ⟨A,c,xs,rfl,_,_,vp⟩;exact⟨A,c,rfl,vp⟩))
 have HD:Hid (jR t=(fK 40 t||decide (400<t.size))):=zh rfl;have hszi:(t.size:Int)<=1000000:=by omega
 generalize jR t=res at *;generalize fK 40 t=ov at *;generalize t.size=n at *;clear ak hP aq fv;cases ov
 ·obtain⟨bn,hbn⟩:∃ b,b=decide (400<n):=⟨_,rfl⟩
  have HR:Hid (res=bn):=zh (by rw[HD.out,<- hbn];rfl);have hdec:decide ((400:Int)<(n:Int))=bn:=by rw[hbn,decide_eq_decide];omega
  clear HD hbn
  go_in
  go_upto_region 1 with fail
  rw[<- aj.out];clear aj
  go_wp2_with (first
   |(refine yr rfl 34 (.tmp 1) rfl w.heap.size 0 rfl Cn _ HL.out.rangeM Tryz.underlying34 rfl bg.out ?_)
   |(refine aL (Eq.trans (aT rfl rfl rfl rfl) rfl) 34 (.tmp 1) rfl w.heap.size 0 rfl Cn _ HL.out.rangeM Tryz.underlying34 rfl bg.out ?_)
   |((with_reducible refine CO.out.mono ?_);rintro e wx ⟨rfl,hb⟩;have bi:=zT af hb;replace HL:=zh (HL.out.next hb);clear hb)
   |((with_reducible refine(CN.out _ bi.out).mono ?_);rintro e wx ⟨A2,c2,rfl,hb⟩;have aw:=zT bi hb;clear hb))
  go_ret
  exact⟨by(rw[HR.out]) <;> rfl,aw.out⟩
 have HR:Hid (res=true):=zh (by rw[HD.out];rfl);clear HD CN
 go_in
 go_upto_region 1 with fail
 rw[<- aj.out];clear aj
 go_wp2_with (first
  |(refine yr rfl 34 (.tmp 1) rfl w.heap.size 0 rfl Cn _ HL.out.rangeM Tryz.underlying34 rfl bg.out ?_)
  |((with_reducible refine CO.out.mono ?_);rintro e wx ⟨rfl,hb⟩;have bi:=zT af hb;clear hb))
 go_ret
 exact⟨by(rw[HR.out]) <;> rfl,bi.out⟩
abbrev axesV(A B D:Option Addr)(n1 n2 n3 c1 c2 c3:Nat):Value:=.agg #[.slice A n1 c1,.slice B n2 c2,.slice D n3 c3]
theorem uBD(t:Tree)(Cn:List Value)(A B D:Option Addr)(n1 n2 n3 c1 c2 c3:Nat)(w:World)(hP:TreeP kK w t Cn.toArray)(aq:t.size<=1000000) :
  Calls Tryz.prog 11 #[.agg Cn.toArray,axesV A B D n1 n2 n3 c1 c2 c3] w fun e w'=>e=.returned (.bool (jR t||decide (60<n1)||decide (60<n2)||decide (60<n3)))/\Below w.heap.size w w':=by
 obtain⟨W0,ak⟩:∃ W0,W0=(w.alloc (.cells Cn.toArray 34)).alloc (.cells #[.slice A n1 c1,.slice B n2 c2,.slice D n3 c3] 37):=⟨_,rfl⟩
 have aj:=zh ak;have af:Hid (Below w.heap.size w W0):=zh (by rw[ak];exact((Below.refl _ w).alloc zr _).alloc (by rw[World.size_alloc];omega) _);have HL:Hid (Lies W0 w.heap.size 34 Cn.toArray):=zh (by rw[ak];exact(Lies.new w _ _).alloc _);have jc:Hid (Lies W0 (w.heap.size+1) 37 #[.slice A n1 c1,.slice B n2 c2,.slice D n3 c3]):=zh (by
  rw[ak];have h:=Lies.new (w.alloc (.cells Cn.toArray 34)) 37 #[.slice A n1 c1,.slice B n2 c2,.slice D n3 c3];rw[World.size_alloc]at h;exact h)
 have fv:Cn.length=22:=by
  obtain⟨A,li,e,_⟩:=hP;exact mF e
 have bg:=zh (dE fv);have CO:=zh (uCD t Cn W0 (hP.nextA af.out) aq);obtain⟨res,oe⟩:∃ x,x=(jR t||decide (60<n1)||decide (60<n2)||decide (60<n3)):=⟨_,rfl⟩
 have HR:=zh oe;rw[<- oe];generalize jR t=ov at *;have HC:Hid (∀ W,Below W0.heap.size W0 W->W.cell? ⟨w.heap.size+1,0,none⟩=some (.slice A n1 c1)/\W.cell? ⟨w.heap.size+1,1,none⟩=some (.slice B n2 c2)/\W.cell? ⟨w.heap.size+1,2,none⟩=some (.slice D n3 c3)):=zh (fun W hb=>⟨(jc.out.next hb).cell 0,(jc.out.next hb).cell 1,(jc.out.next hb).cell 2⟩);clear ak hP aq fv oe jc;cases ov
 case' true=>
  have HV:Hid (res=true):=zh (by rw[HR.out];rfl);have HD:=zh trivial
 case' false=>
  rcases Nat.lt_or_ge 60 n1 with g1|g1
  case' inl=>
   have k1:(60:Int)<(n1:Int):=by omega
   have HV:Hid (res=true):=zh (by rw[HR.out,decide_eq_true g1];rfl);have HD:=zh (decide_eq_true k1)
  case' inr=>
   have k1:¬ (60:Int)<(n1:Int):=by omega
   rcases Nat.lt_or_ge 60 n2 with g2|g2
   case' inl=>
    have k2:(60:Int)<(n2:Int):=by omega
    have HV:Hid (res=true):=zh (by rw[HR.out,decide_eq_true g2,Bool.or_true,Bool.true_or]);have HD:=zh (And.intro (decide_eq_false k1) (decide_eq_true k2))
   case' inr=>
    have k2:¬ (60:Int)<(n2:Int):=by omega
    rcases Nat.lt_or_ge 60 n3 with g3|g3
    case' inl=>
     have k3:(60:Int)<(n3:Int):=by omega
     have HV:Hid (res=true):=zh (by rw[HR.out,decide_eq_true g3,Bool.or_true]);have HD:=zh (And.intro (decide_eq_false k1) (And.intro (decide_eq_false k2) (decide_eq_true k3)))
    case' inr=>
     have k3:¬ (60:Int)<(n3:Int):=by omega
     have HV:Hid (res=false):=zh (by rw[HR.out,decide_eq_false (Nat.not_lt.mpr g1),decide_eq_false (Nat.not_lt.mpr g2),decide_eq_false (Nat.not_lt.mpr g3)];rfl);have HD:=zh (And.intro (decide_eq_false k1) (And.intro (decide_eq_false k2) (decide_eq_false k3)))
 all_goals
  clear HR
  go_in
  go_upto_region 1 with fail
  rw[<- aj.out];clear aj
  go_wp2_with (first
   |(refine yr rfl 34 (.tmp 2) rfl w.heap.size 0 rfl Cn _ HL.out.rangeM Tryz.underlying34 rfl bg.out ?_)
   |((with_reducible refine CO.out.mono ?_);rintro e wx ⟨rfl,hb⟩;have bi:=zT af hb;obtain⟨x0,x1,x2⟩:=HC.out _ hb;clear hb))
  go_ret
  refine⟨?_,bi.out⟩;rw[HV.out]
  first
   |rfl
   |(simp only[HD.out];rfl)
   |(simp only[HD.out.1,HD.out.2];rfl)
   |(simp only[HD.out.1,HD.out.2.1,HD.out.2.2];rfl)
theorem uJ(t:Tree)(p q:Option Nat)(R C:AxV)(Cn:List Value)(x y:IdR)(w:World)(hP:TreeP kK w t Cn.toArray)(hf:t.fine)(aq:t.size<=1000)(hp:AxQ w p R)(hq:AxQ w q C) :
  Calls Tryz.prog 18 #[.agg Cn.toArray,.agg #[vI x.a,vI x.n,vI y.a,vI y.n],.pointer (ptr p),.pointer (ptr q)] w fun e w'=>e=.returned (vT (nA R C x y t))/\Below w.heap.size w w':=by
 obtain⟨W0,ak⟩:∃ W0,W0=(w.alloc (.cells Cn.toArray 34)).alloc (.cells #[vI x.a,vI x.n,vI y.a,vI y.n] 49):=⟨_,rfl⟩
 have aj:=zh ak;have af:Hid (Below w.heap.size w W0):=zh (by rw[ak];exact((Below.refl _ w).alloc zr _).alloc (by rw[World.size_alloc];omega) _);have L0:Lies W0 w.heap.size 34 Cn.toArray:=by rw[ak];exact(Lies.new w _ _).alloc _
 have L1:Lies W0 (w.heap.size+1) 49 #[vI x.a,vI x.n,vI y.a,vI y.n]:=by
  rw[ak];have h:=Lies.new (w.alloc (.cells Cn.toArray 34)) 49 #[vI x.a,vI x.n,vI y.a,vI y.n];rw[World.size_alloc]at h;exact h
 have fv:Cn.length=22:=by
  obtain⟨A,li,e,_⟩:=hP;exact mF e
 have bg:=zh (dE fv);have ap:Hid (∀ W,Below W0.heap.size W0 W->W.cell? ⟨w.heap.size+1,0,none⟩=some (vI x.a)/\W.cell? ⟨w.heap.size+1,1,none⟩=some (vI x.n)/\W.cell? ⟨w.heap.size+1,2,none⟩=some (vI y.a)/\W.cell? ⟨w.heap.size+1,3,none⟩=some (vI y.n)/\Below W0.heap.size W0 W):=zh (fun W h=>⟨(L1.next h).cell 0,(L1.next h).cell 1,(L1.next h).cell 2,(L1.next h).cell 3,h⟩);have HRn:Hid (∀ W,Below W0.heap.size W0 W->W.rangeAt w.heap.size 0 Cn):=zh (fun W h=>(L0.next h).rangeM);have CR:Hid (∀ W,Below W0.heap.size W0 W->Calls Tryz.prog 20 #[.pointer (ptr p),.agg #[vI x.a,vI x.n]] W fun e w'=>e=.returned (vI (aI R x))/\Below W.heap.size W w'):=zh (fun W h=>gD p R x W ((hp.next af.out).next h))
 have CY:Hid (∀ W,Below W0.heap.size W0 W->Calls Tryz.prog 20 #[.pointer (ptr q),.agg #[vI y.a,vI y.n]] W fun e w'=>e=.returned (vI (aI C y))/\Below W.heap.size W w'):=zh (fun W h=>gD q C y W ((hq.next af.out).next h));have CC:Hid (∀ W,Below W0.heap.size W0 W->Calls Tryz.prog 16 #[.agg Cn.toArray] W fun e w'=>e=.returned (vI (dP t:Nat))/\Below W.heap.size W w'):=zh (fun W h=>uCB t Cn.toArray W hf (by omega) (hP.nextIn (zU af.out h)));have qi:Hid (aI R x<=400/\aI C y<=400):=zh ⟨by have:=eO hp.av x;omega,by have:=eO hq.av y;omega⟩
 have HOk:Hid (∀ i j:Nat,i<=400->j<=400->dP t=0->(∀ W,Below w.heap.size w W->Calls Tryz.prog 36 #[.agg #[.pointer (ptr p),.pointer (ptr q),vI (i:Int),vI (j:Int)],.agg Cn.toArray] W fun e w'=>TkO W w' e (t.toks (.seen i j) R C))/\(∀ (A:Option Addr) (c:Nat) (W:World),RIn W A (t.toks (.seen i j) R C++[qZ])->Calls Tryz.prog 35 #[.slice A ((t.toks (.seen i j) R C).length+1) c] W fun e w'=>e=.returned (vT (cL none (t.toks (.seen i j) R C++[qZ])))/\Below W.heap.size W w')/\(t.toks (.seen i j) R C).length<=1600):=zh (fun i j hi hj hc=>by
  obtain⟨hr,aq⟩:=nZ hc;have htl:=eF (.seen i j) R C t 6 hr;have htx:=xJ (v:=.seen i j) ⟨hi,hj⟩ hp.av hq.av t 6 hr;refine⟨fun W hb=>rtok_any p q R C (.seen i j) ⟨hi,hj⟩ 1000 t (by omega) (by omega) 6 hr W Cn (hp.next hb) (hq.next hb) (hP.nextA hb),fun A c W ru=>?_,by omega⟩;have h:=uFY A c (t.toks (.seen i j) R C++[qZ]) W (by simp;omega) (fun x hx=>by
   rcases List.mem_append.1 hx with hx|hx
   ·exact(htx x hx).1
   ·rw[yf.1 hx];decide) (fun x hx h5=>by
   rcases List.mem_append.1 hx with hx|hx
   ·exact(htx x hx).2 h5
   rw[yf.1 hx]at h5;cases h5) ru
  rw[yl]at h;exact h)
 have om:Hid (dP t≠0\/aI R x<0\/aI C y<0->nA R C x y t=[]):=zh (fun h=>by
  unfold nA
  split
  ·rfl
  rename_i h2
  unfold fF;rw[if_pos (by rcases h with h|h|h;exact h;exact absurd (.inl h) h2;exact absurd (.inr h) h2)])
 have rn:Hid (∀ i j:Nat,dP t=0->aI R x=(i:Int)->aI C y=(j:Int)->nA R C x y t=cL none (t.toks (.seen i j) R C++[qZ])):=zh (fun i j hc h1 h2=>by
  unfold nA fF;rw[h1,h2,if_neg (by omega),if_neg (by omega)];rfl)
 clear ak hP hf aq hp hq fv L0 L1;generalize ptr p=P at *;generalize ptr q=Q at *;generalize nA R C x y t=T at *;obtain⟨ck,hck⟩:=zE (dP t)
 obtain⟨r,hr⟩:=zE (aI R x)
 obtain⟨c,hc⟩:∃ r,aI C y=r:=⟨_,rfl⟩
 rw[hck]at CC HOk om rn;rw[hr]at CR qi om rn;rw[hc]at CY qi om rn;clear hck hr hc;obtain⟨x0,x1,x2,x3,cg⟩:=ap.out _ zB
 go_in
 go_upto_region 1 with fail
 rw[<- aj.out];clear aj
 go_cut [9,10] (fun va vb wx=>va=vI r/\vb=vI c/\Hid (Below W0.heap.size W0 wx))
 case first=>
  go_region_held3 (fun w'=>w'.cell? ⟨w.heap.size+1,0,none⟩=some (vI x.a)/\w'.cell? ⟨w.heap.size+1,1,none⟩=some (vI x.n)/\w'.cell? ⟨w.heap.size+1,2,none⟩=some (vI y.a)/\w'.cell? ⟨w.heap.size+1,3,none⟩=some (vI y.n)/\Below W0.heap.size W0 w')
   (first|exact ap.out _ cg|exact ap.out _ cg.drew |(go_split_ands;exact ap.out _ (Below.trans (by assumption) (Below.mono hb (Below.size (by assumption)))))|assumption)
   (first
    |(go_at_call 20;(with_reducible refine(CR.out _ ?hz).mono ?_);(case hz=>(first|assumption|exact cg.drew |(go_split_ands;assumption)));rintro e wx ⟨rfl,hb⟩)
    |(go_at_call 20;(with_reducible refine(CY.out _ ?hz).mono ?_);(case hz=>(first|assumption|exact cg.drew |(go_split_ands;assumption)));rintro e wx ⟨rfl,hb⟩))
  all_goals go_wp2_with fail
  all_goals go_meet
  all_goals refine⟨rfl,rfl,zh ?_⟩
  all_goals first|assumption |(go_split_ands;assumption)
 case rest=>
 obtain⟨rfl,rfl,bi⟩:=hcut;obtain⟨W1,an⟩:=zD wc
 subst an;have fh:=HRn.out _ bi.out;have jl:=zh fh;have mu:=CC.out _ bi.out;have CC1:=zh mu;clear x0 x1 x2 x3 cg ap CR CY fh mu CC;by_cases hk:ck=0
 ·subst hk;by_cases h1:r<0
  ·have hT:=om.out (.inr (.inl h1));have az:=zh hT;clear hT om rn HOk
   go_wp2_with (first
    |(refine yr rfl 34 (.tmp 4) rfl w.heap.size 0 rfl Cn _ jl.out Tryz.underlying34 rfl bg.out ?_)
    |((with_reducible refine CC1.out.mono ?_);rintro e W2 ⟨rfl,hb⟩;have aw:=zT bi hb;clear hb))
   go_ret
   exact⟨by(rw[az.out]) <;> rfl,zU af.out aw.out⟩
  by_cases h2:c<0
  ·have hT:=om.out (.inr (.inr h2));have az:=zh hT;clear hT om rn HOk
   go_wp2_with (first
    |(refine yr rfl 34 (.tmp 4) rfl w.heap.size 0 rfl Cn _ jl.out Tryz.underlying34 rfl bg.out ?_)
    |((with_reducible refine CC1.out.mono ?_);rintro e W2 ⟨rfl,hb⟩;have aw:=zT bi hb;clear hb))
   go_ret
   exact⟨by(rw[az.out]) <;> rfl,zU af.out aw.out⟩
  obtain⟨i,rfl⟩:∃ i:Nat,r=(i:Int):=⟨r.toNat,by omega⟩
  obtain⟨j,rfl⟩:∃ j:Nat,c=(j:Int):=⟨c.toNat,by omega⟩
  obtain⟨k1,k2,htl⟩:=HOk.out i j (by have:=qi.out.1;omega) (by have:=qi.out.2;omega) rfl;have hT:=rn.out i j rfl rfl rfl;have CT:=zh k1;have HJ:=zh k2;have az:=zh hT;clear hT k1 k2 om rn HOk;obtain⟨ni,htk⟩:∃ x,x=t.toks (.seen i j) R C:=⟨_,rfl⟩
  rw[<- htk]at CT HJ htl az;clear htk
  go_wp2_with (first
   |(refine yr rfl 34 (.tmp 4) rfl w.heap.size 0 rfl Cn _ jl.out Tryz.underlying34 rfl bg.out ?_)
   |((with_reducible refine CC1.out.mono ?_);rintro e W2 ⟨rfl,hb⟩;have vx:=zT bi hb;have aw:=zh (zU af.out vx.out);replace jl:=zh (HRn.out _ vx.out);clear hb CC1)
   |((with_reducible refine(CT.out _ aw.out).mono ?_);rintro e W2 ⟨A2,c2,rfl,ho,hb⟩;have bm:=zT aw hb;have ej:=zh (aM ho aw.out.size);obtain⟨W3,ie⟩:=zD (W2.alloc (.cells #[vI 0,vS #[],vI 0] 85));have HW3:=zh ie;have bf:=zF bm ie;have jf:Hid (W3.ownsRow w.heap.size 85 3 (.slice A2 ni.length c2) ni.length (cN ni)):=zh (by rw[ie];exact ej.out.alloc _);have HE3:Hid (W3.ownsRow W2.heap.size 85 3 (.slice (some ⟨W2.heap.size,0,none⟩) 1 1) 1 (cN [qZ])):=zh (by rw[ie];exact⟨rfl,.inr ⟨_,1,#[vI 0,vS #[],vI 0],rfl,zr,heap_alloc_new _ _,zr,by unfold maxLen;omega,rfl,rfl⟩⟩);clear ho hb ie)
   |(at_builtin;rw[<- HW3.out];refine aU rfl _ _ rfl w.heap.size W2.heap.size _ _ ni [qZ] rfl jf.out rfl HE3.out (by simp;omega) bf.out.size ?_;intro A4 c4 w4 k4 g4;have HIn:Hid (RIn w4 A4 (ni++[qZ])):=zh (yQ k4);have bt:=zh (bf.out.trans (aO (aM jf.out zr) g4 bf.out.size));clear k4 g4)
   |((with_reducible refine(HJ.out A4 c4 _ HIn.out).mono ?_);rintro e w7 ⟨rfl,hb⟩;have nd:=zT bt hb;clear hb))
  go_ret
  exact⟨by(rw[az.out]) <;> rfl,nd.out⟩
 have hT:=om.out (.inl hk);have az:=zh hT;have da:((ck:Int) != 0)=true:=by simp;omega
 clear hT om rn HOk
 go_wp2_with (first
  |(refine yr rfl 34 (.tmp 4) rfl w.heap.size 0 rfl Cn _ jl.out Tryz.underlying34 rfl bg.out ?_)
  |((with_reducible refine CC1.out.mono ?_);rintro e W2 ⟨rfl,hb⟩;have aw:=zT bi hb;clear hb))
 go_ret
 exact⟨by(rw[az.out]) <;> rfl,zU af.out aw.out⟩
end Go.Proofs.YtjfihpaeglpblaaGreatDoor
