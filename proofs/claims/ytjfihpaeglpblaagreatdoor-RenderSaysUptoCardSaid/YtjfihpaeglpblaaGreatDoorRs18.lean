/-
  Lemmas, part 18: WrG WrH WrI WrJ WrK RsD.
-/
import Derived.Test.YtjfihpaeglpblaaGreatDoorRs17
set_option maxHeartbeats 100000000
set_option maxRecDepth 1000000
namespace Go.Proofs.YtjfihpaeglpblaaGreatDoor
open Go.RowKit
abbrev sfP:Value:=.func (.func 34) #[] #[]
theorem wT{p m:Nat}{rp cp:Option Nat}{R C:AxV}{sf:Value}{ts:List RTok}(x:IdR)(hx:x.fits):∀ W,WrS W p m rp cp R C sf ts->Calls Tryz.prog 40 #[.pointer (ptr rp),.agg #[vI x.a,vI x.n]] W fun e w'=>e=.returned (.tuple #[vI (if aU R x<0 then 0 else aU R x),.bool (decide (0<=aU R x))])/\WrS w' p m rp cp R C sf ts/\Kw p (rp.toList++cp.toList) W w':=fun W h=>
 (gE rp R x W h.ax hx).mono (by
  rintro e w' ⟨rfl,h1,h2⟩;exact⟨rfl,h.askR h2 h1,Kw.askR h2⟩)
theorem wS{p m:Nat}{rp cp:Option Nat}{R C:AxV}{sf:Value}{ts:List RTok}(x:IdR)(hx:x.fits):∀ W,WrS W p m rp cp R C sf ts->Calls Tryz.prog 40 #[.pointer (ptr cp),.agg #[vI x.a,vI x.n]] W fun e w'=>e=.returned (.tuple #[vI (if aU C x<0 then 0 else aU C x),.bool (decide (0<=aU C x))])/\WrS w' p m rp cp R C sf ts/\Kw p (rp.toList++cp.toList) W w':=fun W h=>
 (gE cp C x W h.ay hx).mono (by
  rintro e w' ⟨rfl,h1,h2⟩;exact⟨rfl,h.askC h2 h1,Kw.askC h2⟩)
theorem fV{p m:Nat}{rp cp:Option Nat}{R C:AxV}{sf:Value}{ts:List RTok}(x y:IdR)(hx:x.fits)(hy:y.fits){v:Value}(hv:endsV (cM R x y)=v):∀ W,WrS W p m rp cp R C sf ts->Calls Tryz.prog 194 #[.pointer (ptr rp),.agg #[vI x.a,vI x.n],.agg #[vI y.a,vI y.n]] W fun e w'=>e=.returned v/\WrS w' p m rp cp R C sf ts/\Kw p (rp.toList++cp.toList) W w':=fun W h=>
 (vV rp R x y W h.ax hx hy).mono (by
  rintro e w' ⟨rfl,h1,h2⟩;exact⟨by rw[hv],h.askR h2 h1,Kw.askR h2⟩)
theorem fU{p m:Nat}{rp cp:Option Nat}{R C:AxV}{sf:Value}{ts:List RTok}(x y:IdR)(hx:x.fits)(hy:y.fits){v:Value}(hv:endsV (cM C x y)=v):∀ W,WrS W p m rp cp R C sf ts->Calls Tryz.prog 194 #[.pointer (ptr cp),.agg #[vI x.a,vI x.n],.agg #[vI y.a,vI y.n]] W fun e w'=>e=.returned v/\WrS w' p m rp cp R C sf ts/\Kw p (rp.toList++cp.toList) W w':=fun W h=>
 (vV cp C x y W h.ay hx hy).mono (by
  rintro e w' ⟨rfl,h1,h2⟩;exact⟨by rw[hv],h.askC h2 h1,Kw.askC h2⟩)
theorem tO{p m:Nat}{rp cp:Option Nat}{R C:AxV}{ts:List RTok}(h:NodeH)(A:Option Addr)(n ca:Nat)(Cn:List Value)(w:World)(af:Cn.toArray=aJ h A n ca)(hw:WrS w p m rp cp R C sfP ts)(hn:ts.length<=700000)(hk:h.kind=1\/h.kind=3)(hf:h.a.fits) :
  Calls Tryz.prog 138 #[vP p 0,.agg Cn.toArray] w fun e w'=>WrO p m rp cp R C sfP (ts++kE .plain R C h) w e w':=by
 have hP:=wT (p:=p) (m:=m) (rp:=rp) (cp:=cp) (R:=R) (C:=C) (sf:=sfP) (ts:=ts) h.a.row hf.1;have hQ:=wS (p:=p) (m:=m) (rp:=rp) (cp:=cp) (R:=R) (C:=C) (sf:=sfP) (ts:=ts) h.a.col hf.2;have hR:=jB hw.ax.av h.a.row;have hC:=jB hw.ay.av h.a.col;unfold kE;by_cases hg:aU R h.a.row<0\/aU C h.a.col<0
 ·rw[if_pos hg];refine uCU h A n ca Cn w (zh af) hw hn _ _ _ _ hP hQ (fun hb=>?_);have:=of_decide_eq_true hb;exact decide_eq_false (by omega)
 rw[if_neg hg];obtain⟨i,hi⟩:∃ i:Nat,aU R h.a.row=(i:Int):=⟨(aU R h.a.row).toNat,by omega⟩
 obtain⟨j,hj⟩:∃ j:Nat,aU C h.a.col=(j:Int):=⟨(aU C h.a.col).toNat,by omega⟩
 rw[hi]at hP hR ⊢;rw[hj]at hQ hC ⊢;rw[if_neg (by omega:¬ (i:Int)<0),decide_eq_true (by omega:(0:Int)<=(i:Int))]at hP;rw[if_neg (by omega:¬ (j:Int)<0),decide_eq_true (by omega:(0:Int)<=(j:Int))]at hQ;rw[Int.toNat_natCast,Int.toNat_natCast];have hT:=fun W (hp:PowTab W)=>tC i j h.a.fr h.a.fc W hp (by omega) (by omega)
 rcases hk with hk|hk
 ·rw[if_neg (by rw[hk];decide)];exact uGU h A n ca Cn w (zh af) hw hn _ _ _ _ hP hQ _ (zh rfl) (zh rfl) hT hk
 rw[if_pos hk];have e:ts++(cY .plain i j h.a.fr h.a.fc::[tk 5 [35]])=ts++[cY .plain i j h.a.fr h.a.fc]++[tk 5 [35]]:=by simp
 rw[e];exact zW h A n ca Cn w (zh af) hw hn _ _ _ _ hP hQ _ (zh rfl) (zh rfl) hT hk
theorem uCT{p m:Nat}{rp cp:Option Nat}{R C:AxV}{ts:List RTok}(h:NodeH)(w:World)(hw:WrS w p m rp cp R C sfP ts)(hn:ts.length<=700000)(vg:h.a.fits)(vh:h.b.fits)(hab:¬ (h.a.row=id0/\h.a.col=id0)) :
  Calls Tryz.prog 139 #[vP p 0,.agg #[vI h.a.row.a,vI h.a.row.n,vI h.a.col.a,vI h.a.col.n,.bool h.a.fr,.bool h.a.fc,vI h.b.row.a,vI h.b.row.n,vI h.b.col.a,vI h.b.col.n,.bool h.b.fr,.bool h.b.fc]] w fun e w'=>WrO p m rp cp R C sfP (ts++gB .plain R C h.a h.b) w e w':=by
 have e3:∀ a b c:RTok,ts++[a,b,c]=ts++[a]++[b]++[c]:=fun a b c=>by simp
 unfold gB;by_cases h1:h.a.row=id0
 ·have h2:h.a.col≠id0:=fun h2=>hab ⟨h1,h2⟩
  rw[if_pos h1];rcases cH hw.ay.av h.a.col h.b.col with g|⟨i,j,hi,hj,g⟩
  ·rw[g];exact uD h w hw hn (zh h1) (zh h2) (fU _ _ vg.2 vh.2 (by rw[g];rfl))
  rw[g];dsimp only;rw[Int.toNat_natCast,Int.toNat_natCast,e3];refine zS h w hw hn (zh h1) (zh h2) i j (fU _ _ vg.2 vh.2 (by rw[g];rfl)) _ _ (fun W hp=>?_) (fun W hp=>?_)
  ·cases h.a.fc
   ·exact yX 0 i h.a.fr W hp (by omega) (by omega)
   exact yW 0 i h.a.fr W hp (by omega) (by omega)
  cases h.b.fc
  ·exact yX 0 j h.b.fr W hp (by omega) (by omega)
  exact yW 0 j h.b.fr W hp (by omega) (by omega)
 rw[if_neg h1];by_cases h2:h.a.col=id0
 ·rw[if_pos h2];rcases cH hw.ax.av h.a.row h.b.row with g|⟨i,j,hi,hj,g⟩
  ·rw[g];exact uE h w hw hn (zh h1) (zh h2) (fV _ _ vg.1 vh.1 (by rw[g];rfl))
  rw[g];dsimp only;rw[Int.toNat_natCast,Int.toNat_natCast,e3];refine zV h w hw hn (zh h1) (zh h2) i j (fV _ _ vg.1 vh.1 (by rw[g];rfl)) _ _ (fun W hp=>?_) (fun W hp=>?_)
  ·cases h.a.fr
   ·exact yZ i 0 h.a.fc W hp (by omega) (by omega)
   exact yY i 0 h.a.fc W hp (by omega) (by omega)
  cases h.b.fr
  ·exact yZ j 0 h.b.fc W hp (by omega) (by omega)
  exact yY j 0 h.b.fc W hp (by omega) (by omega)
 rw[if_neg h2];rcases cH hw.ax.av h.a.row h.b.row with g|⟨i,j,hi,hj,g⟩
 ·rw[g];refine lM h w hw hn (zh h1) (zh h2) 0 0 (match cM C h.a.col h.b.col with|none=>0|some (a,_)=>a) (match cM C h.a.col h.b.col with|none=>0|some (_,b)=>b) false (cM C h.a.col h.b.col).isSome (fun h=>by cases h) (fV _ _ vg.1 vh.1 (by rw[g];rfl)) (fU _ _ vg.2 vh.2 ?_);cases cM C h.a.col h.b.col with
  |none=>rfl
  |some q=>rfl
 rcases cH hw.ay.av h.a.col h.b.col with g'|⟨i',j',ws,hj',g'⟩
 ·rw[g,g'];exact lM h w hw hn (zh h1) (zh h2) i j 0 0 true false (fun _=>rfl) (fV _ _ vg.1 vh.1 (by rw[g];rfl)) (fU _ _ vg.2 vh.2 (by rw[g'];rfl))
 rw[g,g'];dsimp only;rw[Int.toNat_natCast,Int.toNat_natCast,Int.toNat_natCast,Int.toNat_natCast,e3];exact xG h w hw hn (zh h1) (zh h2) i j i' j' (fV _ _ vg.1 vh.1 (by rw[g];rfl)) (fU _ _ vg.2 vh.2 (by rw[g'];rfl)) _ _ (fun W hp=>tC i i' h.a.fr h.a.fc W hp (by omega) (by omega)) (fun W hp=>tC j j' h.b.fr h.b.fc W hp (by omega) (by omega))
theorem uBH(h:NodeH)(A:Option Addr)(n c:Nat):(aJ h A n c).all (·.oneCell')=true:=by simp[aJ,Value.oneCell']
theorem lW:∀ {l:List Tree} (i:Nat) (hi:i<l.length),(l[i]'hi).size<=aM l
 | [],_,hi=>absurd hi (by simp)
 |t::r,0,_=>by show t.size<=aM (t::r);rw[aM];omega
 |t::r,i+1,hi=>by
  have:=lW (l:=r) i (by simpa using hi);show (r[i]'_).size<=aM (t::r);rw[aM];omega
theorem jE:∀ (a b:List Tree),aM (a++b)=aM a+aM b
 | [],b=>by simp[aM]
 |t::a,b=>by rw[yp,aM,jE a b,aM];omega
theorem uDZ{N:Nat}:∀ {l:List Tree} (i:Nat) (hi:i<l.length),okL N l->(l[i]'hi).ok N
 | [],_,hi,_=>absurd hi (by simp)
 |t::r,0,_,h=>by rw[okL]at h;exact h.1
 |t::r,i+1,hi,h=>by
  rw[okL]at h;exact uDZ (l:=r) i (by simpa using hi) h.2
theorem fP(v:Say)(R C:AxV):∀ (l:List Tree) (k:Nat),(bG v R C l).take k=bG v R C (l.take k)
 | [],k=>by simp[bG]
 |t::r,0=>by simp[bG]
 |t::r,k+1=>by rw[bG,List.take_succ_cons,List.take_succ_cons,bG,fP v R C r k]
theorem nF(v:Say)(R C:AxV):∀ (l:List Tree) (k:Nat),(bG v R C l).drop k=bG v R C (l.drop k)
 | [],k=>by simp[bG]
 |t::r,0=>rfl
 |t::r,k+1=>by rw[bG,List.drop_succ_cons,List.drop_succ_cons,nF v R C r k]
theorem oB{k:Int}:∀ {l:List Tree} (n:Nat),aZ l k=true->aZ (l.take n) k=true
 | [],_,_=>by simp[aZ]
 |_::_,0,_=>by simp[aZ]
 |t::r,n+1,h=>by
  simp only[aZ,yh]at h;rw[List.take_succ_cons,aZ,h.1.1,h.1.2,oB n h.2];rfl
def uH(p m:Nat)(rp cp:Option Nat)(R C:AxV)(t:Tree):Prop:=∀ (W:World) (ts:List RTok) (Cn:List Value),WrS W p m rp cp R C sfP ts->TreeP (PLo p (rp.toList++cp.toList)) W t Cn.toArray->ts.length+6*t.size<=600000 ->
 Calls Tryz.prog 74 #[vP p 0,.agg Cn.toArray] W fun e w'=>WrO p m rp cp R C sfP (ts++t.toks .plain R C) W e w'
theorem TreeP.one{P:Nat->Prop}{W:World}{t:Tree}{ci:List Value}(h:TreeP P W t ci.toArray):ci.toArray.all (·.oneCell')=true:=by
 obtain⟨A,cp,e,_⟩:=h;rw[e];exact uBH _ _ _ _
theorem wX{k:Int}:∀ {l:List Tree} (n:Nat),aZ l k=true->aZ (l.drop n) k=true
 | [],_,_=>by simp[aZ]
 |_::_,0,h=>h
 |t::r,n+1,h=>by
  simp only[aZ,yh]at h;exact wX (l:=r) n h.2
theorem xC(l:List Tree)(k:Nat):aM (l.take k)<=aM l:=by
 have:=jE (l.take k) (l.drop k);rw[List.take_append_drop]at this;omega
theorem uT{p m:Nat}{rp cp:Option Nat}{R C:AxV}{A:Option Addr}{l:List Tree}{kd:Int}(lo n ca:Nat)(lz:lo+n<=l.length)(g o:Nat)(hA2:0<n->A=some ⟨g,o,none⟩)(A':Option Addr)(hA3:0<n->A'=some ⟨g,o+lo*22,none⟩)(hr:aZ l kd=true)(hk:∀ i (hi:i<l.length),uH p m rp cp R C (l[i]'hi))(w:World)(ts:List RTok)(hw:WrS w p m rp cp R C sfP ts)(hP:KidsPO (PLo p (rp.toList++cp.toList)) w A l)(hn:ts.length+6*aM ((l.drop lo).take n)+4<=600000)(hn3:n<=100000) :
  Calls Tryz.prog 136 #[vP p 0,.slice A' n ca] w fun e w'=>WrO p m rp cp R C sfP (ts++bF (((bG .plain R C l).drop lo).take n)) w e w':=by
 obtain⟨L,hL⟩:∃ L,L=(l.drop lo).take n:=⟨_,rfl⟩
 have e0:((bG .plain R C l).drop lo).take n=bG .plain R C L:=by rw[nF,fP,hL]
 have hrL:aZ L kd=true:=by rw[hL];exact oB n (wX lo hr)
 have uu:L.length=n:=by rw[hL,zc,yk];omega
 rw[e0];rw[<- hL]at hn;have wl:∀ k,(bF ((bG .plain R C L).take k)).length<=6*aM (L.take k):=by
  intro k;have h1:=gL ((bG .plain R C L).take k);have h3:=fO .plain R C (L.take k) kd (oB k hrL);rw[fP,bR]at h1;rw[fP];omega
 have key:=uGW (p:=p) (m:=m) (rp:=rp) (cp:=cp) (R:=R) (C:=C) (sf:=sfP) (ts:=ts) A' ca (bG .plain R C L) w hw (fun k fs=>?_) (by rw[bR,uu];exact hn3) (fun k=>by have:=wl k;have:=xC L k;omega)
 ·rw[bR,uu]at key;exact key
 rw[bR,uu]at fs;have hi:lo+k<l.length:=by omega
 obtain⟨g',og,ci,e1,fq,cv⟩:=gZ hP (lo+k) hi;have e2:=hA2 (by omega);rw[e2]at e1;injection e1 with e1;injection e1 with e1 e3 _;subst e1 e3;refine⟨g,o+lo*22,ci,hA3 (by omega),fq,((cv w (KP.refl _ _)).2).one,fun W ts' hs hkw=>?_⟩;obtain⟨c1,c2⟩:=cv W (Kw.kp hkw hw);refine⟨by rw[show o+lo*22+k*22=o+(lo+k)*22 by omega];exact c1,fun hb=>?_⟩;have zo:k<L.length:=by omega
 have eL:L[k]'zo=l[lo+k]'hi:=by
  subst hL;rw[List.getElem_take,List.getElem_drop]
 have e4:(bG .plain R C L)[k]'(by rw[bR];exact zo)=(l[lo+k]'hi).toks .plain R C:=by
  rw[pJ _ _ _ L k zo,eL]
 rw[e4];refine hk (lo+k) hi W ts' ci hs c2 ?_;have h3:=wl k;have h6:aM (L.take k)+(l[lo+k]'hi).size<=aM L:=by
  have e7:=congrArg aM (List.take_append_drop k L);rw[jE,yx zo,aM,eL]at e7;omega
 omega
theorem one_of:∀ {l:List Tree},l.length=1->∃ a,l=[a]
 | [a],_=>⟨a,rfl⟩
theorem two_of:∀ {l:List Tree},l.length=2->∃ a b,l=[a,b]
 | [a,b],_=>⟨a,b,rfl⟩
theorem TreeP.cells{P:Nat->Prop}{W:World}{t:Tree}{ci:List Value}(h:TreeP P W t ci.toArray):∃ A n c,ci.toArray=aJ t.h A n c:=by
 obtain⟨A,cp,e,_⟩:=h;exact⟨A,_,cp,e⟩
theorem wB{t:Tree}{k:Int}(h:t.right k=true):t.h.kind=6->mR t.h.name=true:=by
 obtain⟨th,l⟩:=t;intro e;exact(iD (eD h).1 e).1
theorem kC{p m:Nat}{rp cp:Option Nat}{R C:AxV}{t:Tree}{kd:Int}(hr:t.right kd=true)(hk:uH p m rp cp R C t){w:World}{ts0:List RTok}(hw:WrS w p m rp cp R C sfP ts0){g o:Nat}{ci:List Value}(cv:∀ W,KP (PLo p (rp.toList++cp.toList)) w W->W.rangeAt g o ci/\TreeP (PLo p (rp.toList++cp.toList)) W t ci.toArray)(lev:Int) :
  ∀ W ts',WrS W p m rp cp R C sfP ts'->Kw p (rp.toList++cp.toList) w W->ts'.length+6*t.size+2<=600000->Calls Tryz.prog 134 #[vP p 0,.agg ci.toArray,vI lev] W fun e w'=>WrO p m rp cp R C sfP (ts'++dU (bN t) lev (t.toks .plain R C)) W e w':=fun W ts' hs hkw hb=>by
 obtain⟨A,n,c,e⟩:=(cv w (KP.refl _ _)).2.cells;have hl:=eF .plain R C t kd hr;rw[uFK];exact uAG t.h A n c ci lev (t.toks .plain R C) W (zh e) hs (wB hr) (by omega) (fun W2 ev jv gr aw=>hk W2 ev ci jv ((cv W2 (Kw.kp (hkw.trans gr) hw)).2) (by omega))
theorem uFJ{p m:Nat}{rp cp:Option Nat}{R C:AxV}{t:Tree}{kd:Int}{N:Nat}(hr:t.right kd=true)(ho:t.ok N)(aq:t.size<=1000)(hk:∀ i (hi:i<t.l.length),uH p m rp cp R C (t.l[i]'hi)):uH p m rp cp R C t:=by
 intro W ts Cn hw hP hn;have pd:=eF .plain R C t kd hr;obtain⟨⟨kind,vv,s,a,b,r⟩,l⟩:=t;obtain⟨A,ca,af,li,lx⟩:=hP;replace hk:∀ i (hi:i<l.length),uH p m rp cp R C (l[i]'hi):=hk
 replace af:Cn.toArray=aJ ⟨kind,vv,s,a,b,r⟩ A l.length ca:=af;replace li:l.length<=ca:=li;replace lx:KidsPO (PLo p (rp.toList++cp.toList)) W A l:=lx;obtain⟨h1,h2⟩:=eD hr;rw[Tree.ok]at ho;obtain⟨⟨m1,m2,fa,fb,_,_⟩,hol⟩:=ho;replace fa:a.fits:=fa;replace fb:b.fits:=fb;have hs0:(Tree.mk ⟨kind,vv,s,a,b,r⟩ l).size=aM l+1:=by rw[Tree.size]
 rw[hs0]at hn aq pd;have hlen:=fun(j:Nat) (hj:j<l.length)=>lW (l:=l) j hj
 have qg:l.length<=aM l:=by
  have:∀ l:List Tree,l.length<=aM l:=by
   intro l
   induction l with
   |nil=>simp
   |cons t r ih=>
    have:1<=t.size:=by cases t;rw[Tree.size];omega
    rw[yi,aM];omega
  exact this l
 rcases qK h1 with q |(q|q)|q|q|q|q|q|q|q
 ·have q:kind=0:=q;subst q;have e:(Tree.mk ⟨0,vv,s,a,b,r⟩ l).toks .plain R C=jQ vv:=by rw[Tree.toks];unfold dM;rw[if_pos rfl]
  rw[e];obtain⟨g1,g2⟩:=mZ h1 rfl;exact uGZ vv s a b r A _ ca Cn (jQ vv) W (zh af) hw (fun W hs=>xH vv W hs (by omega) g1 g2)
 ·have q:kind=1:=q;subst q;have e:(Tree.mk ⟨1,vv,s,a,b,r⟩ l).toks .plain R C=kE .plain R C ⟨1,vv,s,a,b,r⟩:=by rw[Tree.toks];unfold dM;rw[if_neg (by show ¬ (1:Int)=0;omega),if_pos (.inl rfl)]
  rw[e];exact uHB vv s a b r A _ ca Cn _ W (zh af) hw (fun W hs _=>tO ⟨1,vv,s,a,b,r⟩ A _ ca Cn W af hs (by omega) (.inl rfl) fa)
 ·have q:kind=3:=q;subst q;have e:(Tree.mk ⟨3,vv,s,a,b,r⟩ l).toks .plain R C=kE .plain R C ⟨3,vv,s,a,b,r⟩:=by rw[Tree.toks];unfold dM;rw[if_neg (by show ¬ (3:Int)=0;omega),if_pos (.inr rfl)]
  rw[e];exact zZ vv s a b r A _ ca Cn _ W (zh af) hw (fun W hs _=>tO ⟨3,vv,s,a,b,r⟩ A _ ca Cn W af hs (by omega) (.inr rfl) fa)
 ·have q:kind=2:=q;subst q;have e:(Tree.mk ⟨2,vv,s,a,b,r⟩ l).toks .plain R C=gB .plain R C a b:=by rw[Tree.toks];unfold dM;rw[if_neg (by show ¬ (2:Int)=0;omega),if_neg (by show ¬ ((2:Int)=1\/(2:Int)=3);omega),if_pos rfl]
  rw[e];exact uCY vv s a b r A _ ca Cn _ W (zh af) hw (fun W hs _=>uCT ⟨2,vv,s,a,b,r⟩ W hs (by omega) fa fb (qJ h1 rfl).1)
 ·have q:kind=4:=q;subst q;have e:(Tree.mk ⟨4,vv,s,a,b,r⟩ l).toks .plain R C=[tk 3 s,tk 5 [40]]++bF (bG .plain R C l)++[tk 5 [41]]:=by
   rw[Tree.toks];unfold dM;rw[if_neg (by show ¬ (4:Int)=0;omega),if_neg (by show ¬ ((4:Int)=1\/(4:Int)=3);omega),if_neg (by show ¬ (4:Int)=2;omega),if_pos rfl];simp
  rw[e]at pd ⊢;refine uCZ vv s a b r A _ ca Cn _ W (zh af) hw _ rfl (by omega) (fun W2 ev jv gr aw=>?_);have hP2:=lx.keep (Kw.kp gr hw);obtain⟨g,o,hA⟩:∃ g o,0<l.length->A=some ⟨g,o,none⟩:=by
   rcases lx with h0|⟨g,o,e,_⟩
   ·have h0:l=[]:=h0;exact⟨0,0,fun h=>by rw[h0]at h;simp at h⟩
   exact⟨g,o,fun _=>e⟩
  have hz4:=xC (l.drop 0) l.length;rw[List.drop_zero]at hz4;have key:=uT (p:=p) (m:=m) (rp:=rp) (cp:=cp) (R:=R) (C:=C) (A:=A) (l:=l) (kd:=4) 0 l.length ca (by omega) g o hA A (fun h=>by rw[hA h,Nat.zero_mul,Nat.add_zero]) h2 hk W2 ev jv hP2 (by rw[List.drop_zero];omega) (by omega);rw[List.drop_zero,List.take_of_length_le (by rw[bR];exact zr)]at key;exact key
 ·have q:kind=5:=q;subst q;obtain⟨hu,bj⟩:=pE h1 rfl;obtain⟨t0,rfl⟩:=one_of bj;have jw:=(dP (l:=[t0]) 0 (by simp) h2).1;have gu:=hk 0 (by simp);have my:t0.size+0=aM [t0]:=by simp[aM]
  obtain⟨g,og,ci,hA,fq,cv⟩:=gZ lx 0 (by simp);simp only[List.getElem_cons_zero,Nat.zero_mul,Nat.add_zero]at jw gu cv;by_cases hs:s=[37]
  ·have e:(Tree.mk ⟨5,vv,s,a,b,r⟩ [t0]).toks .plain R C=dU (bN t0) 7 (t0.toks .plain R C)++[tk 5 [37]]:=by
    rw[Tree.toks];unfold dM;rw[if_neg (by show ¬ (5:Int)=0;omega),if_neg (by show ¬ ((5:Int)=1\/(5:Int)=3);omega),if_neg (by show ¬ (5:Int)=2;omega),if_neg (by show ¬ (5:Int)=4;omega),if_pos rfl,if_pos (by exact hs),hs];rfl
   rw[e]at pd ⊢;exact zY vv s a b r A _ ca Cn _ W (zh af) hw g og ci fq hA hs rfl _ rfl (by omega) (fun W2 ev jv gr=>(cv W2 (Kw.kp gr hw)).1) (fun W2 ev jv gr aw=>kC jw gu hw cv 7 W2 ev jv gr (by omega))
  have e:(Tree.mk ⟨5,vv,s,a,b,r⟩ [t0]).toks .plain R C=tk 5 s::dU (bN t0) 6 (t0.toks .plain R C):=by
   rw[Tree.toks];unfold dM;rw[if_neg (by show ¬ (5:Int)=0;omega),if_neg (by show ¬ ((5:Int)=1\/(5:Int)=3);omega),if_neg (by show ¬ (5:Int)=2;omega),if_neg (by show ¬ (5:Int)=4;omega),if_pos rfl,if_neg (by exact hs)];rfl
  rw[e]at pd ⊢;exact uDC vv s a b r A _ ca Cn _ W (zh af) hw g og ci fq hA (beq_eq_false_iff_ne.2 hs) rfl _ rfl (by omega) (fun W2 ev jv gr=>(cv W2 (Kw.kp gr hw)).1) (fun W2 ev jv gr aw=>kC jw gu hw cv 6 W2 ev jv gr (by omega))
 ·have q:kind=6:=q;subst q;obtain⟨hu,u5q⟩:=iD h1 rfl;obtain⟨t0,t1,rfl⟩:=two_of u5q;have jw:=(dP (l:=[t0,t1]) 0 (by simp) h2).1;have gu:=hk 0 (by simp);have fj:=(dP (l:=[t0,t1]) 1 (by simp) h2).1;have ec:=hk 1 (by simp);have my:t0.size+t1.size=aM [t0,t1]:=by simp[aM]
  obtain⟨g,og,ci,hA,fq,cv⟩:=gZ lx 0 (by simp);obtain⟨g',og',cj,r8,h22',zt⟩:=gZ lx 1 (by simp);rw[hA]at r8;injection r8 with r8;injection r8 with e1 e2 _;subst e1 e2;simp only[List.getElem_cons_zero,List.getElem_cons_succ,Nat.zero_mul,Nat.one_mul,Nat.add_zero]at jw gu cv fj ec zt;have m8:0<=bD s/\bD s<=8:=by
   unfold bD
   repeat' split
   all_goals omega
  have e:(Tree.mk ⟨6,vv,s,a,b,r⟩ [t0,t1]).toks .plain R C=dU (bN t0) (bD s) (t0.toks .plain R C)++tk 5 s::dU (bN t1) (bD s+1) (t1.toks .plain R C):=by
   rw[Tree.toks];unfold dM;rw[if_neg (by show ¬ (6:Int)=0;omega),if_neg (by show ¬ ((6:Int)=1\/(6:Int)=3);omega),if_neg (by show ¬ (6:Int)=2;omega),if_neg (by show ¬ (6:Int)=4;omega),if_neg (by show ¬ (6:Int)=5;omega),if_pos rfl];rfl
  have hw0:=eI (bN t0) (bD s) (t0.toks .plain R C);have eh:=eF .plain R C t0 6 jw;rw[e]at pd ⊢;exact uHC vv s a b r A _ ca Cn _ W (zh af) hw g og ci fq hA cj h22' (bD s) m8.1 m8.2 rfl _ _ rfl (by omega) (fun W2 ev jv gr=>⟨(cv W2 (Kw.kp gr hw)).1,(zt W2 (Kw.kp gr hw)).1⟩)
   (fun W2 jv=>tP ⟨6,vv,s,a,b,r⟩ A _ ca Cn W2 (zh af) jv (fun _=>hu))
   (fun W2 ev jv gr aw=>kC jw gu hw cv _ W2 ev jv gr (by omega))
   (fun W2 ev jv gr aw=>kC fj ec hw zt _ W2 ev jv gr (by omega))
 ·have q:kind=7:=q;subst q;have e:(Tree.mk ⟨7,vv,s,a,b,r⟩ l).toks .plain R C=[tk 3 s]:=by
   rw[Tree.toks];unfold dM;rw[if_neg (by show ¬ (7:Int)=0;omega),if_neg (by show ¬ ((7:Int)=1\/(7:Int)=3);omega),if_neg (by show ¬ (7:Int)=2;omega),if_neg (by show ¬ (7:Int)=4;omega),if_neg (by show ¬ (7:Int)=5;omega),if_neg (by show ¬ (7:Int)=6;omega),if_pos rfl]
  rw[e];exact uDA vv s a b r A _ ca Cn _ W (zh af) hw rfl (by omega)
 ·have q:kind=8:=q;subst q;obtain⟨rr,cc,np,fj,du,dw⟩:=nA h1 rfl;have np:r=(rr:Int):=np;subst np;have hd:l.length / (rr:Int).toNat=cc:=by rw[Int.toNat_natCast,dw];exact Nat.mul_div_cancel_left cc (by omega)
  have e:(Tree.mk ⟨8,vv,s,a,b,(rr:Int)⟩ l).toks .plain R C=cS cc (bG .plain R C l) rr++[tk 5 [125]]:=by
   rw[Tree.toks];unfold dM;rw[if_neg (by show ¬ (8:Int)=0;omega),if_neg (by show ¬ ((8:Int)=1\/(8:Int)=3);omega),if_neg (by show ¬ (8:Int)=2;omega),if_neg (by show ¬ (8:Int)=4;omega),if_neg (by show ¬ (8:Int)=5;omega),if_neg (by show ¬ (8:Int)=6;omega),if_neg (by show ¬ (8:Int)=7;omega),if_pos rfl,bR];show cS (l.length / (rr:Int).toNat) _ (rr:Int).toNat++_=_;rw[hd,Int.toNat_natCast]
  have gy:0<l.length:=by rw[dw];exact Nat.mul_pos (by omega) (by omega)
  obtain⟨g,o,hA⟩:∃ g o,A=some ⟨g,o,none⟩:=by
   rcases lx with h0|⟨g,o,e,_⟩
   ·have h0:l=[]:=h0;rw[h0]at gy;simp at gy
   exact⟨g,o,e⟩
  subst hA;have hsum:=fO .plain R C l 8 h2;have bp:∀ i,(cS cc (bG .plain R C l) i).length<=fN (bG .plain R C l)+i*cc+i:=fun i=>by
   have:=jC cc (bG .plain R C l) i;have:=lX (bG .plain R C l) (i*cc);omega
  have we:∀ i,(cS cc (bG .plain R C l) i).length<=600000\/rr<i:=fun i=>by
   rcases Nat.lt_or_ge rr i with h|h
   ·exact .inr h
   have h3:=bp i;have h4:i*cc<=l.length:=by rw[dw];exact Nat.mul_le_mul_right cc h
   have h5:i<=i*cc:=Nat.le_mul_of_pos_right i du;exact .inl (by omega)
  rw[e];refine uHA vv s a b (rr:Int) _ _ ca Cn _ W (zh af) hw (fun W2 jv gr=>?_);refine zX ⟨8,vv,s,a,b,(rr:Int)⟩ g o ca rr cc Cn (bG .plain R C l) W2 (zh (by rw[<- dw];exact af)) rfl fj du (by rw[<- dw];exact li) (by rw[<- dw];omega) jv (fun i hi W3 ts3 hs3 hk3 bv=>?_) (fun i hi=>?_)
  ·have hP3:=lx.keep (Kw.kp (gr.trans hk3) hw);have h4:i*cc+cc<=l.length:=by
    have:=Nat.mul_le_mul_right cc (by omega:i+1<=rr);rw[Nat.succ_mul,<- dw]at this;exact this
   have h5:i<=i*cc:=Nat.le_mul_of_pos_right i du;have h6:=jC cc (bG .plain R C l) i;have h7:=fO .plain R C (l.take (i*cc)) 8 (oB _ h2);rw[<- fP,zc,Nat.min_eq_left (by omega)]at h7;have h8:aM (l.take (i*cc))+aM ((l.drop (i*cc)).take cc)<=aM l:=by
    have e8:=jE (l.take (i*cc)) (l.drop (i*cc));rw[List.take_append_drop]at e8;have:=xC (l.drop (i*cc)) cc;omega
   exact uT (p:=p) (m:=m) (rp:=rp) (cp:=cp) (R:=R) (C:=C) (A:=some ⟨g,o,none⟩) (l:=l) (kd:=8) (i*cc) cc (ca-i*cc) h4 g o (fun _=>rfl) _ (fun _=>rfl) h2 hk W3 ts3 hs3 hP3 (by omega) (by omega)
  rcases we i with h|h
  ·have h3:=bp i;have h4:i*cc<=l.length:=by rw[dw];exact Nat.mul_le_mul_right cc hi
   have h5:i<=i*cc:=Nat.le_mul_of_pos_right i du;omega
  omega
 have q:kind=9:=q;subst q;have e:(Tree.mk ⟨9,vv,s,a,b,r⟩ l).toks .plain R C=[]:=by
  rw[Tree.toks];unfold dM;rw[if_neg (by show ¬ (9:Int)=0;omega),if_neg (by show ¬ ((9:Int)=1\/(9:Int)=3);omega),if_neg (by show ¬ (9:Int)=2;omega),if_neg (by show ¬ (9:Int)=4;omega),if_neg (by show ¬ (9:Int)=5;omega),if_neg (by show ¬ (9:Int)=6;omega),if_neg (by show ¬ (9:Int)=7;omega),if_neg (by show ¬ (9:Int)=8;omega)]
 rw[e];exact uDB vv s a b r A _ ca Cn _ W (zh af) hw rfl
theorem uGY(p m:Nat)(rp cp:Option Nat)(R C:AxV)(N:Nat):∀ (n:Nat) (t:Tree),t.size<=n->t.size<=1000->∀ (kd:Int),t.right kd=true->t.ok N->uH p m rp cp R C t:=by
 intro n
 induction n with
 |zero=>intro t h;cases t;rw[Tree.size]at h;omega
 |succ n ih=>
  intro t aq fi kd hr ho;refine uFJ hr ho fi (fun i hi=>?_);obtain⟨h,l⟩:=t;have hi:i<l.length:=hi;have h1:=lW (l:=l) i hi;have hs:(Tree.mk h l).size=aM l+1:=by rw[Tree.size]
  rw[hs]at aq fi;rw[Tree.ok]at ho;exact ih _ (by show (l[i]'hi).size<=n;omega) (by show (l[i]'hi).size<=1000;omega) h.kind (dP i hi (eD hr).2).1 (uDZ i hi ho.2)
theorem WrS.axG{W W':World}{p m:Nat}{rp cp:Option Nat}{R C:AxV}{sf v:Value}{ts:List RTok}(h:WrS W p m rp cp R C sf ts)(hv:W.cell? ⟨p,4,none⟩=some v)(hg:W.grownBy W' v.ownBlock):AxF W' rp R/\AxF W' cp C/\Gl W'/\Kp v.ownBlock.toList W W'/\∀ g∈v.ownBlock.toList,p<g:=by
 obtain⟨v0,h1,h2⟩:=h.box;have hc:W.cell? ⟨p,4,none⟩=some v0:=h1.cell 4;rw[hv]at hc;injection hc with hc;subst hc;have hvo:=wQ h2;have ec:Kp v.ownBlock.toList W W':=(Kp.refl _ W).grown hg (fun g kh=>.inl (by rw[kh];exact .head _));have ba:∀ g∈v.ownBlock.toList,p<g:=fun g hm=>(eN.1 (hvo g (by simpa using hm)).1).2.1
 have hY:NoAx W v.ownBlock.toList:=fun y hy _=>by
  obtain⟨_,cs,k⟩:=hvo y (by simpa using hy);exact⟨_,_,k,by decide,by decide,by decide,by decide⟩
 refine⟨h.ax.kp ec hY,h.ay.kp ec hY,h.gl.kp ec (fun b hb=>?_),ec,ba⟩;have:=ba b hb;obtain⟨q1,q2,q3⟩:=h.pl;exact⟨by omega,by omega,by omega⟩
theorem Gl.low{w:World}(h:Gl w){p:Nat}(hp:w.heap.size<=p):mC p:=by
 refine⟨yu h.tab.lt hp,?_,?_⟩
 ·have hw:=h.pow;unfold PowTab Lib.TabIs World.var? at hw;rw[gPow]at hw;simp only[Option.bind_some]at hw;rcases Nat.lt_or_ge 4 w.heap.size with h'|h'
  ·omega
  rw[Array.getElem?_eq_none h']at hw;cases hw
 obtain⟨m,hm⟩:=h.mx;have:=wC hm;omega
theorem uFB{W:World}{g:Nat}{t:TypeId}{cs:List Value}{C:Array Value}(hl:Lies W g t C)(e:C=cs.toArray):∀ j u,cs[j]?=some u->W.cell? ((⟨g,0,none⟩:Addr).add j)=some u:=fun j u hj=>by
 have e':(⟨g,0,none⟩:Addr).add j=⟨g,j,none⟩:=by cases j <;> simp[Addr.add]
 rw[e',hl.cell j,e];simpa using hj
def rN:RTok:=⟨0,[],0⟩
theorem uAF(t:Tree)(rp cp:Option Nat)(Cn:List Value)(w:World)(hP:TreeIn w t Cn.toArray)(hf:t.fine)(aq:t.size<=1000)(hc:dO t≠0) :
  Calls Tryz.prog 33 #[.agg Cn.toArray,.pointer (ptr rp),.pointer (ptr cp),sfP] w fun e w'=>e=.returned (vS #[])/\Below w.heap.size w w':=by
 obtain⟨W0,ak⟩:=zD (w.alloc (.cells Cn.toArray 34))
 have ai:=zh ak;have ag:=zA ak;have HL:=zL ak;have fq:Cn.length=22:=by
  obtain⟨A,lc,e,_⟩:=hP;exact mE e
 have bg:=zh (dD fq);have zu:TreeIn W0 t Cn.toArray:=by
  obtain⟨A,lc,e,hk⟩:=hP;refine⟨A,lc,e,hk.kp ((Kp.of_below ag.out).mono (Y:=[]) (fun k hk _=>by cases hk))⟩
 have CC:=zh (rF t Cn.toArray W0 zu (by omega) hf);have cv:((dO t:Int) != 0)=true:=by simp;omega
 clear ak hP zu hf aq hc fq;generalize dO t=ck at *
 go_in
 go_upto_region 1 with fail
 rw[<- ai.out];clear ai
 go_wp2_with (first
  |(refine yr rfl 34 (.tmp 4) rfl w.heap.size 0 rfl Cn _ HL.out.rangeM Tryz.underlying34 rfl bg.out ?_)
  |((with_reducible refine CC.out.mono ?_);rintro e wx ⟨rfl,hb⟩;have bq:=zT ag hb;clear hb))
 go_ret
 exact⟨rfl,bq.out⟩
theorem uDF(t:Tree)(N:Nat)(rp cp:Option Nat)(R C:AxV)(Cn:List Value)(w:World)(hP:TreeP (fun g=>g∉rp.toList++cp.toList) w t Cn.toArray)(hf:t.fine)(ho:t.ok N)(hR:AxF w rp R)(hC:AxF w cp C)(dg:∀ b,rp=some b->cp≠some b)(hg:Gl w)(lz:∀ b∈rp.toList++cp.toList,b<w.heap.size/\mC b)(hc:dO t=0) :
  Calls Tryz.prog 33 #[.agg Cn.toArray,.pointer (ptr rp),.pointer (ptr cp),sfP] w fun e w'=>e=.returned (vT (cO none (t.toks .plain R C++[rN])))/\AxF w' rp R/\AxF w' cp C/\Gl w'/\Kp (rp.toList++cp.toList) w w':=by
 obtain⟨hr,aq⟩:=nV hc;have htl:=eF .plain R C t 6 hr;have htx:=xE (v:=.plain) trivial hR.av hC.av t 6 hr;obtain⟨W0,ak⟩:=zD (w.alloc (.cells Cn.toArray 34))
 have ai:=zh ak;have ag:=zA ak;have HL:=zL ak;have hIn:=hP.all;have fq:Cn.length=22:=by
  obtain⟨A,lc,e,_⟩:=hIn;exact mE e
 have bg:=zh (dD fq);have zu:TreeIn W0 t Cn.toArray:=by
  obtain⟨A,lc,e,hk⟩:=hIn;refine⟨A,lc,e,hk.kp ((Kp.of_below ag.out).mono (Y:=[]) (fun k hk _=>by cases hk))⟩
 have CC:=zh (rF t Cn.toArray W0 zu (by omega) hf);rw[hc]at CC;have CV:=zh (fun W=>wN W);have HNk:=zh (fun(p m:Nat)=>uGY p m rp cp R C N 1000 t (by omega) (by omega) 6 hr ho);have mo:Hid (∀ W2,Below w.heap.size w W2->∀ m,LvM W2 m->WrS (W2.alloc (.cells #[.pointer (ptr rp),.pointer (ptr cp),.map (some m),sfP,.slice none 0 0] 135)) W2.heap.size m rp cp R C sfP []/\TreeP (PLo W2.heap.size (rp.toList++cp.toList)) (W2.alloc (.cells #[.pointer (ptr rp),.pointer (ptr cp),.map (some m),sfP,.slice none 0 0] 135)) t Cn.toArray):=zh (fun W2 hb m hm=>by
  have aw:Below W2.heap.size W2 (W2.alloc (.cells #[.pointer (ptr rp),.pointer (ptr cp),.map (some m),sfP,.slice none 0 0] 135)):=(zp _);refine⟨⟨⟨.slice none 0 0,Lies.new _ _ _,⟨rfl,.inl ⟨rfl,rfl⟩⟩⟩,(hR.next hb).next aw,(hC.next hb).next aw,dg,hm.at (aw.block _ hm.lt),(hg.next hb).next aw,fun b uz=>⟨yu (lz b uz).1 hb.size,(lz b uz).2⟩,hg.low hb.size,hm.lt⟩,?_⟩;have ec:KP (fun g=>g<w.heap.size/\g∉rp.toList++cp.toList) w (W2.alloc (.cells #[.pointer (ptr rp),.pointer (ptr cp),.map (some m),sfP,.slice none 0 0] 135)):=⟨yv hb.size aw.size,fun g kh=>(aw.block g (yu kh.1 hb.size)).trans (hb.block g kh.1)⟩
  have h1:TreeP (fun g=>g<w.heap.size/\g∉rp.toList++cp.toList) w t Cn.toArray:=hP.imp (fun g ix lq=>⟨lq,ix⟩);exact(h1.keep ec).imp (fun g ix _=>⟨yu ix.1 hb.size,ix.2⟩))
 obtain⟨i1,gi,gz0,gz1,gz2⟩:=info_parts rV;have HJ:=zh (fun(A:Option Addr) (c:Nat) (W:World) (rg:RIn W A (t.toks .plain R C++[rN])) (hm:MaxVar W)=>show Calls Tryz.prog 25 #[.slice A ((t.toks .plain R C).length+1) c] W _ from by
  have h:=join_any A c (t.toks .plain R C++[rN]) W (by simp;omega) (fun x hx=>by
   rcases List.mem_append.1 hx with hx|hx
   ·exact(htx x hx).1
   rw[yf.1 hx];decide) rg hm
  rw[yl]at h;exact h)
 have HTl:Hid ((t.toks .plain R C).length<=1600):=zh (by omega);have mh:Hid (t.size<=256):=zh aq;clear ak hP hIn zu hf ho hR hC dg hg lz hc hr aq htl htx fq
 go_in
 go_upto_region 1 with fail
 rw[<- ai.out];clear ai
 go_upto_region 4 with(first
  |(refine yr rfl 34 (.tmp 4) rfl w.heap.size 0 rfl Cn _ HL.out.rangeM Tryz.underlying34 rfl bg.out ?_)
  |((with_reducible refine CC.out.mono ?_);rintro e W1 ⟨rfl,hb⟩;have bq:=zT ag hb;have i8:=zh (HL.out.next hb);clear hb HL CC)
  |((with_reducible refine(CV.out _).mono ?_);rintro e W2 ⟨rfl,hl,hb⟩;have au:=zT bq hb;have ir:=zh (i8.out.next hb);have HLv:=zh hl;clear hb hl i8))
 obtain⟨hs,zw⟩:=mo.out W2 au.out _ HLv.out;obtain⟨W3,gw⟩:=zD (W2.alloc (.cells #[.pointer (ptr rp),.pointer (ptr cp),.map (some W1.heap.size),sfP,.slice none 0 0] 135))
 rw[<- gw]at hs zw ⊢;have vx:Hid (Lies W3 w.heap.size 34 Cn.toArray):=zh (by rw[gw];exact ir.out.alloc _);have bf:=zF au gw;have j7:Hid (w.heap.size<=W2.heap.size):=zh au.out.size;obtain⟨p,hp⟩:=zD W2.heap.size
 obtain⟨m,hm⟩:=zD W1.heap.size
 rw[<- hp,<- hm]at hs;rw[<- hp]at zw j7 ⊢;rw[<- hm];have CN:=zh (HNk.out p m W3 [] Cn hs zw (by have:=mh.out;simp;omega));rw[List.nil_append]at CN;have rj:=zh hs;clear hs zw gw hp hm mo HNk CV ir HLv bq au;obtain⟨na,htk⟩:∃ x,x=t.toks .plain R C:=⟨_,rfl⟩
 rw[<- htk]at CN HJ HTl;have HTk:=zh htk;have htl:=HTl.out;clear htk
 go_wp2_with (first
  |(refine yr rfl 34 (.tmp 4) rfl w.heap.size 0 rfl Cn _ vx.out.rangeM Tryz.underlying34 rfl bg.out ?_)
  |((with_reducible refine CN.out.mono ?_);rintro e W4 ⟨rfl,hs4,pn⟩;obtain⟨v4,hl4,tg⟩:=hs4.box;obtain⟨A4,c4,rfl⟩:=aV tg;have k4:W4.cell? ⟨p,4,none⟩=some (.slice A4 na.length c4):=hl4.cell 4;have hpl:=hl4.lt;obtain⟨W5,ew⟩:=zD (W4.alloc (.cells #[vI 0,vS #[],vI 0] 64));have bk:=zA ew;have xl:=zh (hs4.next bk.out);have de:=zh (aD bk.out tg);have f8:=zh pn;have dx:=zL ew;have HW5:=zh ew;have HC5:Hid (W5.cell? ⟨p,4,none⟩=some (.slice A4 na.length c4)):=zh ((hl4.next bk.out).cell 4);clear hs4 pn hl4 tg ew)
  |(at_builtin;rw[<- HW5.out];refine wpList_append_own (P:=Tryz.prog) _ rfl _ _ 60 rfl (p+1) 64 i1 (.agg #[vI 0,vS #[],vI 0]) 3 32 Tryz.underlying60 gi gz0 gz1 gz2 rfl (by decide) (.slice A4 na.length c4) na.length (cL na) rfl de.out ⟨W4.heap.size,0,none⟩ 1 1 (eW rN) rfl rfl (uFB dx.out rfl) (jL _) (by unfold maxLen;omega) (by omega) (Nat.succ_le_of_lt xl.out.lt) (fun v' w' k1 k2 _=>?_);obtain⟨A6,c6,rfl⟩:=aV k1;rw[<- pH]at k1;have HIn:Hid (RIn w' A6 (na++[rN])):=zh (yI (by rw[yl];exact k1));have HG:=zh (xl.out.axG HC5.out k2);clear k1 k2 k4)
  |((with_reducible refine(HJ.out A6 c6 _ HIn.out HG.out.2.2.1.mx).mono ?_);rintro e w7 ⟨rfl,hb⟩;have m4:=zh hb;clear hb))
 go_ret
 refine⟨by(rw[HTk.out]) <;> rfl,HG.out.1.next m4.out,HG.out.2.1.next m4.out,HG.out.2.2.1.next m4.out,?_⟩;have h1:Kp (rp.toList++cp.toList) w W4:=Kp.andThen (Kp.of_below bf.out) f8.out (fun g hg=>by
  rcases ym.1 hg with rfl|hg
  ·exact .inr j7.out
  rcases List.mem_append.1 hg with hg|hg
  ·exact .inl hg
  have:=(eN.1 hg).2.1;have:=j7.out;exact .inr (by omega))
 have h2:Kp (rp.toList++cp.toList) w W5:=h1.trans (Kp.of_below bk.out);have h3:=Kp.andThen h2 HG.out.2.2.2.1 (fun g hg=>by
  have:=HG.out.2.2.2.2 g hg;have:=j7.out;exact .inr (by omega))
 exact h3.trans (Kp.of_below m4.out)
theorem TreeP.box{X:List Nat}{w W:World}{t:Tree}{cs:Array Value}(h:TreeP (fun g=>g∉X) w t cs)(hb:Below w.heap.size w W):TreeP (fun g=>g∉X) W t cs:=by
 have h1:TreeP (fun g=>g<w.heap.size/\g∉X) w t cs:=h.imp (fun g ix lq=>⟨lq,ix⟩);exact(h1.keep ⟨hb.size,fun g hg=>hb.block g hg.1⟩).imp (fun g ix _=>ix.2)
theorem uAE(t:Tree)(N:Nat)(rp cp:Option Nat)(R C:AxV)(Cn:List Value)(w:World)(hP:TreeP (fun g=>g∉rp.toList++cp.toList) w t Cn.toArray)(hf:t.fine)(ho:t.ok N)(aq:t.size<=1000)(hR:AxF w rp R)(hC:AxF w cp C)(dg:∀ b,rp=some b->cp≠some b)(hg:Gl w)(lz:∀ b∈rp.toList++cp.toList,b<w.heap.size/\mC b) :
  Calls Tryz.prog 33 #[.agg Cn.toArray,.pointer (ptr rp),.pointer (ptr cp),.func (.func 34) #[] #[]] w fun e w'=>e=.returned (vT (cW .plain R C t))/\AxF w' rp R/\AxF w' cp C/\Gl w'/\Kp (rp.toList++cp.toList) w w':=by
 unfold cW;by_cases hc:dO t=0
 ·rw[if_neg (by omega)];exact uDF t N rp cp R C Cn w hP hf ho hR hC dg hg lz hc
 rw[if_pos hc];refine(uAF t rp cp Cn w hP.all hf aq hc).mono ?_;rintro e w' ⟨rfl,hb⟩;exact⟨rfl,hR.next hb,hC.next hb,hg.next hb,Kp.of_below hb⟩
theorem kB(t:Tree)(N:Nat)(rp cp:Option Nat)(R C:AxV)(Cn:List Value)(w:World)(hP:TreeP (fun g=>g∉rp.toList++cp.toList) w t Cn.toArray)(hf:t.fine)(ho:t.ok N)(aq:t.size<=1000)(hR:AxF w rp R)(hC:AxF w cp C)(dg:∀ b,rp=some b->cp≠some b)(hg:Gl w)(lz:∀ b∈rp.toList++cp.toList,b<w.heap.size/\mC b) :
  Calls Tryz.prog 13 #[.agg Cn.toArray,.pointer (ptr rp),.pointer (ptr cp)] w fun e w'=>e=.returned (vT (cW .plain R C t))/\AxF w' rp R/\AxF w' cp C/\Gl w'/\Kp (rp.toList++cp.toList) w w':=by
 obtain⟨W0,ak⟩:=zD (w.alloc (.cells Cn.toArray 34))
 have ai:=zh ak;have ag:=zA ak;have HL:=zL ak;have fq:Cn.length=22:=by
  obtain⟨A,lc,e,_⟩:=hP;exact mE e
 have bg:=zh (dD fq);have CW:=zh (uAE t N rp cp R C Cn W0 (hP.box ag.out) hf ho aq (hR.next ag.out) (hC.next ag.out) dg (hg.next ag.out) (fun b hb=>⟨yu (lz b hb).1 ag.out.size,(lz b hb).2⟩));clear ak hP hf ho aq hR hC dg hg lz fq;obtain⟨T,hT⟩:=zD (cW .plain R C t)
 rw[<- hT]at CW ⊢;clear hT
 go_in
 go_upto_region 1 with fail
 rw[<- ai.out];clear ai
 go_wp2_with (first
  |(refine yr rfl 34 (.tmp 3) rfl w.heap.size 0 rfl Cn _ HL.out.rangeM Tryz.underlying34 rfl bg.out ?_)
  |((with_reducible refine CW.out.mono ?_);rintro e w' ⟨rfl,h1,h2,h3,h4⟩;have HH:=zh (And.intro h1 (And.intro h2 (And.intro h3 h4)));clear h1 h2 h3 h4))
 go_ret
 exact⟨rfl,HH.out.1,HH.out.2.1,HH.out.2.2.1,(Kp.of_below ag.out).trans HH.out.2.2.2⟩
abbrev twoH:NodeH:=⟨0,⟨1,2,0,[],false,0⟩,[],aP,aP,0⟩
abbrev powH:NodeH:=⟨6,aE,[94],aP,aP,0⟩
abbrev negH:NodeH:=⟨5,aE,[45],aP,aP,0⟩
def negT:Tree:=.mk negH [.mk powH [.mk twoH [],.mk twoH []]]
def gJ:List Value:=(aJ twoH none 0 0).toList
def uBT(q:Nat):List Value:=(aJ powH (some ⟨q,0,none⟩) 2 2).toList
def sI(q:Nat):List Value:=(aJ negH (some ⟨q,0,none⟩) 1 1).toList
theorem uEP:Tryz.prog.built 34 [(0,vI 0),(1,.agg #[vI 1,vI 2,vI 0,vS #[],.bool false,vI 0])]=some gJ.toArray:=by kernel_rfl
theorem uEO(q:Nat):Tryz.prog.built 34 [(0,vI 6),(2,vS #[94]),(5,.slice (some ⟨q,0,none⟩) 2 2)]=some (uBT q).toArray:=by kernel_rfl
theorem uEN(q:Nat):Tryz.prog.built 34 [(0,vI 5),(2,vS #[45]),(5,.slice (some ⟨q,0,none⟩) 1 1)]=some (sI q).toArray:=by kernel_rfl
theorem iU{ops:Array Oper}{rest:List Oper}{o:Oper}{a:Act}{w:World}{Q:Exit->Act->World->Prop}(hg:o.guard=none)(t:TypeId)(parts:Array (Nat×Go.Operand))(ho:o.op=.build t parts)(C:List Value)
  (hf:Tryz.prog.built t (parts.map fun(i,x)=>(i,a.eval x)).toList=some C.toArray) (h:wpList Tryz.prog ops Q rest (a.put o.dst (.agg C.toArray)) w):wpList Tryz.prog ops Q (o::rest) a w :=
 wpList_build hg t parts ho (by rw[hf];rfl) (by rw[hf];exact h)
theorem uBF:cW .plain none none negT=[45,40,50,94,50,41]:=by kernel_rfl
theorem two_one:gJ.toArray.all (·.oneCell')=true:=by simp[gJ,Value.oneCell']
theorem neg_one(q:Nat):(sI q).toArray.all (·.oneCell')=true:=by simp[sI,Value.oneCell']
theorem neg_fine:negT.fine:=by
 refine⟨⟨by decide,by decide,by decide,by decide⟩,⟨⟨by decide,by decide,by decide,by decide⟩,⟨⟨by decide,by decide,by decide,by decide⟩,trivial⟩,⟨⟨by decide,by decide,by decide,by decide⟩,trivial⟩,trivial⟩,trivial⟩
theorem eR:aP.fits:=⟨⟨by decide,by decide⟩,⟨by decide,by decide⟩⟩
theorem neg_ok:negT.ok 10:=by
 refine⟨⟨by decide,by decide,eR,eR,by decide,by decide⟩,⟨⟨by decide,by decide,eR,eR,by decide,by decide⟩,⟨⟨by decide,by decide,eR,eR,by decide,by decide⟩,trivial⟩,⟨⟨by decide,by decide,eR,eR,by decide,by decide⟩,trivial⟩,trivial⟩,trivial⟩
theorem neg_tree{P:Nat->Prop}{W:World}{a b:Nat}(h1:Lies W a 34 (gJ++gJ).toArray)(h2:Lies W b 34 (uBT a).toArray)(ha:P a)(hb:P b):TreeP P W negT (sI b).toArray:=by
 refine⟨some ⟨b,0,none⟩,1,rfl,by decide,.inr ⟨b,0,rfl,hb,h2.lt,⟨some ⟨a,0,none⟩,2,by decide,fun j hj=>?_,.inr ⟨a,0,rfl,ha,h1.lt,⟨none,0,by decide,fun j hj=>?_,.inl rfl⟩,⟨none,0,by decide,fun j hj=>?_,.inl rfl⟩,trivial⟩⟩,trivial⟩⟩
 ·rw[Nat.zero_add,h2.cell j];rfl
 ·rw[Nat.zero_add,h1.cell j];have e:gJ.length=22:=rfl;rw[za,List.getElem?_append_left (by omega)];simp[gJ]
 rw[h1.cell];have e:gJ.length=22:=rfl;rw[za,List.getElem?_append_right (by omega),e,show 0+22+j-22=j from by omega];simp[gJ]
theorem rC(w:World)(hg:Gl w):Calls Tryz.prog 10 #[] w fun e w'=>e=.returned (.bool true)/\Below w.heap.size w w':=by
 obtain⟨q,hq⟩:=zD w.heap.size
 obtain⟨W0,ak⟩:=zD (w.alloc (.cells fH.toArray 34))
 have s0:W0.heap.size=q+1:=by rw[ak,World.size_alloc,hq]
 have l0:Lies W0 q 34 fH.toArray:=by rw[ak,hq];exact Lies.new w _ _
 have b0:Below q w W0:=by rw[ak,hq];exact(Below.refl _ w).alloc zr _
 have z0:Kp [] w W0:=by rw[ak];exact(Kp.refl _ w).alloc _
 obtain⟨W1,an⟩:=zD (W0.setCells q 0 gJ)
 have l1:Lies W1 q 34 gJ.toArray:=by rw[an];exact l0.putAll rfl
 have z1:Kp [] w W1:=by rw[an];exact nS (.inr (by omega)) gJ 0 z0
 have s1:W1.heap.size=q+1:=by rw[an,mJ,s0]
 obtain⟨W2,fz⟩:=zD (W1.alloc (.cells (gJ++gJ).toArray 34))
 have s2:W2.heap.size=q+2:=by rw[fz,World.size_alloc,s1]
 have z2:Kp [] w W2:=by rw[fz];exact z1.alloc _
 have l2:Lies W2 (q+1) 34 (gJ++gJ).toArray:=by rw[fz,<- s1];exact Lies.new _ _ _
 obtain⟨W3,gw⟩:=zD (W2.alloc (.cells (uBT (q+1)).toArray 34))
 have s3:W3.heap.size=q+3:=by rw[gw,World.size_alloc,s2]
 have z3:Kp [] w W3:=by rw[gw];exact z2.alloc _
 have l3:Lies W3 (q+2) 34 (uBT (q+1)).toArray:=by rw[gw,<- s2];exact Lies.new _ _ _
 have m3:Lies W3 (q+1) 34 (gJ++gJ).toArray:=by rw[gw];exact l2.alloc _
 obtain⟨W4,pr⟩:=zD (W3.alloc (.cells fH.toArray 34))
 have s4:W4.heap.size=q+4:=by rw[pr,World.size_alloc,s3]
 have z4:Kp [] w W4:=by rw[pr];exact z3.alloc _
 have l4:Lies W4 (q+3) 34 fH.toArray:=by rw[pr,<- s3];exact Lies.new _ _ _
 obtain⟨W5,ew⟩:=zD (W4.setCells (q+3) 0 (sI (q+2)))
 have l5:Lies W5 (q+3) 34 (sI (q+2)).toArray:=by rw[ew];exact l4.putAll rfl
 have z5:Kp [] w W5:=by rw[ew];exact nS (.inr (by omega)) _ 0 z4
 have n5:Lies W5 (q+2) 34 (uBT (q+1)).toArray:=by rw[ew];exact fS (by omega) _ 0 (by rw[pr];exact l3.alloc _)
 have m5:Lies W5 (q+1) 34 (gJ++gJ).toArray:=by rw[ew];exact fS (by omega) _ 0 (by rw[pr];exact m3.alloc _)
 have bk:Hid (Below w.heap.size w W5):=zh (z5.below (fun k hk=>by cases hk) zr);have CF:Hid (Calls Tryz.prog 13 #[.agg (sI (q+2)).toArray,.pointer none,.pointer none] W5 fun e w'=>e=.returned (vS #[45,40,50,94,50,41])/\Gl w'/\Below W5.heap.size W5 w'):=zh (by
  have h:=kB negT 10 none none none none (sI (q+2)) W5 (neg_tree m5 n5 (by simp) (by simp)) neg_fine neg_ok (by decide) trivial trivial (fun b hb=>by cases hb) (hg.next bk.out) (fun b hb=>by cases hb);rw[uBF]at h;refine h.mono ?_;rintro e w' ⟨rfl,-,-,h3,h4⟩;exact⟨rfl,h3,h4.below (fun k hk=>by cases hk) zr⟩)
 have HT0:Hid (W0.there q 0 gJ.toArray.size):=zh l0.thereA;have HT4:Hid (W4.there (q+3) 0 (sI (q+2)).toArray.size):=zh l4.thereA;have ld:=zh l1.range;have oy:=zh l5.range;have H22:Hid (gJ.length=22):=zh rfl;have HP22:Hid ((uBT (q+1)).length=22):=zh rfl;have HI1:Hid ((Tryz.prog.info? 34).map (·.size)=some gJ.length):=zh bY;have HI5:Hid ((Tryz.prog.info? 34).map (·.size)=some (sI (q+2)).length):=zh bY;have ai:=zh ak;have al:=zh an;have jq:=zh fz;have HW3:=zh gw;have HW4:=zh pr;have HW5:=zh ew;have ei:=zh s1;have jf:=zh s2;have rj:=zh s3;have HQ:=zh hq;have HBT:=zh uEP;have HBP:=zh (uEO (q+1));have HBN:=zh (uEN (q+2));have ee:=zh two_one;have HON:=zh (neg_one (q+2));clear ak an fz gw pr ew s0 s1 s2 s3 s4 z0 z1 z2 z3 z4 z5 b0 l0 l1 l2 l3 l4 l5 m3 n5 m5 hg hq;generalize gJ=c2 at *;generalize uBT (q+1)=cp at *
 generalize sI (q+2)=cn at *
 go_in
 go_upto_region 2 with(first
  |(refine iU rfl 34 #[(0,.const (vI 0)),(1,.tmp 4)] rfl c2 (by simp only[List.map_toArray,List.map_cons,List.map_nil];exact HBT.out) ?_)
  |(refine yq rfl 34 (.tmp 1) (.tmp 5) rfl w.heap.size 0 c2.toArray rfl rfl (by rw[<- HQ.out,<- ai.out];exact HT0.out) HI1.out ee.out ?_;change wpList _ _ _ _ _ (World.setCells _ w.heap.size 0 c2);rw[<- ai.out,<- HQ.out,<- al.out]))
 go_upto_region 3 with(first
  |(refine yr rfl 34 (.tmp 1) rfl q 0 rfl c2 _ ld.out Tryz.underlying34 rfl HI1.out ?_)
  |(refine uDD rfl (.tmp 6) (.tmp 7) rfl c2 c2 rfl rfl H22.out H22.out (q+1) ei.out _ rfl ?_;rw[<- jq.out])
  |(refine iU rfl 34 #[(0,.const (vI 6)),(2,.const (vS #[94])),(5,.tmp 8)] rfl cp (by simp only[List.map_toArray,List.map_cons,List.map_nil];exact HBP.out) ?_)
  |(refine tS rfl (.tmp 9) rfl cp rfl HP22.out (q+2) jf.out _ rfl ?_;rw[<- HW3.out])
  |(refine iU rfl 34 #[(0,.const (vI 5)),(2,.const (vS #[45])),(5,.tmp 10)] rfl cn (by simp only[List.map_toArray,List.map_cons,List.map_nil];exact HBN.out) ?_)
  |(refine yq rfl 34 (.tmp 2) (.tmp 11) rfl W3.heap.size 0 cn.toArray rfl rfl (by rw[<- HW4.out,rj.out];exact HT4.out) HI5.out HON.out ?_;change wpList _ _ _ _ _ (World.setCells _ W3.heap.size 0 cn);rw[<- HW4.out,rj.out,<- HW5.out]))
 clear ai al jq HW3 HW4 HW5 ld ei jf rj HT0 HT4 HI1 H22 HP22;have CE:Hid (∀ W,Gl W->Calls Tryz.prog 26 #[.agg #[vI 1,vI 2,vI 0,vI 0,vS #[84,82,85,69],.bool false,vI 0,vI 0,vI 0,vI 0,vI 0,vS #[],.bool false,vI 0,vS #[],vI 0,vI 0,vI 0,vI 0,.bool false,.bool false,vI 0,vI 0,vI 0,vI 0,.bool false,.bool false,vI 0,.slice none 0 0],.pointer none,.pointer none] W fun e w'=>e=.returned (vS #[39,84,82,85,69])/\Below W.heap.size W w'):=zh (fun W h=>uAV W h.tab h.pow)
 go_wp2_with (first
  |(refine yr rfl 34 (.tmp 2) rfl (q+3) 0 rfl cn _ oy.out Tryz.underlying34 rfl HI5.out ?_)
  |((with_reducible refine CF.out.mono ?_);rintro e w1 ⟨rfl,ix,hb⟩;have HG1:=zh ix;have ni:=zT bk hb;clear ix hb)
  |((with_reducible refine(CE.out _ HG1.out).mono ?_);rintro e w2 ⟨rfl,hb⟩;have m4:=zT ni hb;clear hb))
 go_ret
 exact⟨rfl,m4.out⟩
end Go.Proofs.YtjfihpaeglpblaaGreatDoor
