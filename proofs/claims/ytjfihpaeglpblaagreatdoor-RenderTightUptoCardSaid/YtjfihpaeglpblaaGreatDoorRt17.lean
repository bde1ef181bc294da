/-
  Lemmas, part 17: WrG WrH WrI WrJ WrK RsD RrM RkA RkB RkC RkE.
-/
import Derived.Test.YtjfihpaeglpblaaGreatDoorRt16
set_option maxHeartbeats 100000000
set_option maxRecDepth 1000000
namespace Go.Proofs.YtjfihpaeglpblaaGreatDoor
open Go.RowKit
abbrev sfP:Value:=.func (.func 34) #[] #[]
theorem vC{p m:Nat}{rp cp:Option Nat}{R C:AxV}{sf:Value}{ts:List RTok}(x:IdR)(hx:x.fits):∀ W,WrS W p m rp cp R C sf ts->Calls Tryz.prog 40 #[.pointer (ptr rp),.agg #[vI x.a,vI x.n]] W fun e w'=>e=.returned (.tuple #[vI (if bC R x<0 then 0 else bC R x),.bool (decide (0<=bC R x))])/\WrS w' p m rp cp R C sf ts/\Kw p (rp.toList++cp.toList) W w':=fun W h=>
 (fK rp R x W h.ax hx).mono (by
  rintro e w' ⟨rfl,h1,h2⟩;exact⟨rfl,h.askR h2 h1,Kw.askR h2⟩)
theorem vB{p m:Nat}{rp cp:Option Nat}{R C:AxV}{sf:Value}{ts:List RTok}(x:IdR)(hx:x.fits):∀ W,WrS W p m rp cp R C sf ts->Calls Tryz.prog 40 #[.pointer (ptr cp),.agg #[vI x.a,vI x.n]] W fun e w'=>e=.returned (.tuple #[vI (if bC C x<0 then 0 else bC C x),.bool (decide (0<=bC C x))])/\WrS w' p m rp cp R C sf ts/\Kw p (rp.toList++cp.toList) W w':=fun W h=>
 (fK cp C x W h.ay hx).mono (by
  rintro e w' ⟨rfl,h1,h2⟩;exact⟨rfl,h.askC h2 h1,Kw.askC h2⟩)
theorem fD{p m:Nat}{rp cp:Option Nat}{R C:AxV}{sf:Value}{ts:List RTok}(x y:IdR)(hx:x.fits)(hy:y.fits){v:Value}(hv:endsV (dG R x y)=v):∀ W,WrS W p m rp cp R C sf ts->Calls Tryz.prog 194 #[.pointer (ptr rp),.agg #[vI x.a,vI x.n],.agg #[vI y.a,vI y.n]] W fun e w'=>e=.returned v/\WrS w' p m rp cp R C sf ts/\Kw p (rp.toList++cp.toList) W w':=fun W h=>
 (uB rp R x y W h.ax hx hy).mono (by
  rintro e w' ⟨rfl,h1,h2⟩;exact⟨by rw[hv],h.askR h2 h1,Kw.askR h2⟩)
theorem fC{p m:Nat}{rp cp:Option Nat}{R C:AxV}{sf:Value}{ts:List RTok}(x y:IdR)(hx:x.fits)(hy:y.fits){v:Value}(hv:endsV (dG C x y)=v):∀ W,WrS W p m rp cp R C sf ts->Calls Tryz.prog 194 #[.pointer (ptr cp),.agg #[vI x.a,vI x.n],.agg #[vI y.a,vI y.n]] W fun e w'=>e=.returned v/\WrS w' p m rp cp R C sf ts/\Kw p (rp.toList++cp.toList) W w':=fun W h=>
 (uB cp C x y W h.ay hx hy).mono (by
  rintro e w' ⟨rfl,h1,h2⟩;exact⟨by rw[hv],h.askC h2 h1,Kw.askC h2⟩)
theorem sA{p m:Nat}{rp cp:Option Nat}{R C:AxV}{ts:List RTok}(h:NodeH)(A:Option Addr)(n ca:Nat)(Cn:List Value)(w:World)(ah:Cn.toArray=aH h A n ca)(hw:WrS w p m rp cp R C sfP ts)(hn:ts.length<=700000)(hk:h.kind=1\/h.kind=3)(hf:h.a.fits) :
  Calls Tryz.prog 138 #[vP p 0,.agg Cn.toArray] w fun e w'=>WrO p m rp cp R C sfP (ts++gZ .plain R C h) w e w':=by
 have hP:=vC (p:=p) (m:=m) (rp:=rp) (cp:=cp) (R:=R) (C:=C) (sf:=sfP) (ts:=ts) h.a.row hf.1;have hQ:=vB (p:=p) (m:=m) (rp:=rp) (cp:=cp) (R:=R) (C:=C) (sf:=sfP) (ts:=ts) h.a.col hf.2;have hR:=mN hw.ax.av h.a.row;have hC:=mN hw.ay.av h.a.col;unfold gZ;by_cases hg:bC R h.a.row<0\/bC C h.a.col<0
 ·rw[if_pos hg];refine uBR h A n ca Cn w (zh ah) hw hn _ _ _ _ hP hQ (fun hb=>?_);have:=of_decide_eq_true hb;exact decide_eq_false (by omega)
 rw[if_neg hg];obtain⟨i,hi⟩:∃ i:Nat,bC R h.a.row=(i:Int):=⟨(bC R h.a.row).toNat,by omega⟩
 obtain⟨j,hj⟩:∃ j:Nat,bC C h.a.col=(j:Int):=⟨(bC C h.a.col).toNat,by omega⟩
 rw[hi]at hP hR ⊢;rw[hj]at hQ hC ⊢;rw[if_neg (by omega:¬ (i:Int)<0),decide_eq_true (by omega:(0:Int)<=(i:Int))]at hP;rw[if_neg (by omega:¬ (j:Int)<0),decide_eq_true (by omega:(0:Int)<=(j:Int))]at hQ;rw[Int.toNat_natCast,Int.toNat_natCast];have hT:=fun W (hp:PowTab W)=>rP i j h.a.fr h.a.fc W hp (by omega) (by omega)
 rcases hk with hk|hk
 ·rw[if_neg (by rw[hk];decide)];exact uFJ h A n ca Cn w (zh ah) hw hn _ _ _ _ hP hQ _ (zh rfl) (zh rfl) hT hk
 rw[if_pos hk];have e:ts++(eJ .plain i j h.a.fr h.a.fc::[tk 5 [35]])=ts++[eJ .plain i j h.a.fr h.a.fc]++[tk 5 [35]]:=by simp
 rw[e];exact xW h A n ca Cn w (zh ah) hw hn _ _ _ _ hP hQ _ (zh rfl) (zh rfl) hT hk
theorem uBQ{p m:Nat}{rp cp:Option Nat}{R C:AxV}{ts:List RTok}(h:NodeH)(w:World)(hw:WrS w p m rp cp R C sfP ts)(hn:ts.length<=700000)(s5:h.a.fits)(s6:h.b.fits)(hab:¬ (h.a.row=id0/\h.a.col=id0)) :
  Calls Tryz.prog 139 #[vP p 0,.agg #[vI h.a.row.a,vI h.a.row.n,vI h.a.col.a,vI h.a.col.n,.bool h.a.fr,.bool h.a.fc,vI h.b.row.a,vI h.b.row.n,vI h.b.col.a,vI h.b.col.n,.bool h.b.fr,.bool h.b.fc]] w fun e w'=>WrO p m rp cp R C sfP (ts++jD .plain R C h.a h.b) w e w':=by
 have e3:∀ a b c:RTok,ts++[a,b,c]=ts++[a]++[b]++[c]:=fun a b c=>by simp
 unfold jD;by_cases h1:h.a.row=id0
 ·have h2:h.a.col≠id0:=fun h2=>hab ⟨h1,h2⟩
  rw[if_pos h1];rcases dJ hw.ay.av h.a.col h.b.col with g|⟨i,j,hi,hj,g⟩
  ·rw[g];exact sO h w hw hn (zh h1) (zh h2) (fC _ _ s5.2 s6.2 (by rw[g];rfl))
  rw[g];dsimp only;rw[Int.toNat_natCast,Int.toNat_natCast,e3];refine xU h w hw hn (zh h1) (zh h2) i j (fC _ _ s5.2 s6.2 (by rw[g];rfl)) _ _ (fun W hp=>?_) (fun W hp=>?_)
  ·cases h.a.fc
   ·exact xH 0 i h.a.fr W hp (by omega) (by omega)
   exact xG 0 i h.a.fr W hp (by omega) (by omega)
  cases h.b.fc
  ·exact xH 0 j h.b.fr W hp (by omega) (by omega)
  exact xG 0 j h.b.fr W hp (by omega) (by omega)
 rw[if_neg h1];by_cases h2:h.a.col=id0
 ·rw[if_pos h2];rcases dJ hw.ax.av h.a.row h.b.row with g|⟨i,j,hi,hj,g⟩
  ·rw[g];exact sP h w hw hn (zh h1) (zh h2) (fD _ _ s5.1 s6.1 (by rw[g];rfl))
  rw[g];dsimp only;rw[Int.toNat_natCast,Int.toNat_natCast,e3];refine xV h w hw hn (zh h1) (zh h2) i j (fD _ _ s5.1 s6.1 (by rw[g];rfl)) _ _ (fun W hp=>?_) (fun W hp=>?_)
  ·cases h.a.fr
   ·exact xJ i 0 h.a.fc W hp (by omega) (by omega)
   exact xI i 0 h.a.fc W hp (by omega) (by omega)
  cases h.b.fr
  ·exact xJ j 0 h.b.fc W hp (by omega) (by omega)
  exact xI j 0 h.b.fc W hp (by omega) (by omega)
 rw[if_neg h2];rcases dJ hw.ax.av h.a.row h.b.row with g|⟨i,j,hi,hj,g⟩
 ·rw[g];refine jY h w hw hn (zh h1) (zh h2) 0 0 (match dG C h.a.col h.b.col with|none=>0|some (a,_)=>a) (match dG C h.a.col h.b.col with|none=>0|some (_,b)=>b) false (dG C h.a.col h.b.col).isSome (fun h=>by cases h) (fD _ _ s5.1 s6.1 (by rw[g];rfl)) (fC _ _ s5.2 s6.2 ?_);cases dG C h.a.col h.b.col with
  |none=>rfl
  |some q=>rfl
 rcases dJ hw.ay.av h.a.col h.b.col with g'|⟨i',j',um,yy,g'⟩
 ·rw[g,g'];exact jY h w hw hn (zh h1) (zh h2) i j 0 0 true false (fun _=>rfl) (fD _ _ s5.1 s6.1 (by rw[g];rfl)) (fC _ _ s5.2 s6.2 (by rw[g'];rfl))
 rw[g,g'];dsimp only;rw[Int.toNat_natCast,Int.toNat_natCast,Int.toNat_natCast,Int.toNat_natCast,e3];exact vM h w hw hn (zh h1) (zh h2) i j i' j' (fD _ _ s5.1 s6.1 (by rw[g];rfl)) (fC _ _ s5.2 s6.2 (by rw[g'];rfl)) _ _ (fun W hp=>rP i i' h.a.fr h.a.fc W hp (by omega) (by omega)) (fun W hp=>rP j j' h.b.fr h.b.fc W hp (by omega) (by omega))
theorem zZ(h:NodeH)(A:Option Addr)(n c:Nat):(aH h A n c).all (·.oneCell')=true:=by simp[aH,Value.oneCell']
theorem nX:∀ {l:List Tree} (i:Nat) (hi:i<l.length),(l[i]'hi).size<=aL l
 | [],_,hi=>absurd hi (by simp)
 |t::r,0,_=>by show t.size<=aL (t::r);rw[aL];omega
 |t::r,i+1,hi=>by
  have:=nX (l:=r) i (by simpa using hi);show (r[i]'_).size<=aL (t::r);rw[aL];omega
theorem kM:∀ (a b:List Tree),aL (a++b)=aL a+aL b
 | [],b=>by simp[aL]
 |t::a,b=>by rw[yp,aL,kM a b,aL];omega
theorem uCW{N:Nat}:∀ {l:List Tree} (i:Nat) (hi:i<l.length),okL N l->(l[i]'hi).ok N
 | [],_,hi,_=>absurd hi (by simp)
 |t::r,0,_,h=>by rw[okL]at h;exact h.1
 |t::r,i+1,hi,h=>by
  rw[okL]at h;exact uCW (l:=r) i (by simpa using hi) h.2
theorem gL(v:Say)(R C:AxV):∀ (l:List Tree) (k:Nat),(bE v R C l).take k=bE v R C (l.take k)
 | [],k=>by simp[bE]
 |t::r,0=>by simp[bE]
 |t::r,k+1=>by rw[bE,List.take_succ_cons,List.take_succ_cons,bE,gL v R C r k]
theorem rU(v:Say)(R C:AxV):∀ (l:List Tree) (k:Nat),(bE v R C l).drop k=bE v R C (l.drop k)
 | [],k=>by simp[bE]
 |t::r,0=>rfl
 |t::r,k+1=>by rw[bE,List.drop_succ_cons,List.drop_succ_cons,rU v R C r k]
theorem pS{k:Int}:∀ {l:List Tree} (n:Nat),aQ l k=true->aQ (l.take n) k=true
 | [],_,_=>by simp[aQ]
 |_::_,0,_=>by simp[aQ]
 |t::r,n+1,h=>by
  simp only[aQ,yh]at h;rw[List.take_succ_cons,aQ,h.1.1,h.1.2,pS n h.2];rfl
def sS(p m:Nat)(rp cp:Option Nat)(R C:AxV)(t:Tree):Prop:=∀ (W:World) (ts:List RTok) (Cn:List Value),WrS W p m rp cp R C sfP ts->TreeP (PLo p (rp.toList++cp.toList)) W t Cn.toArray->ts.length+6*t.size<=600000 ->
 Calls Tryz.prog 74 #[vP p 0,.agg Cn.toArray] W fun e w'=>WrO p m rp cp R C sfP (ts++t.toks .plain R C) W e w'
theorem TreeP.one{P:Nat->Prop}{W:World}{t:Tree}{ci:List Value}(h:TreeP P W t ci.toArray):ci.toArray.all (·.oneCell')=true:=by
 obtain⟨A,cp,e,_⟩:=h;rw[e];exact zZ _ _ _ _
theorem uDD{k:Int}:∀ {l:List Tree} (n:Nat),aQ l k=true->aQ (l.drop n) k=true
 | [],_,_=>by simp[aQ]
 |_::_,0,h=>h
 |t::r,n+1,h=>by
  simp only[aQ,yh]at h;exact uDD (l:=r) n h.2
theorem uBB(l:List Tree)(k:Nat):aL (l.take k)<=aL l:=by
 have:=kM (l.take k) (l.drop k);rw[List.take_append_drop]at this;omega
theorem tE{p m:Nat}{rp cp:Option Nat}{R C:AxV}{A:Option Addr}{l:List Tree}{kd:Int}(lo n ca:Nat)(kq:lo+n<=l.length)(g o:Nat)(hA2:0<n->A=some ⟨g,o,none⟩)(A':Option Addr)(hA3:0<n->A'=some ⟨g,o+lo*22,none⟩)(hr:aQ l kd=true)(hk:∀ i (hi:i<l.length),sS p m rp cp R C (l[i]'hi))(w:World)(ts:List RTok)(hw:WrS w p m rp cp R C sfP ts)(hP:KidsPO (PLo p (rp.toList++cp.toList)) w A l)(hn:ts.length+6*aL ((l.drop lo).take n)+4<=600000)(hn3:n<=100000) :
  Calls Tryz.prog 136 #[vP p 0,.slice A' n ca] w fun e w'=>WrO p m rp cp R C sfP (ts++bO (((bE .plain R C l).drop lo).take n)) w e w':=by
 obtain⟨L,hL⟩:∃ L,L=(l.drop lo).take n:=⟨_,rfl⟩
 have e0:((bE .plain R C l).drop lo).take n=bE .plain R C L:=by rw[rU,gL,hL]
 have hrL:aQ L kd=true:=by rw[hL];exact pS n (uDD lo hr)
 have xx:L.length=n:=by rw[hL,zc,yk];omega
 rw[e0];rw[<- hL]at hn;have hsub:∀ k,(bO ((bE .plain R C L).take k)).length<=6*aL (L.take k):=by
  intro k;have h1:=kE ((bE .plain R C L).take k);have h3:=iE .plain R C (L.take k) kd (pS k hrL);rw[gL,cL]at h1;rw[gL];omega
 have key:=uFL (p:=p) (m:=m) (rp:=rp) (cp:=cp) (R:=R) (C:=C) (sf:=sfP) (ts:=ts) A' ca (bE .plain R C L) w hw (fun k iy=>?_) (by rw[cL,xx];exact hn3) (fun k=>by have:=hsub k;have:=uBB L k;omega)
 ·rw[cL,xx]at key;exact key
 rw[cL,xx]at iy;have hi:lo+k<l.length:=by omega
 obtain⟨g',og,ci,e1,iw,dv⟩:=gC hP (lo+k) hi;have e2:=hA2 (by omega);rw[e2]at e1;injection e1 with e1;injection e1 with e1 e3 _;subst e1 e3;refine⟨g,o+lo*22,ci,hA3 (by omega),iw,((dv w (KP.refl _ _)).2).one,fun W ts' hs hkw=>?_⟩;obtain⟨c1,c2⟩:=dv W (Kw.kp hkw hw);refine⟨by rw[show o+lo*22+k*22=o+(lo+k)*22 by omega];exact c1,fun hb=>?_⟩;have hkL:k<L.length:=by omega
 have eL:L[k]'hkL=l[lo+k]'hi:=by
  subst hL;rw[List.getElem_take,List.getElem_drop]
 have e4:(bE .plain R C L)[k]'(by rw[cL];exact hkL)=(l[lo+k]'hi).toks .plain R C:=by
  rw[tY _ _ _ L k hkL,eL]
 rw[e4];refine hk (lo+k) hi W ts' ci hs c2 ?_;have h3:=hsub k;have h6:aL (L.take k)+(l[lo+k]'hi).size<=aL L:=by
  have e7:=congrArg aL (List.take_append_drop k L);rw[kM,yx hkL,aL,eL]at e7;omega
 omega
theorem one_of:∀ {l:List Tree},l.length=1->∃ a,l=[a]
 | [a],_=>⟨a,rfl⟩
theorem two_of:∀ {l:List Tree},l.length=2->∃ a b,l=[a,b]
 | [a,b],_=>⟨a,b,rfl⟩
theorem TreeP.cells{P:Nat->Prop}{W:World}{t:Tree}{ci:List Value}(h:TreeP P W t ci.toArray):∃ A n c,ci.toArray=aH t.h A n c:=by
 obtain⟨A,cp,e,_⟩:=h;exact⟨A,_,cp,e⟩
theorem uH{t:Tree}{k:Int}(h:t.right k=true):t.h.kind=6->iM t.h.name=true:=by
 obtain⟨th,l⟩:=t;intro e;exact(eX (cX h).1 e).1
theorem iZ{p m:Nat}{rp cp:Option Nat}{R C:AxV}{t:Tree}{kd:Int}(hr:t.right kd=true)(hk:sS p m rp cp R C t){w:World}{ts0:List RTok}(hw:WrS w p m rp cp R C sfP ts0){g o:Nat}{ci:List Value}(dv:∀ W,KP (PLo p (rp.toList++cp.toList)) w W->W.rangeAt g o ci/\TreeP (PLo p (rp.toList++cp.toList)) W t ci.toArray)(lev:Int) :
  ∀ W ts',WrS W p m rp cp R C sfP ts'->Kw p (rp.toList++cp.toList) w W->ts'.length+6*t.size+2<=600000->Calls Tryz.prog 134 #[vP p 0,.agg ci.toArray,vI lev] W fun e w'=>WrO p m rp cp R C sfP (ts'++wrapT (eI t) lev (t.toks .plain R C)) W e w':=fun W ts' hs hkw hb=>by
 obtain⟨A,n,c,e⟩:=(dv w (KP.refl _ _)).2.cells;have hl:=iF .plain R C t kd hr;rw[uEN];exact yI t.h A n c ci lev (t.toks .plain R C) W (zh e) hs (uH hr) (by omega) (fun W2 o4 ja fv bd=>hk W2 o4 ci ja ((dv W2 (Kw.kp (hkw.trans fv) hw)).2) (by omega))
theorem uEL{p m:Nat}{rp cp:Option Nat}{R C:AxV}{t:Tree}{kd:Int}{N:Nat}(hr:t.right kd=true)(ho:t.ok N)(ap:t.size<=1000)(hk:∀ i (hi:i<t.l.length),sS p m rp cp R C (t.l[i]'hi)):sS p m rp cp R C t:=by
 intro W ts Cn hw hP hn;have pr:=iF .plain R C t kd hr;obtain⟨⟨kind,vv,s,a,b,r⟩,l⟩:=t;obtain⟨A,ca,ah,kw,o5⟩:=hP;replace hk:∀ i (hi:i<l.length),sS p m rp cp R C (l[i]'hi):=hk
 replace ah:Cn.toArray=aH ⟨kind,vv,s,a,b,r⟩ A l.length ca:=ah;replace kw:l.length<=ca:=kw;replace o5:KidsPO (PLo p (rp.toList++cp.toList)) W A l:=o5;obtain⟨h1,h2⟩:=cX hr;rw[Tree.ok]at ho;obtain⟨⟨m1,m2,fa,fb,_,_⟩,hol⟩:=ho;replace fa:a.fits:=fa;replace fb:b.fits:=fb;have hs0:(Tree.mk ⟨kind,vv,s,a,b,r⟩ l).size=aL l+1:=by rw[Tree.size]
 rw[hs0]at hn ap pr;have hlen:=fun(j:Nat) (hj:j<l.length)=>nX (l:=l) j hj
 have om:l.length<=aL l:=by
  have:∀ l:List Tree,l.length<=aL l:=by
   intro l
   induction l with
   |nil=>simp
   |cons t r ih=>
    have:1<=t.size:=by cases t;rw[Tree.size];omega
    rw[yi,aL];omega
  exact this l
 rcases oZ h1 with q |(q|q)|q|q|q|q|q|q|q
 ·have q:kind=0:=q;subst q;have e:(Tree.mk ⟨0,vv,s,a,b,r⟩ l).toks .plain R C=kR vv:=by rw[Tree.toks];unfold dT;rw[if_pos rfl]
  rw[e];obtain⟨g1,g2⟩:=lS h1 rfl;exact uFO vv s a b r A _ ca Cn (kR vv) W (zh ah) hw (fun W hs=>vN vv W hs (by omega) g1 g2)
 ·have q:kind=1:=q;subst q;have e:(Tree.mk ⟨1,vv,s,a,b,r⟩ l).toks .plain R C=gZ .plain R C ⟨1,vv,s,a,b,r⟩:=by rw[Tree.toks];unfold dT;rw[if_neg (by show ¬ (1:Int)=0;omega),if_pos (.inl rfl)]
  rw[e];exact uFQ vv s a b r A _ ca Cn _ W (zh ah) hw (fun W hs _=>sA ⟨1,vv,s,a,b,r⟩ A _ ca Cn W ah hs (by omega) (.inl rfl) fa)
 ·have q:kind=3:=q;subst q;have e:(Tree.mk ⟨3,vv,s,a,b,r⟩ l).toks .plain R C=gZ .plain R C ⟨3,vv,s,a,b,r⟩:=by rw[Tree.toks];unfold dT;rw[if_neg (by show ¬ (3:Int)=0;omega),if_pos (.inr rfl)]
  rw[e];exact xZ vv s a b r A _ ca Cn _ W (zh ah) hw (fun W hs _=>sA ⟨3,vv,s,a,b,r⟩ A _ ca Cn W ah hs (by omega) (.inr rfl) fa)
 ·have q:kind=2:=q;subst q;have e:(Tree.mk ⟨2,vv,s,a,b,r⟩ l).toks .plain R C=jD .plain R C a b:=by rw[Tree.toks];unfold dT;rw[if_neg (by show ¬ (2:Int)=0;omega),if_neg (by show ¬ ((2:Int)=1\/(2:Int)=3);omega),if_pos rfl]
  rw[e];exact uBV vv s a b r A _ ca Cn _ W (zh ah) hw (fun W hs _=>uBQ ⟨2,vv,s,a,b,r⟩ W hs (by omega) fa fb (wZ h1 rfl).1)
 ·have q:kind=4:=q;subst q;have e:(Tree.mk ⟨4,vv,s,a,b,r⟩ l).toks .plain R C=[tk 3 s,tk 5 [40]]++bO (bE .plain R C l)++[tk 5 [41]]:=by
   rw[Tree.toks];unfold dT;rw[if_neg (by show ¬ (4:Int)=0;omega),if_neg (by show ¬ ((4:Int)=1\/(4:Int)=3);omega),if_neg (by show ¬ (4:Int)=2;omega),if_pos rfl];simp
  rw[e]at pr ⊢;refine uBW vv s a b r A _ ca Cn _ W (zh ah) hw _ rfl (by omega) (fun W2 o4 ja fv bd=>?_);have hP2:=o5.keep (Kw.kp fv hw);obtain⟨g,o,hA⟩:∃ g o,0<l.length->A=some ⟨g,o,none⟩:=by
   rcases o5 with h0|⟨g,o,e,_⟩
   ·have h0:l=[]:=h0;exact⟨0,0,fun h=>by rw[h0]at h;simp at h⟩
   exact⟨g,o,fun _=>e⟩
  have hz4:=uBB (l.drop 0) l.length;rw[List.drop_zero]at hz4;have key:=tE (p:=p) (m:=m) (rp:=rp) (cp:=cp) (R:=R) (C:=C) (A:=A) (l:=l) (kd:=4) 0 l.length ca (by omega) g o hA A (fun h=>by rw[hA h,Nat.zero_mul,Nat.add_zero]) h2 hk W2 o4 ja hP2 (by rw[List.drop_zero];omega) (by omega);rw[List.drop_zero,List.take_of_length_le (by rw[cL];exact zr)]at key;exact key
 ·have q:kind=5:=q;subst q;obtain⟨hu,ba⟩:=kH h1 rfl;obtain⟨t0,rfl⟩:=one_of ba;have sl:=(gG (l:=[t0]) 0 (by simp) h2).1;have na:=hk 0 (by simp);have lw:t0.size+0=aL [t0]:=by simp[aL]
  obtain⟨g,og,ci,hA,iw,dv⟩:=gC o5 0 (by simp);simp only[List.getElem_cons_zero,Nat.zero_mul,Nat.add_zero]at sl na dv;by_cases hs:s=[37]
  ·have e:(Tree.mk ⟨5,vv,s,a,b,r⟩ [t0]).toks .plain R C=wrapT (eI t0) 7 (t0.toks .plain R C)++[tk 5 [37]]:=by
    rw[Tree.toks];unfold dT;rw[if_neg (by show ¬ (5:Int)=0;omega),if_neg (by show ¬ ((5:Int)=1\/(5:Int)=3);omega),if_neg (by show ¬ (5:Int)=2;omega),if_neg (by show ¬ (5:Int)=4;omega),if_pos rfl,if_pos (by exact hs),hs];rfl
   rw[e]at pr ⊢;exact xY vv s a b r A _ ca Cn _ W (zh ah) hw g og ci iw hA hs rfl _ rfl (by omega) (fun W2 o4 ja fv=>(dv W2 (Kw.kp fv hw)).1) (fun W2 o4 ja fv bd=>iZ sl na hw dv 7 W2 o4 ja fv (by omega))
  have e:(Tree.mk ⟨5,vv,s,a,b,r⟩ [t0]).toks .plain R C=tk 5 s::wrapT (eI t0) 6 (t0.toks .plain R C):=by
   rw[Tree.toks];unfold dT;rw[if_neg (by show ¬ (5:Int)=0;omega),if_neg (by show ¬ ((5:Int)=1\/(5:Int)=3);omega),if_neg (by show ¬ (5:Int)=2;omega),if_neg (by show ¬ (5:Int)=4;omega),if_pos rfl,if_neg (by exact hs)];rfl
  rw[e]at pr ⊢;exact uBZ vv s a b r A _ ca Cn _ W (zh ah) hw g og ci iw hA (beq_eq_false_iff_ne.2 hs) rfl _ rfl (by omega) (fun W2 o4 ja fv=>(dv W2 (Kw.kp fv hw)).1) (fun W2 o4 ja fv bd=>iZ sl na hw dv 6 W2 o4 ja fv (by omega))
 ·have q:kind=6:=q;subst q;obtain⟨hu,hn2⟩:=eX h1 rfl;obtain⟨t0,t1,rfl⟩:=two_of hn2;have sl:=(gG (l:=[t0,t1]) 0 (by simp) h2).1;have na:=hk 0 (by simp);have gw:=(gG (l:=[t0,t1]) 1 (by simp) h2).1;have fi:=hk 1 (by simp);have lw:t0.size+t1.size=aL [t0,t1]:=by simp[aL]
  obtain⟨g,og,ci,hA,iw,dv⟩:=gC o5 0 (by simp);obtain⟨g',og',cj,hA',h22',hcj⟩:=gC o5 1 (by simp);rw[hA]at hA';injection hA' with hA';injection hA' with e1 e2 _;subst e1 e2;simp only[List.getElem_cons_zero,List.getElem_cons_succ,Nat.zero_mul,Nat.one_mul,Nat.add_zero]at sl na dv gw fi hcj;have lh:0<=bS s/\bS s<=8:=by
   unfold bS
   repeat' split
   all_goals omega
  have e:(Tree.mk ⟨6,vv,s,a,b,r⟩ [t0,t1]).toks .plain R C=wrapT (eI t0) (bS s) (t0.toks .plain R C)++tk 5 s::wrapT (eI t1) (bS s+1) (t1.toks .plain R C):=by
   rw[Tree.toks];unfold dT;rw[if_neg (by show ¬ (6:Int)=0;omega),if_neg (by show ¬ ((6:Int)=1\/(6:Int)=3);omega),if_neg (by show ¬ (6:Int)=2;omega),if_neg (by show ¬ (6:Int)=4;omega),if_neg (by show ¬ (6:Int)=5;omega),if_pos rfl];rfl
  have hw0:=iH (eI t0) (bS s) (t0.toks .plain R C);have dr:=iF .plain R C t0 6 sl;rw[e]at pr ⊢;exact uFR vv s a b r A _ ca Cn _ W (zh ah) hw g og ci iw hA cj h22' (bS s) lh.1 lh.2 rfl _ _ rfl (by omega) (fun W2 o4 ja fv=>⟨(dv W2 (Kw.kp fv hw)).1,(hcj W2 (Kw.kp fv hw)).1⟩)
   (fun W2 ja=>sB ⟨6,vv,s,a,b,r⟩ A _ ca Cn W2 (zh ah) ja (fun _=>hu))
   (fun W2 o4 ja fv bd=>iZ sl na hw dv _ W2 o4 ja fv (by omega))
   (fun W2 o4 ja fv bd=>iZ gw fi hw hcj _ W2 o4 ja fv (by omega))
 ·have q:kind=7:=q;subst q;have e:(Tree.mk ⟨7,vv,s,a,b,r⟩ l).toks .plain R C=[tk 3 s]:=by
   rw[Tree.toks];unfold dT;rw[if_neg (by show ¬ (7:Int)=0;omega),if_neg (by show ¬ ((7:Int)=1\/(7:Int)=3);omega),if_neg (by show ¬ (7:Int)=2;omega),if_neg (by show ¬ (7:Int)=4;omega),if_neg (by show ¬ (7:Int)=5;omega),if_neg (by show ¬ (7:Int)=6;omega),if_pos rfl]
  rw[e];exact uBX vv s a b r A _ ca Cn _ W (zh ah) hw rfl (by omega)
 ·have q:kind=8:=q;subst q;obtain⟨rr,cc,np,gw,dj,ev⟩:=lT h1 rfl;have np:r=(rr:Int):=np;subst np;have hd:l.length / (rr:Int).toNat=cc:=by rw[Int.toNat_natCast,ev];exact Nat.mul_div_cancel_left cc (by omega)
  have e:(Tree.mk ⟨8,vv,s,a,b,(rr:Int)⟩ l).toks .plain R C=cA cc (bE .plain R C l) rr++[tk 5 [125]]:=by
   rw[Tree.toks];unfold dT;rw[if_neg (by show ¬ (8:Int)=0;omega),if_neg (by show ¬ ((8:Int)=1\/(8:Int)=3);omega),if_neg (by show ¬ (8:Int)=2;omega),if_neg (by show ¬ (8:Int)=4;omega),if_neg (by show ¬ (8:Int)=5;omega),if_neg (by show ¬ (8:Int)=6;omega),if_neg (by show ¬ (8:Int)=7;omega),if_pos rfl,cL];show cA (l.length / (rr:Int).toNat) _ (rr:Int).toNat++_=_;rw[hd,Int.toNat_natCast]
  have fz:0<l.length:=by rw[ev];exact Nat.mul_pos (by omega) (by omega)
  obtain⟨g,o,hA⟩:∃ g o,A=some ⟨g,o,none⟩:=by
   rcases o5 with h0|⟨g,o,e,_⟩
   ·have h0:l=[]:=h0;rw[h0]at fz;simp at fz
   exact⟨g,o,e⟩
  subst hA;have hsum:=iE .plain R C l 8 h2;have bi:∀ i,(cA cc (bE .plain R C l) i).length<=fI (bE .plain R C l)+i*cc+i:=fun i=>by
   have:=kI cc (bE .plain R C l) i;have:=tX (bE .plain R C l) (i*cc);omega
  have ua:∀ i,(cA cc (bE .plain R C l) i).length<=600000\/rr<i:=fun i=>by
   rcases Nat.lt_or_ge rr i with h|h
   ·exact .inr h
   have h3:=bi i;have h4:i*cc<=l.length:=by rw[ev];exact Nat.mul_le_mul_right cc h
   have h5:i<=i*cc:=Nat.le_mul_of_pos_right i dj;exact .inl (by omega)
  rw[e];refine uFP vv s a b (rr:Int) _ _ ca Cn _ W (zh ah) hw (fun W2 ja fv=>?_);refine xX ⟨8,vv,s,a,b,(rr:Int)⟩ g o ca rr cc Cn (bE .plain R C l) W2 (zh (by rw[<- ev];exact ah)) rfl gw dj (by rw[<- ev];exact kw) (by rw[<- ev];omega) ja (fun i hi W3 ts3 hs3 hk3 dt=>?_) (fun i hi=>?_)
  ·have hP3:=o5.keep (Kw.kp (fv.trans hk3) hw);have h4:i*cc+cc<=l.length:=by
    have:=Nat.mul_le_mul_right cc (by omega:i+1<=rr);rw[Nat.succ_mul,<- ev]at this;exact this
   have h5:i<=i*cc:=Nat.le_mul_of_pos_right i dj;have h6:=kI cc (bE .plain R C l) i;have h7:=iE .plain R C (l.take (i*cc)) 8 (pS _ h2);rw[<- gL,zc,Nat.min_eq_left (by omega)]at h7;have h8:aL (l.take (i*cc))+aL ((l.drop (i*cc)).take cc)<=aL l:=by
    have e8:=kM (l.take (i*cc)) (l.drop (i*cc));rw[List.take_append_drop]at e8;have:=uBB (l.drop (i*cc)) cc;omega
   exact tE (p:=p) (m:=m) (rp:=rp) (cp:=cp) (R:=R) (C:=C) (A:=some ⟨g,o,none⟩) (l:=l) (kd:=8) (i*cc) cc (ca-i*cc) h4 g o (fun _=>rfl) _ (fun _=>rfl) h2 hk W3 ts3 hs3 hP3 (by omega) (by omega)
  rcases ua i with h|h
  ·have h3:=bi i;have h4:i*cc<=l.length:=by rw[ev];exact Nat.mul_le_mul_right cc hi
   have h5:i<=i*cc:=Nat.le_mul_of_pos_right i dj;omega
  omega
 have q:kind=9:=q;subst q;have e:(Tree.mk ⟨9,vv,s,a,b,r⟩ l).toks .plain R C=[]:=by
  rw[Tree.toks];unfold dT;rw[if_neg (by show ¬ (9:Int)=0;omega),if_neg (by show ¬ ((9:Int)=1\/(9:Int)=3);omega),if_neg (by show ¬ (9:Int)=2;omega),if_neg (by show ¬ (9:Int)=4;omega),if_neg (by show ¬ (9:Int)=5;omega),if_neg (by show ¬ (9:Int)=6;omega),if_neg (by show ¬ (9:Int)=7;omega),if_neg (by show ¬ (9:Int)=8;omega)]
 rw[e];exact uBY vv s a b r A _ ca Cn _ W (zh ah) hw rfl
theorem uFN(p m:Nat)(rp cp:Option Nat)(R C:AxV)(N:Nat):∀ (n:Nat) (t:Tree),t.size<=n->t.size<=1000->∀ (kd:Int),t.right kd=true->t.ok N->sS p m rp cp R C t:=by
 intro n
 induction n with
 |zero=>intro t h;cases t;rw[Tree.size]at h;omega
 |succ n ih=>
  intro t ap f6 kd hr ho;refine uEL hr ho f6 (fun i hi=>?_);obtain⟨h,l⟩:=t;have hi:i<l.length:=hi;have h1:=nX (l:=l) i hi;have hs:(Tree.mk h l).size=aL l+1:=by rw[Tree.size]
  rw[hs]at ap f6;rw[Tree.ok]at ho;exact ih _ (by show (l[i]'hi).size<=n;omega) (by show (l[i]'hi).size<=1000;omega) h.kind (gG i hi (cX hr).2).1 (uCW i hi ho.2)
theorem WrS.axG{W W':World}{p m:Nat}{rp cp:Option Nat}{R C:AxV}{sf v:Value}{ts:List RTok}(h:WrS W p m rp cp R C sf ts)(hv:W.cell? ⟨p,4,none⟩=some v)(hg:W.grownBy W' v.ownBlock):AxF W' rp R/\AxF W' cp C/\Gl W'/\Kp v.ownBlock.toList W W'/\∀ g∈v.ownBlock.toList,p<g:=by
 obtain⟨v0,h1,h2⟩:=h.box;have hc:W.cell? ⟨p,4,none⟩=some v0:=h1.cell 4;rw[hv]at hc;injection hc with hc;subst hc;have hvo:=uZ h2;have fi:Kp v.ownBlock.toList W W':=(Kp.refl _ W).grown hg (fun g jw=>.inl (by rw[jw];exact .head _));have aw:∀ g∈v.ownBlock.toList,p<g:=fun g hm=>(dV.1 (hvo g (by simpa using hm)).1).2.1
 have hY:NoAx W v.ownBlock.toList:=fun y hy _=>by
  obtain⟨_,cs,k⟩:=hvo y (by simpa using hy);exact⟨_,_,k,by decide,by decide,by decide,by decide⟩
 refine⟨h.ax.kp fi hY,h.ay.kp fi hY,h.gl.kp fi (fun b hb=>?_),fi,aw⟩;have:=aw b hb;obtain⟨q1,q2,q3⟩:=h.pl;exact⟨by omega,by omega,by omega⟩
theorem Gl.low{w:World}(h:Gl w){p:Nat}(hp:w.heap.size<=p):kW p:=by
 refine⟨yu h.tab.lt hp,?_,?_⟩
 ·have hw:=h.pow;unfold PowTab Lib.TabIs World.var? at hw;rw[gPow]at hw;simp only[Option.bind_some]at hw;rcases Nat.lt_or_ge 4 w.heap.size with h'|h'
  ·omega
  rw[Array.getElem?_eq_none h']at hw;cases hw
 obtain⟨m,hm⟩:=h.mx;have:=uI hm;omega
theorem uED{W:World}{g:Nat}{t:TypeId}{cs:List Value}{C:Array Value}(hl:Lies W g t C)(e:C=cs.toArray):∀ j u,cs[j]?=some u->W.cell? ((⟨g,0,none⟩:Addr).add j)=some u:=fun j u hj=>by
 have e':(⟨g,0,none⟩:Addr).add j=⟨g,j,none⟩:=by cases j <;> simp[Addr.add]
 rw[e',hl.cell j,e];simpa using hj
def endT:RTok:=⟨0,[],0⟩
theorem yH(t:Tree)(rp cp:Option Nat)(Cn:List Value)(w:World)(hP:TreeIn w t Cn.toArray)(hf:t.fine)(ap:t.size<=1000)(hc:cI t≠0) :
  Calls Tryz.prog 33 #[.agg Cn.toArray,.pointer (ptr rp),.pointer (ptr cp),sfP] w fun e w'=>e=.returned (vS #[])/\Below w.heap.size w w':=by
 obtain⟨W0,ak⟩:=zD (w.alloc (.cells Cn.toArray 34))
 have ai:=zh ak;have au:=zA ak;have HL:=zL ak;have iw:Cn.length=22:=by
  obtain⟨A,j7,e,_⟩:=hP;exact oP e
 have bk:=zh (dE iw);have vm:TreeIn W0 t Cn.toArray:=by
  obtain⟨A,j7,e,hk⟩:=hP;refine⟨A,j7,e,hk.kp ((Kp.of_below au.out).mono (Y:=[]) (fun k hk _=>by cases hk))⟩
 have CC:=zh (qB t Cn.toArray W0 vm (by omega) hf);have dv:((cI t:Int) != 0)=true:=by simp;omega
 clear ak hP vm hf ap hc iw;generalize cI t=ck at *
 go_in
 go_upto_region 1 with fail
 rw[<- ai.out];clear ai
 go_wp2_with (first
  |(refine yr rfl 34 (.tmp 4) rfl w.heap.size 0 rfl Cn _ HL.out.rangeM Tryz.underlying34 rfl bk.out ?_)
  |((with_reducible refine CC.out.mono ?_);rintro e wx ⟨rfl,hb⟩;have b6:=zT au hb;clear hb))
 go_ret
 exact⟨rfl,b6.out⟩
theorem uCC(t:Tree)(N:Nat)(rp cp:Option Nat)(R C:AxV)(Cn:List Value)(w:World)(hP:TreeP (fun g=>g∉rp.toList++cp.toList) w t Cn.toArray)(hf:t.fine)(ho:t.ok N)(hR:AxF w rp R)(hC:AxF w cp C)(cv:∀ b,rp=some b->cp≠some b)(hg:Gl w)(kq:∀ b∈rp.toList++cp.toList,b<w.heap.size/\kW b)(hc:cI t=0) :
  Calls Tryz.prog 33 #[.agg Cn.toArray,.pointer (ptr rp),.pointer (ptr cp),sfP] w fun e w'=>e=.returned (vT (dK none (t.toks .plain R C++[endT])))/\AxF w' rp R/\AxF w' cp C/\Gl w'/\Kp (rp.toList++cp.toList) w w':=by
 obtain⟨hr,ap⟩:=iV hc;have htl:=iF .plain R C t 6 hr;have htx:=vK (v:=.plain) trivial hR.av hC.av t 6 hr;obtain⟨W0,ak⟩:=zD (w.alloc (.cells Cn.toArray 34))
 have ai:=zh ak;have au:=zA ak;have HL:=zL ak;have hIn:=hP.all;have iw:Cn.length=22:=by
  obtain⟨A,j7,e,_⟩:=hIn;exact oP e
 have bk:=zh (dE iw);have vm:TreeIn W0 t Cn.toArray:=by
  obtain⟨A,j7,e,hk⟩:=hIn;refine⟨A,j7,e,hk.kp ((Kp.of_below au.out).mono (Y:=[]) (fun k hk _=>by cases hk))⟩
 have CC:=zh (qB t Cn.toArray W0 vm (by omega) hf);rw[hc]at CC;have CV:=zh (fun W=>uV W);have HNk:=zh (fun(p m:Nat)=>uFN p m rp cp R C N 1000 t (by omega) (by omega) 6 hr ho);have mf:Hid (∀ W2,Below w.heap.size w W2->∀ m,LvM W2 m->WrS (W2.alloc (.cells #[.pointer (ptr rp),.pointer (ptr cp),.map (some m),sfP,.slice none 0 0] 135)) W2.heap.size m rp cp R C sfP []/\TreeP (PLo W2.heap.size (rp.toList++cp.toList)) (W2.alloc (.cells #[.pointer (ptr rp),.pointer (ptr cp),.map (some m),sfP,.slice none 0 0] 135)) t Cn.toArray):=zh (fun W2 hb m hm=>by
  have bd:Below W2.heap.size W2 (W2.alloc (.cells #[.pointer (ptr rp),.pointer (ptr cp),.map (some m),sfP,.slice none 0 0] 135)):=(zp _);refine⟨⟨⟨.slice none 0 0,Lies.new _ _ _,⟨rfl,.inl ⟨rfl,rfl⟩⟩⟩,(hR.next hb).next bd,(hC.next hb).next bd,cv,hm.at (bd.block _ hm.lt),(hg.next hb).next bd,fun b sh=>⟨yu (kq b sh).1 hb.size,(kq b sh).2⟩,hg.low hb.size,hm.lt⟩,?_⟩;have fi:KP (fun g=>g<w.heap.size/\g∉rp.toList++cp.toList) w (W2.alloc (.cells #[.pointer (ptr rp),.pointer (ptr cp),.map (some m),sfP,.slice none 0 0] 135)):=⟨yv hb.size bd.size,fun g jw=>(bd.block g (yu jw.1 hb.size)).trans (hb.block g jw.1)⟩
  have h1:TreeP (fun g=>g<w.heap.size/\g∉rp.toList++cp.toList) w t Cn.toArray:=hP.imp (fun g ig ko=>⟨ko,ig⟩);exact(h1.keep fi).imp (fun g ig _=>⟨yu ig.1 hb.size,ig.2⟩))
 obtain⟨i1,gi,gz0,gz1,gz2⟩:=info_parts qP;have HJ:=zh (fun(A:Option Addr) (c:Nat) (W:World) (tg:RIn W A (t.toks .plain R C++[endT])) (hm:MaxVar W)=>show Calls Tryz.prog 25 #[.slice A ((t.toks .plain R C).length+1) c] W _ from by
  have h:=join_any A c (t.toks .plain R C++[endT]) W (by simp;omega) (fun x hx=>by
   rcases List.mem_append.1 hx with hx|hx
   ·exact(htx x hx).1
   rw[yf.1 hx];decide) tg hm
  rw[yl]at h;exact h)
 have HTl:Hid ((t.toks .plain R C).length<=1600):=zh (by omega);have jy:Hid (t.size<=256):=zh ap;clear ak hP hIn vm hf ho hR hC cv hg kq hc hr ap htl htx iw
 go_in
 go_upto_region 1 with fail
 rw[<- ai.out];clear ai
 go_upto_region 4 with(first
  |(refine yr rfl 34 (.tmp 4) rfl w.heap.size 0 rfl Cn _ HL.out.rangeM Tryz.underlying34 rfl bk.out ?_)
  |((with_reducible refine CC.out.mono ?_);rintro e W1 ⟨rfl,hb⟩;have b6:=zT au hb;have i9:=zh (HL.out.next hb);clear hb HL CC)
  |((with_reducible refine(CV.out _).mono ?_);rintro e W2 ⟨rfl,hl,hb⟩;have bm:=zT b6 hb;have ie:=zh (i9.out.next hb);have HLv:=zh hl;clear hb hl i9))
 obtain⟨hs,htp⟩:=mf.out W2 bm.out _ HLv.out;obtain⟨W3,ix⟩:=zD (W2.alloc (.cells #[.pointer (ptr rp),.pointer (ptr cp),.map (some W1.heap.size),sfP,.slice none 0 0] 135))
 rw[<- ix]at hs htp ⊢;have tu:Hid (Lies W3 w.heap.size 34 Cn.toArray):=zh (by rw[ix];exact ie.out.alloc _);have bj:=zF bm ix;have jm:Hid (w.heap.size<=W2.heap.size):=zh bm.out.size;obtain⟨p,hp⟩:=zD W2.heap.size
 obtain⟨m,hm⟩:=zD W1.heap.size
 rw[<- hp,<- hm]at hs;rw[<- hp]at htp jm ⊢;rw[<- hm];have CN:=zh (HNk.out p m W3 [] Cn hs htp (by have:=jy.out;simp;omega));rw[List.nil_append]at CN;have qn:=zh hs;clear hs htp ix hp hm mf HNk CV ie HLv b6 bm;obtain⟨oy,htk⟩:∃ x,x=t.toks .plain R C:=⟨_,rfl⟩
 rw[<- htk]at CN HJ HTl;have HTk:=zh htk;have htl:=HTl.out;clear htk
 go_wp2_with (first
  |(refine yr rfl 34 (.tmp 4) rfl w.heap.size 0 rfl Cn _ tu.out.rangeM Tryz.underlying34 rfl bk.out ?_)
  |((with_reducible refine CN.out.mono ?_);rintro e W4 ⟨rfl,zy,m9⟩;obtain⟨v4,hl4,q9⟩:=zy.box;obtain⟨A4,c4,rfl⟩:=aZ q9;have k4:W4.cell? ⟨p,4,none⟩=some (.slice A4 oy.length c4):=hl4.cell 4;have hpl:=hl4.lt;obtain⟨W5,ee⟩:=zD (W4.alloc (.cells #[vI 0,vS #[],vI 0] 64));have bg:=zA ee;have qo:=zh (zy.next bg.out);have mr:=zh (aI bg.out q9);have fh:=zh m9;have dg:=zL ee;have HW5:=zh ee;have HC5:Hid (W5.cell? ⟨p,4,none⟩=some (.slice A4 oy.length c4)):=zh ((hl4.next bg.out).cell 4);clear zy m9 hl4 q9 ee)
  |(at_builtin;rw[<- HW5.out];refine wpList_append_own (P:=Tryz.prog) _ rfl _ _ 60 rfl (p+1) 64 i1 (.agg #[vI 0,vS #[],vI 0]) 3 32 Tryz.underlying60 gi gz0 gz1 gz2 rfl (by decide) (.slice A4 oy.length c4) oy.length (iY oy) rfl mr.out ⟨W4.heap.size,0,none⟩ 1 1 (fH endT) rfl rfl (uED dg.out rfl) (lJ _) (by unfold maxLen;omega) (by omega) (Nat.succ_le_of_lt qo.out.lt) (fun v' w' k1 k2 _=>?_);obtain⟨A6,c6,rfl⟩:=aZ k1;rw[<- nW]at k1;have HIn:Hid (RIn w' A6 (oy++[endT])):=zh (rIn_ownK (by rw[yl];exact k1));have HG:=zh (qo.out.axG HC5.out k2);clear k1 k2 k4)
  |((with_reducible refine(HJ.out A6 c6 _ HIn.out HG.out.2.2.1.mx).mono ?_);rintro e w7 ⟨rfl,hb⟩;have mp:=zh hb;clear hb))
 go_ret
 refine⟨by(rw[HTk.out]) <;> rfl,HG.out.1.next mp.out,HG.out.2.1.next mp.out,HG.out.2.2.1.next mp.out,?_⟩;have h1:Kp (rp.toList++cp.toList) w W4:=Kp.andThen (Kp.of_below bj.out) fh.out (fun g hg=>by
  rcases ym.1 hg with rfl|hg
  ·exact .inr jm.out
  rcases List.mem_append.1 hg with hg|hg
  ·exact .inl hg
  have:=(dV.1 hg).2.1;have:=jm.out;exact .inr (by omega))
 have h2:Kp (rp.toList++cp.toList) w W5:=h1.trans (Kp.of_below bg.out);have h3:=Kp.andThen h2 HG.out.2.2.2.1 (fun g hg=>by
  have:=HG.out.2.2.2.2 g hg;have:=jm.out;exact .inr (by omega))
 exact h3.trans (Kp.of_below mp.out)
theorem TreeP.box{X:List Nat}{w W:World}{t:Tree}{cs:Array Value}(h:TreeP (fun g=>g∉X) w t cs)(hb:Below w.heap.size w W):TreeP (fun g=>g∉X) W t cs:=by
 have h1:TreeP (fun g=>g<w.heap.size/\g∉X) w t cs:=h.imp (fun g ig ko=>⟨ko,ig⟩);exact(h1.keep ⟨hb.size,fun g hg=>hb.block g hg.1⟩).imp (fun g ig _=>ig.2)
theorem yG(t:Tree)(N:Nat)(rp cp:Option Nat)(R C:AxV)(Cn:List Value)(w:World)(hP:TreeP (fun g=>g∉rp.toList++cp.toList) w t Cn.toArray)(hf:t.fine)(ho:t.ok N)(ap:t.size<=1000)(hR:AxF w rp R)(hC:AxF w cp C)(cv:∀ b,rp=some b->cp≠some b)(hg:Gl w)(kq:∀ b∈rp.toList++cp.toList,b<w.heap.size/\kW b) :
  Calls Tryz.prog 33 #[.agg Cn.toArray,.pointer (ptr rp),.pointer (ptr cp),.func (.func 34) #[] #[]] w fun e w'=>e=.returned (vT (cZ .plain R C t))/\AxF w' rp R/\AxF w' cp C/\Gl w'/\Kp (rp.toList++cp.toList) w w':=by
 unfold cZ;by_cases hc:cI t=0
 ·rw[if_neg (by omega)];exact uCC t N rp cp R C Cn w hP hf ho hR hC cv hg kq hc
 rw[if_pos hc];refine(yH t rp cp Cn w hP.all hf ap hc).mono ?_;rintro e w' ⟨rfl,hb⟩;exact⟨rfl,hR.next hb,hC.next hb,hg.next hb,Kp.of_below hb⟩
theorem nA(t:Tree)(N:Nat)(rp cp:Option Nat)(R C:AxV)(Cn:List Value)(w:World)(hP:TreeP (fun g=>g∉rp.toList++cp.toList) w t Cn.toArray)(hf:t.fine)(ho:t.ok N)(ap:t.size<=1000)(hR:AxF w rp R)(hC:AxF w cp C)(cv:∀ b,rp=some b->cp≠some b)(hg:Gl w)(kq:∀ b∈rp.toList++cp.toList,b<w.heap.size/\kW b) :
  Calls Tryz.prog 13 #[.agg Cn.toArray,.pointer (ptr rp),.pointer (ptr cp)] w fun e w'=>e=.returned (vT (cZ .plain R C t))/\AxF w' rp R/\AxF w' cp C/\Gl w'/\Kp (rp.toList++cp.toList) w w':=by
 obtain⟨W0,ak⟩:=zD (w.alloc (.cells Cn.toArray 34))
 have ai:=zh ak;have au:=zA ak;have HL:=zL ak;have iw:Cn.length=22:=by
  obtain⟨A,j7,e,_⟩:=hP;exact oP e
 have bk:=zh (dE iw);have CW:=zh (yG t N rp cp R C Cn W0 (hP.box au.out) hf ho ap (hR.next au.out) (hC.next au.out) cv (hg.next au.out) (fun b hb=>⟨yu (kq b hb).1 au.out.size,(kq b hb).2⟩));clear ak hP hf ho ap hR hC cv hg kq iw;obtain⟨T,hT⟩:=zD (cZ .plain R C t)
 rw[<- hT]at CW ⊢;clear hT
 go_in
 go_upto_region 1 with fail
 rw[<- ai.out];clear ai
 go_wp2_with (first
  |(refine yr rfl 34 (.tmp 3) rfl w.heap.size 0 rfl Cn _ HL.out.rangeM Tryz.underlying34 rfl bk.out ?_)
  |((with_reducible refine CW.out.mono ?_);rintro e w' ⟨rfl,h1,h2,h3,h4⟩;have HH:=zh (And.intro h1 (And.intro h2 (And.intro h3 h4)));clear h1 h2 h3 h4))
 go_ret
 exact⟨rfl,HH.out.1,HH.out.2.1,HH.out.2.2.1,(Kp.of_below au.out).trans HH.out.2.2.2⟩
abbrev twoH:NodeH:=⟨0,⟨1,2,0,[],false,0⟩,[],aK,aK,0⟩
abbrev powH:NodeH:=⟨6,aD,[94],aK,aK,0⟩
abbrev negH:NodeH:=⟨5,aD,[45],aK,aK,0⟩
def negT:Tree:=.mk negH [.mk powH [.mk twoH [],.mk twoH []]]
def fQ:List Value:=(aH twoH none 0 0).toList
def uAP(q:Nat):List Value:=(aH powH (some ⟨q,0,none⟩) 2 2).toList
def rB(q:Nat):List Value:=(aH negH (some ⟨q,0,none⟩) 1 1).toList
theorem uDR:Tryz.prog.built 34 [(0,vI 0),(1,.agg #[vI 1,vI 2,vI 0,vS #[],.bool false,vI 0])]=some fQ.toArray:=by kernel_rfl
theorem uDQ(q:Nat):Tryz.prog.built 34 [(0,vI 6),(2,vS #[94]),(5,.slice (some ⟨q,0,none⟩) 2 2)]=some (uAP q).toArray:=by kernel_rfl
theorem uDP(q:Nat):Tryz.prog.built 34 [(0,vI 5),(2,vS #[45]),(5,.slice (some ⟨q,0,none⟩) 1 1)]=some (rB q).toArray:=by kernel_rfl
theorem gX{ops:Array Oper}{rest:List Oper}{o:Oper}{a:Act}{w:World}{Q:Exit->Act->World->Prop}(hg:o.guard=none)(t:TypeId)(parts:Array (Nat×Go.Operand))(ho:o.op=.build t parts)(C:List Value)
  (hf:Tryz.prog.built t (parts.map fun(i,x)=>(i,a.eval x)).toList=some C.toArray) (h:wpList Tryz.prog ops Q rest (a.put o.dst (.agg C.toArray)) w):wpList Tryz.prog ops Q (o::rest) a w :=
 wpList_build hg t parts ho (by rw[hf];rfl) (by rw[hf];exact h)
theorem zX:cZ .plain none none negT=[45,40,50,94,50,41]:=by kernel_rfl
theorem two_one:fQ.toArray.all (·.oneCell')=true:=by simp[fQ,Value.oneCell']
theorem neg_one(q:Nat):(rB q).toArray.all (·.oneCell')=true:=by simp[rB,Value.oneCell']
theorem neg_fine:negT.fine:=by
 refine⟨⟨by decide,by decide,by decide,by decide⟩,⟨⟨by decide,by decide,by decide,by decide⟩,⟨⟨by decide,by decide,by decide,by decide⟩,trivial⟩,⟨⟨by decide,by decide,by decide,by decide⟩,trivial⟩,trivial⟩,trivial⟩
theorem eB:aK.fits:=⟨⟨by decide,by decide⟩,⟨by decide,by decide⟩⟩
theorem neg_ok:negT.ok 10:=by
 refine⟨⟨by decide,by decide,eB,eB,by decide,by decide⟩,⟨⟨by decide,by decide,eB,eB,by decide,by decide⟩,⟨⟨by decide,by decide,eB,eB,by decide,by decide⟩,trivial⟩,⟨⟨by decide,by decide,eB,eB,by decide,by decide⟩,trivial⟩,trivial⟩,trivial⟩
theorem neg_tree{P:Nat->Prop}{W:World}{a b:Nat}(h1:Lies W a 34 (fQ++fQ).toArray)(h2:Lies W b 34 (uAP a).toArray)(ha:P a)(hb:P b):TreeP P W negT (rB b).toArray:=by
 refine⟨some ⟨b,0,none⟩,1,rfl,by decide,.inr ⟨b,0,rfl,hb,h2.lt,⟨some ⟨a,0,none⟩,2,by decide,fun j hj=>?_,.inr ⟨a,0,rfl,ha,h1.lt,⟨none,0,by decide,fun j hj=>?_,.inl rfl⟩,⟨none,0,by decide,fun j hj=>?_,.inl rfl⟩,trivial⟩⟩,trivial⟩⟩
 ·rw[Nat.zero_add,h2.cell j];rfl
 ·rw[Nat.zero_add,h1.cell j];have e:fQ.length=22:=rfl;rw[za,List.getElem?_append_left (by omega)];simp[fQ]
 rw[h1.cell];have e:fQ.length=22:=rfl;rw[za,List.getElem?_append_right (by omega),e,show 0+22+j-22=j from by omega];simp[fQ]
theorem pZ(w:World)(hg:Gl w):Calls Tryz.prog 10 #[] w fun e w'=>e=.returned (.bool true)/\Below w.heap.size w w':=by
 obtain⟨q,hq⟩:=zD w.heap.size
 obtain⟨W0,ak⟩:=zD (w.alloc (.cells eR.toArray 34))
 have s0:W0.heap.size=q+1:=by rw[ak,World.size_alloc,hq]
 have l0:Lies W0 q 34 eR.toArray:=by rw[ak,hq];exact Lies.new w _ _
 have b0:Below q w W0:=by rw[ak,hq];exact(Below.refl _ w).alloc zr _
 have z0:Kp [] w W0:=by rw[ak];exact(Kp.refl _ w).alloc _
 obtain⟨W1,am⟩:=zD (W0.setCells q 0 fQ)
 have l1:Lies W1 q 34 fQ.toArray:=by rw[am];exact l0.putAll rfl
 have z1:Kp [] w W1:=by rw[am];exact mH (.inr (by omega)) fQ 0 z0
 have s1:W1.heap.size=q+1:=by rw[am,lD,s0]
 obtain⟨W2,fe⟩:=zD (W1.alloc (.cells (fQ++fQ).toArray 34))
 have s2:W2.heap.size=q+2:=by rw[fe,World.size_alloc,s1]
 have z2:Kp [] w W2:=by rw[fe];exact z1.alloc _
 have l2:Lies W2 (q+1) 34 (fQ++fQ).toArray:=by rw[fe,<- s1];exact Lies.new _ _ _
 obtain⟨W3,ix⟩:=zD (W2.alloc (.cells (uAP (q+1)).toArray 34))
 have s3:W3.heap.size=q+3:=by rw[ix,World.size_alloc,s2]
 have z3:Kp [] w W3:=by rw[ix];exact z2.alloc _
 have l3:Lies W3 (q+2) 34 (uAP (q+1)).toArray:=by rw[ix,<- s2];exact Lies.new _ _ _
 have m3:Lies W3 (q+1) 34 (fQ++fQ).toArray:=by rw[ix];exact l2.alloc _
 obtain⟨W4,nc⟩:=zD (W3.alloc (.cells eR.toArray 34))
 have s4:W4.heap.size=q+4:=by rw[nc,World.size_alloc,s3]
 have z4:Kp [] w W4:=by rw[nc];exact z3.alloc _
 have l4:Lies W4 (q+3) 34 eR.toArray:=by rw[nc,<- s3];exact Lies.new _ _ _
 obtain⟨W5,ee⟩:=zD (W4.setCells (q+3) 0 (rB (q+2)))
 have l5:Lies W5 (q+3) 34 (rB (q+2)).toArray:=by rw[ee];exact l4.putAll rfl
 have z5:Kp [] w W5:=by rw[ee];exact mH (.inr (by omega)) _ 0 z4
 have n5:Lies W5 (q+2) 34 (uAP (q+1)).toArray:=by rw[ee];exact fA (by omega) _ 0 (by rw[nc];exact l3.alloc _)
 have m5:Lies W5 (q+1) 34 (fQ++fQ).toArray:=by rw[ee];exact fA (by omega) _ 0 (by rw[nc];exact m3.alloc _)
 have bg:Hid (Below w.heap.size w W5):=zh (z5.below (fun k hk=>by cases hk) zr);have CF:Hid (Calls Tryz.prog 13 #[.agg (rB (q+2)).toArray,.pointer none,.pointer none] W5 fun e w'=>e=.returned (vS #[45,40,50,94,50,41])/\Gl w'/\Below W5.heap.size W5 w'):=zh (by
  have h:=nA negT 10 none none none none (rB (q+2)) W5 (neg_tree m5 n5 (by simp) (by simp)) neg_fine neg_ok (by decide) trivial trivial (fun b hb=>by cases hb) (hg.next bg.out) (fun b hb=>by cases hb);rw[zX]at h;refine h.mono ?_;rintro e w' ⟨rfl,-,-,h3,h4⟩;exact⟨rfl,h3,h4.below (fun k hk=>by cases hk) zr⟩)
 have HT0:Hid (W0.there q 0 fQ.toArray.size):=zh l0.thereA;have HT4:Hid (W4.there (q+3) 0 (rB (q+2)).toArray.size):=zh l4.thereA;have kn:=zh l1.range;have mh:=zh l5.range;have H22:Hid (fQ.length=22):=zh rfl;have HP22:Hid ((uAP (q+1)).length=22):=zh rfl;have z9:Hid ((Tryz.prog.info? 34).map (·.size)=some fQ.length):=zh cM;have HI5:Hid ((Tryz.prog.info? 34).map (·.size)=some (rB (q+2)).length):=zh cM;have ai:=zh ak;have al:=zh am;have i5:=zh fe;have HW3:=zh ix;have HW4:=zh nc;have HW5:=zh ee;have ew:=zh s1;have ln:=zh s2;have qn:=zh s3;have HQ:=zh hq;have HBT:=zh uDR;have HBP:=zh (uDQ (q+1));have HBN:=zh (uDP (q+2));have rn:=zh two_one;have HON:=zh (neg_one (q+2));clear ak am fe ix nc ee s0 s1 s2 s3 s4 z0 z1 z2 z3 z4 z5 b0 l0 l1 l2 l3 l4 l5 m3 n5 m5 hg hq;generalize fQ=c2 at *;generalize uAP (q+1)=cp at *
 generalize rB (q+2)=cn at *
 go_in
 go_upto_region 2 with(first
  |(refine gX rfl 34 #[(0,.const (vI 0)),(1,.tmp 4)] rfl c2 (by simp only[List.map_toArray,List.map_cons,List.map_nil];exact HBT.out) ?_)
  |(refine yq rfl 34 (.tmp 1) (.tmp 5) rfl w.heap.size 0 c2.toArray rfl rfl (by rw[<- HQ.out,<- ai.out];exact HT0.out) z9.out rn.out ?_;change wpList _ _ _ _ _ (World.setCells _ w.heap.size 0 c2);rw[<- ai.out,<- HQ.out,<- al.out]))
 go_upto_region 3 with(first
  |(refine yr rfl 34 (.tmp 1) rfl q 0 rfl c2 _ kn.out Tryz.underlying34 rfl z9.out ?_)
  |(refine uCA rfl (.tmp 6) (.tmp 7) rfl c2 c2 rfl rfl H22.out H22.out (q+1) ew.out _ rfl ?_;rw[<- i5.out])
  |(refine gX rfl 34 #[(0,.const (vI 6)),(2,.const (vS #[94])),(5,.tmp 8)] rfl cp (by simp only[List.map_toArray,List.map_cons,List.map_nil];exact HBP.out) ?_)
  |(refine sE rfl (.tmp 9) rfl cp rfl HP22.out (q+2) ln.out _ rfl ?_;rw[<- HW3.out])
  |(refine gX rfl 34 #[(0,.const (vI 5)),(2,.const (vS #[45])),(5,.tmp 10)] rfl cn (by simp only[List.map_toArray,List.map_cons,List.map_nil];exact HBN.out) ?_)
  |(refine yq rfl 34 (.tmp 2) (.tmp 11) rfl W3.heap.size 0 cn.toArray rfl rfl (by rw[<- HW4.out,qn.out];exact HT4.out) HI5.out HON.out ?_;change wpList _ _ _ _ _ (World.setCells _ W3.heap.size 0 cn);rw[<- HW4.out,qn.out,<- HW5.out]))
 clear ai al i5 HW3 HW4 HW5 kn ew ln qn HT0 HT4 z9 H22 HP22;have CE:Hid (∀ W,Gl W->Calls Tryz.prog 26 #[.agg #[vI 1,vI 2,vI 0,vI 0,vS #[84,82,85,69],.bool false,vI 0,vI 0,vI 0,vI 0,vI 0,vS #[],.bool false,vI 0,vS #[],vI 0,vI 0,vI 0,vI 0,.bool false,.bool false,vI 0,vI 0,vI 0,vI 0,.bool false,.bool false,vI 0,.slice none 0 0],.pointer none,.pointer none] W fun e w'=>e=.returned (vS #[39,84,82,85,69])/\Below W.heap.size W w'):=zh (fun W h=>zH W h.tab h.pow)
 go_wp2_with (first
  |(refine yr rfl 34 (.tmp 2) rfl (q+3) 0 rfl cn _ mh.out Tryz.underlying34 rfl HI5.out ?_)
  |((with_reducible refine CF.out.mono ?_);rintro e w1 ⟨rfl,ig,hb⟩;have HG1:=zh ig;have ot:=zT bg hb;clear ig hb)
  |((with_reducible refine(CE.out _ HG1.out).mono ?_);rintro e w2 ⟨rfl,hb⟩;have mp:=zT ot hb;clear hb))
 go_ret
 exact⟨rfl,mp.out⟩
abbrev nB:Nat->Prop:=fun _=>True
theorem TreeP.nextA{W W':World}{t:Tree}{cs:Array Value}(h:TreeP nB W t cs)(hb:Below W.heap.size W W'):TreeP nB W' t cs:=by
 have h1:TreeP (fun g=>g<W.heap.size) W t cs:=h.imp (fun g _ hg=>hg);exact(h1.keep ⟨hb.size,fun g hg=>hb.block g hg⟩).imp (fun _ _ _=>trivial)
theorem kid_ref{W:World}{A:Option Addr}{l:List Tree}(h:KidsPO nB W A l)(i:Nat)(hi:i<l.length):∃ g og ci,A=some ⟨g,og,none⟩/\(ci:List Value).length=22/\∀ W',Below W.heap.size W W'->W'.rangeAt g (og+i*22) ci/\TreeP nB W' (l[i]'hi) ci.toArray:=by
 have h1:KidsPO (fun g=>g<W.heap.size) W A l:=by
  rcases h with h|⟨g',o',e,h3,h4,h5⟩
  ·exact .inl h
  exact .inr ⟨g',o',e,h4,h4,KidsP.imp (fun g _ hg=>hg) h5⟩
 obtain⟨g,og,ci,e1,e2,e3⟩:=gC h1 i hi;exact⟨g,og,ci,e1,e2,fun W' hb=>by
  obtain⟨k1,k2⟩:=e3 W' ⟨hb.size,fun g hg=>hb.block g hg⟩;exact⟨k1,k2.imp (fun _ _ _=>trivial)⟩⟩
theorem bZ(c:UInt8)(w:World) :
  Calls Tryz.prog 202 #[.int .u8 (c.toNat:Int)] w fun e w'=>e=.returned (.bool (aW c))/\w=w':=by
 go_in
 go_wp2
 all_goals go_ret
 all_goals exact⟨aA (by unfold aW;rw[ze];simp;try omega),rfl⟩
theorem cJ(c:UInt8)(w:World) :
  Calls Tryz.prog 203 #[.int .u8 (c.toNat:Int)] w fun e w'=>e=.returned (.bool (aB c))/\w=w':=by
 go_in
 go_wp2
 all_goals go_ret
 all_goals exact⟨aA (by unfold aB;rw[ze];simp;try omega),rfl⟩
theorem oX(l:Bs)(w:World)(hs:l.length<=maxLen) :
  Calls Tryz.prog 234 #[vT l] w fun e w'=>e=.returned (.bool (l.all aB))/\w=w':=by
 unfold maxLen at hs
 go_in
 go_wp2
 go_loop [3] (fun i=>∃ k:Nat,k<=l.length/\i=vI k/\(l.take k).all aB=true) (fun i=>l.length-(intOf i).toNat)
 case atStart=>exact⟨0,zm _,rfl,by simp⟩
 case round=>
  obtain⟨k,hk,rfl,hr⟩:=hrel;have HR:=zh hr;clear hr;by_cases hlt:k<l.length
  ·cases hd:aB l[k]
   ·have HQ:=zh (lH hlt hd)
    go_wp2_with (go_at_call 203;refine(cJ _ _).mono ?_;rintro e w' ⟨rfl,rfl⟩)
    go_ret
    exact⟨aA (by rw[HQ.out]),rfl⟩
   have HQ:=zh (dR HR.out hlt hd)
   go_wp2_with (go_at_call 203;refine(cJ _ _).mono ?_;rintro e w' ⟨rfl,rfl⟩)
   go_round
   case rel=>exact⟨k+1,by omega,by go_num,HQ.out⟩
   case measure=>simp[intOf];omega
  have HQ:Hid (l.all aB=true):=zh (by have h:=HR.out;rw[List.take_of_length_le (by omega)]at h;exact h)
  go_wp2
  go_ret
  exact⟨aA (by rw[HQ.out]),rfl⟩
def nR(l:Bs):Bool:=decide (aE l<=3)&&(decide (aE l<l.length)&&(decide (l.length<=7+aE l)&&(!bJ l (aE l) 48&&(l.drop (aE l)).all aB)))
theorem uER(l:Bs)(w:World)(hs:l.length<=100000) :
  Calls Tryz.prog 204 #[vT l] w fun e w'=>e=.returned (.bool (nR l))/\w=w':=by
 have HD:=zh (fun k W=>oX (l.drop k) W (by rw[yk];unfold maxLen;omega));unfold nR aE
 go_in
 go_wp2
 go_loop [3] (fun i=>∃ k:Nat,k<=l.length/\i=vI k/\k<=aT aW l) (fun i=>l.length-(intOf i).toNat)
 case atStart=>exact⟨0,zm _,rfl,zm _⟩
 case round=>
  obtain⟨k,hk,rfl,hr⟩:=hrel;have HK:=zh hr;clear hr;by_cases ol:∃ h:k<l.length,aW l[k]=true
  ·obtain⟨hlt,hd⟩:=ol;have HQ:=zh (iD _ _ _ HK.out hlt hd)
   go_wp2_with (go_at_call 202;refine(bZ _ _).mono ?_;rintro e w' ⟨rfl,rfl⟩)
   go_round
   case rel=>exact⟨k+1,by omega,by go_num,HQ.out⟩
   case measure=>simp[intOf];omega
  have ec:¬ k<l.length\/∃ h:k<l.length,aW l[k]=false:=by
   by_cases hlt:k<l.length
   ·exact .inr ⟨hlt,by cases h:aW l[k];rfl;exact absurd ⟨hlt,h⟩ ol⟩
   exact .inl hlt
  have HQ:Hid (aT aW l=k):=zh (by
   rcases ec with h|⟨h,hd⟩
   ·have:=cO aW l;have:=HK.out;omega
   exact mS _ _ _ HK.out h hd)
  clear ol;rcases ec with hlt|⟨hlt,hd⟩
  all_goals go_upto_region 4 with(go_at_call 202;refine(bZ _ _).mono ?_;rintro e w' ⟨rfl,rfl⟩)
  ·by_cases e1:k<=3
   all_goals
    go_wp2_with fail
    go_ret
    exact⟨aA (by rw[HQ.out];simp[e1,hlt]),rfl⟩
  clear hd;by_cases e1:k<=3
  ·by_cases e3:l.length<=7+k
   ·have e4:(l.length:Int)-(k:Int)<=7:=by omega
    have hq:=at_bne l k 48 48 rfl hlt;cases h48:bJ l k 48 with
    |true=>
     rw[h48]at hq
     go_wp2_with fail
     go_ret
     exact⟨aA (by rw[HQ.out];simp[h48]),rfl⟩
    |false=>
     rw[h48]at hq;have qq:=zh (HD.out k w)
     go_wp2_with fail
     refine qq.out.mono ?_;rintro e w' ⟨rfl,rfl⟩
     go_wp2_with fail
     go_ret
     exact⟨aA (by rw[HQ.out,decide_eq_true e3];simp[e1,hlt,h48]),rfl⟩
   have e4:¬ (l.length:Int)-(k:Int)<=7:=by omega
   go_wp2_with fail
   go_ret
   exact⟨aA (by rw[HQ.out,decide_eq_false e3];simp),rfl⟩
  go_wp2_with fail
  go_ret
  exact⟨aA (by rw[HQ.out];simp[e1]),rfl⟩
def rE(l:Bs):Bool:=(decide (1<=aE l)&&(decide (aE l<=3)&&(decide (aE l<l.length)&&(l.drop (aE l)).all aB)))||dF l
theorem lA{l:Bs}{a k:Nat}(h1:a<=k)(h2:k-a<=aT aB (l.drop a))(hlt:k<l.length)(hd:aB l[k]=true):k+1-a<=aT aB (l.drop a):=by
 have h3:k-a<(l.drop a).length:=by rw[yk];omega
 have h4:(l.drop a)[k-a]=l[k]:=by rw[List.getElem_drop];congr 1;omega
 have:=iD aB (l.drop a) (k-a) h2 h3 (by rw[h4];exact hd);omega
theorem mR{l:Bs}{a k:Nat}(h1:a<=k)(h2:k-a<=aT aB (l.drop a))(hk:k<=l.length)(ec:¬ k<l.length\/∃ h:k<l.length,aB l[k]=false):k=a+aT aB (l.drop a):=by
 have h5:=cO aB (l.drop a);rw[yk]at h5;rcases ec with h|⟨hlt,hd⟩
 ·omega
 have h3:k-a<(l.drop a).length:=by rw[yk];omega
 have h4:(l.drop a)[k-a]=l[k]:=by rw[List.getElem_drop];congr 1;omega
 have:=mS aB (l.drop a) (k-a) h2 h3 (by rw[h4];exact hd);omega
theorem uEP(l:Bs)(w:World)(hs:l.length<=100000) :
  Calls Tryz.prog 205 #[vT l] w fun e w'=>e=.returned (.bool (rE l))/\w=w':=by
 have HD:=zh (fun k W=>oX (l.drop k) W (by rw[yk];unfold maxLen;omega));obtain⟨R,hR⟩:=zE (rE l)
 have HR:=zh hR;rw[hR];clear hR
 go_in
 go_upto_block 0 with fail
 go_cut [3] (fun v wx=>v=vI (aE l:Nat)/\Hid (wx=w))
 case first=>
  go_wp2_with fail
  go_loop [3] (fun i=>∃ k:Nat,k<=l.length/\i=vI k/\k<=aT aW l) (fun i=>l.length-(intOf i).toNat)
  case atStart=>exact⟨0,zm _,rfl,zm _⟩
  case round=>
   obtain⟨k,hk,rfl,hr⟩:=hrel;have HK:=zh hr;clear hr;by_cases ol:∃ h:k<l.length,aW l[k]=true
   ·obtain⟨hlt,hd⟩:=ol;have HQ:=zh (iD _ _ _ HK.out hlt hd)
    go_wp2_with (go_at_call 202;refine(bZ _ _).mono ?_;rintro e w' ⟨rfl,rfl⟩)
    go_round
    case rel=>exact⟨k+1,by omega,by go_num,HQ.out⟩
    case measure=>simp[intOf];omega
   have ec:¬ k<l.length\/∃ h:k<l.length,aW l[k]=false:=by
    by_cases hlt:k<l.length
    ·exact .inr ⟨hlt,by cases h:aW l[k];rfl;exact absurd ⟨hlt,h⟩ ol⟩
    exact .inl hlt
   have HQ:Hid (aT aW l=k):=zh (by
    rcases ec with h|⟨h,hd⟩
    ·have:=cO aW l;have:=HK.out;omega
    exact mS _ _ _ HK.out h hd)
   clear ol;rcases ec with hlt|⟨hlt,hd⟩
   all_goals go_wp2_with (go_at_call 202;refine(bZ _ _).mono ?_;rintro e w' ⟨rfl,rfl⟩)
   all_goals go_meet
   all_goals exact⟨by unfold aE;rw[HQ.out],zh rfl⟩
 case rest=>
 obtain⟨rfl,hcut⟩:=hcut;have mw:=hcut.out;subst mw;clear hcut;have mq:aE l<=l.length:=cO aW l;have jk:Hid (((decide (1<=aE l)&&(decide (aE l<=3)&&(decide (aE l<l.length)&&(l.drop (aE l)).all aB)))||dF l)=R):=zh HR.out;have qq:=zh (HD.out (aE l) wc);clear HR HD;generalize (l.drop (aE l)).all aB=ad at *;generalize aE l=k at *
 go_upto_region 4 with fail
 go_cut [34] (fun v wx=>v=.bool (decide (1<=k)&&(decide (k<=3)&&(decide (k<l.length)&&ad)))/\Hid (wx=wc))
 case first=>
  by_cases e1:1<=k
  ·by_cases e2:k<=3
   ·by_cases e3:k<l.length
    ·go_wp2_with fail
     refine qq.out.mono ?_;rintro e w' ⟨rfl,rfl⟩
     go_wp2_with fail
     go_meet
     exact⟨by simp[e1,e2,e3],zh rfl⟩
    go_wp2_with fail
    go_meet
    exact⟨by simp[e3],zh rfl⟩
   go_wp2_with fail
   go_meet
   exact⟨by simp[e2],zh rfl⟩
  go_wp2_with fail
  go_meet
  exact⟨by simp[e1],zh rfl⟩
 case rest=>
 obtain⟨rfl,hcut⟩:=hcut;have mw:=hcut.out;subst mw;clear hcut qq;generalize (decide (1<=k)&&(decide (k<=3)&&(decide (k<l.length)&&ad)))=c at *;cases c with
 |true=>
  have jq:Hid (true=R):=zh jk.out
  go_wp2_with fail
  go_ret
  exact⟨aA jq.out,rfl⟩
 |false=>
 have jq:Hid (dF l=R):=zh jk.out;clear jk
 go_upto_region 7 with fail
 go_cut [44] (fun v wx=>v=.bool (bJ l 0 82)/\Hid (wx=wc))
 case first=>
  by_cases h0:0<l.length
  ·have hq:=pX l 0 82 82 rfl h0
   go_wp2_with fail
   go_meet
   exact⟨rfl,zh rfl⟩
  have hq:=nC l 0 82 (by omega)
  go_wp2_with fail
  go_meet
  exact⟨by rw[hq],zh rfl⟩
 case rest=>
 obtain⟨rfl,hcut⟩:=hcut;have mw:=hcut.out;subst mw;clear hcut;unfold dF at jq;have HAL:Hid ((if bJ l 0 82=true then 1+aF (l.drop 1) else 0)<=l.length):=zh (by
  split
  ·rename_i h
   have h1:=vR _ _ _ h;have h2:=cO aB (l.drop 1);rw[yk]at h2;unfold aF;omega
  exact zm _)
 go_upto_if 44 with fail
 go_cut [4] (fun v wx=>v=vI ((if bJ l 0 82=true then 1+aF (l.drop 1) else 0:Nat):Int)/\Hid (wx=wc))
 case first=>
  cases h82:bJ l 0 82 with
  |true=>
   have hlt0:=vR _ _ _ h82
   go_wp2_with fail
   go_loop [4] (fun i=>∃ k:Nat,1<=k/\k<=l.length/\i=vI k/\k-1<=aT aB (l.drop 1)) (fun i=>l.length-(intOf i).toNat)
   case atStart=>exact⟨1,zr,by omega,by go_num,by omega⟩
   case round=>
    obtain⟨k2,fi,hk,rfl,hr⟩:=hrel;have HK:=zh hr;clear hr;by_cases ol:∃ h:k2<l.length,aB l[k2]=true
    ·obtain⟨hlt,hd⟩:=ol;have HQ:=zh (lA fi HK.out hlt hd)
     go_wp2_with (go_at_call 203;refine(cJ _ _).mono ?_;rintro e w' ⟨rfl,rfl⟩)
     go_round
     case rel=>exact⟨k2+1,by omega,by omega,by go_num,HQ.out⟩
     case measure=>simp[intOf];omega
    have ec:¬ k2<l.length\/∃ h:k2<l.length,aB l[k2]=false:=by
     by_cases hlt:k2<l.length
     ·exact .inr ⟨hlt,by cases h:aB l[k2];rfl;exact absurd ⟨hlt,h⟩ ol⟩
     exact .inl hlt
    have HQ:=zh (mR fi HK.out hk ec);clear ol;rcases ec with hlt|⟨hlt,hd⟩
    all_goals go_wp2_with (go_at_call 203;refine(cJ _ _).mono ?_;rintro e w' ⟨rfl,rfl⟩)
    all_goals go_meet
    all_goals exact⟨by rw[if_pos h82,HQ.out];rfl,zh rfl⟩
  |false=>
   go_wp2_with fail
   go_meet
   exact⟨by rw[if_neg (by rw[h82];decide)];rfl,zh rfl⟩
 case rest=>
 obtain⟨rfl,hcut⟩:=hcut;have mw:=hcut.out;subst mw;clear hcut;generalize (if bJ l 0 82=true then 1+aF (l.drop 1) else 0)=a at *;have td:=HAL.out;clear HAL
 go_upto_region 11 with fail
 go_cut [68] (fun v wx=>v=.bool (bJ l a 67)/\Hid (wx=wc))
 case first=>
  by_cases h0:a<l.length
  ·have hq:=pX l a 67 67 rfl h0
   go_wp2_with fail
   go_meet
   exact⟨rfl,zh rfl⟩
  have hq:=nC l a 67 (by omega)
  go_wp2_with fail
  go_meet
  exact⟨by rw[hq],zh rfl⟩
 case rest=>
 obtain⟨rfl,hcut⟩:=hcut;have mw:=hcut.out;subst mw;clear hcut
 go_upto_if 68 with fail
 go_cut [4] (fun v wx=>v=vI ((if bJ l a 67=true then a+1+aF (l.drop (a+1)) else a:Nat):Int)/\Hid (wx=wc))
 case first=>
  cases h67:bJ l a 67 with
  |true=>
   have hlt0:=vR _ _ _ h67
   go_wp2_with fail
   go_loop [4] (fun i=>∃ k:Nat,(a+1)<=k/\k<=l.length/\i=vI k/\k-(a+1)<=aT aB (l.drop (a+1))) (fun i=>l.length-(intOf i).toNat)
   case atStart=>exact⟨(a+1),zr,by omega,by go_num,by omega⟩
   case round=>
    obtain⟨k2,fi,hk,rfl,hr⟩:=hrel;have HK:=zh hr;clear hr;by_cases ol:∃ h:k2<l.length,aB l[k2]=true
    ·obtain⟨hlt,hd⟩:=ol;have HQ:=zh (lA fi HK.out hlt hd)
     go_wp2_with (go_at_call 203;refine(cJ _ _).mono ?_;rintro e w' ⟨rfl,rfl⟩)
     go_round
     case rel=>exact⟨k2+1,by omega,by omega,by go_num,HQ.out⟩
     case measure=>simp[intOf];omega
    have ec:¬ k2<l.length\/∃ h:k2<l.length,aB l[k2]=false:=by
     by_cases hlt:k2<l.length
     ·exact .inr ⟨hlt,by cases h:aB l[k2];rfl;exact absurd ⟨hlt,h⟩ ol⟩
     exact .inl hlt
    have HQ:=zh (mR fi HK.out hk ec);clear ol;rcases ec with hlt|⟨hlt,hd⟩
    all_goals go_wp2_with (go_at_call 203;refine(cJ _ _).mono ?_;rintro e w' ⟨rfl,rfl⟩)
    all_goals go_meet
    all_goals exact⟨by rw[if_pos h67,HQ.out];rfl,zh rfl⟩
  |false=>
   go_wp2_with fail
   go_meet
   exact⟨by rw[if_neg (by rw[h67];decide)],zh rfl⟩
 case rest=>
 obtain⟨rfl,hcut⟩:=hcut;have mw:=hcut.out;subst mw;clear hcut;dsimp only at jq;generalize (if bJ l a 67=true then a+1+aF (l.drop (a+1)) else a)=b at *
 go_wp2_with fail
 go_ret
 exact⟨aA (by rw[<- jq.out,ze];simp;try omega),rfl⟩
def TxtAt(w:World)(g:Nat)(xs:List Bs):Prop:=∀ j (h:j<xs.length),w.cell? ⟨g,j,none⟩=some (vS (xs[j].toArray))
theorem mO(c:Cor)(w:World) :
  Calls Tryz.prog 149 #[corV c] w fun e w'=>e=.returned (.bool (decide (c.row≠id0)&&decide (c.col≠id0)))/\Below w.heap.size w w':=by
 obtain⟨W1,am⟩:=zD (w.alloc (.cells (kQ c) 29))
 have al:=zh am;have HL:=zL am;have HB:=zA am;clear am;have x0:=HL.out.cell 0;have x1:=HL.out.cell 1;have x2:=HL.out.cell 2;have x3:=HL.out.cell 3;simp only[za,zb,zf]at x0 x1 x2 x3;have hlt:=HL.out.lt;obtain⟨r1,gw⟩:∃ b,decide (c.row≠id0)=b:=⟨_,rfl⟩
 obtain⟨r2,j4⟩:∃ b,decide (c.col≠id0)=b:=⟨_,rfl⟩
 have N1:∀ w:World,(binOp .neq 27 (idV c.row) (idV id0)).run Tryz.prog w=.ok (.bool r1) w:=fun w=>by rw[eV,gw]
 have N2:∀ w:World,(binOp .neq 27 (idV c.col) (idV id0)).run Tryz.prog w=.ok (.bool r2) w:=fun w=>by rw[eV,j4]
 rw[gw,j4];clear gw j4
 go_in
 go_upto_region 1 with fail
 rw[<- al.out];generalize hq:w.heap.size=q at *;cases r1 <;> cases r2
 all_goals go_wp2_with fail
 all_goals go_ret
 all_goals exact⟨rfl,by first|exact HB.out |(rw[hq];exact HB.out)⟩
end Go.Proofs.YtjfihpaeglpblaaGreatDoor
