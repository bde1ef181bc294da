/-
  Lemmas, part 28: WxG WrH WrI WxH WxI WrJ WxJ WrK WxL.
-/
import Derived.Test.YtjfihpaeglpblaaGreatDoorRv25
import Derived.Test.YtjfihpaeglpblaaGreatDoorRv27
set_option maxHeartbeats 100000000
set_option maxRecDepth 1000000
namespace Go.Proofs.YtjfihpaeglpblaaGreatDoor
open Go.RowKit
abbrev sfX(sff:FuncId)(sfx:Array Value):Value:=.func (.func sff) #[] sfx
structure uAK(sff:FuncId)(sfx:Array Value)(v:Say)(W:World):Prop where
 both:∀ (i j:Nat) (fr fc:Bool),i<=400->j<=400->Calls Tryz.prog sff (#[.agg #[vI (i:Int),vI (j:Int),.bool fr,.bool fc],vI 0]++sfx) W fun e w'=>e=.returned (eD (cE v i j fr fc))/\Below W.heap.size W w'
 row:∀ (i:Nat) (fr fc:Bool),i<=400->Calls Tryz.prog sff (#[.agg #[vI (i:Int),vI 0,.bool fr,.bool fc],vI 1]++sfx) W fun e w'=>e=.returned (eD (cX v i fr))/\Below W.heap.size W w'
 col:∀ (j:Nat) (fr fc:Bool),j<=400->Calls Tryz.prog sff (#[.agg #[vI 0,vI (j:Int),.bool fr,.bool fc],vI 2]++sfx) W fun e w'=>e=.returned (eD (cW v j fc))/\Below W.heap.size W w'
 run:∀ xs W',Sem.run Tryz.prog (callFunc sff xs) W'=.ok (.enter sff xs) W'
theorem uH{p m:Nat}{rp cp:Option Nat}{R C:AxV}{sf:Value}{ts:List RTok}(x:IdR)(hx:x.fits):∀ W,WrS W p m rp cp R C sf ts->Calls Tryz.prog 40 #[.pointer (ptr rp),.agg #[vI x.a,vI x.n]] W fun e w'=>e=.returned (.tuple #[vI (if aI R x<0 then 0 else aI R x),.bool (decide (0<=aI R x))])/\WrS w' p m rp cp R C sf ts/\Kw p (rp.toList++cp.toList) W w':=fun W h=>
 (eH rp R x W h.ax hx).mono (by
  rintro e w' ⟨rfl,h1,h2⟩;exact⟨rfl,h.askR h2 h1,Kw.askR h2⟩)
theorem uG{p m:Nat}{rp cp:Option Nat}{R C:AxV}{sf:Value}{ts:List RTok}(x:IdR)(hx:x.fits):∀ W,WrS W p m rp cp R C sf ts->Calls Tryz.prog 40 #[.pointer (ptr cp),.agg #[vI x.a,vI x.n]] W fun e w'=>e=.returned (.tuple #[vI (if aI C x<0 then 0 else aI C x),.bool (decide (0<=aI C x))])/\WrS w' p m rp cp R C sf ts/\Kw p (rp.toList++cp.toList) W w':=fun W h=>
 (eH cp C x W h.ay hx).mono (by
  rintro e w' ⟨rfl,h1,h2⟩;exact⟨rfl,h.askC h2 h1,Kw.askC h2⟩)
theorem fD{p m:Nat}{rp cp:Option Nat}{R C:AxV}{sf:Value}{ts:List RTok}(x y:IdR)(hx:x.fits)(hy:y.fits){v:Value}(hv:endsV (cO R x y)=v):∀ W,WrS W p m rp cp R C sf ts->Calls Tryz.prog 194 #[.pointer (ptr rp),.agg #[vI x.a,vI x.n],.agg #[vI y.a,vI y.n]] W fun e w'=>e=.returned v/\WrS w' p m rp cp R C sf ts/\Kw p (rp.toList++cp.toList) W w':=fun W h=>
 (wE rp R x y W h.ax hx hy).mono (by
  rintro e w' ⟨rfl,h1,h2⟩;exact⟨by rw[hv],h.askR h2 h1,Kw.askR h2⟩)
theorem fC{p m:Nat}{rp cp:Option Nat}{R C:AxV}{sf:Value}{ts:List RTok}(x y:IdR)(hx:x.fits)(hy:y.fits){v:Value}(hv:endsV (cO C x y)=v):∀ W,WrS W p m rp cp R C sf ts->Calls Tryz.prog 194 #[.pointer (ptr cp),.agg #[vI x.a,vI x.n],.agg #[vI y.a,vI y.n]] W fun e w'=>e=.returned v/\WrS w' p m rp cp R C sf ts/\Kw p (rp.toList++cp.toList) W w':=fun W h=>
 (wE cp C x y W h.ay hx hy).mono (by
  rintro e w' ⟨rfl,h1,h2⟩;exact⟨by rw[hv],h.askC h2 h1,Kw.askC h2⟩)
theorem tY{p m:Nat}{rp cp:Option Nat}{R C:AxV}{sff:FuncId}{sfx:Array Value}{v:Say}{ts:List RTok}(h:NodeH)(A:Option Addr)(n ca:Nat)(Cn:List Value)(w:World)(ah:Cn.toArray=aK h A n ca)(hw:WrS w p m rp cp R C (sfX sff sfx) ts)(hn:ts.length<=700000)(hk:h.kind=1\/h.kind=3)(hf:h.a.fits)(dj:∀ W,Kw p (rp.toList++cp.toList) w W->uAK sff sfx v W) :
   Calls Tryz.prog 138 #[vP p 0,.agg Cn.toArray] w fun e w'=>WrO p m rp cp R C (sfX sff sfx) (ts++kF v R C h) w e w':=by
 have hP:=uH (p:=p) (m:=m) (rp:=rp) (cp:=cp) (R:=R) (C:=C) (sf:=(sfX sff sfx)) (ts:=ts) h.a.row hf.1;have hQ:=uG (p:=p) (m:=m) (rp:=rp) (cp:=cp) (R:=R) (C:=C) (sf:=(sfX sff sfx)) (ts:=ts) h.a.col hf.2;have hR:=eO hw.ax.av h.a.row;have hC:=eO hw.ay.av h.a.col;unfold kF;by_cases hg:aI R h.a.row<0\/aI C h.a.col<0
 ·rw[if_pos hg];refine uDL h A n ca Cn w (zh ah) hw hn _ _ _ _ hP hQ (fun hb=>?_);have:=of_decide_eq_true hb;exact decide_eq_false (by omega)
 rw[if_neg hg];obtain⟨i,hi⟩:∃ i:Nat,aI R h.a.row=(i:Int):=⟨(aI R h.a.row).toNat,by omega⟩
 obtain⟨j,hj⟩:∃ j:Nat,aI C h.a.col=(j:Int):=⟨(aI C h.a.col).toNat,by omega⟩
 rw[hi]at hP hR ⊢;rw[hj]at hQ hC ⊢;rw[if_neg (by omega:¬ (i:Int)<0),decide_eq_true (by omega:(0:Int)<=(i:Int))]at hP;rw[if_neg (by omega:¬ (j:Int)<0),decide_eq_true (by omega:(0:Int)<=(j:Int))]at hQ;rw[Int.toNat_natCast,Int.toNat_natCast];have hT:=fun W hk=>(dj W hk).both i j h.a.fr h.a.fc (by omega) (by omega)
 have hF:=(dj w (Kw.of_below zB)).run;rcases hk with hk|hk
 ·rw[if_neg (by rw[hk];decide)];exact uHJ h A n ca Cn w (zh ah) hw hn _ _ _ _ hP hQ hF _ (zh rfl) (zh rfl) hT hk
 rw[if_pos hk];have e:ts++(cE v i j h.a.fr h.a.fc::[tk 5 [35]])=ts++[cE v i j h.a.fr h.a.fc]++[tk 5 [35]]:=by simp
 rw[e];exact uAJ h A n ca Cn w (zh ah) hw hn _ _ _ _ hP hQ hF _ (zh rfl) (zh rfl) hT hk
theorem uDK{p m:Nat}{rp cp:Option Nat}{R C:AxV}{sff:FuncId}{sfx:Array Value}{v:Say}{ts:List RTok}(h:NodeH)(w:World)(hw:WrS w p m rp cp R C (sfX sff sfx) ts)(hn:ts.length<=700000)(we:h.a.fits)(wg:h.b.fits)(hab:¬ (h.a.row=id0/\h.a.col=id0))(dj:∀ W,Kw p (rp.toList++cp.toList) w W->uAK sff sfx v W) :
   Calls Tryz.prog 139 #[vP p 0,.agg #[vI h.a.row.a,vI h.a.row.n,vI h.a.col.a,vI h.a.col.n,.bool h.a.fr,.bool h.a.fc,vI h.b.row.a,vI h.b.row.n,vI h.b.col.a,vI h.b.col.n,.bool h.b.fr,.bool h.b.fc]] w fun e w'=>WrO p m rp cp R C (sfX sff sfx) (ts++gF v R C h.a h.b) w e w':=by
 have hF:=(dj w (Kw.of_below zB)).run;have e3:∀ a b c:RTok,ts++[a,b,c]=ts++[a]++[b]++[c]:=fun a b c=>by simp
 unfold gF;by_cases h1:h.a.row=id0
 ·have h2:h.a.col≠id0:=fun h2=>hab ⟨h1,h2⟩
  rw[if_pos h1];rcases cI hw.ay.av h.a.col h.b.col with g|⟨i,j,hi,hj,g⟩
  ·rw[g];exact uP h w hw hn (zh h1) (zh h2) (fC _ _ we.2 wg.2 (by rw[g];rfl))
  rw[g];dsimp only;rw[Int.toNat_natCast,Int.toNat_natCast,e3];refine uAH h w hw hn (zh h1) (zh h2) i j (fC _ _ we.2 wg.2 (by rw[g];rfl)) _ _ hF (fun W hk=>(dj W hk).col i h.a.fr h.a.fc (by omega)) (fun W hk=>(dj W hk).col j h.b.fr h.b.fc (by omega))
 rw[if_neg h1];by_cases h2:h.a.col=id0
 ·rw[if_pos h2];rcases cI hw.ax.av h.a.row h.b.row with g|⟨i,j,hi,hj,g⟩
  ·rw[g];exact uQ h w hw hn (zh h1) (zh h2) (fD _ _ we.1 wg.1 (by rw[g];rfl))
  rw[g];dsimp only;rw[Int.toNat_natCast,Int.toNat_natCast,e3];refine uAI h w hw hn (zh h1) (zh h2) i j (fD _ _ we.1 wg.1 (by rw[g];rfl)) _ _ hF (fun W hk=>(dj W hk).row i h.a.fr h.a.fc (by omega)) (fun W hk=>(dj W hk).row j h.b.fr h.b.fc (by omega))
 rw[if_neg h2];rcases cI hw.ax.av h.a.row h.b.row with g|⟨i,j,hi,hj,g⟩
 ·rw[g];refine lO h w hw hn (zh h1) (zh h2) 0 0 (match cO C h.a.col h.b.col with|none=>0|some (a,_)=>a) (match cO C h.a.col h.b.col with|none=>0|some (_,b)=>b) false (cO C h.a.col h.b.col).isSome (fun h=>by cases h) (fD _ _ we.1 wg.1 (by rw[g];rfl)) (fC _ _ we.2 wg.2 ?_);cases cO C h.a.col h.b.col with
  |none=>rfl
  |some q=>rfl
 rcases cI hw.ay.av h.a.col h.b.col with g'|⟨i',j',yc,hj',g'⟩
 ·rw[g,g'];exact lO h w hw hn (zh h1) (zh h2) i j 0 0 true false (fun _=>rfl) (fD _ _ we.1 wg.1 (by rw[g];rfl)) (fC _ _ we.2 wg.2 (by rw[g'];rfl))
 rw[g,g'];dsimp only;rw[Int.toNat_natCast,Int.toNat_natCast,Int.toNat_natCast,Int.toNat_natCast,e3];exact xO h w hw hn (zh h1) (zh h2) i j i' j' (fD _ _ we.1 wg.1 (by rw[g];rfl)) (fC _ _ we.2 wg.2 (by rw[g'];rfl)) _ _ hF (fun W hk=>(dj W hk).both i i' h.a.fr h.a.fc (by omega) (by omega)) (fun W hk=>(dj W hk).both j j' h.b.fr h.b.fc (by omega) (by omega))
theorem WrS.glw{w W:World}{p m:Nat}{rp cp:Option Nat}{R C:AxV}{sf:Value}{ts:List RTok}(h:WrS w p m rp cp R C sf ts)(hk:Kw p (rp.toList++cp.toList) w W):Gl W:=by
 refine h.gl.kp hk (fun b hb=>?_);rcases ym.1 hb with rfl|hb
 ·exact h.pl
 rcases List.mem_append.1 hb with hb|hb
 ·exact(h.lo b hb).2
 have h1:=(eG.1 hb).2.1;have h2:=h.pl;unfold jA at h2 ⊢;omega
theorem uCM{W:World}(hp:PowTab W):uAK 34 #[] .plain W where
 both:=fun i j fr fc hi hj=>by
  rw[Array.append_empty];exact say_both i j fr fc W hp hi hj
 row:=fun i fr fc hi=>by
  rw[Array.append_empty];cases fr
  ·exact say_rowN i 0 fc W hp hi (by omega)
  exact say_rowF i 0 fc W hp hi (by omega)
 col:=fun j fr fc hj=>by
  rw[Array.append_empty];cases fc
  ·exact say_colN 0 j fr W hp (by omega) hj
  exact say_colF 0 j fr W hp (by omega) hj
 run:=fun xs W'=>by first|kernel_rfl|rfl|simp[callFunc,go_sem,Tryz.f34]
theorem uBL(h:NodeH)(A:Option Addr)(n c:Nat):(aK h A n c).all (·.oneCell')=true:=by simp[aK,Value.oneCell']
theorem lY:∀ {l:List Tree} (i:Nat) (hi:i<l.length),(l[i]'hi).size<=aN l
 | [],_,hi=>absurd hi (by simp)
 |t::r,0,_=>by show t.size<=aN (t::r);rw[aN];omega
 |t::r,i+1,hi=>by
  have:=lY (l:=r) i (by simpa using hi);show (r[i]'_).size<=aN (t::r);rw[aN];omega
theorem jH:∀ (a b:List Tree),aN (a++b)=aN a+aN b
 | [],b=>by simp[aN]
 |t::a,b=>by rw[yp,aN,jH a b,aN];omega
theorem uEE{N:Nat}:∀ {l:List Tree} (i:Nat) (hi:i<l.length),okL N l->(l[i]'hi).ok N
 | [],_,hi,_=>absurd hi (by simp)
 |t::r,0,_,h=>by rw[okL]at h;exact h.1
 |t::r,i+1,hi,h=>by
  rw[okL]at h;exact uEE (l:=r) i (by simpa using hi) h.2
theorem fU(v:Say)(R C:AxV):∀ (l:List Tree) (k:Nat),(bH v R C l).take k=bH v R C (l.take k)
 | [],k=>by simp[bH]
 |t::r,0=>by simp[bH]
 |t::r,k+1=>by rw[bH,List.take_succ_cons,List.take_succ_cons,bH,fU v R C r k]
theorem nI(v:Say)(R C:AxV):∀ (l:List Tree) (k:Nat),(bH v R C l).drop k=bH v R C (l.drop k)
 | [],k=>by simp[bH]
 |t::r,0=>rfl
 |t::r,k+1=>by rw[bH,List.drop_succ_cons,List.drop_succ_cons,nI v R C r k]
theorem oE{k:Int}:∀ {l:List Tree} (n:Nat),aZ l k=true->aZ (l.take n) k=true
 | [],_,_=>by simp[aZ]
 |_::_,0,_=>by simp[aZ]
 |t::r,n+1,h=>by
  simp only[aZ,yh]at h;rw[List.take_succ_cons,aZ,h.1.1,h.1.2,oE n h.2];rfl
theorem TreeP.one{P:Nat->Prop}{W:World}{t:Tree}{ci:List Value}(h:TreeP P W t ci.toArray):ci.toArray.all (·.oneCell')=true:=by
 obtain⟨A,cp,e,_⟩:=h;rw[e];exact uBL _ _ _ _
theorem xC{k:Int}:∀ {l:List Tree} (n:Nat),aZ l k=true->aZ (l.drop n) k=true
 | [],_,_=>by simp[aZ]
 |_::_,0,h=>h
 |t::r,n+1,h=>by
  simp only[aZ,yh]at h;exact xC (l:=r) n h.2
theorem xH(l:List Tree)(k:Nat):aN (l.take k)<=aN l:=by
 have:=jH (l.take k) (l.drop k);rw[List.take_append_drop]at this;omega
theorem one_of:∀ {l:List Tree},l.length=1->∃ a,l=[a]
 | [a],_=>⟨a,rfl⟩
theorem two_of:∀ {l:List Tree},l.length=2->∃ a b,l=[a,b]
 | [a,b],_=>⟨a,b,rfl⟩
theorem TreeP.cells{P:Nat->Prop}{W:World}{t:Tree}{ci:List Value}(h:TreeP P W t ci.toArray):∃ A n c,ci.toArray=aK t.h A n c:=by
 obtain⟨A,cp,e,_⟩:=h;exact⟨A,_,cp,e⟩
theorem wK{t:Tree}{k:Int}(h:t.right k=true):t.h.kind=6->mS t.h.name=true:=by
 obtain⟨th,l⟩:=t;intro e;exact(iH (eC h).1 e).1
abbrev SayK(p:Nat)(X:List Nat)(sff:FuncId)(sfx:Array Value)(v:Say)(W:World):Prop:=∀ W',Kw p X W W'->uAK sff sfx v W'
def uR(p m:Nat)(rp cp:Option Nat)(R C:AxV)(sff:FuncId)(sfx:Array Value)(v:Say)(t:Tree):Prop:=∀ (W:World) (ts:List RTok) (Cn:List Value),WrS W p m rp cp R C (sfX sff sfx) ts->SayK p (rp.toList++cp.toList) sff sfx v W->TreeP (PLo p (rp.toList++cp.toList)) W t Cn.toArray->ts.length+6*t.size<=600000 ->
 Calls Tryz.prog 74 #[vP p 0,.agg Cn.toArray] W fun e w'=>WrO p m rp cp R C (sfX sff sfx) (ts++t.toks v R C) W e w'
theorem sM{sff:FuncId}{sfx:Array Value}{v:Say}{p m:Nat}{rp cp:Option Nat}{R C:AxV}{A:Option Addr}{l:List Tree}{kd:Int}(lo n ca:Nat)(jn:lo+n<=l.length)(g o:Nat)(hA2:0<n->A=some ⟨g,o,none⟩)(A':Option Addr)(hA3:0<n->A'=some ⟨g,o+lo*22,none⟩)(hr:aZ l kd=true)(hk:∀ i (hi:i<l.length),uR p m rp cp R C sff sfx v (l[i]'hi))(w:World)(ts:List RTok)(hw:WrS w p m rp cp R C (sfX sff sfx) ts)(dj:SayK p (rp.toList++cp.toList) sff sfx v w)(hP:KidsPO (PLo p (rp.toList++cp.toList)) w A l)(hn:ts.length+6*aN ((l.drop lo).take n)+4<=600000)(hn3:n<=100000) :
  Calls Tryz.prog 136 #[vP p 0,.slice A' n ca] w fun e w'=>WrO p m rp cp R C (sfX sff sfx) (ts++bG (((bH v R C l).drop lo).take n)) w e w':=by
 obtain⟨L,hL⟩:∃ L,L=(l.drop lo).take n:=⟨_,rfl⟩
 have e0:((bH v R C l).drop lo).take n=bH v R C L:=by rw[nI,fU,hL]
 have hrL:aZ L kd=true:=by rw[hL];exact oE n (xC lo hr)
 have vh:L.length=n:=by rw[hL,zc,yk];omega
 rw[e0];rw[<- hL]at hn;have xu:∀ k,(bG ((bH v R C L).take k)).length<=6*aN (L.take k):=by
  intro k;have h1:=gO ((bH v R C L).take k);have h3:=fT v R C (L.take k) kd (oE k hrL);rw[fU,bT]at h1;rw[fU];omega
 have key:=uHC (p:=p) (m:=m) (rp:=rp) (cp:=cp) (R:=R) (C:=C) (sf:=(sfX sff sfx)) (ts:=ts) A' ca (bH v R C L) w hw (fun k en=>?_) (by rw[bT,vh];exact hn3) (fun k=>by have:=xu k;have:=xH L k;omega)
 ·rw[bT,vh]at key;exact key
 rw[bT,vh]at en;have hi:lo+k<l.length:=by omega
 obtain⟨g',og,ci,e1,fv,da⟩:=iC hP (lo+k) hi;have e2:=hA2 (by omega);rw[e2]at e1;injection e1 with e1;injection e1 with e1 e3 _;subst e1 e3;refine⟨g,o+lo*22,ci,hA3 (by omega),fv,((da w (KP.refl _ _)).2).one,fun W ts' hs sn=>?_⟩;obtain⟨c1,c2⟩:=da W (Kw.kp sn hw);refine⟨by rw[show o+lo*22+k*22=o+(lo+k)*22 by omega];exact c1,fun hb=>?_⟩;have hkL:k<L.length:=by omega
 have eL:L[k]'hkL=l[lo+k]'hi:=by
  subst hL;rw[List.getElem_take,List.getElem_drop]
 have e4:(bH v R C L)[k]'(by rw[bT];exact hkL)=(l[lo+k]'hi).toks v R C:=by
  rw[pO _ _ _ L k hkL,eL]
 rw[e4];refine hk (lo+k) hi W ts' ci hs (fun W' h'=>dj W' (sn.trans h')) c2 ?_;have h3:=xu k;have h6:aN (L.take k)+(l[lo+k]'hi).size<=aN L:=by
  have e7:=congrArg aN (List.take_append_drop k L);rw[jH,yx hkL,aN,eL]at e7;omega
 omega
theorem iR{sff:FuncId}{sfx:Array Value}{v:Say}{p m:Nat}{rp cp:Option Nat}{R C:AxV}{t:Tree}{kd:Int}(hr:t.right kd=true)(hk:uR p m rp cp R C sff sfx v t){w:World}{ts0:List RTok}(hw:WrS w p m rp cp R C (sfX sff sfx) ts0)(dj:SayK p (rp.toList++cp.toList) sff sfx v w){g o:Nat}{ci:List Value}(da:∀ W,KP (PLo p (rp.toList++cp.toList)) w W->W.rangeAt g o ci/\TreeP (PLo p (rp.toList++cp.toList)) W t ci.toArray)(lev:Int) :
  ∀ W ts',WrS W p m rp cp R C (sfX sff sfx) ts'->Kw p (rp.toList++cp.toList) w W->ts'.length+6*t.size+2<=600000->Calls Tryz.prog 134 #[vP p 0,.agg ci.toArray,vI lev] W fun e w'=>WrO p m rp cp R C (sfX sff sfx) (ts'++dV (bP t) lev (t.toks v R C)) W e w':=fun W ts' hs sn hb=>by
 obtain⟨A,n,c,e⟩:=(da w (KP.refl _ _)).2.cells;have hl:=eF v R C t kd hr;rw[uFP];exact uAG t.h A n c ci lev (t.toks v R C) W (zh e) hs (wK hr) (by omega) (fun W2 fd j5 fi hb2=>hk W2 fd ci j5 (fun W' h'=>dj W' ((sn.trans fi).trans h')) ((da W2 (Kw.kp (sn.trans fi) hw)).2) (by omega))
theorem uBM{sff:FuncId}{sfx:Array Value}{v:Say}{p m:Nat}{rp cp:Option Nat}{R C:AxV}{t:Tree}{kd:Int}{N:Nat}(hr:t.right kd=true)(ho:t.ok N)(aq:t.size<=1000)(hk:∀ i (hi:i<t.l.length),uR p m rp cp R C sff sfx v (t.l[i]'hi)):uR p m rp cp R C sff sfx v t:=by
 intro W ts Cn hw dj hP hn;have pj:=eF v R C t kd hr;obtain⟨⟨kind,vv,s,a,b,r⟩,l⟩:=t;obtain⟨A,ca,ah,ll,l7⟩:=hP;replace hk:∀ i (hi:i<l.length),uR p m rp cp R C sff sfx v (l[i]'hi):=hk
 replace ah:Cn.toArray=aK ⟨kind,vv,s,a,b,r⟩ A l.length ca:=ah;replace ll:l.length<=ca:=ll;replace l7:KidsPO (PLo p (rp.toList++cp.toList)) W A l:=l7;obtain⟨h1,h2⟩:=eC hr;rw[Tree.ok]at ho;obtain⟨⟨m1,m2,fa,fb,_,_⟩,hol⟩:=ho;replace fa:a.fits:=fa;replace fb:b.fits:=fb;have hs0:(Tree.mk ⟨kind,vv,s,a,b,r⟩ l).size=aN l+1:=by rw[Tree.size]
 rw[hs0]at hn aq pj;have hlen:=fun(j:Nat) (hj:j<l.length)=>lY (l:=l) j hj
 have qp:l.length<=aN l:=by
  have:∀ l:List Tree,l.length<=aN l:=by
   intro l
   induction l with
   |nil=>simp
   |cons t r ih=>
    have:1<=t.size:=by cases t;rw[Tree.size];omega
    rw[yi,aN];omega
  exact this l
 rcases qP h1 with q |(q|q)|q|q|q|q|q|q|q
 ·have q:kind=0:=q;subst q;have e:(Tree.mk ⟨0,vv,s,a,b,r⟩ l).toks v R C=jT vv:=by rw[Tree.toks];unfold dN;rw[if_pos rfl]
  rw[e];obtain⟨g1,g2⟩:=nB h1 rfl;exact uHE vv s a b r A _ ca Cn (jT vv) W (zh ah) hw (fun W hs=>xM vv W hs (by omega) g1 g2)
 ·have q:kind=1:=q;subst q;have e:(Tree.mk ⟨1,vv,s,a,b,r⟩ l).toks v R C=kF v R C ⟨1,vv,s,a,b,r⟩:=by rw[Tree.toks];unfold dN;rw[if_neg (by show ¬ (1:Int)=0;omega),if_pos (.inl rfl)]
  rw[e];exact uHG vv s a b r A _ ca Cn _ W (zh ah) hw (fun W hs sn=>tY ⟨1,vv,s,a,b,r⟩ A _ ca Cn W ah hs (by omega) (.inl rfl) fa (fun W' h'=>dj W' (sn.trans h')))
 ·have q:kind=3:=q;subst q;have e:(Tree.mk ⟨3,vv,s,a,b,r⟩ l).toks v R C=kF v R C ⟨3,vv,s,a,b,r⟩:=by rw[Tree.toks];unfold dN;rw[if_neg (by show ¬ (3:Int)=0;omega),if_pos (.inr rfl)]
  rw[e];exact zZ vv s a b r A _ ca Cn _ W (zh ah) hw (fun W hs sn=>tY ⟨3,vv,s,a,b,r⟩ A _ ca Cn W ah hs (by omega) (.inr rfl) fa (fun W' h'=>dj W' (sn.trans h')))
 ·have q:kind=2:=q;subst q;have e:(Tree.mk ⟨2,vv,s,a,b,r⟩ l).toks v R C=gF v R C a b:=by rw[Tree.toks];unfold dN;rw[if_neg (by show ¬ (2:Int)=0;omega),if_neg (by show ¬ ((2:Int)=1\/(2:Int)=3);omega),if_pos rfl]
  rw[e];exact uDD vv s a b r A _ ca Cn _ W (zh ah) hw (fun W hs sn=>uDK ⟨2,vv,s,a,b,r⟩ W hs (by omega) fa fb (qO h1 rfl).1 (fun W' h'=>dj W' (sn.trans h')))
 ·have q:kind=4:=q;subst q;have e:(Tree.mk ⟨4,vv,s,a,b,r⟩ l).toks v R C=[tk 3 s,tk 5 [40]]++bG (bH v R C l)++[tk 5 [41]]:=by
   rw[Tree.toks];unfold dN;rw[if_neg (by show ¬ (4:Int)=0;omega),if_neg (by show ¬ ((4:Int)=1\/(4:Int)=3);omega),if_neg (by show ¬ (4:Int)=2;omega),if_pos rfl];simp
  rw[e]at pj ⊢;refine uDE vv s a b r A _ ca Cn _ W (zh ah) hw _ rfl (by omega) (fun W2 fd j5 fi hb2=>?_);have hP2:=l7.keep (Kw.kp fi hw);obtain⟨g,o,hA⟩:∃ g o,0<l.length->A=some ⟨g,o,none⟩:=by
   rcases l7 with h0|⟨g,o,e,_⟩
   ·have h0:l=[]:=h0;exact⟨0,0,fun h=>by rw[h0]at h;simp at h⟩
   exact⟨g,o,fun _=>e⟩
  have hz4:=xH (l.drop 0) l.length;rw[List.drop_zero]at hz4;have key:=sM (p:=p) (m:=m) (rp:=rp) (cp:=cp) (R:=R) (C:=C) (A:=A) (l:=l) (kd:=4) 0 l.length ca (by omega) g o hA A (fun h=>by rw[hA h,Nat.zero_mul,Nat.add_zero]) h2 hk W2 fd j5 (fun W' h'=>dj W' (fi.trans h')) hP2 (by rw[List.drop_zero];omega) (by omega);rw[List.drop_zero,List.take_of_length_le (by rw[bT];exact zr)]at key;exact key
 ·have q:kind=5:=q;subst q;obtain⟨hu,bk⟩:=pJ h1 rfl;obtain⟨t0,rfl⟩:=one_of bk;have fq:=(dQ (l:=[t0]) 0 (by simp) h2).1;have gy:=hk 0 (by simp);have m9:t0.size+0=aN [t0]:=by simp[aN]
  obtain⟨g,og,ci,hA,fv,da⟩:=iC l7 0 (by simp);simp only[List.getElem_cons_zero,Nat.zero_mul,Nat.add_zero]at fq gy da;by_cases hs:s=[37]
  ·have e:(Tree.mk ⟨5,vv,s,a,b,r⟩ [t0]).toks v R C=dV (bP t0) 7 (t0.toks v R C)++[tk 5 [37]]:=by
    rw[Tree.toks];unfold dN;rw[if_neg (by show ¬ (5:Int)=0;omega),if_neg (by show ¬ ((5:Int)=1\/(5:Int)=3);omega),if_neg (by show ¬ (5:Int)=2;omega),if_neg (by show ¬ (5:Int)=4;omega),if_pos rfl,if_pos (by exact hs),hs];rfl
   rw[e]at pj ⊢;exact zY vv s a b r A _ ca Cn _ W (zh ah) hw g og ci fv hA hs rfl _ rfl (by omega) (fun W2 fd j5 fi=>(da W2 (Kw.kp fi hw)).1) (fun W2 fd j5 fi hb2=>iR fq gy hw dj da 7 W2 fd j5 fi (by omega))
  have e:(Tree.mk ⟨5,vv,s,a,b,r⟩ [t0]).toks v R C=tk 5 s::dV (bP t0) 6 (t0.toks v R C):=by
   rw[Tree.toks];unfold dN;rw[if_neg (by show ¬ (5:Int)=0;omega),if_neg (by show ¬ ((5:Int)=1\/(5:Int)=3);omega),if_neg (by show ¬ (5:Int)=2;omega),if_neg (by show ¬ (5:Int)=4;omega),if_pos rfl,if_neg (by exact hs)];rfl
  rw[e]at pj ⊢;exact uDH vv s a b r A _ ca Cn _ W (zh ah) hw g og ci fv hA (beq_eq_false_iff_ne.2 hs) rfl _ rfl (by omega) (fun W2 fd j5 fi=>(da W2 (Kw.kp fi hw)).1) (fun W2 fd j5 fi hb2=>iR fq gy hw dj da 6 W2 fd j5 fi (by omega))
 ·have q:kind=6:=q;subst q;obtain⟨hu,vt⟩:=iH h1 rfl;obtain⟨t0,t1,rfl⟩:=two_of vt;have fq:=(dQ (l:=[t0,t1]) 0 (by simp) h2).1;have gy:=hk 0 (by simp);have fh:=(dQ (l:=[t0,t1]) 1 (by simp) h2).1;have eh:=hk 1 (by simp);have m9:t0.size+t1.size=aN [t0,t1]:=by simp[aN]
  obtain⟨g,og,ci,hA,fv,da⟩:=iC l7 0 (by simp);obtain⟨g',og',cj,sx,h22',hcj⟩:=iC l7 1 (by simp);rw[hA]at sx;injection sx with sx;injection sx with e1 e2 _;subst e1 e2;simp only[List.getElem_cons_zero,List.getElem_cons_succ,Nat.zero_mul,Nat.one_mul,Nat.add_zero]at fq gy da fh eh hcj;have ng:0<=bE s/\bE s<=8:=by
   unfold bE
   repeat' split
   all_goals omega
  have e:(Tree.mk ⟨6,vv,s,a,b,r⟩ [t0,t1]).toks v R C=dV (bP t0) (bE s) (t0.toks v R C)++tk 5 s::dV (bP t1) (bE s+1) (t1.toks v R C):=by
   rw[Tree.toks];unfold dN;rw[if_neg (by show ¬ (6:Int)=0;omega),if_neg (by show ¬ ((6:Int)=1\/(6:Int)=3);omega),if_neg (by show ¬ (6:Int)=2;omega),if_neg (by show ¬ (6:Int)=4;omega),if_neg (by show ¬ (6:Int)=5;omega),if_pos rfl];rfl
  have hw0:=eK (bP t0) (bE s) (t0.toks v R C);have el:=eF v R C t0 6 fq;rw[e]at pj ⊢;exact uHH vv s a b r A _ ca Cn _ W (zh ah) hw g og ci fv hA cj h22' (bE s) ng.1 ng.2 rfl _ _ rfl (by omega) (fun W2 fd j5 fi=>⟨(da W2 (Kw.kp fi hw)).1,(hcj W2 (Kw.kp fi hw)).1⟩)
   (fun W2 j5=>tU ⟨6,vv,s,a,b,r⟩ A _ ca Cn W2 (zh ah) j5 (fun _=>hu))
   (fun W2 fd j5 fi hb2=>iR fq gy hw dj da _ W2 fd j5 fi (by omega))
   (fun W2 fd j5 fi hb2=>iR fh eh hw dj hcj _ W2 fd j5 fi (by omega))
 ·have q:kind=7:=q;subst q;have e:(Tree.mk ⟨7,vv,s,a,b,r⟩ l).toks v R C=[tk 3 s]:=by
   rw[Tree.toks];unfold dN;rw[if_neg (by show ¬ (7:Int)=0;omega),if_neg (by show ¬ ((7:Int)=1\/(7:Int)=3);omega),if_neg (by show ¬ (7:Int)=2;omega),if_neg (by show ¬ (7:Int)=4;omega),if_neg (by show ¬ (7:Int)=5;omega),if_neg (by show ¬ (7:Int)=6;omega),if_pos rfl]
  rw[e];exact uDF vv s a b r A _ ca Cn _ W (zh ah) hw rfl (by omega)
 ·have q:kind=8:=q;subst q;obtain⟨rr,cc,ny,fh,dv,dx⟩:=nC h1 rfl;have ny:r=(rr:Int):=ny;subst ny;have hd:l.length / (rr:Int).toNat=cc:=by rw[Int.toNat_natCast,dx];exact Nat.mul_div_cancel_left cc (by omega)
  have e:(Tree.mk ⟨8,vv,s,a,b,(rr:Int)⟩ l).toks v R C=cT cc (bH v R C l) rr++[tk 5 [125]]:=by
   rw[Tree.toks];unfold dN;rw[if_neg (by show ¬ (8:Int)=0;omega),if_neg (by show ¬ ((8:Int)=1\/(8:Int)=3);omega),if_neg (by show ¬ (8:Int)=2;omega),if_neg (by show ¬ (8:Int)=4;omega),if_neg (by show ¬ (8:Int)=5;omega),if_neg (by show ¬ (8:Int)=6;omega),if_neg (by show ¬ (8:Int)=7;omega),if_pos rfl,bT];show cT (l.length / (rr:Int).toNat) _ (rr:Int).toNat++_=_;rw[hd,Int.toNat_natCast]
  have ij:0<l.length:=by rw[dx];exact Nat.mul_pos (by omega) (by omega)
  obtain⟨g,o,hA⟩:∃ g o,A=some ⟨g,o,none⟩:=by
   rcases l7 with h0|⟨g,o,e,_⟩
   ·have h0:l=[]:=h0;rw[h0]at ij;simp at ij
   exact⟨g,o,e⟩
  subst hA;have hsum:=fT v R C l 8 h2;have bq:∀ i,(cT cc (bH v R C l) i).length<=fS (bH v R C l)+i*cc+i:=fun i=>by
   have:=jF cc (bH v R C l) i;have:=lZ (bH v R C l) (i*cc);omega
  have xj:∀ i,(cT cc (bH v R C l) i).length<=600000\/rr<i:=fun i=>by
   rcases Nat.lt_or_ge rr i with h|h
   ·exact .inr h
   have h3:=bq i;have h4:i*cc<=l.length:=by rw[dx];exact Nat.mul_le_mul_right cc h
   have h5:i<=i*cc:=Nat.le_mul_of_pos_right i dv;exact .inl (by omega)
  rw[e];refine uHF vv s a b (rr:Int) _ _ ca Cn _ W (zh ah) hw (fun W2 j5 fi=>?_);refine zX ⟨8,vv,s,a,b,(rr:Int)⟩ g o ca rr cc Cn (bH v R C l) W2 (zh (by rw[<- dx];exact ah)) rfl fh dv (by rw[<- dx];exact ll) (by rw[<- dx];omega) j5 (fun i hi W3 ts3 hs3 hk3 bv=>?_) (fun i hi=>?_)
  ·have hP3:=l7.keep (Kw.kp (fi.trans hk3) hw);have h4:i*cc+cc<=l.length:=by
    have:=Nat.mul_le_mul_right cc (by omega:i+1<=rr);rw[Nat.succ_mul,<- dx]at this;exact this
   have h5:i<=i*cc:=Nat.le_mul_of_pos_right i dv;have h6:=jF cc (bH v R C l) i;have h7:=fT v R C (l.take (i*cc)) 8 (oE _ h2);rw[<- fU,zc,Nat.min_eq_left (by omega)]at h7;have h8:aN (l.take (i*cc))+aN ((l.drop (i*cc)).take cc)<=aN l:=by
    have e8:=jH (l.take (i*cc)) (l.drop (i*cc));rw[List.take_append_drop]at e8;have:=xH (l.drop (i*cc)) cc;omega
   exact sM (p:=p) (m:=m) (rp:=rp) (cp:=cp) (R:=R) (C:=C) (A:=some ⟨g,o,none⟩) (l:=l) (kd:=8) (i*cc) cc (ca-i*cc) h4 g o (fun _=>rfl) _ (fun _=>rfl) h2 hk W3 ts3 hs3 (fun W' h'=>dj W' ((fi.trans hk3).trans h')) hP3 (by omega) (by omega)
  rcases xj i with h|h
  ·have h3:=bq i;have h4:i*cc<=l.length:=by rw[dx];exact Nat.mul_le_mul_right cc hi
   have h5:i<=i*cc:=Nat.le_mul_of_pos_right i dv;omega
  omega
 have q:kind=9:=q;subst q;have e:(Tree.mk ⟨9,vv,s,a,b,r⟩ l).toks v R C=[]:=by
  rw[Tree.toks];unfold dN;rw[if_neg (by show ¬ (9:Int)=0;omega),if_neg (by show ¬ ((9:Int)=1\/(9:Int)=3);omega),if_neg (by show ¬ (9:Int)=2;omega),if_neg (by show ¬ (9:Int)=4;omega),if_neg (by show ¬ (9:Int)=5;omega),if_neg (by show ¬ (9:Int)=6;omega),if_neg (by show ¬ (9:Int)=7;omega),if_neg (by show ¬ (9:Int)=8;omega)]
 rw[e];exact uDG vv s a b r A _ ca Cn _ W (zh ah) hw rfl
theorem uHK(sff:FuncId)(sfx:Array Value)(v:Say)(p m:Nat)(rp cp:Option Nat)(R C:AxV)(N:Nat):∀ (n:Nat) (t:Tree),t.size<=n->t.size<=1000->∀ (kd:Int),t.right kd=true->t.ok N->uR p m rp cp R C sff sfx v t:=by
 intro n
 induction n with
 |zero=>intro t h;cases t;rw[Tree.size]at h;omega
 |succ n ih=>
  intro t aq ed kd hr ho;refine uBM hr ho ed (fun i hi=>?_);obtain⟨h,l⟩:=t;have hi:i<l.length:=hi;have h1:=lY (l:=l) i hi;have hs:(Tree.mk h l).size=aN l+1:=by rw[Tree.size]
  rw[hs]at aq ed;rw[Tree.ok]at ho;exact ih _ (by show (l[i]'hi).size<=n;omega) (by show (l[i]'hi).size<=1000;omega) h.kind (dQ i hi (eC hr).2).1 (uEE i hi ho.2)
theorem WrS.axG{W W':World}{p m:Nat}{rp cp:Option Nat}{R C:AxV}{sf v:Value}{ts:List RTok}(h:WrS W p m rp cp R C sf ts)(hv:W.cell? ⟨p,4,none⟩=some v)(hg:W.grownBy W' v.ownBlock):AxF W' rp R/\AxF W' cp C/\Gl W'/\Kp v.ownBlock.toList W W'/\∀ g∈v.ownBlock.toList,p<g:=by
 obtain⟨v0,h1,h2⟩:=h.box;have hc:W.cell? ⟨p,4,none⟩=some v0:=h1.cell 4;rw[hv]at hc;injection hc with hc;subst hc;have hvo:=wY h2;have eh:Kp v.ownBlock.toList W W':=(Kp.refl _ W).grown hg (fun g jk=>.inl (by rw[jk];exact .head _));have bd:∀ g∈v.ownBlock.toList,p<g:=fun g hm=>(eG.1 (hvo g (by simpa using hm)).1).2.1
 have hY:NoAx W v.ownBlock.toList:=fun y hy _=>by
  obtain⟨_,cs,k⟩:=hvo y (by simpa using hy);exact⟨_,_,k,by decide,by decide,by decide,by decide⟩
 refine⟨h.ax.kp eh hY,h.ay.kp eh hY,h.gl.kp eh (fun b hb=>?_),eh,bd⟩;have:=bd b hb;obtain⟨q1,q2,q3⟩:=h.pl;exact⟨by omega,by omega,by omega⟩
theorem Gl.low{w:World}(h:Gl w){p:Nat}(hp:w.heap.size<=p):jA p:=by
 refine⟨yu h.tab.lt hp,?_,?_⟩
 ·have hw:=h.pow;unfold PowTab Lib.TabIs World.var? at hw;rw[gPow]at hw;simp only[Option.bind_some]at hw;rcases Nat.lt_or_ge 4 w.heap.size with h'|h'
  ·omega
  rw[Array.getElem?_eq_none h']at hw;cases hw
 obtain⟨m,hm⟩:=h.mx;have:=rB hm;omega
theorem uFH{W:World}{g:Nat}{t:TypeId}{cs:List Value}{C:Array Value}(hl:Lies W g t C)(e:C=cs.toArray):∀ j u,cs[j]?=some u->W.cell? ((⟨g,0,none⟩:Addr).add j)=some u:=fun j u hj=>by
 have e':(⟨g,0,none⟩:Addr).add j=⟨g,j,none⟩:=by cases j <;> simp[Addr.add]
 rw[e',hl.cell j,e];simpa using hj
def qZ:RTok:=⟨0,[],0⟩
theorem xN(sf:Value)(t:Tree)(rp cp:Option Nat)(Cn:List Value)(w:World)(hP:TreeIn w t Cn.toArray)(hf:t.fine)(aq:t.size<=1000)(hc:dP t≠0) :
  Calls Tryz.prog 33 #[.agg Cn.toArray,.pointer (ptr rp),.pointer (ptr cp),sf] w fun e w'=>e=.returned (vS #[])/\Below w.heap.size w w':=by
 obtain⟨W0,ak⟩:=zD (w.alloc (.cells Cn.toArray 34))
 have aj:=zh ak;have af:=zA ak;have HL:=zL ak;have fv:Cn.length=22:=by
  obtain⟨A,li,e,_⟩:=hP;exact mF e
 have bg:=zh (dE fv);have hP0:TreeIn W0 t Cn.toArray:=by
  obtain⟨A,li,e,hk⟩:=hP;refine⟨A,li,e,hk.kp ((Kp.of_below af.out).mono (Y:=[]) (fun k hk _=>by cases hk))⟩
 have CC:=zh (rO t Cn.toArray W0 hP0 (by omega) hf);have da:((dP t:Int) != 0)=true:=by simp;omega
 clear ak hP hP0 hf aq hc fv;generalize dP t=ck at *
 go_in
 go_upto_region 1 with fail
 rw[<- aj.out];clear aj
 go_wp2_with (first
  |(refine yr rfl 34 (.tmp 4) rfl w.heap.size 0 rfl Cn _ HL.out.rangeM Tryz.underlying34 rfl bg.out ?_)
  |((with_reducible refine CC.out.mono ?_);rintro e wx ⟨rfl,hb⟩;have bi:=zT af hb;clear hb))
 go_ret
 exact⟨rfl,bi.out⟩
theorem uAF(sff:FuncId)(sfx:Array Value)(v:Say)(hv:v.ok)(t:Tree)(N:Nat)(rp cp:Option Nat)(R C:AxV)(Cn:List Value)(w:World)(hP:TreeP (fun g=>g∉rp.toList++cp.toList) w t Cn.toArray)(hf:t.fine)(ho:t.ok N)(hR:AxF w rp R)(hC:AxF w cp C)(cy:∀ b,rp=some b->cp≠some b)(hg:Gl w)(jn:∀ b∈rp.toList++cp.toList,b<w.heap.size/\jA b)(dj:∀ W,KP (fun g=>g<w.heap.size/\g∉rp.toList++cp.toList) w W->Gl W->uAK sff sfx v W)(hc:dP t=0) :
  Calls Tryz.prog 33 #[.agg Cn.toArray,.pointer (ptr rp),.pointer (ptr cp),(sfX sff sfx)] w fun e w'=>e=.returned (vT (cL none (t.toks v R C++[qZ])))/\AxF w' rp R/\AxF w' cp C/\Gl w'/\Kp (rp.toList++cp.toList) w w':=by
 obtain⟨hr,aq⟩:=nZ hc;have htl:=eF v R C t 6 hr;have htx:=xJ (v:=v) hv hR.av hC.av t 6 hr;obtain⟨W0,ak⟩:=zD (w.alloc (.cells Cn.toArray 34))
 have aj:=zh ak;have af:=zA ak;have HL:=zL ak;have hIn:=hP.all;have fv:Cn.length=22:=by
  obtain⟨A,li,e,_⟩:=hIn;exact mF e
 have bg:=zh (dE fv);have hP0:TreeIn W0 t Cn.toArray:=by
  obtain⟨A,li,e,hk⟩:=hIn;refine⟨A,li,e,hk.kp ((Kp.of_below af.out).mono (Y:=[]) (fun k hk _=>by cases hk))⟩
 have CC:=zh (rO t Cn.toArray W0 hP0 (by omega) hf);rw[hc]at CC;have CV:=zh (fun W=>wV W);have HNk:=zh (fun(p m:Nat)=>uHK sff sfx v p m rp cp R C N 1000 t (by omega) (by omega) 6 hr ho);have mr:Hid (∀ W2,Below w.heap.size w W2->∀ m,LvM W2 m->WrS (W2.alloc (.cells #[.pointer (ptr rp),.pointer (ptr cp),.map (some m),(sfX sff sfx),.slice none 0 0] 135)) W2.heap.size m rp cp R C (sfX sff sfx) []/\TreeP (PLo W2.heap.size (rp.toList++cp.toList)) (W2.alloc (.cells #[.pointer (ptr rp),.pointer (ptr cp),.map (some m),(sfX sff sfx),.slice none 0 0] 135)) t Cn.toArray):=zh (fun W2 hb m hm=>by
  have hb2:Below W2.heap.size W2 (W2.alloc (.cells #[.pointer (ptr rp),.pointer (ptr cp),.map (some m),(sfX sff sfx),.slice none 0 0] 135)):=(zp _);refine⟨⟨⟨.slice none 0 0,Lies.new _ _ _,⟨rfl,.inl ⟨rfl,rfl⟩⟩⟩,(hR.next hb).next hb2,(hC.next hb).next hb2,cy,hm.at (hb2.block _ hm.lt),(hg.next hb).next hb2,fun b vp=>⟨yu (jn b vp).1 hb.size,(jn b vp).2⟩,hg.low hb.size,hm.lt⟩,?_⟩;have eh:KP (fun g=>g<w.heap.size/\g∉rp.toList++cp.toList) w (W2.alloc (.cells #[.pointer (ptr rp),.pointer (ptr cp),.map (some m),(sfX sff sfx),.slice none 0 0] 135)):=⟨yv hb.size hb2.size,fun g jk=>(hb2.block g (yu jk.1 hb.size)).trans (hb.block g jk.1)⟩
  have h1:TreeP (fun g=>g<w.heap.size/\g∉rp.toList++cp.toList) w t Cn.toArray:=hP.imp (fun g i5 lw=>⟨lw,i5⟩);exact(h1.keep eh).imp (fun g i5 _=>⟨yu i5.1 hb.size,i5.2⟩))
 obtain⟨i1,gi,gz0,gz1,gz2⟩:=info_parts sD;have HJ:=zh (fun(A:Option Addr) (c:Nat) (W:World) (ru:RIn W A (t.toks v R C++[qZ])) (hm:MaxVar W)=>show Calls Tryz.prog 25 #[.slice A ((t.toks v R C).length+1) c] W _ from by
  have h:=join_any A c (t.toks v R C++[qZ]) W (by simp;omega) (fun x hx=>by
   rcases List.mem_append.1 hx with hx|hx
   ·exact(htx x hx).1
   rw[yf.1 hx];decide) ru hm
  rw[yl]at h;exact h)
 have HTl:Hid ((t.toks v R C).length<=1600):=zh (by omega);have mo:Hid (t.size<=256):=zh aq;have HSay:=zh dj;clear dj hv;clear ak hP hIn hP0 hf ho hR hC cy hg jn hc hr aq htl htx fv
 go_in
 go_upto_region 1 with fail
 rw[<- aj.out];clear aj
 go_upto_region 4 with(first
  |(refine yr rfl 34 (.tmp 4) rfl w.heap.size 0 rfl Cn _ HL.out.rangeM Tryz.underlying34 rfl bg.out ?_)
  |((with_reducible refine CC.out.mono ?_);rintro e W1 ⟨rfl,hb⟩;have bi:=zT af hb;have jc:=zh (HL.out.next hb);clear hb HL CC)
  |((with_reducible refine(CV.out _).mono ?_);rintro e W2 ⟨rfl,hl,hb⟩;have aw:=zT bi hb;have gu:=zh (jc.out.next hb);have HLv:=zh hl;clear hb hl jc))
 obtain⟨hs,htp⟩:=mr.out W2 aw.out _ HLv.out;obtain⟨W3,ie⟩:=zD (W2.alloc (.cells #[.pointer (ptr rp),.pointer (ptr cp),.map (some W1.heap.size),(sfX sff sfx),.slice none 0 0] 135))
 rw[<- ie]at hs htp ⊢;have xc:Hid (Lies W3 w.heap.size 34 Cn.toArray):=zh (by rw[ie];exact gu.out.alloc _);have bf:=zF aw ie;have j7:Hid (w.heap.size<=W2.heap.size):=zh aw.out.size;obtain⟨p,hp⟩:=zD W2.heap.size
 obtain⟨m,hm⟩:=zD W1.heap.size
 rw[<- hp,<- hm]at hs;rw[<- hp]at htp j7 ⊢;rw[<- hm];have HSy:SayK p (rp.toList++cp.toList) sff sfx v W3:=fun W' en=>HSay.out W' ⟨yv bf.out.size (Kw.kp en hs).size,fun g jk=>((Kw.kp en hs).at' g ⟨yu jk.1 j7.out,jk.2⟩).trans (bf.out.block g jk.1)⟩ (hs.glw en)
 have CN:=zh (HNk.out p m W3 [] Cn hs HSy htp (by have:=mo.out;simp;omega));rw[List.nil_append]at CN;have qe:=zh hs;clear HSy HSay;clear hs htp ie hp hm mr HNk CV gu HLv bi aw;obtain⟨ni,htk⟩:∃ x,x=t.toks v R C:=⟨_,rfl⟩
 rw[<- htk]at CN HJ HTl;have HTk:=zh htk;have htl:=HTl.out;clear htk
 go_wp2_with (first
  |(refine yr rfl 34 (.tmp 4) rfl w.heap.size 0 rfl Cn _ xc.out.rangeM Tryz.underlying34 rfl bg.out ?_)
  |((with_reducible refine CN.out.mono ?_);rintro e W4 ⟨rfl,hs4,pu⟩;obtain⟨v4,hl4,t9⟩:=hs4.box;obtain⟨A4,c4,rfl⟩:=aV t9;have k4:W4.cell? ⟨p,4,none⟩=some (.slice A4 ni.length c4):=hl4.cell 4;have hpl:=hl4.lt;obtain⟨W5,fe⟩:=zD (W4.alloc (.cells #[vI 0,vS #[],vI 0] 64));have bm:=zA fe;have z8:=zh (hs4.next bm.out);have dg:=zh (aD bm.out t9);have gd:=zh pu;have dy:=zL fe;have HW5:=zh fe;have HC5:Hid (W5.cell? ⟨p,4,none⟩=some (.slice A4 ni.length c4)):=zh ((hl4.next bm.out).cell 4);clear hs4 pu hl4 t9 fe)
  |(at_builtin;rw[<- HW5.out];refine wpList_append_own (P:=Tryz.prog) _ rfl _ _ 60 rfl (p+1) 64 i1 (.agg #[vI 0,vS #[],vI 0]) 3 32 Tryz.underlying60 gi gz0 gz1 gz2 rfl (by decide) (.slice A4 ni.length c4) ni.length (cN ni) rfl dg.out ⟨W4.heap.size,0,none⟩ 1 1 (eY qZ) rfl rfl (uFH dy.out rfl) (jO _) (by unfold maxLen;omega) (by omega) (Nat.succ_le_of_lt z8.out.lt) (fun v' w' k1 k2 _=>?_);obtain⟨A6,c6,rfl⟩:=aV k1;rw[<- pM]at k1;have HIn:Hid (RIn w' A6 (ni++[qZ])):=zh (yQ (by rw[yl];exact k1));have HG:=zh (z8.out.axG HC5.out k2);clear k1 k2 k4)
  |((with_reducible refine(HJ.out A6 c6 _ HIn.out HG.out.2.2.1.mx).mono ?_);rintro e w7 ⟨rfl,hb⟩;have nd:=zh hb;clear hb))
 go_ret
 refine⟨by(rw[HTk.out]) <;> rfl,HG.out.1.next nd.out,HG.out.2.1.next nd.out,HG.out.2.2.1.next nd.out,?_⟩;have h1:Kp (rp.toList++cp.toList) w W4:=Kp.andThen (Kp.of_below bf.out) gd.out (fun g hg=>by
  rcases ym.1 hg with rfl|hg
  ·exact .inr j7.out
  rcases List.mem_append.1 hg with hg|hg
  ·exact .inl hg
  have:=(eG.1 hg).2.1;have:=j7.out;exact .inr (by omega))
 have h2:Kp (rp.toList++cp.toList) w W5:=h1.trans (Kp.of_below bm.out);have h3:=Kp.andThen h2 HG.out.2.2.2.1 (fun g hg=>by
  have:=HG.out.2.2.2.2 g hg;have:=j7.out;exact .inr (by omega))
 exact h3.trans (Kp.of_below nd.out)
theorem oO(sff:FuncId)(sfx:Array Value)(v:Say)(hv:v.ok)(t:Tree)(N:Nat)(rp cp:Option Nat)(R C:AxV)(Cn:List Value)(w:World)(hP:TreeP (fun g=>g∉rp.toList++cp.toList) w t Cn.toArray)(hf:t.fine)(ho:t.ok N)(aq:t.size<=1000)(hR:AxF w rp R)(hC:AxF w cp C)(cy:∀ b,rp=some b->cp≠some b)(hg:Gl w)(jn:∀ b∈rp.toList++cp.toList,b<w.heap.size/\jA b)(dj:∀ W,KP (fun g=>g<w.heap.size/\g∉rp.toList++cp.toList) w W->Gl W->uAK sff sfx v W) :
  Calls Tryz.prog 33 #[.agg Cn.toArray,.pointer (ptr rp),.pointer (ptr cp),(sfX sff sfx)] w fun e w'=>e=.returned (vT (fF v R C t))/\AxF w' rp R/\AxF w' cp C/\Gl w'/\Kp (rp.toList++cp.toList) w w':=by
 unfold fF;by_cases hc:dP t=0
 ·rw[if_neg (by omega)];exact uAF sff sfx v hv t N rp cp R C Cn w hP hf ho hR hC cy hg jn dj hc
 rw[if_pos hc];refine(xN (sfX sff sfx) t rp cp Cn w hP.all hf aq hc).mono ?_;rintro e w' ⟨rfl,hb⟩;exact⟨rfl,hR.next hb,hC.next hb,hg.next hb,Kp.of_below hb⟩
theorem TreeP.box{X:List Nat}{w W:World}{t:Tree}{cs:Array Value}(h:TreeP (fun g=>g∉X) w t cs)(hb:Below w.heap.size w W):TreeP (fun g=>g∉X) W t cs:=by
 have h1:TreeP (fun g=>g<w.heap.size/\g∉X) w t cs:=h.imp (fun g i5 lw=>⟨lw,i5⟩);exact(h1.keep ⟨hb.size,fun g hg=>hb.block g hg.1⟩).imp (fun g i5 _=>i5.2)
theorem uAE(t:Tree)(N:Nat)(rp cp:Option Nat)(R C:AxV)(Cn:List Value)(w:World)(hP:TreeP (fun g=>g∉rp.toList++cp.toList) w t Cn.toArray)(hf:t.fine)(ho:t.ok N)(aq:t.size<=1000)(hR:AxF w rp R)(hC:AxF w cp C)(cy:∀ b,rp=some b->cp≠some b)(hg:Gl w)(jn:∀ b∈rp.toList++cp.toList,b<w.heap.size/\jA b) :
  Calls Tryz.prog 33 #[.agg Cn.toArray,.pointer (ptr rp),.pointer (ptr cp),.func (.func 34) #[] #[]] w fun e w'=>e=.returned (vT (fF .plain R C t))/\AxF w' rp R/\AxF w' cp C/\Gl w'/\Kp (rp.toList++cp.toList) w w':=by
 exact oO 34 #[] .plain trivial t N rp cp R C Cn w hP hf ho aq hR hC cy hg jn (fun W _ hgl=>uCM hgl.pow)
theorem xL(t:Tree)(N:Nat)(rp cp:Option Nat)(R C:AxV)(Cn:List Value)(w:World)(hP:TreeP (fun g=>g∉rp.toList++cp.toList) w t Cn.toArray)(hf:t.fine)(ho:t.ok N)(aq:t.size<=1000)(hR:AxF w rp R)(hC:AxF w cp C)(cy:∀ b,rp=some b->cp≠some b)(hg:Gl w)(jn:∀ b∈rp.toList++cp.toList,b<w.heap.size/\jA b) :
  Calls Tryz.prog 13 #[.agg Cn.toArray,.pointer (ptr rp),.pointer (ptr cp)] w fun e w'=>e=.returned (vT (fF .plain R C t))/\AxF w' rp R/\AxF w' cp C/\Gl w'/\Kp (rp.toList++cp.toList) w w':=by
 obtain⟨W0,ak⟩:=zD (w.alloc (.cells Cn.toArray 34))
 have aj:=zh ak;have af:=zA ak;have HL:=zL ak;have fv:Cn.length=22:=by
  obtain⟨A,li,e,_⟩:=hP;exact mF e
 have bg:=zh (dE fv);have CW:=zh (uAE t N rp cp R C Cn W0 (hP.box af.out) hf ho aq (hR.next af.out) (hC.next af.out) cy (hg.next af.out) (fun b hb=>⟨yu (jn b hb).1 af.out.size,(jn b hb).2⟩));clear ak hP hf ho aq hR hC cy hg jn fv;obtain⟨T,hT⟩:=zD (fF .plain R C t)
 rw[<- hT]at CW ⊢;clear hT
 go_in
 go_upto_region 1 with fail
 rw[<- aj.out];clear aj
 go_wp2_with (first
  |(refine yr rfl 34 (.tmp 3) rfl w.heap.size 0 rfl Cn _ HL.out.rangeM Tryz.underlying34 rfl bg.out ?_)
  |((with_reducible refine CW.out.mono ?_);rintro e w' ⟨rfl,h1,h2,h3,h4⟩;have HH:=zh (And.intro h1 (And.intro h2 (And.intro h3 h4)));clear h1 h2 h3 h4))
 go_ret
 exact⟨rfl,HH.out.1,HH.out.2.1,HH.out.2.2.1,(Kp.of_below af.out).trans HH.out.2.2.2⟩
def nA(R C:AxV)(x y:IdR)(t:Tree):Bs:=if aI R x<0\/aI C y<0 then [] else fF (.seen (aI R x).toNat (aI C y).toNat) R C t
theorem uGQ{W:World}(hp:PowTab W)(r0 c0 b1 b2:Nat)(fq:r0<=400)(pw:c0<=400)(h1:W.cell? ⟨b1,0,none⟩=some (vI (c0:Int)))(h2:W.cell? ⟨b2,0,none⟩=some (vI (r0:Int)))(l1:b1<W.heap.size)(l2:b2<W.heap.size):uAK 41 #[vP b1 0,vP b2 0] (.seen r0 c0) W where
 both:=fun i j fr fc hi hj=>uGR i j r0 c0 fr fc b1 b2 W hp hi hj fq pw h1 h2 l1 l2
 row:=fun i fr fc hi=>seen_row i 0 r0 c0 fr fc b1 b2 W hp hi fq pw h1 h2 l1 l2
 col:=fun j fr fc hj=>seen_col 0 j r0 c0 fr fc b1 b2 W hp hj fq pw h1 h2 l1 l2
 run:=fun xs W'=>by first|kernel_rfl|rfl|simp[callFunc,go_sem,Tryz.f41]
theorem uN(t:Tree)(N:Nat)(rp cp:Option Nat)(R C:AxV)(Cn:List Value)(x y:IdR)(hx:x.fits)(hy:y.fits)(w:World)(hP:TreeP (fun g=>g∉rp.toList++cp.toList) w t Cn.toArray)(hf:t.fine)(ho:t.ok N)(aq:t.size<=1000)(hR:AxF w rp R)(hC:AxF w cp C)(cy:∀ b,rp=some b->cp≠some b)(hg:Gl w)(jn:∀ b∈rp.toList++cp.toList,b<w.heap.size/\jA b) :
  Calls Tryz.prog 17 #[.agg Cn.toArray,.agg #[vI x.a,vI x.n,vI y.a,vI y.n],.pointer (ptr rp),.pointer (ptr cp)] w fun e w'=>e=.returned (vT (nA R C x y t))/\AxF w' rp R/\AxF w' cp C/\Gl w'/\Kp (rp.toList++cp.toList) w w':=by
 obtain⟨W0,ak⟩:∃ W0,W0=(w.alloc (.cells Cn.toArray 34)).alloc (.cells #[vI x.a,vI x.n,vI y.a,vI y.n] 49):=⟨_,rfl⟩
 have aj:=zh ak;have af:Hid (Below w.heap.size w W0):=zh (by rw[ak];exact((Below.refl _ w).alloc zr _).alloc (by rw[World.size_alloc];omega) _);have L0:Lies W0 w.heap.size 34 Cn.toArray:=by rw[ak];exact(Lies.new w _ _).alloc _
 have L1:Lies W0 (w.heap.size+1) 49 #[vI x.a,vI x.n,vI y.a,vI y.n]:=by
  rw[ak];have h:=Lies.new (w.alloc (.cells Cn.toArray 34)) 49 #[vI x.a,vI x.n,vI y.a,vI y.n];rw[World.size_alloc]at h;exact h
 have fv:Cn.length=22:=by
  obtain⟨A,li,e,_⟩:=hP;exact mF e
 have bg:=zh (dE fv);have hqX:∀ k,w.heap.size<=k->k∉rp.toList++cp.toList:=fun k hk hm=>absurd (jn k hm).1 (by omega)
 obtain⟨S,hS⟩:∃ S:World->Prop,∀ W,S W↔(AxF W rp R/\AxF W cp C/\Gl W/\TreeP (fun g=>g∉rp.toList++cp.toList) W t Cn.toArray/\Kp (rp.toList++cp.toList) w W/\Lies W w.heap.size 34 Cn.toArray/\Lies W (w.heap.size+1) 49 #[vI x.a,vI x.n,vI y.a,vI y.n]):=⟨_,fun _=>Iff.rfl⟩
 have HSI:=zh hS;have ue:Hid (∀ W W',S W->Below W.heap.size W W'->S W'):=zh (fun W W' h hb=>by
  obtain⟨a,b,c,d,e,f,g⟩:=(hS W).1 h;exact(hS W').2 ⟨a.next hb,b.next hb,c.next hb,d.box hb,e.trans (Kp.of_below hb),f.next hb,g.next hb⟩)
 have i6:∀ W W' Y,S W->(∀ b∈Y,b∈rp.toList++cp.toList)->Kp Y W W'->AxF W' rp R->AxF W' cp C->S W':=fun W W' Y h hY hk hr hc=>by
  obtain⟨a,b,c,d,e,f,g⟩:=(hS W).1 h;have fi:Kp (rp.toList++cp.toList) W W':=hk.mono (fun k en _=>hY k en);have hs:=hk.size;have h1:TreeP (fun g=>g<W.heap.size/\g∉rp.toList++cp.toList) W t Cn.toArray:=d.imp (fun g h1 h2=>⟨h2,h1⟩);exact(hS W').2 ⟨hr,hc,c.kp fi (fun b hb=>(jn b hb).2),(h1.keep ⟨hs,fun g hg=>fi.block g hg.1 hg.2⟩).imp (fun g h1 _=>h1.2),e.trans fi,fi.lies f (hqX _ zr),fi.lies g (hqX _ (by omega))⟩
 have qu:Hid (S W0):=zh ((hS W0).2 ⟨hR.next af.out,hC.next af.out,hg.next af.out,hP.box af.out,Kp.of_below af.out,L0,L1⟩);obtain⟨vi,hvi⟩:∃ z:Int,(if aI R x<0 then 0 else aI R x)=z:=⟨_,rfl⟩
 obtain⟨vj,hvj⟩:∃ z:Int,(if aI C y<0 then 0 else aI C y)=z:=⟨_,rfl⟩
 obtain⟨bx,hbx⟩:∃ z:Bool,decide (0<=aI R x)=z:=⟨_,rfl⟩
 obtain⟨bc,jo⟩:∃ z:Bool,decide (0<=aI C y)=z:=⟨_,rfl⟩
 have CR:Hid (∀ W,S W->Calls Tryz.prog 40 #[.pointer (ptr rp),.agg #[vI x.a,vI x.n]] W fun e w'=>e=.returned (.tuple #[vI vi,.bool bx])/\S w'):=zh (fun W h=>(eH rp R x W ((hS W).1 h).1 hx).mono (by
  rintro e w' ⟨rfl,h1,h2⟩;refine⟨by show Ending.returned (.tuple #[vI (if aI R x<0 then 0 else aI R x),.bool (decide (0<=aI R x))])=_;rw[hvi,hbx],i6 W w' _ h (fun b hb=>List.mem_append_left _ hb) h2 h1 (((hS W).1 h).2.1.other ((hS W).1 h).1 h2 (fun b e1 e2=>cy b e1 e2))⟩))
 have CC:Hid (∀ W,S W->Calls Tryz.prog 40 #[.pointer (ptr cp),.agg #[vI y.a,vI y.n]] W fun e w'=>e=.returned (.tuple #[vI vj,.bool bc])/\S w'/\∀ b,w.heap.size<=b->∀ v,b<W.heap.size->W.cell? ⟨b,0,none⟩=some v->w'.cell? ⟨b,0,none⟩=some v):=zh (fun W h=>(eH cp C y W ((hS W).1 h).2.1 hy).mono (by
  rintro e w' ⟨rfl,h1,h2⟩;refine⟨by show Ending.returned (.tuple #[vI (if aI C y<0 then 0 else aI C y),.bool (decide (0<=aI C y))])=_;rw[hvj,jo],i6 W w' _ h (fun b hb=>List.mem_append_right _ hb) h2 (((hS W).1 h).1.other ((hS W).1 h).2.1 h2 (fun b e1 e2=>cy b e2 e1)) h1,fun b hb v hl hv=>(World.cell?_of_block (w:=W) (a:=⟨b,0,none⟩) (h2.block b hl (fun hm=>hqX b hb (List.mem_append_right _ hm)))).trans hv⟩))
 have qi:Hid (aI R x<=400/\aI C y<=400):=zh ⟨by have:=eO hR.av x;omega,by have:=eO hC.av y;omega⟩;have CW:Hid (∀ W (b1 b2 r0 c0:Nat),S W->r0<=400->c0<=400->W.cell? ⟨b1,0,none⟩=some (vI (c0:Int))->W.cell? ⟨b2,0,none⟩=some (vI (r0:Int))->b1<W.heap.size->b2<W.heap.size->w.heap.size<=b1->w.heap.size<=b2->Calls Tryz.prog 33 #[.agg Cn.toArray,.pointer (ptr rp),.pointer (ptr cp),.func (.func 41) #[] #[vP b1 0,vP b2 0]] W fun e w'=>e=.returned (vT (fF (.seen r0 c0) R C t))/\AxF w' rp R/\AxF w' cp C/\Gl w'/\Kp (rp.toList++cp.toList) w w'):=zh (fun W b1 b2 r0 c0 h fq pw h1 h2 l1 l2 g1 g2=>by
  obtain⟨a,b,c,d,e,f,g⟩:=(hS W).1 h;refine(oO 41 #[vP b1 0,vP b2 0] (.seen r0 c0) ⟨fq,pw⟩ t N rp cp R C Cn W d hf ho aq a b cy c (fun k hk=>⟨yu (jn k hk).1 e.size,(jn k hk).2⟩) (fun W' hk hgl=>?_)).mono ?_
  ·exact uGQ hgl.pow r0 c0 b1 b2 fq pw ((World.cell?_of_block (w:=W) (a:=⟨b1,0,none⟩) (hk.at' b1 ⟨l1,hqX _ g1⟩)).trans h1) ((World.cell?_of_block (w:=W) (a:=⟨b2,0,none⟩) (hk.at' b2 ⟨l2,hqX _ g2⟩)).trans h2) (yu l1 hk.size) (yu l2 hk.size)
  rintro e' w' ⟨rfl,k1,k2,k3,k4⟩;exact⟨rfl,k1,k2,k3,e.trans k4⟩)
 have ap:Hid (∀ W,S W->W.cell? ⟨w.heap.size+1,0,none⟩=some (vI x.a)/\W.cell? ⟨w.heap.size+1,1,none⟩=some (vI x.n)/\W.cell? ⟨w.heap.size+1,2,none⟩=some (vI y.a)/\W.cell? ⟨w.heap.size+1,3,none⟩=some (vI y.n)):=zh (fun W h=>by
  have g:=((hS W).1 h).2.2.2.2.2.2;exact⟨g.cell 0,g.cell 1,g.cell 2,g.cell 3⟩)
 have xw:Hid (∀ W,S W->AxF W rp R/\AxF W cp C/\Gl W/\Kp (rp.toList++cp.toList) w W/\W.rangeAt w.heap.size 0 Cn/\w.heap.size<=W.heap.size):=zh (fun W h=>by
  obtain⟨a,b,c,d,e,f,g⟩:=(hS W).1 h;exact⟨a,b,c,e,f.rangeM,e.size⟩)
 have HT:Hid (nA R C x y t=if bx=true/\bc=true then fF (.seen vi.toNat vj.toNat) R C t else []):=zh (by
  unfold nA;by_cases h:aI R x<0\/aI C y<0
  ·rw[if_pos h,if_neg];rintro⟨h1,h2⟩;rw[h1]at hbx;rw[h2]at jo;have:=of_decide_eq_true hbx;have:=of_decide_eq_true jo;omega
  rw[if_neg h,if_pos ⟨by rw[<- hbx];exact decide_eq_true (by omega),by rw[<- jo];exact decide_eq_true (by omega)⟩,<- hvi,<- hvj,if_neg (by omega),if_neg (by omega)])
 have HV:Hid (0<=vi/\vi<=400/\0<=vj/\vj<=400):=zh (by
  have:=qi.out;rw[<- hvi,<- hvj];refine⟨?_,?_,?_,?_⟩ <;> split <;> omega)
 clear ak hP hf ho aq hR hC cy hg jn fv L0 L1 hqX hS i6 HSI hvi hvj hbx jo qi hx hy;generalize nA R C x y t=T at *;obtain⟨x0,x1,x2,x3⟩:=ap.out _ qu.out
 go_in
 go_upto_region 1 with fail
 rw[<- aj.out];clear aj
 go_upto_region 2 with((with_reducible refine(CR.out _ qu.out).mono ?_);rintro e W1 ⟨rfl,ed⟩;have ee:=zh ed;clear ed x0 x1 x2 x3)
 obtain⟨W2,fj⟩:=zD (W1.alloc (.cells #[vI vi] 3))
 rw[<- fj];have aw:=zA fj;have gu:=zL fj;have ig:=zh (ue.out _ _ ee.out aw.out);have HQ1:Hid (w.heap.size<=W1.heap.size):=zh (xw.out _ ee.out).2.2.2.2.2;clear fj ee qu af CR;obtain⟨x0,x1,x2,x3⟩:=ap.out _ ig.out
 go_upto_region 3 with((with_reducible refine(CC.out _ ig.out).mono ?_);rintro e W3 ⟨rfl,hs3,hk3⟩;have qe:=zh hs3;have oo:=zh hk3;clear hs3 hk3 x0 x1 x2 x3)
 have HC3:Hid (W3.cell? ⟨W1.heap.size,0,none⟩=some (vI vi)):=zh (oo.out _ HQ1.out _ gu.out.lt (gu.out.cell 0));have HQ3:Hid (W1.heap.size<W3.heap.size):=zh (by
  by_cases hl:W1.heap.size<W3.heap.size
  ·exact hl
  exact absurd (rB HC3.out) hl)
 obtain⟨W4,my⟩:=zD (W3.alloc (.cells #[vI vj] 3))
 rw[<- my];have bt:=zA my;have qq:=zL my;have jv:=zh (ue.out _ _ qe.out bt.out);have HC4:Hid (W4.cell? ⟨W1.heap.size,0,none⟩=some (vI vi)):=zh ((bt.out.cell (p:=⟨W1.heap.size,0,none⟩) HQ3.out).trans HC3.out);have HQ4:Hid (w.heap.size<=W3.heap.size):=zh (xw.out _ qe.out).2.2.2.2.2;have hend:=xw.out _ jv.out;have xx:=zh hend;clear hend my qe ig aw gu oo CC ue ap xw HC3;cases bx
 ·rw[if_neg (by simp)]at HT
  go_wp2_with fail
  go_ret
  exact⟨by(rw[HT.out]) <;> rfl,xx.out.1,xx.out.2.1,xx.out.2.2.1,xx.out.2.2.2.1⟩
 cases bc
 ·rw[if_neg (by simp)]at HT
  go_wp2_with fail
  go_ret
  exact⟨by(rw[HT.out]) <;> rfl,xx.out.1,xx.out.2.1,xx.out.2.2.1,xx.out.2.2.2.1⟩
 rw[if_pos ⟨rfl,rfl⟩]at HT;have HW:=zh (CW.out W4 W3.heap.size W1.heap.size vi.toNat vj.toNat jv.out (by have:=HV.out;omega) (by have:=HV.out;omega) (by rw[Int.toNat_of_nonneg HV.out.2.2.1];exact qq.out.cell 0) (by rw[Int.toNat_of_nonneg HV.out.1];exact HC4.out) qq.out.lt (yu HQ3.out bt.out.size) HQ4.out HQ1.out);rw[<- HT.out]at HW;clear CW HT
 go_wp2_with (first
  |(refine yr rfl 34 (.tmp 4) rfl w.heap.size 0 rfl Cn _ xx.out.2.2.2.2.1 Tryz.underlying34 rfl bg.out ?_)
  |((with_reducible refine HW.out.mono ?_);rintro e w' ⟨rfl,h1,h2,h3,h4⟩;have HH:=zh (And.intro h1 (And.intro h2 (And.intro h3 h4)));clear h1 h2 h3 h4))
 go_ret
 exact⟨rfl,HH.out.1,HH.out.2.1,HH.out.2.2.1,HH.out.2.2.2⟩
end Go.Proofs.YtjfihpaeglpblaaGreatDoor
