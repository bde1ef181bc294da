/-
  Lemmas, part 32: WxG WrH WrI WxH WxI WrJ WxJ WrK.
-/
import Derived.Test.YtjfihpaeglpblaaGreatDoorRf29
import Derived.Test.YtjfihpaeglpblaaGreatDoorRf30
import Derived.Test.YtjfihpaeglpblaaGreatDoorRf31
set_option maxHeartbeats 100000000
set_option maxRecDepth 1000000
namespace Go.Proofs.YtjfihpaeglpblaaGreatDoor
open Go.RowKit
abbrev sfX(sff:FuncId)(sfx:Array Value):Value:=.func (.func sff) #[] sfx
structure yT(sff:FuncId)(sfx:Array Value)(v:Say)(W:World):Prop where
 both:∀ (i j:Nat) (fr fc:Bool),i<=400->j<=400->Calls Tryz.prog sff (#[.agg #[vI (i:Int),vI (j:Int),.bool fr,.bool fc],vI 0]++sfx) W fun e w'=>e=.returned (dS (dX v i j fr fc))/\Below W.heap.size W w'
 row:∀ (i:Nat) (fr fc:Bool),i<=400->Calls Tryz.prog sff (#[.agg #[vI (i:Int),vI 0,.bool fr,.bool fc],vI 1]++sfx) W fun e w'=>e=.returned (dS (fE v i fr))/\Below W.heap.size W w'
 col:∀ (j:Nat) (fr fc:Bool),j<=400->Calls Tryz.prog sff (#[.agg #[vI 0,vI (j:Int),.bool fr,.bool fc],vI 2]++sfx) W fun e w'=>e=.returned (dS (fD v j fc))/\Below W.heap.size W w'
 run:∀ xs W',Sem.run Tryz.prog (callFunc sff xs) W'=.ok (.enter sff xs) W'
theorem tD{p m:Nat}{rp cp:Option Nat}{R C:AxV}{sf:Value}{ts:List RTok}(x:IdR)(hx:x.fits):∀ W,WrS W p m rp cp R C sf ts->Calls Tryz.prog 40 #[.pointer (ptr rp),.agg #[vI x.a,vI x.n]] W fun e w'=>e=.returned (.tuple #[vI (if aF R x<0 then 0 else aF R x),.bool (decide (0<=aF R x))])/\WrS w' p m rp cp R C sf ts/\Kw p (rp.toList++cp.toList) W w':=fun W h=>
 (dV rp R x W h.ax hx).mono (by
  rintro e w' ⟨rfl,h1,h2⟩;exact⟨rfl,h.askR h2 h1,Kw.askR h2⟩)
theorem tC{p m:Nat}{rp cp:Option Nat}{R C:AxV}{sf:Value}{ts:List RTok}(x:IdR)(hx:x.fits):∀ W,WrS W p m rp cp R C sf ts->Calls Tryz.prog 40 #[.pointer (ptr cp),.agg #[vI x.a,vI x.n]] W fun e w'=>e=.returned (.tuple #[vI (if aF C x<0 then 0 else aF C x),.bool (decide (0<=aF C x))])/\WrS w' p m rp cp R C sf ts/\Kw p (rp.toList++cp.toList) W w':=fun W h=>
 (dV cp C x W h.ay hx).mono (by
  rintro e w' ⟨rfl,h1,h2⟩;exact⟨rfl,h.askC h2 h1,Kw.askC h2⟩)
theorem eS{p m:Nat}{rp cp:Option Nat}{R C:AxV}{sf:Value}{ts:List RTok}(x y:IdR)(hx:x.fits)(hy:y.fits){v:Value}(hv:endsV (dJ R x y)=v):∀ W,WrS W p m rp cp R C sf ts->Calls Tryz.prog 194 #[.pointer (ptr rp),.agg #[vI x.a,vI x.n],.agg #[vI y.a,vI y.n]] W fun e w'=>e=.returned v/\WrS w' p m rp cp R C sf ts/\Kw p (rp.toList++cp.toList) W w':=fun W h=>
 (uY rp R x y W h.ax hx hy).mono (by
  rintro e w' ⟨rfl,h1,h2⟩;exact⟨by rw[hv],h.askR h2 h1,Kw.askR h2⟩)
theorem eR{p m:Nat}{rp cp:Option Nat}{R C:AxV}{sf:Value}{ts:List RTok}(x y:IdR)(hx:x.fits)(hy:y.fits){v:Value}(hv:endsV (dJ C x y)=v):∀ W,WrS W p m rp cp R C sf ts->Calls Tryz.prog 194 #[.pointer (ptr cp),.agg #[vI x.a,vI x.n],.agg #[vI y.a,vI y.n]] W fun e w'=>e=.returned v/\WrS w' p m rp cp R C sf ts/\Kw p (rp.toList++cp.toList) W w':=fun W h=>
 (uY cp C x y W h.ay hx hy).mono (by
  rintro e w' ⟨rfl,h1,h2⟩;exact⟨by rw[hv],h.askC h2 h1,Kw.askC h2⟩)
theorem sT{p m:Nat}{rp cp:Option Nat}{R C:AxV}{sff:FuncId}{sfx:Array Value}{v:Say}{ts:List RTok}(h:NodeH)(A:Option Addr)(n ca:Nat)(Cn:List Value)(w:World)(ai:Cn.toArray=aH h A n ca)(hw:WrS w p m rp cp R C (sfX sff sfx) ts)(hn:ts.length<=700000)(hk:h.kind=1\/h.kind=3)(hf:h.a.fits)(da:∀ W,Kw p (rp.toList++cp.toList) w W->yT sff sfx v W) :
   Calls Tryz.prog 138 #[vP p 0,.agg Cn.toArray] w fun e w'=>WrO p m rp cp R C (sfX sff sfx) (ts++iE v R C h) w e w':=by
 have hP:=tD (p:=p) (m:=m) (rp:=rp) (cp:=cp) (R:=R) (C:=C) (sf:=(sfX sff sfx)) (ts:=ts) h.a.row hf.1;have hQ:=tC (p:=p) (m:=m) (rp:=rp) (cp:=cp) (R:=R) (C:=C) (sf:=(sfX sff sfx)) (ts:=ts) h.a.col hf.2;have hR:=iK hw.ax.av h.a.row;have hC:=iK hw.ay.av h.a.col;unfold iE;by_cases hg:aF R h.a.row<0\/aF C h.a.col<0
 ·rw[if_pos hg];refine uCN h A n ca Cn w (zh ai) hw hn _ _ _ _ hP hQ (fun hb=>?_);have:=of_decide_eq_true hb;exact decide_eq_false (by omega)
 rw[if_neg hg];obtain⟨i,hi⟩:∃ i:Nat,aF R h.a.row=(i:Int):=⟨(aF R h.a.row).toNat,by omega⟩
 obtain⟨j,hj⟩:∃ j:Nat,aF C h.a.col=(j:Int):=⟨(aF C h.a.col).toNat,by omega⟩
 rw[hi]at hP hR ⊢;rw[hj]at hQ hC ⊢;rw[if_neg (by omega:¬ (i:Int)<0),decide_eq_true (by omega:(0:Int)<=(i:Int))]at hP;rw[if_neg (by omega:¬ (j:Int)<0),decide_eq_true (by omega:(0:Int)<=(j:Int))]at hQ;rw[Int.toNat_natCast,Int.toNat_natCast];have hT:=fun W hk=>(da W hk).both i j h.a.fr h.a.fc (by omega) (by omega)
 have hF:=(da w (Kw.of_below zB)).run;rcases hk with hk|hk
 ·rw[if_neg (by rw[hk];decide)];exact uGE h A n ca Cn w (zh ai) hw hn _ _ _ _ hP hQ hF _ (zh rfl) (zh rfl) hT hk
 rw[if_pos hk];have e:ts++(dX v i j h.a.fr h.a.fc::[tk 5 [35]])=ts++[dX v i j h.a.fr h.a.fc]++[tk 5 [35]]:=by simp
 rw[e];exact yS h A n ca Cn w (zh ai) hw hn _ _ _ _ hP hQ hF _ (zh rfl) (zh rfl) hT hk
theorem uCM{p m:Nat}{rp cp:Option Nat}{R C:AxV}{sff:FuncId}{sfx:Array Value}{v:Say}{ts:List RTok}(h:NodeH)(w:World)(hw:WrS w p m rp cp R C (sfX sff sfx) ts)(hn:ts.length<=700000)(uy:h.a.fits)(uz:h.b.fits)(hab:¬ (h.a.row=id0/\h.a.col=id0))(da:∀ W,Kw p (rp.toList++cp.toList) w W->yT sff sfx v W) :
   Calls Tryz.prog 139 #[vP p 0,.agg #[vI h.a.row.a,vI h.a.row.n,vI h.a.col.a,vI h.a.col.n,.bool h.a.fr,.bool h.a.fc,vI h.b.row.a,vI h.b.row.n,vI h.b.col.a,vI h.b.col.n,.bool h.b.fr,.bool h.b.fc]] w fun e w'=>WrO p m rp cp R C (sfX sff sfx) (ts++jJ v R C h.a h.b) w e w':=by
 have hF:=(da w (Kw.of_below zB)).run;have e3:∀ a b c:RTok,ts++[a,b,c]=ts++[a]++[b]++[c]:=fun a b c=>by simp
 unfold jJ;by_cases h1:h.a.row=id0
 ·have h2:h.a.col≠id0:=fun h2=>hab ⟨h1,h2⟩
  rw[if_pos h1];rcases dM hw.ay.av h.a.col h.b.col with g|⟨i,j,hi,hj,g⟩
  ·rw[g];exact tJ h w hw hn (zh h1) (zh h2) (eR _ _ uy.2 uz.2 (by rw[g];rfl))
  rw[g];dsimp only;rw[Int.toNat_natCast,Int.toNat_natCast,e3];refine yQ h w hw hn (zh h1) (zh h2) i j (eR _ _ uy.2 uz.2 (by rw[g];rfl)) _ _ hF (fun W hk=>(da W hk).col i h.a.fr h.a.fc (by omega)) (fun W hk=>(da W hk).col j h.b.fr h.b.fc (by omega))
 rw[if_neg h1];by_cases h2:h.a.col=id0
 ·rw[if_pos h2];rcases dM hw.ax.av h.a.row h.b.row with g|⟨i,j,hi,hj,g⟩
  ·rw[g];exact tK h w hw hn (zh h1) (zh h2) (eS _ _ uy.1 uz.1 (by rw[g];rfl))
  rw[g];dsimp only;rw[Int.toNat_natCast,Int.toNat_natCast,e3];refine yR h w hw hn (zh h1) (zh h2) i j (eS _ _ uy.1 uz.1 (by rw[g];rfl)) _ _ hF (fun W hk=>(da W hk).row i h.a.fr h.a.fc (by omega)) (fun W hk=>(da W hk).row j h.b.fr h.b.fc (by omega))
 rw[if_neg h2];rcases dM hw.ax.av h.a.row h.b.row with g|⟨i,j,hi,hj,g⟩
 ·rw[g];refine kH h w hw hn (zh h1) (zh h2) 0 0 (match dJ C h.a.col h.b.col with|none=>0|some (a,_)=>a) (match dJ C h.a.col h.b.col with|none=>0|some (_,b)=>b) false (dJ C h.a.col h.b.col).isSome (fun h=>by cases h) (eS _ _ uy.1 uz.1 (by rw[g];rfl)) (eR _ _ uy.2 uz.2 ?_);cases dJ C h.a.col h.b.col with
  |none=>rfl
  |some q=>rfl
 rcases dM hw.ay.av h.a.col h.b.col with g'|⟨i',j',q8,hj',g'⟩
 ·rw[g,g'];exact kH h w hw hn (zh h1) (zh h2) i j 0 0 true false (fun _=>rfl) (eS _ _ uy.1 uz.1 (by rw[g];rfl)) (eR _ _ uy.2 uz.2 (by rw[g'];rfl))
 rw[g,g'];dsimp only;rw[Int.toNat_natCast,Int.toNat_natCast,Int.toNat_natCast,Int.toNat_natCast,e3];exact wG h w hw hn (zh h1) (zh h2) i j i' j' (eS _ _ uy.1 uz.1 (by rw[g];rfl)) (eR _ _ uy.2 uz.2 (by rw[g'];rfl)) _ _ hF (fun W hk=>(da W hk).both i i' h.a.fr h.a.fc (by omega) (by omega)) (fun W hk=>(da W hk).both j j' h.b.fr h.b.fc (by omega) (by omega))
theorem WrS.glw{w W:World}{p m:Nat}{rp cp:Option Nat}{R C:AxV}{sf:Value}{ts:List RTok}(h:WrS w p m rp cp R C sf ts)(hk:Kw p (rp.toList++cp.toList) w W):Gl W:=by
 refine h.gl.kp hk (fun b hb=>?_);rcases ym.1 hb with rfl|hb
 ·exact h.pl
 rcases List.mem_append.1 hb with hb|hb
 ·exact(h.lo b hb).2
 have h1:=(dU.1 hb).2.1;have h2:=h.pl;unfold iD at h2 ⊢;omega
theorem uBN{W:World}(hp:PowTab W):yT 34 #[] .plain W where
 both:=fun i j fr fc hi hj=>by
  rw[Array.append_empty];exact say_both i j fr fc W hp hi hj
 row:=fun i fr fc hi=>by
  rw[Array.append_empty];cases fr
  ·exact say_rowN i 0 fc W hp hi (by omega)
  exact say_rowF i 0 fc W hp hi (by omega)
 col:=fun j fr fc hj=>by
  rw[Array.append_empty];cases fc
  ·exact say_colN 0 j fr W hp (by omega) hj
  exact say_colF 0 j fr W hp (by omega) hj
 run:=fun xs W'=>by first|kernel_rfl|rfl|simp[callFunc,go_sem,Tryz.f34]
theorem rP(h:NodeH)(A:Option Addr)(n c:Nat):(aH h A n c).all (·.oneCell')=true:=by simp[aH,Value.oneCell']
theorem oG:∀ {l:List Tree} (i:Nat) (hi:i<l.length),(l[i]'hi).size<=aM l
 | [],_,hi=>absurd hi (by simp)
 |t::r,0,_=>by show t.size<=aM (t::r);rw[aM];omega
 |t::r,i+1,hi=>by
  have:=oG (l:=r) i (by simpa using hi);show (r[i]'_).size<=aM (t::r);rw[aM];omega
theorem kS:∀ (a b:List Tree),aM (a++b)=aM a+aM b
 | [],b=>by simp[aM]
 |t::a,b=>by rw[yp,aM,kS a b,aM];omega
theorem uDK{N:Nat}:∀ {l:List Tree} (i:Nat) (hi:i<l.length),okL N l->(l[i]'hi).ok N
 | [],_,hi,_=>absurd hi (by simp)
 |t::r,0,_,h=>by rw[okL]at h;exact h.1
 |t::r,i+1,hi,h=>by
  rw[okL]at h;exact uDK (l:=r) i (by simpa using hi) h.2
theorem gQ(v:Say)(R C:AxV):∀ (l:List Tree) (k:Nat),(bE v R C l).take k=bE v R C (l.take k)
 | [],k=>by simp[bE]
 |t::r,0=>by simp[bE]
 |t::r,k+1=>by rw[bE,List.take_succ_cons,List.take_succ_cons,bE,gQ v R C r k]
theorem sK(v:Say)(R C:AxV):∀ (l:List Tree) (k:Nat),(bE v R C l).drop k=bE v R C (l.drop k)
 | [],k=>by simp[bE]
 |t::r,0=>rfl
 |t::r,k+1=>by rw[bE,List.drop_succ_cons,List.drop_succ_cons,sK v R C r k]
theorem qC{k:Int}:∀ {l:List Tree} (n:Nat),aT l k=true->aT (l.take n) k=true
 | [],_,_=>by simp[aT]
 |_::_,0,_=>by simp[aT]
 |t::r,n+1,h=>by
  simp only[aT,yh]at h;rw[List.take_succ_cons,aT,h.1.1,h.1.2,qC n h.2];rfl
theorem TreeP.one{P:Nat->Prop}{W:World}{t:Tree}{ci:List Value}(h:TreeP P W t ci.toArray):ci.toArray.all (·.oneCell')=true:=by
 obtain⟨A,cp,e,_⟩:=h;rw[e];exact rP _ _ _ _
theorem uDQ{k:Int}:∀ {l:List Tree} (n:Nat),aT l k=true->aT (l.drop n) k=true
 | [],_,_=>by simp[aT]
 |_::_,0,h=>h
 |t::r,n+1,h=>by
  simp only[aT,yh]at h;exact uDQ (l:=r) n h.2
theorem uBP(l:List Tree)(k:Nat):aM (l.take k)<=aM l:=by
 have:=kS (l.take k) (l.drop k);rw[List.take_append_drop]at this;omega
theorem one_of:∀ {l:List Tree},l.length=1->∃ a,l=[a]
 | [a],_=>⟨a,rfl⟩
theorem two_of:∀ {l:List Tree},l.length=2->∃ a b,l=[a,b]
 | [a,b],_=>⟨a,b,rfl⟩
theorem TreeP.cells{P:Nat->Prop}{W:World}{t:Tree}{ci:List Value}(h:TreeP P W t ci.toArray):∃ A n c,ci.toArray=aH t.h A n c:=by
 obtain⟨A,cp,e,_⟩:=h;exact⟨A,_,cp,e⟩
theorem vE{t:Tree}{k:Int}(h:t.right k=true):t.h.kind=6->lO t.h.name=true:=by
 obtain⟨th,l⟩:=t;intro e;exact(gN (cY h).1 e).1
abbrev SayK(p:Nat)(X:List Nat)(sff:FuncId)(sfx:Array Value)(v:Say)(W:World):Prop:=∀ W',Kw p X W W'->yT sff sfx v W'
def tL(p m:Nat)(rp cp:Option Nat)(R C:AxV)(sff:FuncId)(sfx:Array Value)(v:Say)(t:Tree):Prop:=∀ (W:World) (ts:List RTok) (Cn:List Value),WrS W p m rp cp R C (sfX sff sfx) ts->SayK p (rp.toList++cp.toList) sff sfx v W->TreeP (PLo p (rp.toList++cp.toList)) W t Cn.toArray->ts.length+6*t.size<=600000 ->
 Calls Tryz.prog 74 #[vP p 0,.agg Cn.toArray] W fun e w'=>WrO p m rp cp R C (sfX sff sfx) (ts++t.toks v R C) W e w'
theorem rL{sff:FuncId}{sfx:Array Value}{v:Say}{p m:Nat}{rp cp:Option Nat}{R C:AxV}{A:Option Addr}{l:List Tree}{kd:Int}(lo n ca:Nat)(ji:lo+n<=l.length)(g o:Nat)(hA2:0<n->A=some ⟨g,o,none⟩)(A':Option Addr)(hA3:0<n->A'=some ⟨g,o+lo*22,none⟩)(hr:aT l kd=true)(hk:∀ i (hi:i<l.length),tL p m rp cp R C sff sfx v (l[i]'hi))(w:World)(ts:List RTok)(hw:WrS w p m rp cp R C (sfX sff sfx) ts)(da:SayK p (rp.toList++cp.toList) sff sfx v w)(hP:KidsPO (PLo p (rp.toList++cp.toList)) w A l)(hn:ts.length+6*aM ((l.drop lo).take n)+4<=600000)(hn3:n<=100000) :
  Calls Tryz.prog 136 #[vP p 0,.slice A' n ca] w fun e w'=>WrO p m rp cp R C (sfX sff sfx) (ts++bX (((bE v R C l).drop lo).take n)) w e w':=by
 obtain⟨L,hL⟩:∃ L,L=(l.drop lo).take n:=⟨_,rfl⟩
 have e0:((bE v R C l).drop lo).take n=bE v R C L:=by rw[sK,gQ,hL]
 have hrL:aT L kd=true:=by rw[hL];exact qC n (uDQ lo hr)
 have hLl:L.length=n:=by rw[hL,zc,yk];omega
 rw[e0];rw[<- hL]at hn;have hsub:∀ k,(bX ((bE v R C L).take k)).length<=6*aM (L.take k):=by
  intro k;have h1:=kL ((bE v R C L).take k);have h3:=iM v R C (L.take k) kd (qC k hrL);rw[gQ,cV]at h1;rw[gQ];omega
 have key:=uFY (p:=p) (m:=m) (rp:=rp) (cp:=cp) (R:=R) (C:=C) (sf:=(sfX sff sfx)) (ts:=ts) A' ca (bE v R C L) w hw (fun k ft=>?_) (by rw[cV,hLl];exact hn3) (fun k=>by have:=hsub k;have:=uBP L k;omega)
 ·rw[cV,hLl]at key;exact key
 rw[cV,hLl]at ft;have hi:lo+k<l.length:=by omega
 obtain⟨g',og,ci,e1,dq,dy⟩:=fC hP (lo+k) hi;have e2:=hA2 (by omega);rw[e2]at e1;injection e1 with e1;injection e1 with e1 e3 _;subst e1 e3;refine⟨g,o+lo*22,ci,hA3 (by omega),dq,((dy w (KP.refl _ _)).2).one,fun W ts' hs ri=>?_⟩;obtain⟨c1,c2⟩:=dy W (Kw.kp ri hw);refine⟨by rw[show o+lo*22+k*22=o+(lo+k)*22 by omega];exact c1,fun hb=>?_⟩;have hkL:k<L.length:=by omega
 have eL:L[k]'hkL=l[lo+k]'hi:=by
  subst hL;rw[List.getElem_take,List.getElem_drop]
 have e4:(bE v R C L)[k]'(by rw[cV];exact hkL)=(l[lo+k]'hi).toks v R C:=by
  rw[uV _ _ _ L k hkL,eL]
 rw[e4];refine hk (lo+k) hi W ts' ci hs (fun W' h'=>da W' (ri.trans h')) c2 ?_;have h3:=hsub k;have h6:aM (L.take k)+(l[lo+k]'hi).size<=aM L:=by
  have e7:=congrArg aM (List.take_append_drop k L);rw[kS,yx hkL,aM,eL]at e7;omega
 omega
theorem gX{sff:FuncId}{sfx:Array Value}{v:Say}{p m:Nat}{rp cp:Option Nat}{R C:AxV}{t:Tree}{kd:Int}(hr:t.right kd=true)(hk:tL p m rp cp R C sff sfx v t){w:World}{ts0:List RTok}(hw:WrS w p m rp cp R C (sfX sff sfx) ts0)(da:SayK p (rp.toList++cp.toList) sff sfx v w){g o:Nat}{ci:List Value}(dy:∀ W,KP (PLo p (rp.toList++cp.toList)) w W->W.rangeAt g o ci/\TreeP (PLo p (rp.toList++cp.toList)) W t ci.toArray)(lev:Int) :
  ∀ W ts',WrS W p m rp cp R C (sfX sff sfx) ts'->Kw p (rp.toList++cp.toList) w W->ts'.length+6*t.size+2<=600000->Calls Tryz.prog 134 #[vP p 0,.agg ci.toArray,vI lev] W fun e w'=>WrO p m rp cp R C (sfX sff sfx) (ts'++eZ (eU t) lev (t.toks v R C)) W e w':=fun W ts' hs ri hb=>by
 obtain⟨A,n,c,e⟩:=(dy w (KP.refl _ _)).2.cells;have hl:=kE v R C t kd hr;rw[uEX];exact yP t.h A n c ci lev (t.toks v R C) W (zh e) hs (vE hr) (by omega) (fun W2 qq iz er hb2=>hk W2 qq ci iz (fun W' h'=>da W' ((ri.trans er).trans h')) ((dy W2 (Kw.kp (ri.trans er) hw)).2) (by omega))
theorem uAN{sff:FuncId}{sfx:Array Value}{v:Say}{p m:Nat}{rp cp:Option Nat}{R C:AxV}{t:Tree}{kd:Int}{N:Nat}(hr:t.right kd=true)(ho:t.ok N)(ap:t.size<=1000)(hk:∀ i (hi:i<t.l.length),tL p m rp cp R C sff sfx v (t.l[i]'hi)):tL p m rp cp R C sff sfx v t:=by
 intro W ts Cn hw da hP hn;have rm:=kE v R C t kd hr;obtain⟨⟨kind,vv,s,a,b,r⟩,l⟩:=t;obtain⟨A,ca,ai,l9,qr⟩:=hP;replace hk:∀ i (hi:i<l.length),tL p m rp cp R C sff sfx v (l[i]'hi):=hk
 replace ai:Cn.toArray=aH ⟨kind,vv,s,a,b,r⟩ A l.length ca:=ai;replace l9:l.length<=ca:=l9;replace qr:KidsPO (PLo p (rp.toList++cp.toList)) W A l:=qr;obtain⟨h1,h2⟩:=cY hr;rw[Tree.ok]at ho;obtain⟨⟨m1,m2,fa,fb,_,_⟩,hol⟩:=ho;replace fa:a.fits:=fa;replace fb:b.fits:=fb;have hs0:(Tree.mk ⟨kind,vv,s,a,b,r⟩ l).size=aM l+1:=by rw[Tree.size]
 rw[hs0]at hn ap rm;have hlen:=fun(j:Nat) (hj:j<l.length)=>oG (l:=l) j hj
 have pz:l.length<=aM l:=by
  have:∀ l:List Tree,l.length<=aM l:=by
   intro l
   induction l with
   |nil=>simp
   |cons t r ih=>
    have:1<=t.size:=by cases t;rw[Tree.size];omega
    rw[yi,aM];omega
  exact this l
 rcases pJ h1 with q |(q|q)|q|q|q|q|q|q|q
 ·have q:kind=0:=q;subst q;have e:(Tree.mk ⟨0,vv,s,a,b,r⟩ l).toks v R C=kX vv:=by rw[Tree.toks];unfold eD;rw[if_pos rfl]
  rw[e];obtain⟨g1,g2⟩:=lW h1 rfl;exact uGA vv s a b r A _ ca Cn (kX vv) W (zh ai) hw (fun W hs=>wE vv W hs (by omega) g1 g2)
 ·have q:kind=1:=q;subst q;have e:(Tree.mk ⟨1,vv,s,a,b,r⟩ l).toks v R C=iE v R C ⟨1,vv,s,a,b,r⟩:=by rw[Tree.toks];unfold eD;rw[if_neg (by show ¬ (1:Int)=0;omega),if_pos (.inl rfl)]
  rw[e];exact uGC vv s a b r A _ ca Cn _ W (zh ai) hw (fun W hs ri=>sT ⟨1,vv,s,a,b,r⟩ A _ ca Cn W ai hs (by omega) (.inl rfl) fa (fun W' h'=>da W' (ri.trans h')))
 ·have q:kind=3:=q;subst q;have e:(Tree.mk ⟨3,vv,s,a,b,r⟩ l).toks v R C=iE v R C ⟨3,vv,s,a,b,r⟩:=by rw[Tree.toks];unfold eD;rw[if_neg (by show ¬ (3:Int)=0;omega),if_pos (.inr rfl)]
  rw[e];exact yI vv s a b r A _ ca Cn _ W (zh ai) hw (fun W hs ri=>sT ⟨3,vv,s,a,b,r⟩ A _ ca Cn W ai hs (by omega) (.inr rfl) fa (fun W' h'=>da W' (ri.trans h')))
 ·have q:kind=2:=q;subst q;have e:(Tree.mk ⟨2,vv,s,a,b,r⟩ l).toks v R C=jJ v R C a b:=by rw[Tree.toks];unfold eD;rw[if_neg (by show ¬ (2:Int)=0;omega),if_neg (by show ¬ ((2:Int)=1\/(2:Int)=3);omega),if_pos rfl]
  rw[e];exact uCF vv s a b r A _ ca Cn _ W (zh ai) hw (fun W hs ri=>uCM ⟨2,vv,s,a,b,r⟩ W hs (by omega) fa fb (xO h1 rfl).1 (fun W' h'=>da W' (ri.trans h')))
 ·have q:kind=4:=q;subst q;have e:(Tree.mk ⟨4,vv,s,a,b,r⟩ l).toks v R C=[tk 3 s,tk 5 [40]]++bX (bE v R C l)++[tk 5 [41]]:=by
   rw[Tree.toks];unfold eD;rw[if_neg (by show ¬ (4:Int)=0;omega),if_neg (by show ¬ ((4:Int)=1\/(4:Int)=3);omega),if_neg (by show ¬ (4:Int)=2;omega),if_pos rfl];simp
  rw[e]at rm ⊢;refine uCG vv s a b r A _ ca Cn _ W (zh ai) hw _ rfl (by omega) (fun W2 qq iz er hb2=>?_);have hP2:=qr.keep (Kw.kp er hw);obtain⟨g,o,hA⟩:∃ g o,0<l.length->A=some ⟨g,o,none⟩:=by
   rcases qr with h0|⟨g,o,e,_⟩
   ·have h0:l=[]:=h0;exact⟨0,0,fun h=>by rw[h0]at h;simp at h⟩
   exact⟨g,o,fun _=>e⟩
  have hz4:=uBP (l.drop 0) l.length;rw[List.drop_zero]at hz4;have key:=rL (p:=p) (m:=m) (rp:=rp) (cp:=cp) (R:=R) (C:=C) (A:=A) (l:=l) (kd:=4) 0 l.length ca (by omega) g o hA A (fun h=>by rw[hA h,Nat.zero_mul,Nat.add_zero]) h2 hk W2 qq iz (fun W' h'=>da W' (er.trans h')) hP2 (by rw[List.drop_zero];omega) (by omega);rw[List.drop_zero,List.take_of_length_le (by rw[cV];exact zr)]at key;exact key
 ·have q:kind=5:=q;subst q;obtain⟨hu,bg⟩:=oC h1 rfl;obtain⟨t0,rfl⟩:=one_of bg;have kn:=(gO (l:=[t0]) 0 (by simp) h2).1;have oq:=hk 0 (by simp);have m6:t0.size+0=aM [t0]:=by simp[aM]
  obtain⟨g,og,ci,hA,dq,dy⟩:=fC qr 0 (by simp);simp only[List.getElem_cons_zero,Nat.zero_mul,Nat.add_zero]at kn oq dy;by_cases hs:s=[37]
  ·have e:(Tree.mk ⟨5,vv,s,a,b,r⟩ [t0]).toks v R C=eZ (eU t0) 7 (t0.toks v R C)++[tk 5 [37]]:=by
    rw[Tree.toks];unfold eD;rw[if_neg (by show ¬ (5:Int)=0;omega),if_neg (by show ¬ ((5:Int)=1\/(5:Int)=3);omega),if_neg (by show ¬ (5:Int)=2;omega),if_neg (by show ¬ (5:Int)=4;omega),if_pos rfl,if_pos (by exact hs),hs];rfl
   rw[e]at rm ⊢;exact yH vv s a b r A _ ca Cn _ W (zh ai) hw g og ci dq hA hs rfl _ rfl (by omega) (fun W2 qq iz er=>(dy W2 (Kw.kp er hw)).1) (fun W2 qq iz er hb2=>gX kn oq hw da dy 7 W2 qq iz er (by omega))
  have e:(Tree.mk ⟨5,vv,s,a,b,r⟩ [t0]).toks v R C=tk 5 s::eZ (eU t0) 6 (t0.toks v R C):=by
   rw[Tree.toks];unfold eD;rw[if_neg (by show ¬ (5:Int)=0;omega),if_neg (by show ¬ ((5:Int)=1\/(5:Int)=3);omega),if_neg (by show ¬ (5:Int)=2;omega),if_neg (by show ¬ (5:Int)=4;omega),if_pos rfl,if_neg (by exact hs)];rfl
  rw[e]at rm ⊢;exact uCJ vv s a b r A _ ca Cn _ W (zh ai) hw g og ci dq hA (beq_eq_false_iff_ne.2 hs) rfl _ rfl (by omega) (fun W2 qq iz er=>(dy W2 (Kw.kp er hw)).1) (fun W2 qq iz er hb2=>gX kn oq hw da dy 6 W2 qq iz er (by omega))
 ·have q:kind=6:=q;subst q;obtain⟨hu,hn2⟩:=gN h1 rfl;obtain⟨t0,t1,rfl⟩:=two_of hn2;have kn:=(gO (l:=[t0,t1]) 0 (by simp) h2).1;have oq:=hk 0 (by simp);have i7:=(gO (l:=[t0,t1]) 1 (by simp) h2).1;have fw:=hk 1 (by simp);have m6:t0.size+t1.size=aM [t0,t1]:=by simp[aM]
  obtain⟨g,og,ci,hA,dq,dy⟩:=fC qr 0 (by simp);obtain⟨g',og',cj,hA',h22',hcj⟩:=fC qr 1 (by simp);rw[hA]at hA';injection hA' with hA';injection hA' with e1 e2 _;subst e1 e2;simp only[List.getElem_cons_zero,List.getElem_cons_succ,Nat.zero_mul,Nat.one_mul,Nat.add_zero]at kn oq dy i7 fw hcj;have mi:0<=bU s/\bU s<=8:=by
   unfold bU
   repeat' split
   all_goals omega
  have e:(Tree.mk ⟨6,vv,s,a,b,r⟩ [t0,t1]).toks v R C=eZ (eU t0) (bU s) (t0.toks v R C)++tk 5 s::eZ (eU t1) (bU s+1) (t1.toks v R C):=by
   rw[Tree.toks];unfold eD;rw[if_neg (by show ¬ (6:Int)=0;omega),if_neg (by show ¬ ((6:Int)=1\/(6:Int)=3);omega),if_neg (by show ¬ (6:Int)=2;omega),if_neg (by show ¬ (6:Int)=4;omega),if_neg (by show ¬ (6:Int)=5;omega),if_pos rfl];rfl
  have hw0:=iN (eU t0) (bU s) (t0.toks v R C);have ed:=kE v R C t0 6 kn;rw[e]at rm ⊢;exact uGD vv s a b r A _ ca Cn _ W (zh ai) hw g og ci dq hA cj h22' (bU s) mi.1 mi.2 rfl _ _ rfl (by omega) (fun W2 qq iz er=>⟨(dy W2 (Kw.kp er hw)).1,(hcj W2 (Kw.kp er hw)).1⟩)
   (fun W2 iz=>sO ⟨6,vv,s,a,b,r⟩ A _ ca Cn W2 (zh ai) iz (fun _=>hu))
   (fun W2 qq iz er hb2=>gX kn oq hw da dy _ W2 qq iz er (by omega))
   (fun W2 qq iz er hb2=>gX i7 fw hw da hcj _ W2 qq iz er (by omega))
 ·have q:kind=7:=q;subst q;have e:(Tree.mk ⟨7,vv,s,a,b,r⟩ l).toks v R C=[tk 3 s]:=by
   rw[Tree.toks];unfold eD;rw[if_neg (by show ¬ (7:Int)=0;omega),if_neg (by show ¬ ((7:Int)=1\/(7:Int)=3);omega),if_neg (by show ¬ (7:Int)=2;omega),if_neg (by show ¬ (7:Int)=4;omega),if_neg (by show ¬ (7:Int)=5;omega),if_neg (by show ¬ (7:Int)=6;omega),if_pos rfl]
  rw[e];exact uCH vv s a b r A _ ca Cn _ W (zh ai) hw rfl (by omega)
 ·have q:kind=8:=q;subst q;obtain⟨rr,cc,qi,i7,du,fi⟩:=sD h1 rfl;have qi:r=(rr:Int):=qi;subst qi;have hd:l.length / (rr:Int).toNat=cc:=by rw[Int.toNat_natCast,fi];exact Nat.mul_div_cancel_left cc (by omega)
  have e:(Tree.mk ⟨8,vv,s,a,b,(rr:Int)⟩ l).toks v R C=dI cc (bE v R C l) rr++[tk 5 [125]]:=by
   rw[Tree.toks];unfold eD;rw[if_neg (by show ¬ (8:Int)=0;omega),if_neg (by show ¬ ((8:Int)=1\/(8:Int)=3);omega),if_neg (by show ¬ (8:Int)=2;omega),if_neg (by show ¬ (8:Int)=4;omega),if_neg (by show ¬ (8:Int)=5;omega),if_neg (by show ¬ (8:Int)=6;omega),if_neg (by show ¬ (8:Int)=7;omega),if_pos rfl,cV];show dI (l.length / (rr:Int).toNat) _ (rr:Int).toNat++_=_;rw[hd,Int.toNat_natCast]
  have jp:0<l.length:=by rw[fi];exact Nat.mul_pos (by omega) (by omega)
  obtain⟨g,o,hA⟩:∃ g o,A=some ⟨g,o,none⟩:=by
   rcases qr with h0|⟨g,o,e,_⟩
   ·have h0:l=[]:=h0;rw[h0]at jp;simp at jp
   exact⟨g,o,e⟩
  subst hA;have hsum:=iM v R C l 8 h2;have bp:∀ i,(dI cc (bE v R C l) i).length<=fN (bE v R C l)+i*cc+i:=fun i=>by
   have:=kO cc (bE v R C l) i;have:=uT (bE v R C l) (i*cc);omega
  have vx:∀ i,(dI cc (bE v R C l) i).length<=600000\/rr<i:=fun i=>by
   rcases Nat.lt_or_ge rr i with h|h
   ·exact .inr h
   have h3:=bp i;have h4:i*cc<=l.length:=by rw[fi];exact Nat.mul_le_mul_right cc h
   have h5:i<=i*cc:=Nat.le_mul_of_pos_right i du;exact .inl (by omega)
  rw[e];refine uGB vv s a b (rr:Int) _ _ ca Cn _ W (zh ai) hw (fun W2 iz er=>?_);refine yG ⟨8,vv,s,a,b,(rr:Int)⟩ g o ca rr cc Cn (bE v R C l) W2 (zh (by rw[<- fi];exact ai)) rfl i7 du (by rw[<- fi];exact l9) (by rw[<- fi];omega) iz (fun i hi W3 ts3 hs3 hk3 dt=>?_) (fun i hi=>?_)
  ·have hP3:=qr.keep (Kw.kp (er.trans hk3) hw);have h4:i*cc+cc<=l.length:=by
    have:=Nat.mul_le_mul_right cc (by omega:i+1<=rr);rw[Nat.succ_mul,<- fi]at this;exact this
   have h5:i<=i*cc:=Nat.le_mul_of_pos_right i du;have h6:=kO cc (bE v R C l) i;have h7:=iM v R C (l.take (i*cc)) 8 (qC _ h2);rw[<- gQ,zc,Nat.min_eq_left (by omega)]at h7;have h8:aM (l.take (i*cc))+aM ((l.drop (i*cc)).take cc)<=aM l:=by
    have e8:=kS (l.take (i*cc)) (l.drop (i*cc));rw[List.take_append_drop]at e8;have:=uBP (l.drop (i*cc)) cc;omega
   exact rL (p:=p) (m:=m) (rp:=rp) (cp:=cp) (R:=R) (C:=C) (A:=some ⟨g,o,none⟩) (l:=l) (kd:=8) (i*cc) cc (ca-i*cc) h4 g o (fun _=>rfl) _ (fun _=>rfl) h2 hk W3 ts3 hs3 (fun W' h'=>da W' ((er.trans hk3).trans h')) hP3 (by omega) (by omega)
  rcases vx i with h|h
  ·have h3:=bp i;have h4:i*cc<=l.length:=by rw[fi];exact Nat.mul_le_mul_right cc hi
   have h5:i<=i*cc:=Nat.le_mul_of_pos_right i du;omega
  omega
 have q:kind=9:=q;subst q;have e:(Tree.mk ⟨9,vv,s,a,b,r⟩ l).toks v R C=[]:=by
  rw[Tree.toks];unfold eD;rw[if_neg (by show ¬ (9:Int)=0;omega),if_neg (by show ¬ ((9:Int)=1\/(9:Int)=3);omega),if_neg (by show ¬ (9:Int)=2;omega),if_neg (by show ¬ (9:Int)=4;omega),if_neg (by show ¬ (9:Int)=5;omega),if_neg (by show ¬ (9:Int)=6;omega),if_neg (by show ¬ (9:Int)=7;omega),if_neg (by show ¬ (9:Int)=8;omega)]
 rw[e];exact uCI vv s a b r A _ ca Cn _ W (zh ai) hw rfl
theorem uGF(sff:FuncId)(sfx:Array Value)(v:Say)(p m:Nat)(rp cp:Option Nat)(R C:AxV)(N:Nat):∀ (n:Nat) (t:Tree),t.size<=n->t.size<=1000->∀ (kd:Int),t.right kd=true->t.ok N->tL p m rp cp R C sff sfx v t:=by
 intro n
 induction n with
 |zero=>intro t h;cases t;rw[Tree.size]at h;omega
 |succ n ih=>
  intro t ap fe kd hr ho;refine uAN hr ho fe (fun i hi=>?_);obtain⟨h,l⟩:=t;have hi:i<l.length:=hi;have h1:=oG (l:=l) i hi;have hs:(Tree.mk h l).size=aM l+1:=by rw[Tree.size]
  rw[hs]at ap fe;rw[Tree.ok]at ho;exact ih _ (by show (l[i]'hi).size<=n;omega) (by show (l[i]'hi).size<=1000;omega) h.kind (gO i hi (cY hr).2).1 (uDK i hi ho.2)
theorem WrS.axG{W W':World}{p m:Nat}{rp cp:Option Nat}{R C:AxV}{sf v:Value}{ts:List RTok}(h:WrS W p m rp cp R C sf ts)(hv:W.cell? ⟨p,4,none⟩=some v)(hg:W.grownBy W' v.ownBlock):AxF W' rp R/\AxF W' cp C/\Gl W'/\Kp v.ownBlock.toList W W'/\∀ g∈v.ownBlock.toList,p<g:=by
 obtain⟨v0,h1,h2⟩:=h.box;have hc:W.cell? ⟨p,4,none⟩=some v0:=h1.cell 4;rw[hv]at hc;injection hc with hc;subst hc;have hvo:=vV h2;have fw:Kp v.ownBlock.toList W W':=(Kp.refl _ W).grown hg (fun g jq=>.inl (by rw[jq];exact .head _));have az:∀ g∈v.ownBlock.toList,p<g:=fun g hm=>(dU.1 (hvo g (by simpa using hm)).1).2.1
 have hY:NoAx W v.ownBlock.toList:=fun y hy _=>by
  obtain⟨_,cs,k⟩:=hvo y (by simpa using hy);exact⟨_,_,k,by decide,by decide,by decide,by decide⟩
 refine⟨h.ax.kp fw hY,h.ay.kp fw hY,h.gl.kp fw (fun b hb=>?_),fw,az⟩;have:=az b hb;obtain⟨q1,q2,q3⟩:=h.pl;exact⟨by omega,by omega,by omega⟩
theorem Gl.low{w:World}(h:Gl w){p:Nat}(hp:w.heap.size<=p):iD p:=by
 refine⟨yu h.tab.lt hp,?_,?_⟩
 ·have hw:=h.pow;unfold PowTab Lib.TabIs World.var? at hw;rw[gPow]at hw;simp only[Option.bind_some]at hw;rcases Nat.lt_or_ge 4 w.heap.size with h'|h'
  ·omega
  rw[Array.getElem?_eq_none h']at hw;cases hw
 obtain⟨m,hm⟩:=h.mx;have:=pX hm;omega
theorem uEQ{W:World}{g:Nat}{t:TypeId}{cs:List Value}{C:Array Value}(hl:Lies W g t C)(e:C=cs.toArray):∀ j u,cs[j]?=some u->W.cell? ((⟨g,0,none⟩:Addr).add j)=some u:=fun j u hj=>by
 have e':(⟨g,0,none⟩:Addr).add j=⟨g,j,none⟩:=by cases j <;> simp[Addr.add]
 rw[e',hl.cell j,e];simpa using hj
def endT:RTok:=⟨0,[],0⟩
theorem wF(sf:Value)(t:Tree)(rp cp:Option Nat)(Cn:List Value)(w:World)(hP:TreeIn w t Cn.toArray)(hf:t.fine)(ap:t.size<=1000)(hc:cL t≠0) :
  Calls Tryz.prog 33 #[.agg Cn.toArray,.pointer (ptr rp),.pointer (ptr cp),sf] w fun e w'=>e=.returned (vS #[])/\Below w.heap.size w w':=by
 obtain⟨W0,aj⟩:=zD (w.alloc (.cells Cn.toArray 34))
 have ak:=zh aj;have aq:=zA aj;have HL:=zL aj;have dq:Cn.length=22:=by
  obtain⟨A,ko,e,_⟩:=hP;exact jI e
 have bj:=zh (cN dq);have xt:TreeIn W0 t Cn.toArray:=by
  obtain⟨A,ko,e,hk⟩:=hP;refine⟨A,ko,e,hk.kp ((Kp.of_below aq.out).mono (Y:=[]) (fun k hk _=>by cases hk))⟩
 have CC:=zh (qL t Cn.toArray W0 xt (by omega) hf);have dy:((cL t:Int) != 0)=true:=by simp;omega
 clear aj hP xt hf ap hc dq;generalize cL t=ck at *
 go_in
 go_upto_region 1 with fail
 rw[<- ak.out];clear ak
 go_wp2_with (first
  |(refine yr rfl 34 (.tmp 4) rfl w.heap.size 0 rfl Cn _ HL.out.rangeM Tryz.underlying34 rfl bj.out ?_)
  |((with_reducible refine CC.out.mono ?_);rintro e wx ⟨rfl,hb⟩;have bf:=zT aq hb;clear hb))
 go_ret
 exact⟨rfl,bf.out⟩
theorem yO(sff:FuncId)(sfx:Array Value)(v:Say)(hv:v.ok)(t:Tree)(N:Nat)(rp cp:Option Nat)(R C:AxV)(Cn:List Value)(w:World)(hP:TreeP (fun g=>g∉rp.toList++cp.toList) w t Cn.toArray)(hf:t.fine)(ho:t.ok N)(hR:AxF w rp R)(hC:AxF w cp C)(cg:∀ b,rp=some b->cp≠some b)(hg:Gl w)(ji:∀ b∈rp.toList++cp.toList,b<w.heap.size/\iD b)(da:∀ W,KP (fun g=>g<w.heap.size/\g∉rp.toList++cp.toList) w W->Gl W->yT sff sfx v W)(hc:cL t=0) :
  Calls Tryz.prog 33 #[.agg Cn.toArray,.pointer (ptr rp),.pointer (ptr cp),(sfX sff sfx)] w fun e w'=>e=.returned (vT (dN none (t.toks v R C++[endT])))/\AxF w' rp R/\AxF w' cp C/\Gl w'/\Kp (rp.toList++cp.toList) w w':=by
 obtain⟨hr,ap⟩:=jA hc;have htl:=kE v R C t 6 hr;have htx:=uDR (v:=v) hv hR.av hC.av t 6 hr;obtain⟨W0,aj⟩:=zD (w.alloc (.cells Cn.toArray 34))
 have ak:=zh aj;have aq:=zA aj;have HL:=zL aj;have hIn:=hP.all;have dq:Cn.length=22:=by
  obtain⟨A,ko,e,_⟩:=hIn;exact jI e
 have bj:=zh (cN dq);have xt:TreeIn W0 t Cn.toArray:=by
  obtain⟨A,ko,e,hk⟩:=hIn;refine⟨A,ko,e,hk.kp ((Kp.of_below aq.out).mono (Y:=[]) (fun k hk _=>by cases hk))⟩
 have CC:=zh (qL t Cn.toArray W0 xt (by omega) hf);rw[hc]at CC;have CV:=zh (fun W=>vR W);have HNk:=zh (fun(p m:Nat)=>uGF sff sfx v p m rp cp R C N 1000 t (by omega) (by omega) 6 hr ho);have lz:Hid (∀ W2,Below w.heap.size w W2->∀ m,LvM W2 m->WrS (W2.alloc (.cells #[.pointer (ptr rp),.pointer (ptr cp),.map (some m),(sfX sff sfx),.slice none 0 0] 135)) W2.heap.size m rp cp R C (sfX sff sfx) []/\TreeP (PLo W2.heap.size (rp.toList++cp.toList)) (W2.alloc (.cells #[.pointer (ptr rp),.pointer (ptr cp),.map (some m),(sfX sff sfx),.slice none 0 0] 135)) t Cn.toArray):=zh (fun W2 hb m hm=>by
  have hb2:Below W2.heap.size W2 (W2.alloc (.cells #[.pointer (ptr rp),.pointer (ptr cp),.map (some m),(sfX sff sfx),.slice none 0 0] 135)):=(zp _);refine⟨⟨⟨.slice none 0 0,Lies.new _ _ _,⟨rfl,.inl ⟨rfl,rfl⟩⟩⟩,(hR.next hb).next hb2,(hC.next hb).next hb2,cg,hm.at (hb2.block _ hm.lt),(hg.next hb).next hb2,fun b um=>⟨yu (ji b um).1 hb.size,(ji b um).2⟩,hg.low hb.size,hm.lt⟩,?_⟩;have fw:KP (fun g=>g<w.heap.size/\g∉rp.toList++cp.toList) w (W2.alloc (.cells #[.pointer (ptr rp),.pointer (ptr cp),.map (some m),(sfX sff sfx),.slice none 0 0] 135)):=⟨yv hb.size hb2.size,fun g jq=>(hb2.block g (yu jq.1 hb.size)).trans (hb.block g jq.1)⟩
  have h1:TreeP (fun g=>g<w.heap.size/\g∉rp.toList++cp.toList) w t Cn.toArray:=hP.imp (fun g iy li=>⟨li,iy⟩);exact(h1.keep fw).imp (fun g iy _=>⟨yu iy.1 hb.size,iy.2⟩))
 obtain⟨i1,gi,gz0,gz1,gz2⟩:=info_parts rA;have HJ:=zh (fun(A:Option Addr) (c:Nat) (W:World) (vg:RIn W A (t.toks v R C++[endT])) (hm:MaxVar W)=>show Calls Tryz.prog 25 #[.slice A ((t.toks v R C).length+1) c] W _ from by
  have h:=join_any A c (t.toks v R C++[endT]) W (by simp;omega) (fun x hx=>by
   rcases List.mem_append.1 hx with hx|hx
   ·exact(htx x hx).1
   rw[yf.1 hx];decide) vg hm
  rw[yl]at h;exact h)
 have HTl:Hid ((t.toks v R C).length<=1600):=zh (by omega);have kl:Hid (t.size<=256):=zh ap;have HSay:=zh da;clear da hv;clear aj hP hIn xt hf ho hR hC cg hg ji hc hr ap htl htx dq
 go_in
 go_upto_region 1 with fail
 rw[<- ak.out];clear ak
 go_upto_region 4 with(first
  |(refine yr rfl 34 (.tmp 4) rfl w.heap.size 0 rfl Cn _ HL.out.rangeM Tryz.underlying34 rfl bj.out ?_)
  |((with_reducible refine CC.out.mono ?_);rintro e W1 ⟨rfl,hb⟩;have bf:=zT aq hb;have iu:=zh (HL.out.next hb);clear hb HL CC)
  |((with_reducible refine(CV.out _).mono ?_);rintro e W2 ⟨rfl,hl,hb⟩;have ba:=zT bf hb;have gw:=zh (iu.out.next hb);have HLv:=zh hl;clear hb hl iu))
 obtain⟨hs,htp⟩:=lz.out W2 ba.out _ HLv.out;obtain⟨W3,jk⟩:=zD (W2.alloc (.cells #[.pointer (ptr rp),.pointer (ptr cp),.map (some W1.heap.size),(sfX sff sfx),.slice none 0 0] 135))
 rw[<- jk]at hs htp ⊢;have vp:Hid (Lies W3 w.heap.size 34 Cn.toArray):=zh (by rw[jk];exact gw.out.alloc _);have bi:=zF ba jk;have ju:Hid (w.heap.size<=W2.heap.size):=zh ba.out.size;obtain⟨p,hp⟩:=zD W2.heap.size
 obtain⟨m,hm⟩:=zD W1.heap.size
 rw[<- hp,<- hm]at hs;rw[<- hp]at htp ju ⊢;rw[<- hm];have HSy:SayK p (rp.toList++cp.toList) sff sfx v W3:=fun W' ft=>HSay.out W' ⟨yv bi.out.size (Kw.kp ft hs).size,fun g jq=>((Kw.kp ft hs).at' g ⟨yu jq.1 ju.out,jq.2⟩).trans (bi.out.block g jq.1)⟩ (hs.glw ft)
 have CN:=zh (HNk.out p m W3 [] Cn hs HSy htp (by have:=kl.out;simp;omega));rw[List.nil_append]at CN;have ou:=zh hs;clear HSy HSay;clear hs htp jk hp hm lz HNk CV gw HLv bf ba;obtain⟨qh,htk⟩:∃ x,x=t.toks v R C:=⟨_,rfl⟩
 rw[<- htk]at CN HJ HTl;have HTk:=zh htk;have htl:=HTl.out;clear htk
 go_wp2_with (first
  |(refine yr rfl 34 (.tmp 4) rfl w.heap.size 0 rfl Cn _ vp.out.rangeM Tryz.underlying34 rfl bj.out ?_)
  |((with_reducible refine CN.out.mono ?_);rintro e W4 ⟨rfl,hs4,om⟩;obtain⟨v4,hl4,sw⟩:=hs4.box;obtain⟨A4,c4,rfl⟩:=aY sw;have k4:W4.cell? ⟨p,4,none⟩=some (.slice A4 qh.length c4):=hl4.cell 4;have hpl:=hl4.lt;obtain⟨W5,dr⟩:=zD (W4.alloc (.cells #[vI 0,vS #[],vI 0] 64));have bk:=zA dr;have lx:=zh (hs4.next bk.out);have nt:=zh (aL bk.out sw);have fv:=zh om;have di:=zL dr;have HW5:=zh dr;have HC5:Hid (W5.cell? ⟨p,4,none⟩=some (.slice A4 qh.length c4)):=zh ((hl4.next bk.out).cell 4);clear hs4 om hl4 sw dr)
  |(at_builtin;rw[<- HW5.out];refine wpList_append_own (P:=Tryz.prog) _ rfl _ _ 60 rfl (p+1) 64 i1 (.agg #[vI 0,vS #[],vI 0]) 3 32 Tryz.underlying60 gi gz0 gz1 gz2 rfl (by decide) (.slice A4 qh.length c4) qh.length (jD qh) rfl nt.out ⟨W4.heap.size,0,none⟩ 1 1 (fM endT) rfl rfl (uEQ di.out rfl) (lP _) (by unfold maxLen;omega) (by omega) (Nat.succ_le_of_lt lx.out.lt) (fun v' w' k1 k2 _=>?_);obtain⟨A6,c6,rfl⟩:=aY k1;rw[<- oE]at k1;have HIn:Hid (RIn w' A6 (qh++[endT])):=zh (rIn_ownK (by rw[yl];exact k1));have HG:=zh (lx.out.axG HC5.out k2);clear k1 k2 k4)
  |((with_reducible refine(HJ.out A6 c6 _ HIn.out HG.out.2.2.1.mx).mono ?_);rintro e w7 ⟨rfl,hb⟩;have o8:=zh hb;clear hb))
 go_ret
 refine⟨by(rw[HTk.out]) <;> rfl,HG.out.1.next o8.out,HG.out.2.1.next o8.out,HG.out.2.2.1.next o8.out,?_⟩;have h1:Kp (rp.toList++cp.toList) w W4:=Kp.andThen (Kp.of_below bi.out) fv.out (fun g hg=>by
  rcases ym.1 hg with rfl|hg
  ·exact .inr ju.out
  rcases List.mem_append.1 hg with hg|hg
  ·exact .inl hg
  have:=(dU.1 hg).2.1;have:=ju.out;exact .inr (by omega))
 have h2:Kp (rp.toList++cp.toList) w W5:=h1.trans (Kp.of_below bk.out);have h3:=Kp.andThen h2 HG.out.2.2.2.1 (fun g hg=>by
  have:=HG.out.2.2.2.2 g hg;have:=ju.out;exact .inr (by omega))
 exact h3.trans (Kp.of_below o8.out)
theorem nG(sff:FuncId)(sfx:Array Value)(v:Say)(hv:v.ok)(t:Tree)(N:Nat)(rp cp:Option Nat)(R C:AxV)(Cn:List Value)(w:World)(hP:TreeP (fun g=>g∉rp.toList++cp.toList) w t Cn.toArray)(hf:t.fine)(ho:t.ok N)(ap:t.size<=1000)(hR:AxF w rp R)(hC:AxF w cp C)(cg:∀ b,rp=some b->cp≠some b)(hg:Gl w)(ji:∀ b∈rp.toList++cp.toList,b<w.heap.size/\iD b)(da:∀ W,KP (fun g=>g<w.heap.size/\g∉rp.toList++cp.toList) w W->Gl W->yT sff sfx v W) :
  Calls Tryz.prog 33 #[.agg Cn.toArray,.pointer (ptr rp),.pointer (ptr cp),(sfX sff sfx)] w fun e w'=>e=.returned (vT (eG v R C t))/\AxF w' rp R/\AxF w' cp C/\Gl w'/\Kp (rp.toList++cp.toList) w w':=by
 unfold eG;by_cases hc:cL t=0
 ·rw[if_neg (by omega)];exact yO sff sfx v hv t N rp cp R C Cn w hP hf ho hR hC cg hg ji da hc
 rw[if_pos hc];refine(wF (sfX sff sfx) t rp cp Cn w hP.all hf ap hc).mono ?_;rintro e w' ⟨rfl,hb⟩;exact⟨rfl,hR.next hb,hC.next hb,hg.next hb,Kp.of_below hb⟩
theorem TreeP.box{X:List Nat}{w W:World}{t:Tree}{cs:Array Value}(h:TreeP (fun g=>g∉X) w t cs)(hb:Below w.heap.size w W):TreeP (fun g=>g∉X) W t cs:=by
 have h1:TreeP (fun g=>g<w.heap.size/\g∉X) w t cs:=h.imp (fun g iy li=>⟨li,iy⟩);exact(h1.keep ⟨hb.size,fun g hg=>hb.block g hg.1⟩).imp (fun g iy _=>iy.2)
theorem yN(t:Tree)(N:Nat)(rp cp:Option Nat)(R C:AxV)(Cn:List Value)(w:World)(hP:TreeP (fun g=>g∉rp.toList++cp.toList) w t Cn.toArray)(hf:t.fine)(ho:t.ok N)(ap:t.size<=1000)(hR:AxF w rp R)(hC:AxF w cp C)(cg:∀ b,rp=some b->cp≠some b)(hg:Gl w)(ji:∀ b∈rp.toList++cp.toList,b<w.heap.size/\iD b) :
  Calls Tryz.prog 33 #[.agg Cn.toArray,.pointer (ptr rp),.pointer (ptr cp),.func (.func 34) #[] #[]] w fun e w'=>e=.returned (vT (eG .plain R C t))/\AxF w' rp R/\AxF w' cp C/\Gl w'/\Kp (rp.toList++cp.toList) w w':=by
 exact nG 34 #[] .plain trivial t N rp cp R C Cn w hP hf ho ap hR hC cg hg ji (fun W _ hgl=>uBN hgl.pow)
theorem wD(t:Tree)(N:Nat)(rp cp:Option Nat)(R C:AxV)(Cn:List Value)(w:World)(hP:TreeP (fun g=>g∉rp.toList++cp.toList) w t Cn.toArray)(hf:t.fine)(ho:t.ok N)(ap:t.size<=1000)(hR:AxF w rp R)(hC:AxF w cp C)(cg:∀ b,rp=some b->cp≠some b)(hg:Gl w)(ji:∀ b∈rp.toList++cp.toList,b<w.heap.size/\iD b) :
  Calls Tryz.prog 13 #[.agg Cn.toArray,.pointer (ptr rp),.pointer (ptr cp)] w fun e w'=>e=.returned (vT (eG .plain R C t))/\AxF w' rp R/\AxF w' cp C/\Gl w'/\Kp (rp.toList++cp.toList) w w':=by
 obtain⟨W0,aj⟩:=zD (w.alloc (.cells Cn.toArray 34))
 have ak:=zh aj;have aq:=zA aj;have HL:=zL aj;have dq:Cn.length=22:=by
  obtain⟨A,ko,e,_⟩:=hP;exact jI e
 have bj:=zh (cN dq);have CW:=zh (yN t N rp cp R C Cn W0 (hP.box aq.out) hf ho ap (hR.next aq.out) (hC.next aq.out) cg (hg.next aq.out) (fun b hb=>⟨yu (ji b hb).1 aq.out.size,(ji b hb).2⟩));clear aj hP hf ho ap hR hC cg hg ji dq;obtain⟨T,hT⟩:=zD (eG .plain R C t)
 rw[<- hT]at CW ⊢;clear hT
 go_in
 go_upto_region 1 with fail
 rw[<- ak.out];clear ak
 go_wp2_with (first
  |(refine yr rfl 34 (.tmp 3) rfl w.heap.size 0 rfl Cn _ HL.out.rangeM Tryz.underlying34 rfl bj.out ?_)
  |((with_reducible refine CW.out.mono ?_);rintro e w' ⟨rfl,h1,h2,h3,h4⟩;have HH:=zh (And.intro h1 (And.intro h2 (And.intro h3 h4)));clear h1 h2 h3 h4))
 go_ret
 exact⟨rfl,HH.out.1,HH.out.2.1,HH.out.2.2.1,(Kp.of_below aq.out).trans HH.out.2.2.2⟩
end Go.Proofs.YtjfihpaeglpblaaGreatDoor
