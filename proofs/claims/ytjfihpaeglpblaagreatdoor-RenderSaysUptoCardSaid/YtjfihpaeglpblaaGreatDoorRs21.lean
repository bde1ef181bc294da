/-
  Lemmas, part 21: RrN RkA RkB RkC RkE RmA RkH PaG.
-/
import Derived.Test.YtjfihpaeglpblaaGreatDoorRs20
set_option maxHeartbeats 100000000
set_option maxRecDepth 1000000
namespace Go.Proofs.YtjfihpaeglpblaaGreatDoor
open Go.RowKit
theorem uFQ{p q:Option Nat}{R C:AxV}{v:Say}(hv:v.ok)(k:Int)(hk:k=1\/k=3)(vv:Val)(s:Bs)(a b:Cor)(r:Int)(A:Option Addr)(n cp:Nat)(Cn:List Value)(af:Cn.toArray=aJ ⟨k,vv,s,a,b,r⟩ A n cp)(w:World)(hp:AxQ w p R)(hq:AxQ w q C) :
  Calls Tryz.prog 36 #[.agg #[.pointer (ptr p),.pointer (ptr q),vI v.r,vI v.c],.agg Cn.toArray] w fun e w'=>TkO w w' e (kE v R C ⟨k,vv,s,a,b,r⟩):=by
 have hP:∀ W,Below w.heap.size w W->Calls Tryz.prog 20 #[.pointer (ptr p),.agg #[vI a.row.a,vI a.row.n]] W fun e w'=>e=.returned (vI (aU R a.row))/\Below W.heap.size W w':=fun W hb=>lD p R a.row W (hp.next hb)
 have hQ:∀ W,Below w.heap.size w W->Calls Tryz.prog 20 #[.pointer (ptr q),.agg #[vI a.col.a,vI a.col.n]] W fun e w'=>e=.returned (vI (aU C a.col))/\Below W.heap.size W w':=fun W hb=>lD q C a.col W (hq.next hb)
 have hR:=jB hp.av a.row;have hC:=jB hq.av a.col;unfold kE;by_cases hx:aU R a.row<0
 ·rw[if_pos (.inl hx)];rcases hk with rfl|rfl
  ·exact nB _ _ v vv s a b r A n cp Cn af _ w _ _ (tk 0 []) (.inl ⟨.inl hx,rfl⟩) hP hQ
  exact nC _ _ v vv s a b r A n cp Cn af _ w _ _ (tk 0 []) _ rfl (.inl ⟨.inl hx,rfl⟩) hP hQ
 by_cases hy:aU C a.col<0
 ·rw[if_pos (.inr hy)];rcases hk with rfl|rfl
  ·exact nB _ _ v vv s a b r A n cp Cn af _ w _ _ (tk 0 []) (.inl ⟨.inr ⟨by omega,hy⟩,rfl⟩) hP hQ
  exact nC _ _ v vv s a b r A n cp Cn af _ w _ _ (tk 0 []) _ rfl (.inl ⟨.inr ⟨by omega,hy⟩,rfl⟩) hP hQ
 rw[if_neg (by show ¬ (aU R a.row<0\/aU C a.col<0);omega)];have hM:∀ W,Calls Tryz.prog 81 #[.agg #[.pointer (ptr p),.pointer (ptr q),vI v.r,vI v.c],.agg #[vI (aU R a.row),vI (aU C a.col),.bool a.fr,.bool a.fc]] W fun e w'=>TkO W w' e [cY v (aU R a.row).toNat (aU C a.col).toNat a.fr a.fc]:=fun W=>by
  obtain⟨i,hi⟩:∃ i:Nat,aU R a.row=(i:Int):=⟨(aU R a.row).toNat,by omega⟩
  obtain⟨j,hj⟩:∃ j:Nat,aU C a.col=(j:Int):=⟨(aU C a.col).toNat,by omega⟩
  rw[hi,hj,Int.toNat_natCast,Int.toNat_natCast];exact pG p q v i j a.fr a.fc W (by omega) (by omega) hv
 rcases hk with rfl|rfl
 ·rw[if_neg (by show ¬ (1:Int)=3;omega)];exact nB _ _ v vv s a b r A n cp Cn af _ w _ _ _ (.inr ⟨by omega,by omega,rfl,hM⟩) hP hQ
 rw[if_pos (by rfl)];exact nC _ _ v vv s a b r A n cp Cn af _ w _ _ _ _ rfl (.inr ⟨by omega,by omega,rfl,hM⟩) hP hQ
theorem uGI{p q:Option Nat}{R C:AxV}{v:Say}(hv:v.ok){t:Tree}{kd:Int}(hr:t.right kd=true)(aq:t.size<=1000)(hk:∀ i (hi:i<t.l.length),uI p q R C v (t.l[i]'hi)):uI p q R C v t:=by
 intro w Cn hp hq hP;have pd:=eF v R C t kd hr;obtain⟨⟨kind,vv,s,a,b,r⟩,l⟩:=t;obtain⟨A,ca,af,li,lx⟩:=hP;replace hk:∀ i (hi:i<l.length),uI p q R C v (l[i]'hi):=hk
 replace af:Cn.toArray=aJ ⟨kind,vv,s,a,b,r⟩ A l.length ca:=af;replace li:l.length<=ca:=li;replace lx:KidsPO iV w A l:=lx;obtain⟨h1,h2⟩:=eD hr;have hs0:(Tree.mk ⟨kind,vv,s,a,b,r⟩ l).size=aM l+1:=by rw[Tree.size]
 rw[hs0]at aq pd;have qg:l.length<=aM l:=by
  have:∀ l:List Tree,l.length<=aM l:=by
   intro l
   induction l with
   |nil=>simp
   |cons t r ih=>
    have:1<=t.size:=by cases t;rw[Tree.size];omega
    rw[yi,aM];omega
  exact this l
 have hsum:=fO v R C l kind h2;rcases qK h1 with z|z|z|z|z|z|z|z|z
 ·have z:kind=0:=z;subst z;have e:(Tree.mk ⟨0,vv,s,a,b,r⟩ l).toks v R C=jQ vv:=by rw[Tree.toks];unfold dM;rw[if_pos rfl]
  rw[e];obtain⟨g1,g2⟩:=mZ h1 rfl;exact rtok_lit _ _ v vv s a b r A _ ca Cn af (jQ vv) w (fun W=>wY vv W g1 g2)
 ·have z:kind=1\/kind=3:=z;have e:(Tree.mk ⟨kind,vv,s,a,b,r⟩ l).toks v R C=kE v R C ⟨kind,vv,s,a,b,r⟩:=by rw[Tree.toks];unfold dM;rw[if_neg (by show ¬ kind=0;omega),if_pos (by exact z)]
  rw[e];exact uFQ hv kind z vv s a b r A _ ca Cn af w hp hq
 ·have z:kind=2:=z;subst z;have e:(Tree.mk ⟨2,vv,s,a,b,r⟩ l).toks v R C=gB v R C a b:=by rw[Tree.toks];unfold dM;rw[if_neg (by show ¬ (2:Int)=0;omega),if_neg (by show ¬ ((2:Int)=1\/(2:Int)=3);omega),if_pos rfl]
  rw[e];exact uGH _ _ v vv s a b r A _ ca Cn af _ w (fun W hb=>uFY p q R C v a b W (hp.next hb) (hq.next hb) hv (qJ h1 rfl).1)
 ·have z:kind=4:=z;subst z;have e:(Tree.mk ⟨4,vv,s,a,b,r⟩ l).toks v R C=[tk 3 s]++[tk 5 [40]]++bF (bG v R C l)++[tk 5 [41]]:=by
   rw[Tree.toks];unfold dM;rw[if_neg (by show ¬ (4:Int)=0;omega),if_neg (by show ¬ ((4:Int)=1\/(4:Int)=3);omega),if_neg (by show ¬ (4:Int)=2;omega),if_pos rfl];simp
  rw[e];obtain⟨g,o,hA⟩:∃ g o,0<l.length->A=some ⟨g,o,none⟩:=by
   rcases lx with h0|⟨g,o,e,_⟩
   ·have h0:l=[]:=h0;exact⟨0,0,fun h=>by rw[h0]at h;simp at h⟩
   exact⟨g,o,fun _=>e⟩
  have hll2:=gL (bG v R C l);rw[bR]at hll2;have key:=xZ (p:=p) (q:=q) (R:=R) (C:=C) (v:=v) (A:=A) (l:=l) (kd:=4) 0 l.length ca (by omega) g o hA A (fun h=>by rw[hA h,Nat.zero_mul,Nat.add_zero]) h2 hk w hp hq lx (by omega) (by omega);rw[List.drop_zero,List.take_of_length_le (by rw[bR];exact zr)]at key;exact uGD _ _ v vv s a b r A _ ca Cn af _ w _ _ _ _ rfl rfl rfl rfl (by omega) key
 ·have z:kind=5:=z;subst z;obtain⟨hu,bj⟩:=pE h1 rfl;obtain⟨t0,rfl⟩:=one_of bj;have jw:=(dP (l:=[t0]) 0 (by simp) h2).1;have gu:=hk 0 (by simp);have my:t0.size+0=aM [t0]:=by simp[aM]
  obtain⟨g,og,ci,hA,fq,cv⟩:=nR lx 0 (by simp);simp only[List.getElem_cons_zero,Nat.zero_mul,Nat.add_zero]at jw gu cv;obtain⟨A2,n2,c2,ig⟩:=(cv w zB).2.cells;have eh:=eF v R C t0 5 jw;have hw0:=eI (bN t0) 7 (t0.toks v R C);have u4q:=eI (bN t0) 6 (t0.toks v R C);have zi:(Tryz.prog.info? 34).map (·.size)=some ci.length:=by rw[fq];exact bY
  have hV:∀ W,Calls Tryz.prog 86 #[.agg ci.toArray] W fun e w'=>e=.returned (vI (bN t0))/\Below W.heap.size W w':=fun W=>by
   rw[mW];exact jY t0.h A2 n2 c2 ci W (zh ig)
  by_cases hs:s=[37]
  ·have e:(Tree.mk ⟨5,vv,s,a,b,r⟩ [t0]).toks v R C=dU (bN t0) 7 (t0.toks v R C)++[tk 5 [37]]:=by
    rw[Tree.toks];unfold dM;rw[if_neg (by show ¬ (5:Int)=0;omega),if_neg (by show ¬ ((5:Int)=1\/(5:Int)=3);omega),if_neg (by show ¬ (5:Int)=2;omega),if_neg (by show ¬ (5:Int)=4;omega),if_pos rfl,if_pos (by exact hs),hs];rfl
   rw[e];exact uCE _ _ v vv s a b r A _ ca Cn af _ w g og ci (bN t0) _ _ hs hA rfl rfl rfl (by omega) zi (fun W hb=>(cv W hb).1) hV (iN jw (by omega) gu hp hq (fun W hb=>(cv W hb).2) _ 7 (by rw[decide_eq_decide];omega))
  have e:(Tree.mk ⟨5,vv,s,a,b,r⟩ [t0]).toks v R C=[tk 5 s]++dU (bN t0) 6 (t0.toks v R C):=by
   rw[Tree.toks];unfold dM;rw[if_neg (by show ¬ (5:Int)=0;omega),if_neg (by show ¬ ((5:Int)=1\/(5:Int)=3);omega),if_neg (by show ¬ (5:Int)=2;omega),if_neg (by show ¬ (5:Int)=4;omega),if_pos rfl,if_neg (by exact hs)];rfl
  rw[e];exact uGG _ _ v vv s a b r A _ ca Cn af _ w g og ci (bN t0) _ _ (beq_eq_false_iff_ne.2 hs) hA rfl rfl rfl (by omega) zi (fun W hb=>(cv W hb).1) hV (iN jw (by omega) gu hp hq (fun W hb=>(cv W hb).2) _ 6 (by rw[decide_eq_decide];omega))
 ·have z:kind=6:=z;subst z;obtain⟨hu,u5q⟩:=iD h1 rfl;obtain⟨t0,t1,rfl⟩:=two_of u5q;have jw:=(dP (l:=[t0,t1]) 0 (by simp) h2).1;have gu:=hk 0 (by simp);have fj:=(dP (l:=[t0,t1]) 1 (by simp) h2).1;have ec:=hk 1 (by simp);have my:t0.size+t1.size=aM [t0,t1]:=by simp[aM]
  obtain⟨g,og,ci,hA,fq,cv⟩:=nR lx 0 (by simp);obtain⟨g',og',cj,r8,h22',zt⟩:=nR lx 1 (by simp);rw[hA]at r8;injection r8 with r8;injection r8 with e1 e2 _;subst e1 e2;simp only[List.getElem_cons_zero,List.getElem_cons_succ,Nat.zero_mul,Nat.one_mul,Nat.add_zero]at jw gu cv fj ec zt;obtain⟨A2,n2,c2,ig⟩:=(cv w zB).2.cells;obtain⟨A3,n3,c3,rh⟩:=(zt w zB).2.cells;have eh:=eF v R C t0 6 jw;have wo:=eF v R C t1 6 fj;have hw0:=eI (bN t0) (bD s) (t0.toks v R C);have u4q:=eI (bN t1) (bD s+1) (t1.toks v R C);have hii:(Tryz.prog.info? 34).map (·.size)=some ci.length:=by rw[fq];exact bY
  have hij:(Tryz.prog.info? 34).map (·.size)=some cj.length:=by rw[h22'];exact bY
  have e:(Tree.mk ⟨6,vv,s,a,b,r⟩ [t0,t1]).toks v R C=dU (bN t0) (bD s) (t0.toks v R C)++[tk 5 s]++dU (bN t1) (bD s+1) (t1.toks v R C):=by
   rw[Tree.toks];unfold dM;rw[if_neg (by show ¬ (6:Int)=0;omega),if_neg (by show ¬ ((6:Int)=1\/(6:Int)=3);omega),if_neg (by show ¬ (6:Int)=2;omega),if_neg (by show ¬ (6:Int)=4;omega),if_neg (by show ¬ (6:Int)=5;omega),if_pos rfl,List.append_assoc];rfl
  rw[e];refine rtok_two _ _ v vv s a b r A _ ca Cn af _ w g og ci cj (bD s) (bN t0) (bN t1) _ _ _ hA rfl rfl rfl (by omega) hii hij (fun W hb=>⟨(cv W hb).1,(zt W hb).1⟩) (fun W=>?_) (fun W=>?_) (fun W=>?_)
   (iN jw (by omega) gu hp hq (fun W hb=>(cv W hb).2) _ (bD s) (by rw[decide_eq_decide];omega))
   (iN fj (by omega) ec hp hq (fun W hb=>(zt W hb).2) _ (bD s+1) (by rw[decide_eq_decide];omega))
  ·exact jY ⟨6,vv,s,a,b,r⟩ A _ ca Cn W (zh af)
  ·rw[mW];exact jY t0.h A2 n2 c2 ci W (zh ig)
  rw[mW];exact jY t1.h A3 n3 c3 cj W (zh rh)
 ·have z:kind=7:=z;subst z;have e:(Tree.mk ⟨7,vv,s,a,b,r⟩ l).toks v R C=[tk 3 s]:=by
   rw[Tree.toks];unfold dM;rw[if_neg (by show ¬ (7:Int)=0;omega),if_neg (by show ¬ ((7:Int)=1\/(7:Int)=3);omega),if_neg (by show ¬ (7:Int)=2;omega),if_neg (by show ¬ (7:Int)=4;omega),if_neg (by show ¬ (7:Int)=5;omega),if_neg (by show ¬ (7:Int)=6;omega),if_pos rfl]
  rw[e];exact uGE _ _ v vv s a b r A _ ca Cn af _ w (fun W=>aR 3 s W)
 ·have z:kind=8:=z;subst z;obtain⟨rr,cc,np,fj,du,dw⟩:=nA h1 rfl;have np:r=(rr:Int):=np;have hd:l.length / (rr:Int).toNat=cc:=by rw[Int.toNat_natCast,dw];exact Nat.mul_div_cancel_left cc (by omega)
  have e:(Tree.mk ⟨8,vv,s,a,b,r⟩ l).toks v R C=cS cc (bG v R C l) rr++[tk 5 [125]]:=by
   rw[Tree.toks];unfold dM;rw[if_neg (by show ¬ (8:Int)=0;omega),if_neg (by show ¬ ((8:Int)=1\/(8:Int)=3);omega),if_neg (by show ¬ (8:Int)=2;omega),if_neg (by show ¬ (8:Int)=4;omega),if_neg (by show ¬ (8:Int)=5;omega),if_neg (by show ¬ (8:Int)=6;omega),if_neg (by show ¬ (8:Int)=7;omega),if_pos rfl,bR];show cS (l.length / r.toNat) _ r.toNat++_=_;rw[np,hd,Int.toNat_natCast]
  have gy:0<l.length:=by rw[dw];exact Nat.mul_pos (by omega) (by omega)
  obtain⟨g,o,hA⟩:∃ g o,A=some ⟨g,o,none⟩:=by
   rcases lx with h0|⟨g,o,e,_⟩
   ·have h0:l=[]:=h0;rw[h0]at gy;simp at gy
   exact⟨g,o,e⟩
  rw[e];refine rtok_mat _ _ v vv s a b r A _ ca Cn af _ w g o rr cc (bG v R C l) hA np dw fj du (by rw[<- dw];exact li) (by rw[<- dw];omega) rfl (fun i hi=>?_) (fun i hi=>?_)
  ·have h6:=jC cc (bG v R C l) i;have h7:=lX (bG v R C l) (i*cc);have h4:i*cc<=l.length:=by rw[dw];exact Nat.mul_le_mul_right cc hi
   have h5:i<=i*cc:=Nat.le_mul_of_pos_right i du;omega
  have h4:i*cc+cc<=l.length:=by
   have:=Nat.mul_le_mul_right cc (by omega:i+1<=rr);rw[Nat.succ_mul,<- dw]at this;exact this
  exact xZ (p:=p) (q:=q) (R:=R) (C:=C) (v:=v) (A:=A) (l:=l) (kd:=8) (i*cc) cc (ca-i*cc) h4 g o (fun _=>hA) _ (fun _=>rfl) h2 hk w hp hq lx (by omega) (by omega)
 have z:kind=9:=z;subst z;have e:(Tree.mk ⟨9,vv,s,a,b,r⟩ l).toks v R C=[]:=by
  rw[Tree.toks];unfold dM;rw[if_neg (by show ¬ (9:Int)=0;omega),if_neg (by show ¬ ((9:Int)=1\/(9:Int)=3);omega),if_neg (by show ¬ (9:Int)=2;omega),if_neg (by show ¬ (9:Int)=4;omega),if_neg (by show ¬ (9:Int)=5;omega),if_neg (by show ¬ (9:Int)=6;omega),if_neg (by show ¬ (9:Int)=7;omega),if_neg (by show ¬ (9:Int)=8;omega)]
 rw[e];exact uGF _ _ v vv s a b r A _ ca Cn af _ w rfl
theorem rtok_any(p q:Option Nat)(R C:AxV)(v:Say)(hv:v.ok):∀ (n:Nat) (t:Tree),t.size<=n->t.size<=1000->∀ (kd:Int),t.right kd=true->uI p q R C v t:=by
 intro n
 induction n with
 |zero=>intro t h;cases t;rw[Tree.size]at h;omega
 |succ n ih=>
  intro t aq fi kd hr;refine uGI hv hr fi (fun i hi=>?_);obtain⟨h,l⟩:=t;have hi:i<l.length:=hi;have h1:=lW (l:=l) i hi;have hs:(Tree.mk h l).size=aM l+1:=by rw[Tree.size]
  rw[hs]at aq fi;exact ih _ (by show (l[i]'hi).size<=n;omega) (by show (l[i]'hi).size<=1000;omega) h.kind (dP i hi (eD hr).2).1
theorem cK(c:UInt8)(w:World) :
  Calls Tryz.prog 202 #[.int .u8 (c.toNat:Int)] w fun e w'=>e=.returned (.bool (bJ c))/\w=w':=by
 go_in
 go_wp2
 all_goals go_ret
 all_goals exact⟨aA (by unfold bJ;rw[ze];simp;try omega),rfl⟩
theorem cR(c:UInt8)(w:World) :
  Calls Tryz.prog 203 #[.int .u8 (c.toNat:Int)] w fun e w'=>e=.returned (.bool (aB c))/\w=w':=by
 go_in
 go_wp2
 all_goals go_ret
 all_goals exact⟨aA (by unfold aB;rw[ze];simp;try omega),rfl⟩
theorem qG(l:Bs)(w:World)(hs:l.length<=maxLen) :
  Calls Tryz.prog 234 #[vT l] w fun e w'=>e=.returned (.bool (l.all aB))/\w=w':=by
 unfold maxLen at hs
 go_in
 go_wp2
 go_loop [3] (fun i=>∃ k:Nat,k<=l.length/\i=vI k/\(l.take k).all aB=true) (fun i=>l.length-(intOf i).toNat)
 case atStart=>exact⟨0,zm _,rfl,by simp⟩
 case round=>
  obtain⟨k,hk,rfl,hr⟩:=hrel;have HR:=zh hr;clear hr;by_cases hlt:k<l.length
  ·cases hd:aB l[k]
   ·have HQ:=zh (mO hlt hd)
    go_wp2_with (go_at_call 203;refine(cR _ _).mono ?_;rintro e w' ⟨rfl,rfl⟩)
    go_ret
    exact⟨aA (by rw[HQ.out]),rfl⟩
   have HQ:=zh (eK HR.out hlt hd)
   go_wp2_with (go_at_call 203;refine(cR _ _).mono ?_;rintro e w' ⟨rfl,rfl⟩)
   go_round
   case rel=>exact⟨k+1,by omega,by go_num,HQ.out⟩
   case measure=>simp[intOf];omega
  have HQ:Hid (l.all aB=true):=zh (by have h:=HR.out;rw[List.take_of_length_le (by omega)]at h;exact h)
  go_wp2
  go_ret
  exact⟨aA (by rw[HQ.out]),rfl⟩
def pB(l:Bs):Bool:=decide (aF l<=3)&&(decide (aF l<l.length)&&(decide (l.length<=7+aF l)&&(!bM l (aF l) 48&&(l.drop (aF l)).all aB)))
theorem uFO(l:Bs)(w:World)(hs:l.length<=100000) :
  Calls Tryz.prog 204 #[vT l] w fun e w'=>e=.returned (.bool (pB l))/\w=w':=by
 have HD:=zh (fun k W=>qG (l.drop k) W (by rw[yk];unfold maxLen;omega));unfold pB aF
 go_in
 go_wp2
 go_loop [3] (fun i=>∃ k:Nat,k<=l.length/\i=vI k/\k<=bA bJ l) (fun i=>l.length-(intOf i).toNat)
 case atStart=>exact⟨0,zm _,rfl,zm _⟩
 case round=>
  obtain⟨k,hk,rfl,hr⟩:=hrel;have HK:=zh hr;clear hr;by_cases q8:∃ h:k<l.length,bJ l[k]=true
  ·obtain⟨hlt,hd⟩:=q8;have HQ:=zh (jD _ _ _ HK.out hlt hd)
   go_wp2_with (go_at_call 202;refine(cK _ _).mono ?_;rintro e w' ⟨rfl,rfl⟩)
   go_round
   case rel=>exact⟨k+1,by omega,by go_num,HQ.out⟩
   case measure=>simp[intOf];omega
  have eu:¬ k<l.length\/∃ h:k<l.length,bJ l[k]=false:=by
   by_cases hlt:k<l.length
   ·exact .inr ⟨hlt,by cases h:bJ l[k];rfl;exact absurd ⟨hlt,h⟩ q8⟩
   exact .inl hlt
  have HQ:Hid (bA bJ l=k):=zh (by
   rcases eu with h|⟨h,hd⟩
   ·have:=cX bJ l;have:=HK.out;omega
   exact oE _ _ _ HK.out h hd)
  clear q8;rcases eu with hlt|⟨hlt,hd⟩
  all_goals go_upto_region 4 with(go_at_call 202;refine(cK _ _).mono ?_;rintro e w' ⟨rfl,rfl⟩)
  ·by_cases e1:k<=3
   all_goals
    go_wp2_with fail
    go_ret
    exact⟨aA (by rw[HQ.out];simp[e1,hlt]),rfl⟩
  clear hd;by_cases e1:k<=3
  ·by_cases e3:l.length<=7+k
   ·have e4:(l.length:Int)-(k:Int)<=7:=by omega
    have hq:=at_bne l k 48 48 rfl hlt;cases h48:bM l k 48 with
    |true=>
     rw[h48]at hq
     go_wp2_with fail
     go_ret
     exact⟨aA (by rw[HQ.out];simp[h48]),rfl⟩
    |false=>
     rw[h48]at hq;have sy:=zh (HD.out k w)
     go_wp2_with fail
     refine sy.out.mono ?_;rintro e w' ⟨rfl,rfl⟩
     go_wp2_with fail
     go_ret
     exact⟨aA (by rw[HQ.out,decide_eq_true e3];simp[e1,hlt,h48]),rfl⟩
   have e4:¬ (l.length:Int)-(k:Int)<=7:=by omega
   go_wp2_with fail
   go_ret
   exact⟨aA (by rw[HQ.out,decide_eq_false e3];simp),rfl⟩
  go_wp2_with fail
  go_ret
  exact⟨aA (by rw[HQ.out];simp[e1]),rfl⟩
def sM(l:Bs):Bool:=(decide (1<=aF l)&&(decide (aF l<=3)&&(decide (aF l<l.length)&&(l.drop (aF l)).all aB)))||dY l
theorem mH{l:Bs}{a k:Nat}(h1:a<=k)(h2:k-a<=bA aB (l.drop a))(hlt:k<l.length)(hd:aB l[k]=true):k+1-a<=bA aB (l.drop a):=by
 have h3:k-a<(l.drop a).length:=by rw[yk];omega
 have h4:(l.drop a)[k-a]=l[k]:=by rw[List.getElem_drop];congr 1;omega
 have:=jD aB (l.drop a) (k-a) h2 h3 (by rw[h4];exact hd);omega
theorem oD{l:Bs}{a k:Nat}(h1:a<=k)(h2:k-a<=bA aB (l.drop a))(hk:k<=l.length)(eu:¬ k<l.length\/∃ h:k<l.length,aB l[k]=false):k=a+bA aB (l.drop a):=by
 have h5:=cX aB (l.drop a);rw[yk]at h5;rcases eu with h|⟨hlt,hd⟩
 ·omega
 have h3:k-a<(l.drop a).length:=by rw[yk];omega
 have h4:(l.drop a)[k-a]=l[k]:=by rw[List.getElem_drop];congr 1;omega
 have:=oE aB (l.drop a) (k-a) h2 h3 (by rw[h4];exact hd);omega
theorem uFM(l:Bs)(w:World)(hs:l.length<=100000) :
  Calls Tryz.prog 205 #[vT l] w fun e w'=>e=.returned (.bool (sM l))/\w=w':=by
 have HD:=zh (fun k W=>qG (l.drop k) W (by rw[yk];unfold maxLen;omega));obtain⟨R,hR⟩:=zE (sM l)
 have HR:=zh hR;rw[hR];clear hR
 go_in
 go_upto_block 0 with fail
 go_cut [3] (fun v wx=>v=vI (aF l:Nat)/\Hid (wx=w))
 case first=>
  go_wp2_with fail
  go_loop [3] (fun i=>∃ k:Nat,k<=l.length/\i=vI k/\k<=bA bJ l) (fun i=>l.length-(intOf i).toNat)
  case atStart=>exact⟨0,zm _,rfl,zm _⟩
  case round=>
   obtain⟨k,hk,rfl,hr⟩:=hrel;have HK:=zh hr;clear hr;by_cases q8:∃ h:k<l.length,bJ l[k]=true
   ·obtain⟨hlt,hd⟩:=q8;have HQ:=zh (jD _ _ _ HK.out hlt hd)
    go_wp2_with (go_at_call 202;refine(cK _ _).mono ?_;rintro e w' ⟨rfl,rfl⟩)
    go_round
    case rel=>exact⟨k+1,by omega,by go_num,HQ.out⟩
    case measure=>simp[intOf];omega
   have eu:¬ k<l.length\/∃ h:k<l.length,bJ l[k]=false:=by
    by_cases hlt:k<l.length
    ·exact .inr ⟨hlt,by cases h:bJ l[k];rfl;exact absurd ⟨hlt,h⟩ q8⟩
    exact .inl hlt
   have HQ:Hid (bA bJ l=k):=zh (by
    rcases eu with h|⟨h,hd⟩
    ·have:=cX bJ l;have:=HK.out;omega
    exact oE _ _ _ HK.out h hd)
   clear q8;rcases eu with hlt|⟨hlt,hd⟩
   all_goals go_wp2_with (go_at_call 202;refine(cK _ _).mono ?_;rintro e w' ⟨rfl,rfl⟩)
   all_goals go_meet
   all_goals exact⟨by unfold aF;rw[HQ.out],zh rfl⟩
 case rest=>
 obtain⟨rfl,hcut⟩:=hcut;have o9:=hcut.out;subst o9;clear hcut;have o5:aF l<=l.length:=cX bJ l;have i7:Hid (((decide (1<=aF l)&&(decide (aF l<=3)&&(decide (aF l<l.length)&&(l.drop (aF l)).all aB)))||dY l)=R):=zh HR.out;have sy:=zh (HD.out (aF l) wc);clear HR HD;generalize (l.drop (aF l)).all aB=ad at *;generalize aF l=k at *
 go_upto_region 4 with fail
 go_cut [34] (fun v wx=>v=.bool (decide (1<=k)&&(decide (k<=3)&&(decide (k<l.length)&&ad)))/\Hid (wx=wc))
 case first=>
  by_cases e1:1<=k
  ·by_cases e2:k<=3
   ·by_cases e3:k<l.length
    ·go_wp2_with fail
     refine sy.out.mono ?_;rintro e w' ⟨rfl,rfl⟩
     go_wp2_with fail
     go_meet
     exact⟨by simp[e1,e2,e3],zh rfl⟩
    go_wp2_with fail
    go_meet
    exact⟨by simp[e3],zh rfl⟩
   go_wp2_with fail
   go_meet
   exact⟨by simp[e2],zh rfl⟩
  go_wp2_with fail
  go_meet
  exact⟨by simp[e1],zh rfl⟩
 case rest=>
 obtain⟨rfl,hcut⟩:=hcut;have o9:=hcut.out;subst o9;clear hcut sy;generalize (decide (1<=k)&&(decide (k<=3)&&(decide (k<l.length)&&ad)))=c at *;cases c with
 |true=>
  have lw:Hid (true=R):=zh i7.out
  go_wp2_with fail
  go_ret
  exact⟨aA lw.out,rfl⟩
 |false=>
 have lw:Hid (dY l=R):=zh i7.out;clear i7
 go_upto_region 7 with fail
 go_cut [44] (fun v wx=>v=.bool (bM l 0 82)/\Hid (wx=wc))
 case first=>
  by_cases h0:0<l.length
  ·have hq:=oL l 0 82 82 rfl h0
   go_wp2_with fail
   go_meet
   exact⟨rfl,zh rfl⟩
  have hq:=oM l 0 82 (by omega)
  go_wp2_with fail
  go_meet
  exact⟨by rw[hq],zh rfl⟩
 case rest=>
 obtain⟨rfl,hcut⟩:=hcut;have o9:=hcut.out;subst o9;clear hcut;unfold dY at lw;have HAL:Hid ((if bM l 0 82=true then 1+aH (l.drop 1) else 0)<=l.length):=zh (by
  split
  ·rename_i h
   have h1:=xJ _ _ _ h;have h2:=cX aB (l.drop 1);rw[yk]at h2;unfold aH;omega
  exact zm _)
 go_upto_if 44 with fail
 go_cut [4] (fun v wx=>v=vI ((if bM l 0 82=true then 1+aH (l.drop 1) else 0:Nat):Int)/\Hid (wx=wc))
 case first=>
  cases h82:bM l 0 82 with
  |true=>
   have hlt0:=xJ _ _ _ h82
   go_wp2_with fail
   go_loop [4] (fun i=>∃ k:Nat,1<=k/\k<=l.length/\i=vI k/\k-1<=bA aB (l.drop 1)) (fun i=>l.length-(intOf i).toNat)
   case atStart=>exact⟨1,zr,by omega,by go_num,by omega⟩
   case round=>
    obtain⟨k2,ec,hk,rfl,hr⟩:=hrel;have HK:=zh hr;clear hr;by_cases q8:∃ h:k2<l.length,aB l[k2]=true
    ·obtain⟨hlt,hd⟩:=q8;have HQ:=zh (mH ec HK.out hlt hd)
     go_wp2_with (go_at_call 203;refine(cR _ _).mono ?_;rintro e w' ⟨rfl,rfl⟩)
     go_round
     case rel=>exact⟨k2+1,by omega,by omega,by go_num,HQ.out⟩
     case measure=>simp[intOf];omega
    have eu:¬ k2<l.length\/∃ h:k2<l.length,aB l[k2]=false:=by
     by_cases hlt:k2<l.length
     ·exact .inr ⟨hlt,by cases h:aB l[k2];rfl;exact absurd ⟨hlt,h⟩ q8⟩
     exact .inl hlt
    have HQ:=zh (oD ec HK.out hk eu);clear q8;rcases eu with hlt|⟨hlt,hd⟩
    all_goals go_wp2_with (go_at_call 203;refine(cR _ _).mono ?_;rintro e w' ⟨rfl,rfl⟩)
    all_goals go_meet
    all_goals exact⟨by rw[if_pos h82,HQ.out];rfl,zh rfl⟩
  |false=>
   go_wp2_with fail
   go_meet
   exact⟨by rw[if_neg (by rw[h82];decide)];rfl,zh rfl⟩
 case rest=>
 obtain⟨rfl,hcut⟩:=hcut;have o9:=hcut.out;subst o9;clear hcut;generalize (if bM l 0 82=true then 1+aH (l.drop 1) else 0)=a at *;have vm:=HAL.out;clear HAL
 go_upto_region 11 with fail
 go_cut [68] (fun v wx=>v=.bool (bM l a 67)/\Hid (wx=wc))
 case first=>
  by_cases h0:a<l.length
  ·have hq:=oL l a 67 67 rfl h0
   go_wp2_with fail
   go_meet
   exact⟨rfl,zh rfl⟩
  have hq:=oM l a 67 (by omega)
  go_wp2_with fail
  go_meet
  exact⟨by rw[hq],zh rfl⟩
 case rest=>
 obtain⟨rfl,hcut⟩:=hcut;have o9:=hcut.out;subst o9;clear hcut
 go_upto_if 68 with fail
 go_cut [4] (fun v wx=>v=vI ((if bM l a 67=true then a+1+aH (l.drop (a+1)) else a:Nat):Int)/\Hid (wx=wc))
 case first=>
  cases h67:bM l a 67 with
  |true=>
   have hlt0:=xJ _ _ _ h67
   go_wp2_with fail
   go_loop [4] (fun i=>∃ k:Nat,(a+1)<=k/\k<=l.length/\i=vI k/\k-(a+1)<=bA aB (l.drop (a+1))) (fun i=>l.length-(intOf i).toNat)
   case atStart=>exact⟨(a+1),zr,by omega,by go_num,by omega⟩
   case round=>
    obtain⟨k2,ec,hk,rfl,hr⟩:=hrel;have HK:=zh hr;clear hr;by_cases q8:∃ h:k2<l.length,aB l[k2]=true
    ·obtain⟨hlt,hd⟩:=q8;have HQ:=zh (mH ec HK.out hlt hd)
     go_wp2_with (go_at_call 203;refine(cR _ _).mono ?_;rintro e w' ⟨rfl,rfl⟩)
     go_round
     case rel=>exact⟨k2+1,by omega,by omega,by go_num,HQ.out⟩
     case measure=>simp[intOf];omega
    have eu:¬ k2<l.length\/∃ h:k2<l.length,aB l[k2]=false:=by
     by_cases hlt:k2<l.length
     ·exact .inr ⟨hlt,by cases h:aB l[k2];rfl;exact absurd ⟨hlt,h⟩ q8⟩
     exact .inl hlt
    have HQ:=zh (oD ec HK.out hk eu);clear q8;rcases eu with hlt|⟨hlt,hd⟩
    all_goals go_wp2_with (go_at_call 203;refine(cR _ _).mono ?_;rintro e w' ⟨rfl,rfl⟩)
    all_goals go_meet
    all_goals exact⟨by rw[if_pos h67,HQ.out];rfl,zh rfl⟩
  |false=>
   go_wp2_with fail
   go_meet
   exact⟨by rw[if_neg (by rw[h67];decide)],zh rfl⟩
 case rest=>
 obtain⟨rfl,hcut⟩:=hcut;have o9:=hcut.out;subst o9;clear hcut;dsimp only at lw;generalize (if bM l a 67=true then a+1+aH (l.drop (a+1)) else a)=b at *
 go_wp2_with fail
 go_ret
 exact⟨aA (by rw[<- lw.out,ze];simp;try omega),rfl⟩
def TxtAt(w:World)(g:Nat)(xs:List Bs):Prop:=∀ j (h:j<xs.length),w.cell? ⟨g,j,none⟩=some (vS (xs[j].toArray))
theorem nY(c:Cor)(w:World) :
  Calls Tryz.prog 149 #[corV c] w fun e w'=>e=.returned (.bool (decide (c.row≠id0)&&decide (c.col≠id0)))/\Below w.heap.size w w':=by
 obtain⟨W1,an⟩:=zD (w.alloc (.cells (kJ c) 29))
 have al:=zh an;have HL:=zL an;have HB:=zA an;clear an;have x0:=HL.out.cell 0;have x1:=HL.out.cell 1;have x2:=HL.out.cell 2;have x3:=HL.out.cell 3;simp only[za,zb,zf]at x0 x1 x2 x3;have hlt:=HL.out.lt;obtain⟨r1,fj⟩:∃ b,decide (c.row≠id0)=b:=⟨_,rfl⟩
 obtain⟨r2,lp⟩:∃ b,decide (c.col≠id0)=b:=⟨_,rfl⟩
 have N1:∀ w:World,(binOp .neq 27 (idV c.row) (idV id0)).run Tryz.prog w=.ok (.bool r1) w:=fun w=>by rw[fL,fj]
 have N2:∀ w:World,(binOp .neq 27 (idV c.col) (idV id0)).run Tryz.prog w=.ok (.bool r2) w:=fun w=>by rw[fL,lp]
 rw[fj,lp];clear fj lp
 go_in
 go_upto_region 1 with fail
 rw[<- al.out];generalize hq:w.heap.size=q at *;cases r1 <;> cases r2
 all_goals go_wp2_with fail
 all_goals go_ret
 all_goals exact⟨rfl,by first|exact HB.out |(rw[hq];exact HB.out)⟩
theorem uAH{p:UInt8->Bool}:∀ {l:Bs},l.all p=true↔bA p l=l.length
 | []=>by simp[bA]
 |c::l=>by
  have ih:=uAH (p:=p) (l:=l);have hle:=cX p l;rw[List.all_cons,yh,bA,yi,ih];cases hp:p c with
  |true=>simp
  |false=>simp
theorem mark_eq(l:Bs):(decide (aF l+aH (l.drop (aF l))=l.length)&&decide (aF l<=3)&&decide (1<=aH (l.drop (aF l)))&&decide (aH (l.drop (aF l))<=7)&&!bM l (aF l) 48)=pB l:=by
 have h:=uAH (p:=aB) (l:=l.drop (aF l));rw[yk]at h;have hc:aF l<=l.length:=cX bJ l;unfold pB;rw[ze];simp only[yh,decide_eq_true_eq,h];unfold aH;constructor
 ·rintro⟨⟨⟨⟨a1,a2⟩,a3⟩,a4⟩,a5⟩;exact⟨a2,by omega,by omega,a5,by omega⟩
 rintro⟨a2,a3,a4,a5,a6⟩;exact⟨⟨⟨⟨by omega,a2⟩,by omega⟩,by omega⟩,a5⟩
theorem addr_eq(l:Bs):(decide (aF l+aH (l.drop (aF l))=l.length)&&decide (1<=aF l)&&decide (aF l<=3)&&decide (1<=aH (l.drop (aF l))))=(decide (1<=aF l)&&(decide (aF l<=3)&&(decide (aF l<l.length)&&(l.drop (aF l)).all aB))):=by
 have h:=uAH (p:=aB) (l:=l.drop (aF l));rw[yk]at h;have hc:aF l<=l.length:=cX bJ l;rw[ze];simp only[yh,decide_eq_true_eq,h];unfold aH;omega
theorem call_eq(l:Bs):bX l=(decide (0<l.length)&&decide (l.length<=32)&&bJ (l.headD 0)&&l.all eB&&!pB l):=by
 rw[<- mark_eq];rfl
theorem name_eq(l:Bs):bQ l=(decide (0<l.length)&&decide (l.length<=32)&&(bJ (l.headD 0)||l.headD 0==95)&&l.all dA&&!(l==mK||l==iP)&&!sM l):=by
 unfold sM;rw[<- addr_eq];have e:bQ l=(decide (0<l.length)&&decide (l.length<=32)&&(bJ (l.headD 0)||l.headD 0==95)&&l.all dA&&!(l==mK||l==iP||dY l)&&!(decide (aF l+aH (l.drop (aF l))=l.length)&&decide (1<=aF l)&&decide (aF l<=3)&&decide (1<=aH (l.drop (aF l))))):=rfl;rw[e];generalize (decide (0<l.length)&&decide (l.length<=32)&&(bJ (l.headD 0)||l.headD 0==95)&&l.all dA)=a;generalize (l==mK||l==iP)=b;generalize dY l=c;generalize (decide (aF l+aH (l.drop (aF l))=l.length)&&decide (1<=aF l)&&decide (aF l<=3)&&decide (1<=aH (l.drop (aF l))))=d;cases a <;> cases b <;> cases c <;> cases d <;> rfl
theorem uJ{p:UInt8->Bool}{l:Bs}{k:Nat}(h:k<l.length)(hp:p l[k]=false):l.all p=false:=by
 cases ha:l.all p with
 |false=>rfl
 |true=>rw[List.all_eq_true.1 ha _ (List.getElem_mem h)]at hp;cases hp
theorem xS{l:Bs}(h:0<l.length):l.headD 0=l[0]:=by cases l with|nil=>cases h|cons c t=>rfl
theorem vE(l:Bs)(w:World)(hs:l.length<=100000) :
  Calls Tryz.prog 151 #[vT l] w fun e w'=>e=.returned (.bool (bX l))/\w=w':=by
 have HM:=zh (uFO l w hs);rw[call_eq];generalize pB l=m at *;by_cases h0:l.length<1
 ·have h0i:(l.length:Int)<1:=by omega
  clear HM
  go_in
  go_wp2_with fail
  go_ret
  exact⟨aA (by rw[decide_eq_false (by omega:¬ 0<l.length)];rfl),rfl⟩
 have h1i:¬ (l.length:Int)<1:=by omega
 by_cases wd:32<l.length
 ·have qv:(32:Int)<(l.length:Int):=by omega
  clear HM
  go_in
  go_wp2_with fail
  go_ret
  exact⟨aA (by rw[decide_eq_false (by omega:¬ l.length<=32)];simp),rfl⟩
 have qv:¬ (32:Int)<(l.length:Int):=by omega
 have gy:0<l.length:=by omega
 rw[xS gy,decide_eq_true gy,decide_eq_true (by omega:l.length<=32)];cases jl:bJ l[0] with
 |false=>
  clear HM
  go_in
  go_wp2_with (go_at_call 202;refine(cK _ _).mono ?_;rintro e w' ⟨rfl,rfl⟩)
  go_ret
  exact⟨aA (by simp),rfl⟩
 |true=>
 obtain⟨r,hr⟩:∃ r,(true&&true&&true&&l.all eB&&!m)=r:=⟨_,rfl⟩
 have HR:Hid ((l.all eB&&!m)=r):=zh (by rw[<- hr];simp);rw[hr];have H0:Hid ((l.take 1).all eB=true):=zh (by
  rw[show l.take 1=[l[0]] by cases l with|nil=>cases gy|cons c t=>rfl];simp[eB,jl])
 clear h0 wd hr hs
 go_in
 go_wp2_with (go_at_call 202;refine(cK _ _).mono ?_;rintro e w' ⟨rfl,rfl⟩)
 clear jl
 go_loop [3] (fun i=>∃ k:Nat,1<=k/\k<=l.length/\i=vI k/\Hid ((l.take k).all eB=true)) (fun i=>l.length-(intOf i).toNat)
 case atStart=>exact⟨1,zr,gy,rfl,H0⟩
 case round=>
  obtain⟨k,ec,hk,rfl,HK⟩:=hrel;by_cases hlt:k<l.length
  ·have lj:=kO l[k] 46 46 rfl;have iu:(k:Int)<(l.length:Int):=by omega
   cases d:eB l[k] with
   |false=>
    have HA:=zh (uJ hlt d);unfold eB at d;simp only[Bool.or_eq_false_iff]at d;obtain⟨⟨d1,d2⟩,d3⟩:=d;rw[d3]at lj;clear d3
    go_wp2_with (first |(go_at_call 202;refine(cK _ _).mono ?_;rintro e w' ⟨rfl,rfl⟩) |(go_at_call 203;refine(cR _ _).mono ?_;rintro e w' ⟨rfl,rfl⟩))
    go_ret
    exact⟨aA (by rw[<- HR.out,HA.out];rfl),rfl⟩
   |true=>
   have HS:=zh (eK HK.out hlt d);unfold eB at d;cases d1:bJ l[k] with
   |true=>
    clear d
    go_wp2_with (first |(go_at_call 202;refine(cK _ _).mono ?_;rintro e w' ⟨rfl,rfl⟩) |(go_at_call 203;refine(cR _ _).mono ?_;rintro e w' ⟨rfl,rfl⟩))
    go_round
    case rel=>exact⟨k+1,by omega,by omega,by go_num,HS⟩
    case measure=>simp[intOf];omega
   |false=>
    cases d2:aB l[k] with
    |true=>
     clear d
     go_wp2_with (first |(go_at_call 202;refine(cK _ _).mono ?_;rintro e w' ⟨rfl,rfl⟩) |(go_at_call 203;refine(cR _ _).mono ?_;rintro e w' ⟨rfl,rfl⟩))
     go_round
     case rel=>exact⟨k+1,by omega,by omega,by go_num,HS⟩
     case measure=>simp[intOf];omega
    |false=>
     have d3:(l[k]==46)=true:=by rw[d1,d2]at d;simpa using d
     rw[d3]at lj;clear d d3
     go_wp2_with (first |(go_at_call 202;refine(cK _ _).mono ?_;rintro e w' ⟨rfl,rfl⟩) |(go_at_call 203;refine(cR _ _).mono ?_;rintro e w' ⟨rfl,rfl⟩))
     go_round
     case rel=>exact⟨k+1,by omega,by omega,by go_num,HS⟩
     case measure=>simp[intOf];omega
  have HE:Hid (l.all eB=true):=zh (by have h:=HK.out;rwa [List.take_of_length_le (by omega)]at h);have uw:¬ (k:Int)<(l.length:Int):=by omega
  go_wp2_with fail
  refine HM.out.mono ?_;rintro e w' ⟨rfl,rfl⟩
  go_wp2_with fail
  go_ret
  exact⟨aA (by rw[<- HR.out,HE.out];simp),rfl⟩
theorem uEC(s:Bs)(g cp:Nat)(xs:List Bs)(w:World)(hx:TxtAt w g xs)(hl:xs.length<=100) :
  Calls Tryz.prog 152 #[vT s,.slice (some ⟨g,0,none⟩) xs.length cp] w fun e w'=>e=.returned (.bool (xs.contains s))/\w=w':=by
 have HX:=zh hx;obtain⟨r,hr⟩:=zE (xs.contains s)
 have HR:=zh hr;rw[hr];clear hx hr
 go_in
 go_wp2
 go_loop [5] (fun i=>∃ k:Nat,k<=xs.length/\i=vI k/\Hid (s∉xs.take k)) (fun i=>xs.length-(intOf i).toNat)
 case atStart=>exact⟨0,zm _,rfl,zh (by simp)⟩
 case round=>
  obtain⟨k,hk,rfl,HN⟩:=hrel;by_cases hlt:k<xs.length
  ·have x0:=HX.out k hlt;have iu:(k:Int)<(xs.length:Int):=by omega
   cases hd:(xs[k]==s)
   ·have HQ:Hid (s∉xs.take (k+1)):=zh (by
     rw[yw hlt,List.mem_append,yf];rintro(h|h)
     ·exact HN.out h
     rw[h]at hd;simp at hd)
    go_wp2_with fail
    go_round
    case rel=>exact⟨k+1,by omega,by go_num,HQ⟩
    case measure=>simp[intOf];omega
   have HT:Hid (xs.contains s=true):=zh (by
    rw[List.contains_iff_mem];have:=List.getElem_mem hlt
    rwa [eq_of_beq hd]at this)
   go_wp2_with fail
   go_ret
   exact⟨aA (by rw[<- HR.out,HT.out]),rfl⟩
  have HF:Hid (xs.contains s=false):=zh (by
   cases hc:xs.contains s with
   |false=>rfl
   |true=>exact absurd (List.contains_iff_mem.1 hc) (by have h:=HN.out;rwa [List.take_of_length_le (by omega)]at h))
  have uw:¬ (k:Int)<(xs.length:Int):=by omega
  go_wp2_with fail
  go_ret
  exact⟨aA (by rw[<- HR.out,HF.out]),rfl⟩
theorem uFP(l:Bs)(w:World)(hs:l.length<=100000) :
  Calls Tryz.prog 153 #[vT l] w fun e w'=>e=.returned (.bool (bQ l))/\w=w':=by
 have HM:=zh (uFM l w hs);rw[name_eq];generalize sM l=m at *;by_cases h0:l.length<1
 ·have h0i:(l.length:Int)<1:=by omega
  clear HM
  go_in
  go_wp2_with fail
  go_ret
  exact⟨aA (by rw[decide_eq_false (by omega:¬ 0<l.length)];rfl),rfl⟩
 have h1i:¬ (l.length:Int)<1:=by omega
 by_cases wd:32<l.length
 ·have qv:(32:Int)<(l.length:Int):=by omega
  clear HM
  go_in
  go_wp2_with fail
  go_ret
  exact⟨aA (by rw[decide_eq_false (by omega:¬ l.length<=32)];simp),rfl⟩
 have qv:¬ (32:Int)<(l.length:Int):=by omega
 have gy:0<l.length:=by omega
 rw[xS gy,decide_eq_true gy,decide_eq_true (by omega:l.length<=32)];obtain⟨t1,l6⟩:∃ b,(l==([84,82,85,69]:Bs))=b:=⟨_,rfl⟩
 obtain⟨t2,om⟩:∃ b,(l==([70,65,76,83,69]:Bs))=b:=⟨_,rfl⟩
 have h95:=kO l[0] 95 95 rfl;obtain⟨c1,du⟩:∃ b,bJ l[0]=b:=⟨_,rfl⟩
 obtain⟨c2,ig⟩:∃ b,(l[0]==95)=b:=⟨_,rfl⟩
 rw[ig]at h95;obtain⟨b0,fe⟩:∃ b,(!(c1||c2)||t1||t2||m)=b:=⟨_,rfl⟩
 have H0:=zh fe;obtain⟨r,hr⟩:∃ r,(true&&true&&(bJ l[0]||l[0]==95)&&l.all dA&&!(l==mK||l==iP)&&!m)=r:=⟨_,rfl⟩
 have HR:Hid ((l.all dA&&!b0)=r):=zh (by
  rw[<- hr,<- fe,du,ig,show (l==mK)=t1 from l6,show (l==iP)=t2 from om];generalize l.all dA=x;cases c1 <;> cases c2 <;> cases t1 <;> cases t2 <;> cases m <;> cases x <;> rfl)
 rw[hr];have H1:Hid (b0=false->(l.take 1).all dA=true):=zh (fun hb=>by
  rw[show l.take 1=[l[0]] by cases l with|nil=>cases gy|cons c t=>rfl];rw[<- fe]at hb;simp only[Bool.or_eq_false_iff,Bool.not_eq_false',Bool.or_eq_true]at hb;rcases hb.1.1.1 with h|h
  ·rw[h]at du;simp[dA,du]
  rw[h]at ig;simp only[dA,List.all_cons,List.all_nil];rw[ig];simp)
 clear h0 wd hr hs fe ig
 go_in
 go_upto_region 1 with fail
 go_cut [34] (fun v wx=>v=.bool b0/\Hid (wx=w))
 case first=>
  clear HR H1;cases c1 <;> cases c2 <;> cases t1 <;> cases t2
  all_goals go_wp2_with (go_at_call 202;refine(cK _ _).mono ?_;rintro e w' ⟨rfl,rfl⟩)
  all_goals first |(go_meet;exact⟨by rw[<- H0.out];rfl,zh rfl⟩) |(refine HM.out.mono ?_;rintro e w' ⟨rfl,rfl⟩;go_wp2_with fail;go_meet;exact⟨by rw[<- H0.out];simp,zh rfl⟩)
 case rest=>
 obtain⟨rfl,hcut⟩:=hcut;have o9:=hcut.out;subst o9;clear hcut h95 HM l6 om H0 du;cases b0 with
 |true=>
  go_wp2_with fail
  go_ret
  exact⟨aA (by rw[<- HR.out];simp),rfl⟩
 |false=>
 have H2:=zh (H1.out rfl);clear H1
 go_wp2_with fail
 go_loop [3] (fun i=>∃ k:Nat,1<=k/\k<=l.length/\i=vI k/\Hid ((l.take k).all dA=true)) (fun i=>l.length-(intOf i).toNat)
 case atStart=>exact⟨1,zr,gy,rfl,H2⟩
 case round=>
  obtain⟨k,ec,hk,rfl,HK⟩:=hrel;by_cases hlt:k<l.length
  ·have lj:=kO l[k] 46 46 rfl;have r6:=kO l[k] 95 95 rfl;have iu:(k:Int)<(l.length:Int):=by omega
   cases d:dA l[k] with
   |false=>
    have HA:=zh (uJ hlt d);unfold dA at d;simp only[Bool.or_eq_false_iff]at d;obtain⟨⟨⟨d1,d2⟩,d4⟩,d3⟩:=d;rw[d3]at lj;rw[d4]at r6;clear d3 d4
    go_wp2_with (first |(go_at_call 202;refine(cK _ _).mono ?_;rintro e w' ⟨rfl,rfl⟩) |(go_at_call 203;refine(cR _ _).mono ?_;rintro e w' ⟨rfl,rfl⟩))
    go_ret
    exact⟨aA (by rw[<- HR.out,HA.out];rfl),rfl⟩
   |true=>
   have HS:=zh (eK HK.out hlt d);unfold dA at d;cases d1:bJ l[k] with
   |true=>
    clear d
    go_wp2_with (first |(go_at_call 202;refine(cK _ _).mono ?_;rintro e w' ⟨rfl,rfl⟩) |(go_at_call 203;refine(cR _ _).mono ?_;rintro e w' ⟨rfl,rfl⟩))
    go_round
    case rel=>exact⟨k+1,by omega,by omega,by go_num,HS⟩
    case measure=>simp[intOf];omega
   |false=>
    cases d2:aB l[k] with
    |true=>
     clear d
     go_wp2_with (first |(go_at_call 202;refine(cK _ _).mono ?_;rintro e w' ⟨rfl,rfl⟩) |(go_at_call 203;refine(cR _ _).mono ?_;rintro e w' ⟨rfl,rfl⟩))
     go_round
     case rel=>exact⟨k+1,by omega,by omega,by go_num,HS⟩
     case measure=>simp[intOf];omega
    |false=>
     rw[d1,d2]at d;cases d3:(l[k]==46) with
     |true=>
      rw[d3]at lj;clear d
      go_wp2_with (first |(go_at_call 202;refine(cK _ _).mono ?_;rintro e w' ⟨rfl,rfl⟩) |(go_at_call 203;refine(cR _ _).mono ?_;rintro e w' ⟨rfl,rfl⟩))
      go_round
      case rel=>exact⟨k+1,by omega,by omega,by go_num,HS⟩
      case measure=>simp[intOf];omega
     |false=>
      have d4:(l[k]==95)=true:=by rw[d3]at d;simpa using d
      rw[d3]at lj;rw[d4]at r6;clear d
      go_wp2_with (first |(go_at_call 202;refine(cK _ _).mono ?_;rintro e w' ⟨rfl,rfl⟩) |(go_at_call 203;refine(cR _ _).mono ?_;rintro e w' ⟨rfl,rfl⟩))
      go_round
      case rel=>exact⟨k+1,by omega,by omega,by go_num,HS⟩
      case measure=>simp[intOf];omega
  have HE:Hid (l.all dA=true):=zh (by have h:=HK.out;rwa [List.take_of_length_le (by omega)]at h);have uw:¬ (k:Int)<(l.length:Int):=by omega
  go_wp2_with fail
  go_ret
  exact⟨aA (by rw[<- HR.out,HE.out];rfl),rfl⟩
theorem uFU(m e:Int)(w:World)(h1:-9223372036854775808<=m)(h2:m<=9223372036854775807) :
  Calls Tryz.prog 201 #[wP m e] w fun x w'=>x=.returned (.bool (bH m e))/\Below w.heap.size w w':=by
 have HC:=zh (fun W=>sY m e W h1 h2);have HB:Hid (Below w.heap.size w (w.alloc (.cells #[vI m,vI e] 23))):=zh ((Below.refl _ w).alloc zr _)
 go_in
 go_wp2_with fail
 refine(HC.out _).mono ?_;rintro x w2 ⟨rfl,hb⟩;have au:=zT HB hb;clear hb HB
 go_wp2_with fail
 go_ret
 exact⟨rfl,au.out⟩
theorem cT:∀ (n:Nat),n<=1000000->∀ (t t':Tree) (cs nn:Array Value) (w:World),t.size<=n->TreeIn w t cs->TreeIn w t' nn->Calls Tryz.prog 23 #[.agg cs,.agg nn] w fun e w'=>e=.returned (.bool (t.same t'))/\Below w.heap.size w w':=by
 intro n
 induction n with
 |zero=>intro _ t _ _ _ _ hs;cases t;simp[Tree.size]at hs
 |succ n ih=>
 intro bj;rintro⟨h,l⟩ ⟨h',l'⟩ cs nn w hs ⟨A,cp,rfl,hk⟩ ⟨A',lc,rfl,fs⟩;have IH:=zh (fun(i:Nat) (hi:i<l.length) t' cs nn W h1 h2=>ih (by omega) (l[i]'hi) t' cs nn W (by have h9:(l[i]'hi).size<(Tree.mk h l).size:=fB (t:=.mk h l) (i:=i) hi;omega) h1 h2);have fu:Hid (l.length<=1000000):=zh (by have h1:=cE l;have h2:aM l+1<=n+1:=hs;omega);clear ih;dsimp only[Tree.h,Tree.l]at hk fs ⊢;have HK:=zh hk;have HK':=zh fs;clear hk fs hs;have hS:Tree.same (.mk h l) (.mk h' l')=(NodeH.same h h'&&fG l l'):=rfl;rw[hS];clear hS;generalize iw:(w.alloc (.cells (aJ h A l.length cp) 34))=W1;have ij:Hid (Lies W1 w.heap.size 34 (aJ h A l.length cp)):=zh (by rw[<- iw];exact Lies.new _ _ _);have HBa:Hid (Below w.heap.size w W1):=zh (by rw[<- iw];exact zp _);have sh:W1.heap.size=w.heap.size+1:=by rw[<- iw];simp
 generalize hL2:(W1.alloc (.cells (aJ h' A' l'.length lc) 34))=W2;have cr:Hid (Lies W2 (w.heap.size+1) 34 (aJ h' A' l'.length lc)):=zh (by rw[<- hL2,<- sh];exact Lies.new _ _ _);have lk:Hid (Below W1.heap.size W1 W2):=zh (by rw[<- hL2];exact zp _);have ir:=zh (ij.out.next lk.out);have au:Hid (Below w.heap.size w W2):=zh (zU HBa.out lk.out);have HEA:=zh neq_area;have HEV:=zh neq_val;clear ij HBa lk;have al:=zh iw;have jq:=zh hL2;have fg:=zh sh;clear iw hL2 sh
 go_in
 go_upto_region 1 with fail
 rw[al.out,jq.out];clear al jq;generalize hQ:w.heap.size=q at *;obtain⟨bb,tm⟩:∃ bb,(NodeH.same h h'&&decide (l.length=l'.length))=bb:=⟨_,rfl⟩
 have ua:=zh tm;clear tm
 go_cut [47] (fun v wx=>v=.bool (!bb)/\Hid (wx=W2))
 case first=>
  have hea:=HEA.out h.a h.b h'.a h'.b;have hev:=HEV.out h.v h'.v;dsimp only[arV]at hea;obtain⟨d0,qe⟩:∃ x,(h.kind != h'.kind)=x:=⟨_,rfl⟩
  obtain⟨d1,hd1⟩:∃ x,(!bC h.v h'.v)=x:=⟨_,rfl⟩
  obtain⟨d2,o4⟩:∃ x,decide (h.name≠h'.name)=x:=⟨_,rfl⟩
  obtain⟨d3,xe⟩:∃ x,(!(decide (h.a=h'.a)&&decide (h.b=h'.b)))=x:=⟨_,rfl⟩
  obtain⟨d4,hd4⟩:∃ x,(h.rows != h'.rows)=x:=⟨_,rfl⟩
  obtain⟨d5,hd5⟩:∃ x,((l.length:Int) != (l'.length:Int))=x:=⟨_,rfl⟩
  rw[hd1]at hev;rw[xe]at hea;have hd2':(h.name==h'.name)=!d2:=by rw[<- o4,ze];simp
  obtain⟨c1,du⟩:∃ x,x=(d0||d1):=⟨_,rfl⟩
  obtain⟨c2,ig⟩:∃ x,x=(c1||d2):=⟨_,rfl⟩
  obtain⟨c3,rh⟩:∃ x,x=(c2||d3):=⟨_,rfl⟩
  obtain⟨c4,hc4⟩:∃ x,x=(c3||d4):=⟨_,rfl⟩
  obtain⟨c5,hc5⟩:∃ x,x=(c4||d5):=⟨_,rfl⟩
  have HD:Hid (bb=!c5):=zh (by
   rw[hc5,hc4,rh,ig,du,<- qe,<- hd1,<- o4,<- xe,<- hd4,<- hd5,<- ua.out];unfold NodeH.same;rw[show (h.kind != h'.kind)=!decide (h.kind=h'.kind) from by rw[ze];simp,show decide (h.name≠h'.name)=!(h.name==h'.name) from by rw[ze];simp,show (h.rows != h'.rows)=!decide (h.rows=h'.rows) from by rw[ze];simp,show ((l.length:Int) != (l'.length:Int))=!decide (l.length=l'.length) from by rw[ze];simp;omega];cases decide (h.kind=h'.kind) <;> cases bC h.v h'.v <;> cases (h.name==h'.name) <;> cases decide (h.a=h'.a) <;> cases decide (h.b=h'.b) <;> cases decide (h.rows=h'.rows) <;> cases decide (l.length=l'.length) <;> rfl)
  obtain⟨TT,ah⟩:∃ TT:List (Nat×Nat×Value),TT=((0,6,vP q 0)::(1,7,vI h.kind)::(2,8,vP (q+1) 0)::(3,9,vI h'.kind)::(4,10,.bool d0)::(5,11,.bool d0)::(6,12,(bif d0 then undef else vP q 1))::(7,13,(bif d0 then undef else .agg ([vI h.v.kind,vI h.v.mant,vI h.v.exp,vT h.v.text,.bool h.v.truth,vI h.v.fault]:List Value).toArray))::(8,14,(bif d0 then undef else vP (q+1) 1))::(9,15,(bif d0 then undef else .agg ([vI h'.v.kind,vI h'.v.mant,vI h'.v.exp,vT h'.v.text,.bool h'.v.truth,vI h'.v.fault]:List Value).toArray))::(10,16,(bif d0 then undef else .bool d1))::(11,17,.bool c1)::(12,18,.bool c1)::(13,19,(bif c1 then undef else vP q 7))::(14,20,(bif c1 then undef else vT h.name))::(15,21,(bif c1 then undef else vP (q+1) 7))::(16,22,(bif c1 then undef else vT h'.name))::(17,23,(bif c1 then undef else .bool d2))::(18,24,.bool c2)::(19,25,.bool c2)::(20,26,(bif c2 then undef else vP q 8))::(21,27,(bif c2 then undef else .agg ([vI h.a.row.a,vI h.a.row.n,vI h.a.col.a,vI h.a.col.n,.bool h.a.fr,.bool h.a.fc,vI h.b.row.a,vI h.b.row.n,vI h.b.col.a,vI h.b.col.n,.bool h.b.fr,.bool h.b.fc]:List Value).toArray))::(22,28,(bif c2 then undef else vP (q+1) 8))::(23,29,(bif c2 then undef else .agg ([vI h'.a.row.a,vI h'.a.row.n,vI h'.a.col.a,vI h'.a.col.n,.bool h'.a.fr,.bool h'.a.fc,vI h'.b.row.a,vI h'.b.row.n,vI h'.b.col.a,vI h'.b.col.n,.bool h'.b.fr,.bool h'.b.fc]:List Value).toArray))::(24,30,(bif c2 then undef else .bool d3))::(25,31,.bool c3)::(26,32,.bool c3)::(27,33,(bif c3 then undef else vP q 20))::(28,34,(bif c3 then undef else vI h.rows))::(29,35,(bif c3 then undef else vP (q+1) 20))::(30,36,(bif c3 then undef else vI h'.rows))::(31,37,(bif c3 then undef else .bool d4))::(32,38,.bool c4)::(33,39,.bool c4)::(34,40,(bif c4 then undef else vP q 21))::(35,41,(bif c4 then undef else .slice A l.length cp))::(36,42,(bif c4 then undef else vI (l.length:Nat)))::(37,43,(bif c4 then undef else vP (q+1) 21))::(38,44,(bif c4 then undef else .slice A' l'.length lc))::(39,45,(bif c4 then undef else vI (l'.length:Nat)))::(40,46,(bif c4 then undef else .bool d5))::(41,47,.bool c5)::[]):=⟨_,rfl⟩
  have bd:=zh ah;clear ah;refine aX (fun a0=>67<=a0.tmps.size/\a0.eval (.tmp 2)=vP q 0/\a0.eval (.tmp 3)=vP (q+1) 0) (6::7::8::9::10::11::12::13::14::15::16::17::18::19::20::21::22::23::24::25::26::27::28::29::30::31::32::33::34::35::36::37::38::39::40::41::42::43::44::45::46::47::[]) TT [] (fun w'=>w'=W2) (by kernel_rfl) ⟨by simp,rfl,rfl⟩ rfl ?_ ?_
  ·rintro a0 ⟨hs,sq,kn⟩ zl a1 w1 zj o aq hI aj ho zd;obtain rfl:w1=W2:=hI.st;have ah:=bd.out
   subst ah;have e2x:=hI.off.q sq;have e3x:=hI.off.q kn;have hj:=Up.of_false aj;have hj12:zj<42:=by rw[aq]at hj;exact hj
   have G:RG _ _ _ _ _ _ _ _ _ _ _:=⟨by rfl,hI,hs,aj,ho,zd⟩
   (iterate 41 rcases zq hj12 with hj12|rfl);obtain rfl:=cz hj12;all_goals obtain rfl:=oi ho
   ·exact G.nl 0 rfl (by simp[execOp,go_sem,e2x])
   ·have xq:w1.cell? ⟨q,0,none⟩=some (vI h.kind):=ir.out.cell 0;exact G.nl 1 rfl (by simp[execOp,go_sem,G.t 0,xq])
   ·exact G.nl 2 rfl (by simp[execOp,go_sem,e3x])
   ·have xq:w1.cell? ⟨(q+1),0,none⟩=some (vI h'.kind):=cr.out.cell 0;exact G.nl 3 rfl (by simp[execOp,go_sem,G.t 2,xq])
   ·exact G.nl 4 rfl (by simp[execOp,go_sem,G.t 1,G.t 3,qe])
   ·exact G.nl 5 rfl (by simp[execOp,go_sem,G.t 4])
   ·refine G.gn 5 6 ?_;rintro rfl;simp[execOp,go_sem,e2x]
   ·refine G.gn 5 7 ?_;rintro rfl;have p6:=G.d 6;exact aQ 25 (.tmp 12) rfl q 1 p6 _ _ (ir.out.sub 1 [vI h.v.kind,vI h.v.mant,vI h.v.exp,vT h.v.text,.bool h.v.truth,vI h.v.fault] rfl) Tryz.underlying25 rfl gX
   ·refine G.gn 5 8 ?_;rintro rfl;simp[execOp,go_sem,e3x]
   ·refine G.gn 5 9 ?_;rintro rfl;have p8:=G.d 8;exact aQ 25 (.tmp 14) rfl (q+1) 1 p8 _ _ (cr.out.sub 1 [vI h'.v.kind,vI h'.v.mant,vI h'.v.exp,vT h'.v.text,.bool h'.v.truth,vI h'.v.fault] rfl) Tryz.underlying25 rfl gX
   ·refine G.gn 5 10 ?_;rintro rfl;simp[execOp,go_sem,G.t 7,G.t 9,hev]
   ·cases d0
    all_goals exact G.nl 11 rfl (by simp[execOp,go_sem,G.t 5,G.t 10,du])
   ·exact G.nl 12 rfl (by simp[execOp,go_sem,G.t 11])
   ·refine G.gn 12 13 ?_;rintro rfl;simp[execOp,go_sem,e2x]
   ·refine G.gn 12 14 ?_;rintro rfl;have xq:w1.cell? ⟨q,7,none⟩=some (vT h.name):=ir.out.cell 7;simp[execOp,go_sem,G.t 13,xq]
   ·refine G.gn 12 15 ?_;rintro rfl;simp[execOp,go_sem,e3x]
   ·refine G.gn 12 16 ?_;rintro rfl;have xq:w1.cell? ⟨(q+1),7,none⟩=some (vT h'.name):=cr.out.cell 7;simp[execOp,go_sem,G.t 15,xq]
   ·refine G.gn 12 17 ?_;rintro rfl;simp[execOp,go_sem,G.t 14,G.t 16,hd2']
   ·cases c1
    all_goals exact G.nl 18 rfl (by simp[execOp,go_sem,G.t 12,G.t 17,ig])
   ·exact G.nl 19 rfl (by simp[execOp,go_sem,G.t 18])
   ·refine G.gn 19 20 ?_;rintro rfl;simp[execOp,go_sem,e2x]
   ·refine G.gn 19 21 ?_;rintro rfl;have p20:=G.d 20;exact aQ 31 (.tmp 26) rfl q 8 p20 _ _ (ir.out.sub 8 [vI h.a.row.a,vI h.a.row.n,vI h.a.col.a,vI h.a.col.n,.bool h.a.fr,.bool h.a.fc,vI h.b.row.a,vI h.b.row.n,vI h.b.col.a,vI h.b.col.n,.bool h.b.fr,.bool h.b.fc] rfl) Tryz.underlying31 rfl gW
   ·refine G.gn 19 22 ?_;rintro rfl;simp[execOp,go_sem,e3x]
   ·refine G.gn 19 23 ?_;rintro rfl;have p22:=G.d 22;exact aQ 31 (.tmp 28) rfl (q+1) 8 p22 _ _ (cr.out.sub 8 [vI h'.a.row.a,vI h'.a.row.n,vI h'.a.col.a,vI h'.a.col.n,.bool h'.a.fr,.bool h'.a.fc,vI h'.b.row.a,vI h'.b.row.n,vI h'.b.col.a,vI h'.b.col.n,.bool h'.b.fr,.bool h'.b.fc] rfl) Tryz.underlying31 rfl gW
   ·refine G.gn 19 24 ?_;rintro rfl;simp[execOp,go_sem,G.t 21,G.t 23,hea]
   ·cases c2
    all_goals exact G.nl 25 rfl (by simp[execOp,go_sem,G.t 19,G.t 24,rh])
   ·exact G.nl 26 rfl (by simp[execOp,go_sem,G.t 25])
   ·refine G.gn 26 27 ?_;rintro rfl;simp[execOp,go_sem,e2x]
   ·refine G.gn 26 28 ?_;rintro rfl;have xq:w1.cell? ⟨q,20,none⟩=some (vI h.rows):=ir.out.cell 20;simp[execOp,go_sem,G.t 27,xq]
   ·refine G.gn 26 29 ?_;rintro rfl;simp[execOp,go_sem,e3x]
   ·refine G.gn 26 30 ?_;rintro rfl;have xq:w1.cell? ⟨(q+1),20,none⟩=some (vI h'.rows):=cr.out.cell 20;simp[execOp,go_sem,G.t 29,xq]
   ·refine G.gn 26 31 ?_;rintro rfl;simp[execOp,go_sem,G.t 28,G.t 30,hd4]
   ·cases c3
    all_goals exact G.nl 32 rfl (by simp[execOp,go_sem,G.t 26,G.t 31,hc4])
   ·exact G.nl 33 rfl (by simp[execOp,go_sem,G.t 32])
   ·refine G.gn 33 34 ?_;rintro rfl;simp[execOp,go_sem,e2x]
   ·refine G.gn 33 35 ?_;rintro rfl;have xq:w1.cell? ⟨q,21,none⟩=some (.slice A l.length cp):=ir.out.cell 21;simp[execOp,go_sem,G.t 34,xq]
   ·refine G.gn 33 36 ?_;rintro rfl;simp[go_sem,G.t 35]
   ·refine G.gn 33 37 ?_;rintro rfl;simp[execOp,go_sem,e3x]
   ·refine G.gn 33 38 ?_;rintro rfl;have xq:w1.cell? ⟨(q+1),21,none⟩=some (.slice A' l'.length lc):=cr.out.cell 21;simp[execOp,go_sem,G.t 37,xq]
   ·refine G.gn 33 39 ?_;rintro rfl;simp[go_sem,G.t 38]
   ·refine G.gn 33 40 ?_;rintro rfl;simp[execOp,go_sem,G.t 36,G.t 39,hd5]
   cases c4
   all_goals exact G.nl 41 rfl (by simp[execOp,go_sem,G.t 33,G.t 40,hc5])
  intro zl a1 w1 hI bi;obtain rfl:w1=W2:=hI.st;have ah:=bd.out;subst ah;have z47:=hI.ptk 41 rfl (bi 41 (by decide));obtain⟨ff,rfl,hf⟩:=hI.off.forms;rw[<- hf 47]at z47;clear hI;simp only[List.foldl,Act.put,yz,List.set];rw[z47];simp only[Exit.then]
  go_step
  go_meet
  exact⟨by rw[HD.out,Bool.not_not],zh rfl⟩
 case rest=>
  obtain⟨rfl,hcut⟩:=hcut;have o9:=hcut.out;subst o9;have bf:Hid (Below w.heap.size w wc):=zh (by rw[hQ];exact au.out);cases bb
  ·have HR:Hid ((NodeH.same h h'&&fG l l')=false):=zh (by have h1:=ua.out;rw[Bool.and_eq_false_iff]at h1;exact h1.elim (fun h1=>by rw[h1];rfl) (fun h1=>by rw[vM (of_decide_eq_false h1),Bool.and_false]))
   go_wp2_with fail
   go_ret
   exact⟨by first|exact aA HR.out.symm|exact aA rfl,au.out⟩
  have HH:=ua.out;rw[yh]at HH;have HLL:=zh (of_decide_eq_true HH.2);have HR:Hid ((NodeH.same h h'&&fG l l')=fG l l'):=zh (by rw[HH.1,Bool.true_and]);clear HH ua HEA HEV
  go_wp2_with fail
  go_loopw [5] (fun v wr=>∃ i:Nat,i<=l.length/\v=vI (i:Int)/\Hid (Below wc.heap.size wc wr/\∀ j (hj:j<i) (h1:j<l.length) (h2:j<l'.length),l[j].same l'[j]=true)) (fun v _=>l.length-(intOf v).toNat)
  case atStart=>exact⟨0,zm _,rfl,zh ⟨Below.refl _ _,fun j hj=>absurd hj (by omega)⟩⟩
  case round=>
   obtain⟨i,hi,rfl,hrel⟩:=hrel;have kj:=zh hrel.out.1;have HPr:=zh hrel.out.2;clear hrel;have hx:=(ir.out.next kj.out).cell 21;have hy:=(cr.out.next kj.out).cell 21;simp only[za,zb,zf]at hx hy;by_cases hlt:i<l.length
   ·have ki:i<l'.length:=by have:=HLL.out;omega
    obtain⟨g,og,ci,rfl,ed,cv⟩:=gK HK.out i hlt;obtain⟨g',og',zy,rfl,hc22',hci'⟩:=gK HK'.out i ki;have wj:=zh hlt;have pj:Hid (∀ W',Below wc.heap.size wc W'->W'.rangeAt g (og+i*22) ci/\W'.rangeAt g' (og'+i*22) zy/\TreeIn W' l[i] ci.toArray/\TreeIn W' l'[i] zy.toArray):=zh (fun W' hb=>by have jt:Kp [] w W':=(Kp.of_below bf.out).trans (Kp.of_below hb);exact⟨(cv W' jt).1,(hci' W' jt).1,(cv W' jt).2,(hci' W' jt).2⟩);clear cv hci';have zi:(Tryz.prog.info? 34).map (·.size)=some ci.length:=by rw[ed];exact bY
    have hinf':(Tryz.prog.info? 34).map (·.size)=some zy.length:=by rw[hc22'];exact bY
    have hib:(i:Int)<=1000000:=by have:=fu.out;omega
    have vd:(i:Int)<(l.length:Int):=by omega
    have hli':(i:Int)<(l'.length:Int):=by omega
    have CI:=zh (fun W' (hb:Below wc.heap.size wc W')=>IH.out i hlt (l'[i]'ki) ci.toArray zy.toArray W' (pj.out W' hb).2.2.1 (pj.out W' hb).2.2.2);obtain⟨b,hb⟩:∃ b,(l[i]'hlt).same (l'[i]'ki)=b:=⟨_,rfl⟩
    rw[hb]at CI;have HBv:=zh hb;clear hb
    go_upto_region 6 with fail
    clear hx hy
    go_cut [66] (fun v wx=>v=.bool (!b)/\Hid (Below wc.heap.size wc wx))
    case first=>
     obtain⟨P0,zu⟩:∃ R:World->Prop,∀ w',R w'↔(Below wc.heap.size wc w'):=⟨_,fun _=>Iff.rfl⟩
     have od:=zh zu;clear zu;obtain⟨P1,hP1⟩:∃ R:World->Prop,∀ w',R w'↔(Below wc.heap.size wc w'):=⟨_,fun _=>Iff.rfl⟩
     have xr:=zh hP1;clear hP1;obtain⟨TT,ah⟩:∃ TT:List (Nat×Nat×Value),TT=[(0,55,vP q 21),(1,56,.slice (some ⟨g,og,none⟩) l.length cp),(2,57,vI (i:Int)),(3,58,vP g (og+i*22)),(4,59,.agg ci.toArray),(5,60,vP (q+1) 21),(6,61,.slice (some ⟨g',og',none⟩) l'.length lc),(7,62,vI (i:Int)),(8,63,vP g' (og'+i*22)),(9,64,.agg zy.toArray),(10,65,.bool b),(11,66,.bool (!b))]:=⟨_,rfl⟩
     have bd:=zh ah;clear ah;refine bV (fun a0=>67<=a0.tmps.size/\a0.eval (.tmp 2)=vP q 0/\a0.eval (.tmp 3)=vP (q+1) 0/\a0.eval (.tmp 5)=vI (i:Int)) [55,56,57,58,59,60,61,62,63,64,65,66] TT [(10,P1)] P0 (by kernel_rfl) (by kernel_rfl) ⟨by simp,rfl,rfl,rfl⟩ ((od.out _).2 (kj.out.trans (zB.drew.mono kj.out.size))) ?_ ?_
     ·rintro a0 ⟨hs,sq,kn,qw⟩ zl a1 w1 zj o aq hI aj ho zd;have ah:=bd.out;subst ah;have hk:okU (([(0,55,vP q 21),(1,56,.slice (some ⟨g,og,none⟩) l.length cp),(2,57,vI (i:Int)),(3,58,vP g (og+i*22)),(4,59,.agg ci.toArray),(5,60,vP (q+1) 21),(6,61,.slice (some ⟨g',og',none⟩) l'.length lc),(7,62,vI (i:Int)),(8,63,vP g' (og'+i*22)),(9,64,.agg zy.toArray),(10,65,.bool b),(11,66,.bool (!b))]:List (Nat×Nat×Value)).map fun e=>(e.1,e.2.1)) [55,56,57,58,59,60,61,62,63,64,65,66] 67=true:=by rfl
      have hj:=Up.of_false aj;have hj12:zj<12:=by rw[aq]at hj;exact hj
      have e2x:a1.eval (.tmp 2)=vP q 0:=(hI.off.eval (by decide)).trans sq;have e3x:a1.eval (.tmp 3)=vP (q+1) 0:=(hI.off.eval (by decide)).trans kn;have e5x:a1.eval (.tmp 5)=vI (i:Int):=(hI.off.eval (by decide)).trans qw;(iterate 11 rcases zq hj12 with hj12|rfl);obtain rfl:=cz hj12;all_goals obtain rfl:=oi ho
      ·exact fJ hk hI hs (.head _) (by simp) aj ho zd (bS rfl) rfl (by simp[execOp,go_sem,cD e2x])
      ·have d0:=ud zd 0;have p0:=pk hI.pt 0 rfl d0;have hq:w1.cell? ⟨q,21,none⟩=some (.slice (some ⟨g,og,none⟩) l.length cp):=by
        obtain⟨jj,hjj,hP⟩:=hI.low 0 (by simp) (fun m hm=>by obtain rfl:=Option.some.inj hm;kernel_rfl) aj;rcases(by omega:jj=0) with rfl;have hP:P0 w1:=hP;have hW:=(od.out _).1 hP;exact(ir.out.next hW).cell 21
       exact fJ hk hI hs (.tail _ (.head _)) (by simp) aj ho zd (bS rfl) rfl (by simp[execOp,go_sem,cD p0,hq])
      ·exact fJ hk hI hs (mm 2 rfl) (by simp) aj ho zd (bS rfl) rfl (by simp[execOp,go_sem,cD e5x])
      ·have d1:=ud zd 1;have p1:=pk hI.pt 1 rfl d1;have d2:=ud zd 2;have p2:=pk hI.pt 2 rfl d2;exact fJ hk hI hs (mm 3 rfl) (by simp) aj ho zd (bS rfl) rfl (by simp[execOp,go_sem,cD p1,cD p2,vd])
      ·have d3:=ud zd 3;have p3:=pk hI.pt 3 rfl d3;have hq:w1.rangeAt g (og+i*22) ci:=by
        obtain⟨jj,hjj,hP⟩:=hI.low 0 (by simp) (fun m hm=>by obtain rfl:=Option.some.inj hm;kernel_rfl) aj;rcases(by omega:jj=0) with rfl;have hP:P0 w1:=hP;exact(pj.out _ ((od.out _).1 hP)).1
       exact fJ hk hI hs (mm 4 rfl) (by simp) aj ho zd (bS rfl) rfl (aQ 34 (.tmp 58) rfl _ _ p3 _ _ hq Tryz.underlying34 rfl zi)
      ·exact fJ hk hI hs (mm 5 rfl) (by simp) aj ho zd (bS rfl) rfl (by simp[execOp,go_sem,cD e3x])
      ·have d5:=ud zd 5;have p5:=pk hI.pt 5 rfl d5;have hq:w1.cell? ⟨(q+1),21,none⟩=some (.slice (some ⟨g',og',none⟩) l'.length lc):=by
        obtain⟨jj,hjj,hP⟩:=hI.low 0 (by simp) (fun m hm=>by obtain rfl:=Option.some.inj hm;kernel_rfl) aj;rcases(by omega:jj=0) with rfl;have hP:P0 w1:=hP;have hW:=(od.out _).1 hP;exact(cr.out.next hW).cell 21
       exact fJ hk hI hs (mm 6 rfl) (by simp) aj ho zd (bS rfl) rfl (by simp[execOp,go_sem,cD p5,hq])
      ·exact fJ hk hI hs (mm 7 rfl) (by simp) aj ho zd (bS rfl) rfl (by simp[execOp,go_sem,cD e5x])
      ·have d6:=ud zd 6;have p6:=pk hI.pt 6 rfl d6;have d7:=ud zd 7;have p7:=pk hI.pt 7 rfl d7;exact fJ hk hI hs (mm 8 rfl) (by simp) aj ho zd (bS rfl) rfl (by simp[execOp,go_sem,cD p6,cD p7,hli'])
      ·have d8:=ud zd 8;have p8:=pk hI.pt 8 rfl d8;have hq:w1.rangeAt g' (og'+i*22) zy:=by
        obtain⟨jj,hjj,hP⟩:=hI.low 0 (by simp) (fun m hm=>by obtain rfl:=Option.some.inj hm;kernel_rfl) aj;rcases(by omega:jj=0) with rfl;have hP:P0 w1:=hP;exact(pj.out _ ((od.out _).1 hP)).2.1
       exact fJ hk hI hs (mm 9 rfl) (by simp) aj ho zd (bS rfl) rfl (aQ 34 (.tmp 63) rfl _ _ p8 _ _ hq Tryz.underlying34 rfl hinf')
      ·have d4:=ud zd 4;have p4:=pk hI.pt 4 rfl d4;have d9:=ud zd 9;have p9:=pk hI.pt 9 rfl d9;refine gu_mark hk hI hs (mm 10 rfl) (by kernel_rfl) [] [] P1 rfl aj ho zd (bS rfl) rfl (fun hP=>?_);have hP:P0 w1:=hP;refine sK (v:=.bool b) 23 #[.agg ci.toArray,.agg zy.toArray] (by simp[go_sem,cD p4,cD p9]) ?_;have hW:=(od.out _).1 hP;refine(CI.out w1 hW).mono ?_;rintro e w2 ⟨rfl,hb⟩;exact⟨rfl,rfl,(xr.out _).2 (zU hW hb)⟩
      have d10:=ud zd 10;have p10:=pk hI.pt 10 rfl d10;exact fJ hk hI hs (mm 11 rfl) (by simp) aj ho zd (bS rfl) rfl (by simp[execOp,go_sem,cD p10])
     intro zl a1 w1 hI bi;have ah:=bd.out;subst ah;have hF:P1 w1:=hI.st.last (fun m hm=>bi m.1 (by simp only[ym,List.not_mem_nil,or_false]at hm;rcases hm with rfl;all_goals simp));have z66:a1.eval (.tmp 66)=.bool (!b):=hI.pt (11,66,.bool (!b)) (mm 11 rfl) (bi 11 (by decide));obtain⟨ff,rfl,hf⟩:=hI.off.forms;rw[<- hf 66]at z66;clear hI;simp only[List.foldl,Act.put,yz,List.set];rw[z66];have hF2:=(xr.out _).1 hF;simp only[Exit.then]
     go_step
     go_meet
     exact⟨rfl,zh hF2⟩
    case rest=>
     obtain⟨rfl,hcut⟩:=hcut;have nc:=zh hcut.out;clear hcut CI pj;cases b
     ·have nt:Hid ((NodeH.same h h'&&fG l l')=false):=zh (by rw[HR.out];cases hs:fG l l' with|false=>rfl|true=>have:=(lU HLL.out).1 hs i hlt ki;rw[HBv.out]at this;cases this)
      go_wp2_with fail
      go_ret
      exact⟨by first|exact aA nt.out.symm|exact aA rfl,zU bf.out nc.out⟩
     go_wp2_with fail
     go_roundw
     case rel=>exact⟨i+1,by have:=wj.out;omega,by go_num,zh ⟨nc.out,fun j hj h1 h2=>(Nat.lt_or_ge j i).elim (fun hji=>HPr.out j hji h1 h2) (fun hji=>by have e:j=i:=(by omega);subst e;exact HBv.out)⟩⟩
     case measure=>have:=wj.out;simp[intOf];omega
   have hie:i=l.length:=by omega
   have uw:¬ ((i:Int)<(l.length:Int)):=by omega
   have nt:Hid ((NodeH.same h h'&&fG l l')=true):=zh (by rw[HR.out];exact(lU HLL.out).2 (fun j h1 h2=>HPr.out j (by omega) h1 h2))
   go_wp2_with fail
   go_ret
   exact⟨by first|exact aA nt.out.symm|exact aA rfl,by first|exact zU bf.out kj.out |(rw[<- hQ];exact zU bf.out kj.out)⟩
end Go.Proofs.YtjfihpaeglpblaaGreatDoor
