/-
  Lemmas, part 24: RrO RrP RrQ RsA RsE RenderSaysW LaidH OpenX RenderSaysC GuS.
-/
import Derived.Lib.LaidTab
import Derived.Test.YtjfihpaeglpblaaGreatDoorRs23
set_option maxHeartbeats 100000000
set_option maxRecDepth 1000000
namespace Go.Proofs.YtjfihpaeglpblaaGreatDoor
open Go.RowKit
theorem TreeP.nextIn{W W':World}{t:Tree}{cs:Array Value}(h:TreeP iV W t cs)(hb:Below W.heap.size W W'):TreeIn W' t cs:=(h.nextA hb).all
theorem wW(t:Tree)(P Q:Option Addr)(Cn:List Value)(w:World)(hP:TreeP iV w t Cn.toArray)(hf:t.fine)(aq:t.size<=1000)(hc:dO t≠0) :
  Calls Tryz.prog 14 #[.agg Cn.toArray,.pointer P,.pointer Q] w fun e w'=>e=.returned (vS #[])/\Below w.heap.size w w':=by
 obtain⟨W0,ak⟩:=zD (w.alloc (.cells Cn.toArray 34))
 have ai:=zh ak;have ag:=zA ak;have HL:=zL ak;have fq:Cn.length=22:=by
  obtain⟨A,lc,e,_⟩:=hP;exact mE e
 have bg:=zh (dD fq);have CC:=zh (sW t Cn.toArray W0 hf (by omega) (hP.nextIn ag.out));have cv:((dO t:Int) != 0)=true:=by simp;omega
 clear ak hP hf aq hc fq;generalize dO t=ck at *
 go_in
 go_upto_region 1 with fail
 rw[<- ai.out];clear ai
 go_wp2_with (first
  |(refine yr rfl 34 (.tmp 3) rfl w.heap.size 0 rfl Cn _ HL.out.rangeM Tryz.underlying34 rfl bg.out ?_)
  |((with_reducible refine CC.out.mono ?_);rintro e wx ⟨rfl,hb⟩;have bq:=zT ag hb;clear hb))
 go_ret
 exact⟨rfl,bq.out⟩
theorem yN(t:Tree)(p q:Option Nat)(R C:AxV)(Cn:List Value)(w:World)(hP:TreeP iV w t Cn.toArray)(hf:t.fine)(hp:AxQ w p R)(hq:AxQ w q C)(hc:dO t=0) :
  Calls Tryz.prog 14 #[.agg Cn.toArray,.pointer (ptr p),.pointer (ptr q)] w fun e w'=>e=.returned (vT (cO none (t.toks .plain R C++[rN])))/\Below w.heap.size w w':=by
 obtain⟨hr,aq⟩:=nV hc;have htl:=eF .plain R C t 6 hr;have htx:=xE (v:=.plain) trivial hp.av hq.av t 6 hr;obtain⟨W0,ak⟩:=zD (w.alloc (.cells Cn.toArray 34))
 have ai:=zh ak;have ag:=zA ak;have HL:=zL ak;have fq:Cn.length=22:=by
  obtain⟨A,lc,e,_⟩:=hP;exact mE e
 have bg:=zh (dD fq);have CC:=zh (sW t Cn.toArray W0 hf (by omega) (hP.nextIn ag.out));rw[hc]at CC;have CT:Hid (∀ W,Below w.heap.size w W->Calls Tryz.prog 36 #[.agg #[.pointer (ptr p),.pointer (ptr q),vI (-1),vI 0],.agg Cn.toArray] W fun e w'=>TkO W w' e (t.toks .plain R C)):=zh (fun W hb=>rtok_any p q R C .plain trivial 1000 t (by omega) (by omega) 6 hr W Cn (hp.next hb) (hq.next hb) (hP.nextA hb));have HJ:=zh (fun(A:Option Addr) (c:Nat) (W:World) (rg:RIn W A (t.toks .plain R C++[rN]))=>show Calls Tryz.prog 35 #[.slice A ((t.toks .plain R C).length+1) c] W _ from by
  have h:=uFT A c (t.toks .plain R C++[rN]) W (by simp;omega) (fun x hx=>by
   rcases List.mem_append.1 hx with hx|hx
   ·exact(htx x hx).1
   ·rw[yf.1 hx];decide) (fun x hx h5=>by
   rcases List.mem_append.1 hx with hx|hx
   ·exact(htx x hx).2 h5
   rw[yf.1 hx]at h5;cases h5) rg
  rw[yl]at h;exact h)
 have HTl:Hid ((t.toks .plain R C).length<=1600):=zh (by omega);clear ak hP hf hp hq hc hr aq htl htx fq;generalize ptr p=P at *;generalize ptr q=Q at *;obtain⟨na,htk⟩:∃ x,x=t.toks .plain R C:=⟨_,rfl⟩
 rw[<- htk]at CT HJ HTl ⊢;have htl:=HTl.out;clear htk
 go_in
 go_upto_region 1 with fail
 rw[<- ai.out];clear ai
 go_wp2_with (first
  |(refine yr rfl 34 (.tmp 3) rfl w.heap.size 0 rfl Cn _ HL.out.rangeM Tryz.underlying34 rfl bg.out ?_)
  |((with_reducible refine CC.out.mono ?_);rintro e W1 ⟨rfl,hb⟩;have bq:=zT ag hb;replace HL:=zh (HL.out.next hb);clear hb CC)
  |((with_reducible refine(CT.out _ bq.out).mono ?_);rintro e W2 ⟨A2,c2,rfl,ho,hb⟩;have au:=zT bq hb;have ee:=zh (aL ho bq.out.size);obtain⟨W3,gw⟩:=zD (W2.alloc (.cells #[vI 0,vS #[],vI 0] 85));have HW3:=zh gw;have bf:=zF au gw;have jb:Hid (W3.ownsRow w.heap.size 85 3 (.slice A2 na.length c2) na.length (cL na)):=zh (by rw[gw];exact ee.out.alloc _);have HE3:Hid (W3.ownsRow W2.heap.size 85 3 (.slice (some ⟨W2.heap.size,0,none⟩) 1 1) 1 (cL [rN])):=zh (by rw[gw];exact⟨rfl,.inr ⟨_,1,#[vI 0,vS #[],vI 0],rfl,zr,heap_alloc_new _ _,zr,by unfold maxLen;omega,rfl,rfl⟩⟩);clear ho hb gw)
  |(at_builtin;rw[<- HW3.out];refine aT rfl _ _ rfl w.heap.size W2.heap.size _ _ na [rN] rfl jb.out rfl HE3.out (by simp;omega) bf.out.size ?_;intro A4 c4 w4 k4 g4;have HIn:Hid (RIn w4 A4 (na++[rN])):=zh (yI k4);have bu:=zh (bf.out.trans (aN (aL jb.out zr) g4 bf.out.size));clear k4 g4)
  |((with_reducible refine(HJ.out A4 c4 _ HIn.out).mono ?_);rintro e w7 ⟨rfl,hb⟩;have m4:=zT bu hb;clear hb))
 go_ret
 exact⟨rfl,m4.out⟩
theorem oA(t:Tree)(p q:Option Nat)(R C:AxV)(Cn:List Value)(w:World)(hP:TreeP iV w t Cn.toArray)(hf:t.fine)(aq:t.size<=1000)(hp:AxQ w p R)(hq:AxQ w q C) :
  Calls Tryz.prog 14 #[.agg Cn.toArray,.pointer (ptr p),.pointer (ptr q)] w fun e w'=>e=.returned (vT (cW .plain R C t))/\Below w.heap.size w w':=by
 unfold cW;by_cases hc:dO t=0
 ·rw[if_neg (by omega)];exact yN t p q R C Cn w hP hf hp hq hc
 rw[if_pos hc];exact wW t _ _ Cn w hP hf aq hc
def fF:Nat->Tree->Bool
 |0,_=>true
 |d+1,t=>decide (400<t.l.length)||decide (300<t.h.name.length)||decide (300<t.h.v.text.length)||t.l.any (fF d)
theorem rB{f:Tree->Bool}{l:List Tree}(h:∀ j (hj:j<l.length),f (l[j]'hj)=false):l.any f=false:=by
 rw[List.any_eq_false];intro x hx;obtain⟨j,hj,rfl⟩:=List.getElem_of_mem hx;rw[h j hj]
 decide
theorem xI{f:Tree->Bool}{l:List Tree}(j:Nat)(hj:j<l.length)(h:f (l[j]'hj)=true):l.any f=true:=by
 rw[List.any_eq_true];exact⟨_,List.getElem_mem hj,h⟩
theorem uFX:∀ (d:Nat),d<=40->∀ (t:Tree) (Cn:List Value) (w:World),TreeP iV w t Cn.toArray ->
  Calls Tryz.prog 68 #[.agg Cn.toArray,vI (d:Int)] w fun e w'=>e=.returned (.bool (fF d t))/\Below w.heap.size w w':=by
 intro d
 induction d with
 |zero=>
  intro _ t Cn w hP;obtain⟨W0,ak⟩:=zD (w.alloc (.cells Cn.toArray 34))
  have ai:=zh ak;have ag:=zA ak;clear ak hP;have e:((0:Nat):Int)=0:=rfl;rw[e];clear e
  go_in
  go_upto_region 1 with fail
  rw[<- ai.out];clear ai
  go_wp2_with fail
  go_ret
  exact⟨rfl,ag.out⟩
 |succ d ih=>
  intro hd t Cn w hP;have IH:=zh (ih (by omega));clear ih;obtain⟨⟨kind,vv,s,a,b,r⟩,l⟩:=t;obtain⟨A,ca,af,li,lx⟩:=hP;replace af:Cn.toArray=aJ ⟨kind,vv,s,a,b,r⟩ A l.length ca:=af;replace li:l.length<=ca:=li;replace lx:KidsPO iV w A l:=lx;obtain⟨W0,ak⟩:=zD (w.alloc (.cells Cn.toArray 34))
  have ai:=zh ak;have ag:=zA ak;have HL:=zL ak;have HC:Hid (∀ W,Below W0.heap.size W0 W->W.cell? ⟨w.heap.size,4,none⟩=some (vT vv.text)/\W.cell? ⟨w.heap.size,7,none⟩=some (vT s)/\W.cell? ⟨w.heap.size,21,none⟩=some (.slice A l.length ca)):=zh (fun W hb=>by
   have e4:=(HL.out.next hb).cell 4;have e7:=(HL.out.next hb).cell 7;have e21:=(HL.out.next hb).cell 21;rw[af]at e4 e7 e21;exact⟨e4,e7,e21⟩)
  have qe:(((d+1:Nat):Int)==0)=false:=by rw[beq_eq_false_iff_ne];omega
  have HD:Hid (fF (d+1) (.mk ⟨kind,vv,s,a,b,r⟩ l)=(decide (400<l.length)||decide (300<s.length)||decide (300<vv.text.length)||l.any (fF d))):=zh rfl;obtain⟨res,nu⟩:∃ x,x=fF (d+1) (.mk ⟨kind,vv,s,a,b,r⟩ l):=⟨_,rfl⟩
  rw[<- nu]at HD ⊢;have HK:=zh (fun i (hi:i<l.length)=>nR lx i hi);have hdi:(d:Int)<=40:=by omega
  obtain⟨c4,c7,jp⟩:=HC.out _ zB;clear ak af li lx nu HL;generalize vv.text=tx at *;by_cases h1:400<l.length
  ·have HR:Hid (res=true):=zh (by rw[HD.out,decide_eq_true h1];rfl);have h1i:(400:Int)<(l.length:Int):=by omega
   clear HD HK
   go_in
   go_upto_region 1 with fail
   rw[<- ai.out];clear ai
   go_wp2_with fail
   go_ret
   exact⟨by(rw[HR.out]) <;> rfl,ag.out⟩
  have h1i:¬ (400:Int)<(l.length:Int):=by omega
  by_cases h2:300<s.length
  ·have HR:Hid (res=true):=zh (by rw[HD.out,decide_eq_true h2];simp);have h2i:(300:Int)<(s.length:Int):=by omega
   clear HD HK
   go_in
   go_upto_region 1 with fail
   rw[<- ai.out];clear ai
   go_wp2_with fail
   go_ret
   exact⟨by(rw[HR.out]) <;> rfl,ag.out⟩
  have h2i:¬ (300:Int)<(s.length:Int):=by omega
  by_cases h3:300<tx.length
  ·have HR:Hid (res=true):=zh (by rw[HD.out,decide_eq_true h3];simp);have h3i:(300:Int)<(tx.length:Int):=by omega
   clear HD HK
   go_in
   go_upto_region 1 with fail
   rw[<- ai.out];clear ai
   go_wp2_with fail
   go_ret
   exact⟨by(rw[HR.out]) <;> rfl,ag.out⟩
  have h3i:¬ (300:Int)<(tx.length:Int):=by omega
  have HR:Hid (res=l.any (fF d)):=zh (by rw[HD.out,decide_eq_false h1,decide_eq_false h2,decide_eq_false h3];simp);obtain⟨n,hn⟩:=zD l.length
  have HN:=zh hn;have hni:(n:Int)<=400:=by omega
  rw[<- hn]at HC jp h1i;clear HD h1 h2 h3 hn
  go_in
  go_upto_region 1 with fail
  rw[<- ai.out];clear ai
  go_wp2_with fail
  clear c4 c7 jp
  go_loopw [5] (fun v5 wr=>∃ i:Nat,i<=n/\v5=vI (i:Int)/\Hid (∀ j (hj:j<l.length),j<i->fF d (l[j]'hj)=false)/\Hid (Below W0.heap.size W0 wr)) (fun v5 _=>n-(intOf v5).toNat)
  case atStart=>exact⟨0,zm _,rfl,zh (fun j _ h=>absurd h (Nat.not_lt_zero _)),zh zB⟩
  case round=>
   obtain⟨i,hi,rfl,uf,HB⟩:=hrel;obtain⟨c4,c7,jp⟩:=HC.out _ HB.out;by_cases hlt:i<n
   ·have hlti:(i:Int)<(n:Int):=by omega
    have lu:i<l.length:=by rw[<- HN.out];exact hlt
    obtain⟨g,og,ci,hA,fq,cv⟩:=HK.out i lu;subst hA;have bg:=zh (dD fq);have hbw:=zU ag.out HB.out;obtain⟨k1,k2⟩:=cv wr hbw;have jh:=zh k1;have CN:Hid (Calls Tryz.prog 68 #[.agg ci.toArray,vI (d:Int)] wr fun e w'=>e=.returned (.bool (fF d (l[i]'lu)))/\Below wr.heap.size wr w'):=zh (IH.out _ ci wr k2);obtain⟨bo,hbo⟩:∃ x,x=fF d (l[i]'lu):=⟨_,rfl⟩
    rw[<- hbo]at CN;have HBo:=zh hbo;have u4q:IntKind.i64.wrap (((d+1:Nat):Int)-1)=(d:Int):=by rw[IntWalk.i64_in _ (by omega)];omega
    have hw2:IntKind.i64.wrap ((d:Int)+1-1)=(d:Int):=by rw[IntWalk.i64_in _ (by omega)];omega
    clear k1 k2 cv fq hbo HK hbw;cases bo
    ·go_wp2_with (first
      |(refine yr rfl 34 (.tmp 37) rfl g (og+i*22) rfl ci _ jh.out Tryz.underlying34 rfl bg.out ?_)
      |((with_reducible refine CN.out.mono ?_);rintro e wx ⟨rfl,hb⟩;have au:=zT HB hb;clear hb c4 c7 jp))
     go_roundw
     case rel=>exact⟨i+1,by omega,by go_num,zh (fun j hj hji=>by
      rcases Nat.lt_or_ge j i with h|h
      ·exact uf.out j hj h
      obtain rfl:j=i:=by omega
      exact HBo.out.symm),au⟩
     case measure=>first |(simp[intOf];done) |(simp[intOf];omega)
    go_wp2_with (first
     |(refine yr rfl 34 (.tmp 37) rfl g (og+i*22) rfl ci _ jh.out Tryz.underlying34 rfl bg.out ?_)
     |((with_reducible refine CN.out.mono ?_);rintro e wx ⟨rfl,hb⟩;have au:=zT HB hb;clear hb c4 c7 jp))
    go_ret
    exact⟨by(rw[HR.out,xI (f:=fF d) i lu HBo.out.symm]) <;> rfl,zU ag.out au.out⟩
   obtain rfl:i=n:=by omega
   go_wp2_with fail
   go_ret
   exact⟨by(rw[HR.out,rB (f:=fF d) (fun j hj=>uf.out j hj (by rw[HN.out];exact hj))]) <;> rfl,zU ag.out HB.out⟩
def jO(t:Tree):Bool:=fF 40 t||decide (400<t.size)
theorem uBX(t:Tree)(Cn:List Value)(w:World)(hP:TreeP iV w t Cn.toArray)(aq:t.size<=1000000) :
  Calls Tryz.prog 31 #[.agg Cn.toArray] w fun e w'=>e=.returned (.bool (jO t))/\Below w.heap.size w w':=by
 obtain⟨W0,ak⟩:=zD (w.alloc (.cells Cn.toArray 34))
 have ai:=zh ak;have ag:=zA ak;have HL:=zL ak;have fq:Cn.length=22:=by
  obtain⟨A,lc,e,_⟩:=hP;exact mE e
 have bg:=zh (dD fq);have CO:Hid (Calls Tryz.prog 68 #[.agg Cn.toArray,vI 40] W0 fun e w'=>e=.returned (.bool (fF 40 t))/\Below W0.heap.size W0 w'):=zh (uFX 40 zr t Cn W0 (hP.nextA ag.out));have CN:Hid (∀ W,Below w.heap.size w W->Calls Tryz.prog 15 #[.agg Cn.toArray] W fun e w'=>∃ A c,e=.returned (.slice A t.size c)/\Below W.heap.size W w'):=zh (fun W hb=>(sX 1000000 zr t Cn.toArray W aq (hP.nextIn hb)).mono (by
  rintro e w' ⟨A,c,xs,rfl,_,_,uz⟩;exact⟨A,c,rfl,uz⟩))
 have HD:Hid (jO t=(fF 40 t||decide (400<t.size))):=zh rfl;have hszi:(t.size:Int)<=1000000:=by omega
 generalize jO t=res at *;generalize fF 40 t=ov at *;generalize t.size=n at *;clear ak hP aq fq;cases ov
 ·obtain⟨bn,hbn⟩:∃ b,b=decide (400<n):=⟨_,rfl⟩
  have HR:Hid (res=bn):=zh (by rw[HD.out,<- hbn];rfl);have hdec:decide ((400:Int)<(n:Int))=bn:=by rw[hbn,decide_eq_decide];omega
  clear HD hbn
  go_in
  go_upto_region 1 with fail
  rw[<- ai.out];clear ai
  go_wp2_with (first
   |(refine yr rfl 34 (.tmp 1) rfl w.heap.size 0 rfl Cn _ HL.out.rangeM Tryz.underlying34 rfl bg.out ?_)
   |(refine aK (Eq.trans (aS rfl rfl rfl rfl) rfl) 34 (.tmp 1) rfl w.heap.size 0 rfl Cn _ HL.out.rangeM Tryz.underlying34 rfl bg.out ?_)
   |((with_reducible refine CO.out.mono ?_);rintro e wx ⟨rfl,hb⟩;have bq:=zT ag hb;replace HL:=zh (HL.out.next hb);clear hb)
   |((with_reducible refine(CN.out _ bq.out).mono ?_);rintro e wx ⟨A2,c2,rfl,hb⟩;have au:=zT bq hb;clear hb))
  go_ret
  exact⟨by(rw[HR.out]) <;> rfl,au.out⟩
 have HR:Hid (res=true):=zh (by rw[HD.out];rfl);clear HD CN
 go_in
 go_upto_region 1 with fail
 rw[<- ai.out];clear ai
 go_wp2_with (first
  |(refine yr rfl 34 (.tmp 1) rfl w.heap.size 0 rfl Cn _ HL.out.rangeM Tryz.underlying34 rfl bg.out ?_)
  |((with_reducible refine CO.out.mono ?_);rintro e wx ⟨rfl,hb⟩;have bq:=zT ag hb;clear hb))
 go_ret
 exact⟨by(rw[HR.out]) <;> rfl,bq.out⟩
abbrev axesV(A B D:Option Addr)(n1 n2 n3 c1 c2 c3:Nat):Value:=.agg #[.slice A n1 c1,.slice B n2 c2,.slice D n3 c3]
theorem uAZ(t:Tree)(Cn:List Value)(A B D:Option Addr)(n1 n2 n3 c1 c2 c3:Nat)(w:World)(hP:TreeP iV w t Cn.toArray)(aq:t.size<=1000000) :
  Calls Tryz.prog 11 #[.agg Cn.toArray,axesV A B D n1 n2 n3 c1 c2 c3] w fun e w'=>e=.returned (.bool (jO t||decide (60<n1)||decide (60<n2)||decide (60<n3)))/\Below w.heap.size w w':=by
 obtain⟨W0,ak⟩:∃ W0,W0=(w.alloc (.cells Cn.toArray 34)).alloc (.cells #[.slice A n1 c1,.slice B n2 c2,.slice D n3 c3] 37):=⟨_,rfl⟩
 have ai:=zh ak;have ag:Hid (Below w.heap.size w W0):=zh (by rw[ak];exact((Below.refl _ w).alloc zr _).alloc (by rw[World.size_alloc];omega) _);have HL:Hid (Lies W0 w.heap.size 34 Cn.toArray):=zh (by rw[ak];exact(Lies.new w _ _).alloc _);have i8:Hid (Lies W0 (w.heap.size+1) 37 #[.slice A n1 c1,.slice B n2 c2,.slice D n3 c3]):=zh (by
  rw[ak];have h:=Lies.new (w.alloc (.cells Cn.toArray 34)) 37 #[.slice A n1 c1,.slice B n2 c2,.slice D n3 c3];rw[World.size_alloc]at h;exact h)
 have fq:Cn.length=22:=by
  obtain⟨A,lc,e,_⟩:=hP;exact mE e
 have bg:=zh (dD fq);have CO:=zh (uBX t Cn W0 (hP.nextA ag.out) aq);obtain⟨res,nu⟩:∃ x,x=(jO t||decide (60<n1)||decide (60<n2)||decide (60<n3)):=⟨_,rfl⟩
 have HR:=zh nu;rw[<- nu];generalize jO t=ov at *;have HC:Hid (∀ W,Below W0.heap.size W0 W->W.cell? ⟨w.heap.size+1,0,none⟩=some (.slice A n1 c1)/\W.cell? ⟨w.heap.size+1,1,none⟩=some (.slice B n2 c2)/\W.cell? ⟨w.heap.size+1,2,none⟩=some (.slice D n3 c3)):=zh (fun W hb=>⟨(i8.out.next hb).cell 0,(i8.out.next hb).cell 1,(i8.out.next hb).cell 2⟩);clear ak hP aq fq nu i8;cases ov
 case' true=>
  have HV:Hid (res=true):=zh (by rw[HR.out];rfl);have HD:=zh trivial
 case' false=>
  rcases Nat.lt_or_ge 60 n1 with g1|g1
  case' inl=>
   have k1:(60:Int)<(n1:Int):=by omega
   have HV:Hid (res=true):=zh (by rw[HR.out,decide_eq_true g1];rfl);have HD:=zh (decide_eq_true k1)
  case' inr=>
   have k1:¬ (60:Int)<(n1:Int):=by omega
   rcases Nat.lt_or_ge 60 n2 with g2|g2
   case' inl=>
    have k2:(60:Int)<(n2:Int):=by omega
    have HV:Hid (res=true):=zh (by rw[HR.out,decide_eq_true g2,Bool.or_true,Bool.true_or]);have HD:=zh (And.intro (decide_eq_false k1) (decide_eq_true k2))
   case' inr=>
    have k2:¬ (60:Int)<(n2:Int):=by omega
    rcases Nat.lt_or_ge 60 n3 with g3|g3
    case' inl=>
     have k3:(60:Int)<(n3:Int):=by omega
     have HV:Hid (res=true):=zh (by rw[HR.out,decide_eq_true g3,Bool.or_true]);have HD:=zh (And.intro (decide_eq_false k1) (And.intro (decide_eq_false k2) (decide_eq_true k3)))
    case' inr=>
     have k3:¬ (60:Int)<(n3:Int):=by omega
     have HV:Hid (res=false):=zh (by rw[HR.out,decide_eq_false (Nat.not_lt.mpr g1),decide_eq_false (Nat.not_lt.mpr g2),decide_eq_false (Nat.not_lt.mpr g3)];rfl);have HD:=zh (And.intro (decide_eq_false k1) (And.intro (decide_eq_false k2) (decide_eq_false k3)))
 all_goals
  clear HR
  go_in
  go_upto_region 1 with fail
  rw[<- ai.out];clear ai
  go_wp2_with (first
   |(refine yr rfl 34 (.tmp 2) rfl w.heap.size 0 rfl Cn _ HL.out.rangeM Tryz.underlying34 rfl bg.out ?_)
   |((with_reducible refine CO.out.mono ?_);rintro e wx ⟨rfl,hb⟩;have bq:=zT ag hb;obtain⟨x0,x1,x2⟩:=HC.out _ hb;clear hb))
  go_ret
  refine⟨?_,bq.out⟩;rw[HV.out]
  first
   |rfl
   |(simp only[HD.out];rfl)
   |(simp only[HD.out.1,HD.out.2];rfl)
   |(simp only[HD.out.1,HD.out.2.1,HD.out.2.2];rfl)
def AxsB(W:World)(Y:List Nat):Prop:=∀ y∈Y,∃ cs,Lies W y 152 cs
theorem AxsB.lies{W:World}{Y:List Nat}{b:Nat}{t:TypeId}{cs:Array Value}(hY:AxsB W Y)(h:Lies W b t cs)(ht:t≠152):b∉Y:=fun hm=>by
 obtain⟨nn,h1⟩:=hY b hm;exact fZ h h1 (fun e=>ht e.symm) rfl
theorem AxsB.own{W:World}{Y:List Nat}{b n sz:Nat}{te:TypeId}{v:Value}{xs:List Value}(hY:AxsB W Y)(h:W.ownsRow b te sz v n xs)(ht:te≠152):∀ g,v.ownBlock=some g->g∉Y:=fun g hg=>by
 rcases h.2 with⟨rfl,_⟩|⟨g1,cap,cur,rfl,_,hh,_⟩
 ·simp[Value.ownBlock]at hg
 simp[Value.ownBlock]at hg;subst hg;have h0:Lies W g1 te cur:=hh;exact hY.lies h0 ht
theorem AxF.lies{W:World}{b:Nat}{A:AxV}(h:AxF W (some b) A):∃ cs,Lies W b 152 cs:=by
 match A,h with
 |some (ids,fl),⟨_,_,_,_,.inl ⟨_,_,_,g⟩⟩=>exact⟨_,g.ax⟩
 |some (ids,fl),⟨_,_,_,_,.inr ⟨_,g⟩⟩=>
  obtain⟨_,_,_,_,_,_,h1,_⟩:=g.ex;exact⟨_,h1⟩
theorem axsB_two{W:World}{rp cp:Option Nat}{R C:AxV}(h:AxF W rp R)(k:AxF W cp C):AxsB W (rp.toList++cp.toList):=fun y hy=>by
 rcases List.mem_append.1 hy with hy|hy
 ·obtain rfl:rp=some y:=by simpa using hy
  exact h.lies
 obtain rfl:cp=some y:=by simpa using hy
 exact k.lies
theorem AxQ.kp{W W':World}{p:Option Nat}{A:AxV}{Y:List Nat}(h:AxQ W p A)(hk:Kp Y W W')(hY:AxsB W Y):AxQ W' p A:=by
 match p,A,h with
 |none,none,_=>trivial
 |some b,some (ids,fl),⟨h1,h2,h3,h4,base,v1,v2,h5⟩=>
  exact⟨h1,h2,h3,h4,base,v1,v2,h5.kp hk (hY.lies h5.ax (by decide)) (hY.own h5.r1 (by decide)) (hY.own h5.r2 (by decide))⟩
structure Made(w:World)(R C:AxV)(rp cp p q:Option Nat)(W:World):Prop where
 r:AxF W rp R
 c:AxF W cp C
 p:AxQ W p R
 q:AxQ W q C
 ne:∀ b,rp=some b->cp≠some b
 lo:∀ b∈rp.toList++cp.toList,w.heap.size<=b/\b<W.heap.size
 b:Below w.heap.size w W
abbrev eJ(ids dead:List IdR):AxV:=some (bL ids,dZ (bL ids) dead)
theorem made_of{w w1 w2:World}{ids jds dead:List IdR}{m1 c1 b1 m2 c2 b2:Nat}{v1 v2 u1 u2 x1 x2 z1 z2:Value}(hn:ids.length<=300)(hm:jds.length<=300)(hf:∀ y∈ids,y.fits)(hg:∀ y∈jds,y.fits)
  (hW:∃ W0,W0.heap.size=w.heap.size+1/\Below w.heap.size w W0/\TwoAx W0 W0.heap.size m1 c1 b1 (bL ids) (dZ (bL ids) dead) v1 v2 u1 u2 w1) (h2:TwoAx w1 w1.heap.size m2 c2 b2 (bL jds) (dZ (bL jds) dead) x1 x2 z1 z2 w2) :
  Made w (eJ ids dead) (eJ jds dead) (some (w.heap.size+1)) (some w1.heap.size) (some m1) (some m2) w2:=by
 obtain⟨W0,hs,fe,h1⟩:=hW;rw[hs]at h1;have hle:∀ l:List IdR,l.length=(dZ l dead).length:=fun l=>by
  have h:=rH l dead dead.length zr;rw[List.take_length]at h;exact h.symm
 obtain⟨p1,-,p3,p4⟩:=oZ ids;obtain⟨q1,-,q3,q4⟩:=oZ jds;have hb1:=h1.b;have aw:=h2.b;have s0:=fe.size;have s1:=hb1.size;have s2:=aw.size;have lt1:=h1.a.ax.lt;have lt2:=h2.a.ax.lt;have e1:AxF w1 (some (w.heap.size+1)) (eJ ids dead):=⟨hle _,by omega,fun y hy=>hf y (p4 y hy),p1,.inl ⟨_,_,_,h1.a⟩⟩
 have e2:AxF w2 (some w1.heap.size) (eJ jds dead):=⟨hle _,by omega,fun y hy=>hg y (q4 y hy),q1,.inl ⟨_,_,_,h2.a⟩⟩
 have g1:AxQ w1 (some m1) (eJ ids dead):=⟨hle _,by omega,fun y hy=>hf y (p4 y hy),p1,_,_,_,h1.r⟩
 have g2:AxQ w2 (some m2) (eJ jds dead):=⟨hle _,by omega,fun y hy=>hg y (q4 y hy),q1,_,_,_,h2.r⟩
 refine⟨e1.next aw,e2,g1.next aw,g2,fun b hb hc=>?_,fun b hb=>?_,(fe.trans (hb1.mono s0)).trans (aw.mono (by omega))⟩
 ·injection hb with hb;injection hc with hc;omega
 simp at hb;omega
theorem made_any(A B D:Option Addr)(ca cb cd:Nat)(ids jds dead:List IdR)(w:World)(hA:eQ w A ids)(hB:eQ w B jds)(hD:eQ w D dead)(hn:ids.length<=300)(hm:jds.length<=300)(hd:dead.length<=300)(hf:∀ y∈ids,y.fits)(hg:∀ y∈jds,y.fits) :
  Calls Tryz.prog 12 #[axesV A B D ids.length jds.length dead.length ca cb cd] w fun e w'=>∃ r c m1 m2,e=.returned (.tuple #[vP r 0,vP c 0,vP m1 0,vP m2 0])/\Made w (eJ ids dead) (eJ jds dead) (some r) (some c) (some m1) (some m2) w':=by
 obtain⟨W0,ak⟩:=zD (w.alloc (.cells #[.slice A ids.length ca,.slice B jds.length cb,.slice D dead.length cd] 37))
 have ai:=zh ak;have tq:Hid (W0.heap.size=w.heap.size+1):=zh (by rw[ak,World.size_alloc]);have ag:=zA ak;have HL:Lies W0 w.heap.size 37 #[.slice A ids.length ca,.slice B jds.length cb,.slice D dead.length cd]:=by rw[ak];exact Lies.new w _ _
 have HC:Hid (∀ W,Below W0.heap.size W0 W->W.cell? ⟨w.heap.size,0,none⟩=some (.slice A ids.length ca)/\W.cell? ⟨w.heap.size,1,none⟩=some (.slice B jds.length cb)/\W.cell? ⟨w.heap.size,2,none⟩=some (.slice D dead.length cd)):=zh (fun W hb=>⟨(HL.next hb).cell 0,(HL.next hb).cell 1,(HL.next hb).cell 2⟩);have C1:=zh (uK A D ca cd ids dead W0 (eO hA ag.out) (eO hD ag.out) hn hd hf);have C2:Hid (∀ w1,Below W0.heap.size W0 w1->_):=zh (fun w1 (hb:Below W0.heap.size W0 w1)=>uK B D cb cd jds dead w1 (eO hB (zU ag.out hb)) (eO hD (zU ag.out hb)) hm hd hg)
 have HM:Hid (∀ (w1 w2:World) (m1 c1 b1 m2 c2 b2:Nat) (v1 v2 u1 u2 x1 x2 z1 z2:Value),TwoAx W0 W0.heap.size m1 c1 b1 (bL ids) (dZ (bL ids) dead) v1 v2 u1 u2 w1->TwoAx w1 w1.heap.size m2 c2 b2 (bL jds) (dZ (bL jds) dead) x1 x2 z1 z2 w2->Made w (eJ ids dead) (eJ jds dead) (some (w.heap.size+1)) (some w1.heap.size) (some m1) (some m2) w2) :=
  zh (fun _ _ _ _ _ _ _ _ _ _ _ _ _ _ _ _ h1 h2=>made_of hn hm hf hg ⟨W0,tq.out,ag.out,h1⟩ h2)
 have X0:=HC.out W0 zB;obtain⟨x0,x1,x2⟩:=X0;clear ak hA hB hD hn hm hd hf hg HL;generalize eJ ids dead=R at *;generalize eJ jds dead=C at *
 go_in
 go_upto_region 1 with fail
 rw[<- ai.out];clear ai
 go_wp2_with (first
  |((with_reducible refine C1.out.mono ?_);rintro e w1 ⟨m1,c1,b1,v1,v2,u1,u2,rfl,h1⟩;have H1:=zh h1;obtain⟨y0,y1,y2⟩:=HC.out _ h1.b;clear x0 x1 x2 h1)
  |((with_reducible refine(C2.out _ H1.out.b).mono ?_);rintro e w2 ⟨m2,c2,b2,z1,z2,z3,z4,rfl,h2⟩;have H2:=zh (HM.out _ _ _ _ _ _ _ _ _ _ _ _ _ _ _ _ H1.out h2);clear h2))
 (try simp only[Exit.inBlock,Exit.then])
 refine yt (v:=.tuple #[vP W0.heap.size 0,vP w1.heap.size 0,vP m1 0,vP m2 0]) (by simp[results,Tryz.results12,go_sem]) rfl ?_;exact⟨_,_,_,_,by first|rfl |(rw[tq.out]),H2.out⟩
mutual
theorem uEB{N:Nat}:∀ {d:Nat} {t:Tree},t.ok N->fF d t=false->t.ok 300
 |0,_,_,h=>by cases h
 |d+1,.mk h l,ho,hv=>by
  rw[Tree.ok]at ho ⊢;unfold fF at hv;simp only[Tree.h,Tree.l,Bool.or_eq_false_iff]at hv;obtain⟨⟨a1,a2,a3,a4,a5,a6⟩,hl⟩:=ho;exact⟨⟨a1,a2,a3,a4,Nat.le_of_not_lt (of_decide_eq_false hv.1.2),Nat.le_of_not_lt (of_decide_eq_false hv.1.1.2)⟩,yD hl hv.2⟩
theorem yD{N:Nat}:∀ {d:Nat} {l:List Tree},okL N l->l.any (fF d)=false->okL 300 l
 |_,[],_,_=>trivial
 |d,t::r,ho,hv=>by
  rw[okL]at ho ⊢;rw[List.any_cons,Bool.or_eq_false_iff]at hv;exact⟨uEB ho.1 hv.1,yD ho.2 hv.2⟩
end
mutual
theorem Tree.ok.fine:∀ {t:Tree},t.ok 300->t.fine
 | .mk h l,ho=>by
  rw[Tree.ok]at ho;rw[Tree.fine];obtain⟨⟨a1,a2,a3,a4,a5,a6⟩,hl⟩:=ho;exact⟨⟨a1,a2,by omega,by omega⟩,yC hl⟩
theorem yC:∀ {l:List Tree},okL 300 l->uDR l
 | [],_=>trivial
 |t::r,ho=>by
  rw[okL]at ho;exact⟨Tree.ok.fine ho.1,yC ho.2⟩
end
theorem great_no{t:Tree}{N:Nat}(ho:t.ok N)(h:jO t=false):t.ok 300/\t.fine/\t.size<=400:=by
 unfold jO at h;rw[Bool.or_eq_false_iff,decide_eq_false_iff_not,Nat.not_lt]at h;have h1:=uEB ho h.1;exact⟨h1,h1.fine,h.2⟩
structure LawW(w:World)(b:Nat)(t:Tree)(Cn:List Value)(R C:AxV)(rp cp p q:Option Nat)(W:World):Prop where
 box:∃ cs,Lies W b 34 cs
 row:W.rangeAt b 0 Cn
 tree:TreeP (fun g=>g∉rp.toList++cp.toList) W t Cn.toArray
 r:AxF W rp R
 c:AxF W cp C
 p:AxQ W p R
 q:AxQ W q C
 ne:∀ b,rp=some b->cp≠some b
 lo:∀ b∈rp.toList++cp.toList,w.heap.size<=b/\b<W.heap.size/\mC b
 gl:Gl W
 bel:Below w.heap.size w W
theorem iS{W W':World}{b o:Nat}{cs:List Value}(h:W.rangeAt b o cs)(hk:W'.heap[b]?=W.heap[b]?):W'.rangeAt b o cs:=fun j v hv=>(World.cell?_of_block (w:=W) (a:=⟨b,o+j,none⟩) hk).trans (h j v hv)
theorem LawW.next{w:World}{b:Nat}{t:Tree}{Cn:List Value}{R C:AxV}{rp cp p q:Option Nat}{W W':World}(h:LawW w b t Cn R C rp cp p q W)(hb:Below W.heap.size W W'):LawW w b t Cn R C rp cp p q W':=by
 obtain⟨cs,hc⟩:=h.box;have hs:=hb.size;exact⟨⟨cs,hc.next hb⟩,iS h.row (hb.block _ hc.lt),h.tree.box hb,h.r.next hb,h.c.next hb,h.p.next hb,h.q.next hb,h.ne,fun x hx=>⟨(h.lo x hx).1,by have:=(h.lo x hx).2.1;omega,(h.lo x hx).2.2⟩,h.gl.next hb,h.bel.trans (hb.mono h.bel.size)⟩
theorem LawW.kp{w:World}{b:Nat}{t:Tree}{Cn:List Value}{R C:AxV}{rp cp p q:Option Nat}{W W':World}(h:LawW w b t Cn R C rp cp p q W)(hk:Kp (rp.toList++cp.toList) W W')(hr:AxF W' rp R)(hc:AxF W' cp C)(hg:Gl W'):LawW w b t Cn R C rp cp p q W':=by
 obtain⟨cs,hl⟩:=h.box;have hA:=axsB_two h.r h.c;have hs:=hk.size;have hb:b∉rp.toList++cp.toList:=hA.lies hl (by decide);refine⟨⟨cs,hk.lies hl hb⟩,iS h.row (hk.block _ hl.lt hb),?_,hr,hc,h.p.kp hk hA,h.q.kp hk hA,h.ne,fun x hx=>⟨(h.lo x hx).1,by have:=(h.lo x hx).2.1;omega,(h.lo x hx).2.2⟩,hg,h.bel.trans (hk.below (fun k fs=>(h.lo k fs).1) h.bel.size)⟩;have h1:TreeP (fun g=>g<W.heap.size/\g∉rp.toList++cp.toList) W t Cn.toArray:=h.tree.imp (fun g h1 h2=>⟨h2,h1⟩);exact(h1.keep ⟨hs,fun g hg=>hk.block g hg.1 hg.2⟩).imp (fun g h1 _=>h1.2)
theorem LawW.of_made{w w1 W:World}{b:Nat}{t:Tree}{Cn:List Value}{R C:AxV}{rp cp p q:Option Nat}(hM:Made w1 R C rp cp p q W)(hb:Below w.heap.size w w1)(hg:Gl w1)(hl:∃ cs,Lies w1 b 34 cs)(hr:w1.rangeAt b 0 Cn)(hP:TreeP iV w1 t Cn.toArray):LawW w b t Cn R C rp cp p q W:=by
 obtain⟨cs,hc⟩:=hl;have hs:=hb.size;refine⟨⟨cs,hc.next hM.b⟩,iS hr (hM.b.block _ hc.lt),?_,hM.r,hM.c,hM.p,hM.q,hM.ne,fun x hx=>⟨by have:=(hM.lo x hx).1;omega,(hM.lo x hx).2,hg.low (hM.lo x hx).1⟩,hg.next hM.b,hb.trans (hM.b.mono hs)⟩;have h1:TreeP (fun g=>g<w1.heap.size) w1 t Cn.toArray:=hP.imp (fun g _ h2=>h2);exact(h1.keep ⟨hM.b.size,fun g hg=>hM.b.block g hg⟩).imp (fun g h1 _ hm=>by have:=(hM.lo g hm).1;omega)
theorem LawW.any{w:World}{b:Nat}{t:Tree}{Cn:List Value}{R C:AxV}{rp cp p q:Option Nat}{W:World}(h:LawW w b t Cn R C rp cp p q W):TreeP iV W t Cn.toArray:=h.tree.imp (fun _ _ _=>trivial)
abbrev zJ(s:Bs):Value:=vT s
theorem LawW.says{w:World}{b:Nat}{t:Tree}{Cn:List Value}{R C:AxV}{rp cp p q:Option Nat}{W:World}(h:LawW w b t Cn R C rp cp p q W)(ho:t.ok 300)(aq:t.size<=400) :
  Calls Tryz.prog 13 #[.agg Cn.toArray,.pointer (ptr rp),.pointer (ptr cp)] W fun e w'=>e=.returned (zJ (cW .plain R C t))/\LawW w b t Cn R C rp cp p q w' :=
 (kB t 300 rp cp R C Cn W h.tree ho.fine ho (by omega) h.r h.c h.ne h.gl (fun x hx=>(h.lo x hx).2)).mono (fun _ _ ⟨e1,e2,e3,e4,e5⟩=>⟨e1,h.kp e5 e2 e3 e4⟩)
theorem LawW.says0{w:World}{b:Nat}{t:Tree}{Cn:List Value}{R C:AxV}{rp cp p q:Option Nat}{W:World}(h:LawW w b t Cn R C rp cp p q W)(ho:t.ok 300)(aq:t.size<=400) :
  Calls Tryz.prog 13 #[.agg Cn.toArray,.pointer none,.pointer none] W fun e w'=>e=.returned (zJ (cW .plain none none t))/\LawW w b t Cn R C rp cp p q w' :=
 (kB t 300 none none none none Cn W (h.any.imp (fun g _ _=>by simp)) ho.fine ho (by omega) trivial trivial (fun b hb=>by cases hb) h.gl (fun b hb=>by cases hb)).mono (fun _ _ ⟨e1,_,_,_,e5⟩=>⟨e1,h.next (e5.below (fun k hk=>by cases hk) zr)⟩)
theorem LawW.rsays{w:World}{b:Nat}{t:Tree}{Cn:List Value}{R C:AxV}{rp cp p q:Option Nat}{W:World}(h:LawW w b t Cn R C rp cp p q W)(ho:t.ok 300)(aq:t.size<=400) :
  Calls Tryz.prog 14 #[.agg Cn.toArray,.pointer (ptr p),.pointer (ptr q)] W fun e w'=>e=.returned (zJ (cW .plain R C t))/\LawW w b t Cn R C rp cp p q w' :=
 (oA t p q R C Cn W h.any ho.fine (by omega) h.p h.q).mono (fun _ _ ⟨e1,e5⟩=>⟨e1,h.next e5⟩)
theorem LawW.rsays0{w:World}{b:Nat}{t:Tree}{Cn:List Value}{R C:AxV}{rp cp p q:Option Nat}{W:World}(h:LawW w b t Cn R C rp cp p q W)(ho:t.ok 300)(aq:t.size<=400) :
  Calls Tryz.prog 14 #[.agg Cn.toArray,.pointer none,.pointer none] W fun e w'=>e=.returned (zJ (cW .plain none none t))/\LawW w b t Cn R C rp cp p q w' :=
 (oA t none none none none Cn W h.any ho.fine (by omega) trivial trivial).mono (fun _ _ ⟨e1,e5⟩=>⟨e1,h.next e5⟩)
abbrev wI(t:Tree)(n1 n2 n3:Nat):Bool:=jO t||decide (60<n1)||decide (60<n2)||decide (60<n3)
theorem uEU{t:Tree}{N n1 n2 n3:Nat}(ho:t.ok N)(h:wI t n1 n2 n3=false):t.ok 300/\t.fine/\t.size<=400/\n1<=60/\n2<=60/\n3<=60:=by
 simp only[wI,Bool.or_eq_false_iff]at h;obtain⟨⟨⟨h0,h1⟩,h2⟩,h3⟩:=h;obtain⟨a,b,c⟩:=great_no ho h0;exact⟨a,b,c,Nat.le_of_not_lt (of_decide_eq_false h1),Nat.le_of_not_lt (of_decide_eq_false h2),Nat.le_of_not_lt (of_decide_eq_false h3)⟩
theorem says_any(t:Tree)(N:Nat)(Cn:List Value)(A B D:Option Addr)(ca cb cd:Nat)(ids jds dead:List IdR)(w:World)(hg:Gl w)(hP:TreeP iV w t Cn.toArray)(ho:t.ok N)(aq:t.size<=1000000)(hA:eQ w A ids)(hB:eQ w B jds)(hD:eQ w D dead)(hf:∀ y∈ids,y.fits)(sx:∀ y∈jds,y.fits) :
  Calls Tryz.prog 3 #[.agg Cn.toArray,axesV A B D ids.length jds.length dead.length ca cb cd] w fun e w'=>e=.returned (.bool true)/\Below w.heap.size w w':=by
 obtain⟨W0,ak⟩:∃ W0,W0=(w.alloc (.cells Cn.toArray 34)).alloc (.cells #[.slice A ids.length ca,.slice B jds.length cb,.slice D dead.length cd] 37):=⟨_,rfl⟩
 have ai:=zh ak;have ag:Hid (Below w.heap.size w W0):=zh (by rw[ak];exact((Below.refl _ w).alloc zr _).alloc (by rw[World.size_alloc];omega) _);have HL:Hid (Lies W0 w.heap.size 34 Cn.toArray):=zh (by rw[ak];exact(Lies.new w _ _).alloc _);have i8:Hid (Lies W0 (w.heap.size+1) 37 #[.slice A ids.length ca,.slice B jds.length cb,.slice D dead.length cd]):=zh (by
  rw[ak];have h:=Lies.new (w.alloc (.cells Cn.toArray 34)) 37 #[.slice A ids.length ca,.slice B jds.length cb,.slice D dead.length cd];rw[World.size_alloc]at h;exact h)
 have fq:Cn.length=22:=by
  obtain⟨A,lc,e,_⟩:=hP;exact mE e
 have bg:=zh (dD fq);have CA:=zh (rC W0 (hg.next ag.out));have HC:Hid (∀ W,Below w.heap.size w W->Below W0.heap.size W0 W->W.cell? ⟨w.heap.size+1,0,none⟩=some (.slice A ids.length ca)/\W.cell? ⟨w.heap.size+1,1,none⟩=some (.slice B jds.length cb)/\W.cell? ⟨w.heap.size+1,2,none⟩=some (.slice D dead.length cd)):=zh (fun W _ hb=>⟨(i8.out.next hb).cell 0,(i8.out.next hb).cell 1,(i8.out.next hb).cell 2⟩);have HG:=zh hg;have CG:Hid (∀ W,Below w.heap.size w W->Calls Tryz.prog 11 #[.agg Cn.toArray,axesV A B D ids.length jds.length dead.length ca cb cd] W fun e w'=>e=.returned (.bool (wI t ids.length jds.length dead.length))/\Below W.heap.size W w'):=zh (fun W (hb:Below w.heap.size w W)=>uAZ t Cn A B D ids.length jds.length dead.length ca cb cd W (hP.nextA hb) aq);have HX:Hid (eQ w A ids/\eQ w B jds/\eQ w D dead):=zh ⟨hA,hB,hD⟩;have HP:=zh hP
 have HF:=zh (And.intro hf sx);have uf:=zh (uEU (n1:=ids.length) (n2:=jds.length) (n3:=dead.length) ho);obtain⟨gb,mq⟩:=zD (wI t ids.length jds.length dead.length)
 rw[<- mq]at CG uf;clear ak hP aq fq hg hA hB hD hf sx ho mq i8;cases gb
 case' true=>
  go_in
  go_upto_region 1 with fail
  rw[<- ai.out];clear ai uf HF HX
  go_wp2_with (first
   |((with_reducible refine CA.out.mono ?_);rintro e w1 ⟨rfl,hb⟩;have bq:=zT ag hb;have ld:=zh (HL.out.next hb).rangeM;obtain⟨x0,x1,x2⟩:=HC.out _ bq.out hb;clear hb)
   |(refine aK (Eq.trans (aS rfl rfl rfl rfl) rfl) 34 (.tmp 2) rfl w.heap.size 0 rfl Cn _ ld.out Tryz.underlying34 rfl bg.out ?_)
   |((with_reducible refine(CG.out _ bq.out).mono ?_);rintro e w2 ⟨rfl,hb⟩;have au:=zT bq hb;have CA2:=zh (rC w2 (HG.out.next au.out));clear hb x0 x1 x2)
   |((with_reducible refine CA2.out.mono ?_);rintro e w3 ⟨rfl,hb⟩;have bf:=zT au hb;clear hb))
  go_ret
  exact⟨rfl,bf.out⟩
 obtain⟨k1,-,k2,k3,k4,k5⟩:=uf.out rfl;have HK:=zh (And.intro k1 k2);have HM:Hid (∀ W,Below w.heap.size w W->_):=zh (fun W (hb:Below w.heap.size w W)=>made_any A B D ca cb cd ids jds dead W (eO HX.out.1 hb) (eO HX.out.2.1 hb) (eO HX.out.2.2 hb) (by omega) (by omega) (by omega) HF.out.1 HF.out.2);clear uf HF HX k1 k2 k3 k4 k5
 go_in
 go_upto_region 1 with fail
 rw[<- ai.out];clear ai
 go_upto_region 4 with(first
  |((with_reducible refine CA.out.mono ?_);rintro e w1 ⟨rfl,hb⟩;have bq:=zT ag hb;have ij:=zh hb;have ld:=zh (HL.out.next hb).rangeM;obtain⟨x0,x1,x2⟩:=HC.out _ bq.out hb;clear hb)
  |(refine aK (Eq.trans (aS rfl rfl rfl rfl) rfl) 34 (.tmp 2) rfl w.heap.size 0 rfl Cn _ ld.out Tryz.underlying34 rfl bg.out ?_)
  |((with_reducible refine(CG.out _ bq.out).mono ?_);rintro e w2 ⟨rfl,hb⟩;have au:=zT bq hb;have cr:=zT ij hb;clear x0 x1 x2;obtain⟨x0,x1,x2⟩:=HC.out _ au.out cr.out;clear hb)
  |((with_reducible refine(HM.out _ au.out).mono ?_);rintro e w3 ⟨r,c,m1,m2,rfl,hm⟩;have HMd:=zh hm;clear hm x0 x1 x2))
 have HS:Hid (LawW w w.heap.size t Cn (eJ ids dead) (eJ jds dead) (some r) (some c) (some m1) (some m2) w3):=zh (LawW.of_made HMd.out au.out (HG.out.next au.out) ⟨_,HL.out.next cr.out⟩ (HL.out.next cr.out).rangeM (HP.out.nextA au.out));clear HMd ld ij cr bq au CA CG HC HM HL ag HP HG;generalize eJ ids dead=R at *;generalize eJ jds dead=C at *;have C1:Hid (∀ W,LawW w w.heap.size t Cn R C (some r) (some c) (some m1) (some m2) W->Calls Tryz.prog 13 #[.agg Cn.toArray,vP r 0,vP c 0] W fun e w'=>e=.returned (zJ (cW .plain R C t))/\LawW w w.heap.size t Cn R C (some r) (some c) (some m1) (some m2) w'):=zh (fun W h=>h.says HK.out.1 HK.out.2)
 have C2:Hid (∀ W,LawW w w.heap.size t Cn R C (some r) (some c) (some m1) (some m2) W->Calls Tryz.prog 14 #[.agg Cn.toArray,vP m1 0,vP m2 0] W fun e w'=>e=.returned (zJ (cW .plain R C t))/\LawW w w.heap.size t Cn R C (some r) (some c) (some m1) (some m2) w'):=zh (fun W h=>h.rsays HK.out.1 HK.out.2);have C3:Hid (∀ W,LawW w w.heap.size t Cn R C (some r) (some c) (some m1) (some m2) W->Calls Tryz.prog 13 #[.agg Cn.toArray,.pointer none,.pointer none] W fun e w'=>e=.returned (zJ (cW .plain none none t))/\LawW w w.heap.size t Cn R C (some r) (some c) (some m1) (some m2) w'):=zh (fun W h=>h.says0 HK.out.1 HK.out.2)
 have C4:Hid (∀ W,LawW w w.heap.size t Cn R C (some r) (some c) (some m1) (some m2) W->Calls Tryz.prog 14 #[.agg Cn.toArray,.pointer none,.pointer none] W fun e w'=>e=.returned (zJ (cW .plain none none t))/\LawW w w.heap.size t Cn R C (some r) (some c) (some m1) (some m2) w'):=zh (fun W h=>h.rsays0 HK.out.1 HK.out.2);generalize cW .plain R C t=X at *;generalize cW .plain none none t=Y at *;have jh:Hid (∀ W,LawW w w.heap.size t Cn R C (some r) (some c) (some m1) (some m2) W->W.rangeAt w.heap.size 0 Cn):=zh (fun W h=>h.row);have HBl:Hid (∀ W,LawW w w.heap.size t Cn R C (some r) (some c) (some m1) (some m2) W->Below w.heap.size w W):=zh (fun W h=>h.bel);have HDr:=zh (HS.out.next (Below.drew zB));clear HS HK;generalize LawW w w.heap.size t Cn R C (some r) (some c) (some m1) (some m2)=S at *
 refine wp_region_held_drew (S:=S) (by kernel_rfl) HDr.out (fun ae=>?_);refine TkC 0 (.agg Cn.toArray) rfl (yieldsIf_load_mid (by rfl) 34 (.tmp 2) rfl w.heap.size 0 (by kernel_rfl) Cn _ (fun w2 h=>jh.out w2 h) Tryz.underlying34 rfl bg.out) ?_;refine TkA 1 (vP r 0) ?_;refine TkA 2 (vP c 0) ?_;refine TkC 4 (.agg Cn.toArray) rfl (yieldsIf_load_mid (by rfl) 34 (.tmp 2) rfl w.heap.size 0 (by kernel_rfl) Cn _ (fun w2 h=>jh.out w2 h) Tryz.underlying34 rfl bg.out) ?_;refine TkA 5 (vP m1 0) ?_;refine TkA 6 (vP m2 0) ?_;refine TkR 3 (fun K hK=>?_)
 go_simp
 go_at_call 13
 refine(C1.out _ ae).mono ?_;rintro x wx1 ⟨rfl,hs⟩;have ei:=zh hs;clear hs
 go_wp2_with fail
 refine hK.out _ _ ei.out (fun hS1=>?_);clear hK K ae;refine TkR 7 (fun K hK=>?_)
 go_simp
 go_at_call 14
 refine(C2.out _ hS1).mono ?_;rintro x wx2 ⟨rfl,hs⟩;have jf:=zh hs;clear hs
 go_wp2_with fail
 refine hK.out _ _ jf.out (fun hS2=>?_);clear hK K hS1;refine TkA 8 (.bool true) ?_;refine TkA 9 (.bool true) ?_;refine TkC 10 (.agg Cn.toArray) rfl (yieldsIf_load_mid (by rfl) 34 (.tmp 2) rfl w.heap.size 0 (by kernel_rfl) Cn _ (fun w2 h=>jh.out w2 h) Tryz.underlying34 rfl bg.out) ?_;refine TkC 12 (.agg Cn.toArray) rfl (yieldsIf_load_mid (by rfl) 34 (.tmp 2) rfl w.heap.size 0 (by kernel_rfl) Cn _ (fun w2 h=>jh.out w2 h) Tryz.underlying34 rfl bg.out) ?_;refine TkR 11 (fun K hK=>?_)
 go_simp
 go_at_call 13
 refine(C3.out _ hS2).mono ?_;rintro x wx3 ⟨rfl,hs⟩;have rj:=zh hs;clear hs
 go_wp2_with fail
 refine hK.out _ _ rj.out (fun hS3=>?_);clear hK K hS2;refine TkR 13 (fun K hK=>?_)
 go_simp
 go_at_call 14
 refine(C4.out _ hS3).mono ?_;rintro x wx4 ⟨rfl,hs⟩;have jo:=zh hs;clear hs
 go_wp2_with fail
 refine hK.out _ _ jo.out (fun hS4=>?_);clear hK K hS3;refine TkA 14 (.bool true) ?_;refine TkA 15 (.bool true) ?_;refine TkA 16 (.bool true) ?_;simp only[List.getElem_toArray,List.getElem_cons_succ,List.getElem_cons_zero];simp only[Act.put,yz];refine TkD ?_
 go_wp2_with fail
 go_ret
 exact⟨rfl,HBl.out _ jo.out⟩
open Go.ChangeShapes Go.WideShapes Go.ChangeAt Go.RowKit
theorem own:ownKnob Tryz.prog.godebug=none:=by kernel_rfl
theorem laidOut:laidOutB Tryz.prog=true:=by kernel_rfl
theorem tU{H:Type}{enc:TypeId×Value->H}{P:Program}{w:World}{base:Nat}{sp:Nat->Bool}{held:Bool}{fuel:Nat}{t e:TypeId}{n:Nat}{cs:List Value}{ss:List Bs}{p:List MemPlace}
  (ht:P.underlying t=some (.array n e)) (he:P.underlying e=some .string) (hce:P.cellsOf e=1) (hct:P.cellsOf t=n)
  (h:DataW.trod enc P w base sp held fuel t cs=some (.agg (ss.map fun s=>.lit (.string s)),p)):cs=ss.map fun s=>Value.string ⟨s.toArray⟩:=by
 cases fuel with
 |zero=>simp[DataW.trod]at h
 |succ fuel=>
  simp only[DataW.trod,ht,hce,hct,Nat.mul_one]at h
  split at h
  ·rename_i hl
   obtain⟨xs,hm,hx⟩:=Option.map_eq_some_iff.1 h;have hxs:xs.map (·.1)=ss.map fun s=>(DataW.lit (.string s):DataW H):=by
    have:=congrArg Prod.fst hx;simpa using this
   have hxl:xs.length=n:=by simpa using Lib.mapM_length hm
   have hzl:ss.length=n:=by
    have:=congrArg List.length hxs;simp at this;omega
   apply List.ext_getElem?;intro i;by_cases hi:i<n
   ·obtain⟨b,hb,hf⟩:=Lib.mapM_at hm i i (by simp[hi]);obtain⟨z,hc,rfl,_⟩:=DataW.trod_string he hf;have h1:cs[i]?=some (.string z):=by
     have:=congrArg (·[0]?) hc;simpa [List.getElem?_take,List.getElem?_drop] using this
    have h2:(xs.map (·.1))[i]?=some (DataW.lit (.string z.data.toList):DataW H):=by simp[hb]
    rw[hxs]at h2;simp only[List.getElem?_map,Option.map_eq_some_iff,DataW.lit.injEq,Lit.string.injEq]at h2;obtain⟨z',hz',lm⟩:=h2;simp[h1,hz',lm]
   rw[List.getElem?_eq_none (by omega),List.getElem?_eq_none (by simp;omega)]
  cases h
theorem sC{P:Program}{w:World}:∀ {laid:List (String×DataW Unit)} {ps:List MemPlace},DataW.LaidVars P w laid ps->∀ {n:String} {d:DataW Unit},(n,d)∈laid ->
  ∃ g t cs fuel p,P.globalNamed n=some g/\(P.globals[g]?).map (·.type)=some t/\w.var? P n=some cs/\DataW.trod (fun _=>()) P w 0 (fun _=>true) false fuel t cs.toList=some (d,p)
 | [],_,_,_,_,hm=>by simp at hm
 |(n',d')::r,ps,h,n,d,hm=>by
  obtain⟨g,t,cs,fuel,p,q,h1,h2,h3,h4,h5,_⟩:=h;rcases ym.1 hm with e|e
  ·injection e with e1 e2;subst e1 e2;exact⟨g,t,cs,fuel,p,h1,h2,h3,h4⟩
  exact sC h5 e
def faultName:String:= "counterpane/value.faultTexts"
theorem gFault:Tryz.prog.globalNamed faultName=some 0:=by kernel_rfl
theorem uAX:(Tryz.prog.globals[0]?).map (·.type)=some 219:=by kernel_rfl
theorem tab_of_laid{laid:List (String×DataW Unit)}{W:World}(h:laidMet Tryz.prog laid W)(hm:(faultName,Rows.laid_counterpane_value_faultTexts)∈laid):Tab W:=by
 obtain⟨ps,hl,_⟩:=h;obtain⟨g,t,cs,fuel,p,h1,h2,h3,h4⟩:=sC hl hm;obtain rfl:=Option.some.inj (gFault.symm.trans h1);obtain rfl:=Option.some.inj (uAX.symm.trans h2);have fh:=tU (ss:=(List.range 10).map jN) Tryz.underlying219 Tryz.underlying9 (by kernel_rfl) (by kernel_rfl) h4;intro i hi;have h5:=World.var?_cell gFault h3 i;rw[h5];have h6:cs[i]?=cs.toList[i]?:=by simp
 rw[h6,fh];simp[hi]
open Go.ChangeShapes Go.WideShapes Go.ChangeAt Go.RowKit
open Go.ChangeShapes Go.WideShapes Go.ChangeAt Go.RowKit
theorem gPowType:(Tryz.prog.globals[4]?).map (·.type)=some 268:=by kernel_rfl
theorem pow_of_laid{laid:List (String×DataW Unit)}{W:World}(h:laidMet Tryz.prog laid W)(hm:("internal/strconv.uint64pow10",Rows.laid_internal_strconv_uint64pow10)∈laid):PowTab W:=by
 obtain⟨ps,hl,_⟩:=h;obtain⟨g,t,cs,fuel,p,h1,h2,h3,h4⟩:=sC hl hm;obtain rfl:=Option.some.inj (gPow.symm.trans h1);obtain rfl:=Option.some.inj (gPowType.symm.trans h2);have fh:=Lib.cells_of_tab (zs:=Lib.pow10Tab) Tryz.underlying268 Tryz.underlying216 (by kernel_rfl) (by kernel_rfl) h4;unfold PowTab Lib.TabIs;rw[h3,<- fh]
open Go.ChangeShapes Go.WideShapes Go.ChangeAt Go.RowKit
theorem max_of_shaped{W:World}(h:W.ShapedOpen Tryz.prog):MaxVar W :=
 Go.Proofs.cell_of_shapedOpen_int (zero:=#[.int .i64 0]) (t:=3) h (of_decide_eq_true (by kernel_rfl)) (by kernel_rfl) rfl (by kernel_rfl) (by kernel_rfl) Tryz.underlying3
def cells1:DataW Unit->List Value
 | .lit (.int k z)=>[.int k z]
 | .lit (.string s)=>[.string ⟨s.toArray⟩]
 | .agg l=>l.map fun d=>match d with|.lit (.int k z)=>Value.int k z | .lit (.string s)=>Value.string ⟨s.toArray⟩|_=>Value.bool false
 |_=>[]
def uGQ:DataW Unit->Array Value
 | .agg l=>(l.flatMap cells1).toArray
 |_=>#[]
def putTab2(d:DataW Unit):Obj->Obj
 | .cells _ t frozen=>.cells (uGQ d) t frozen
 |o=>o
noncomputable def laidWorldD (os:Os):World :=
 { World.holding Tryz.prog os ⟨#[],#[],[]⟩ with heap:=((((((World.holding Tryz.prog os ⟨#[],#[],[]⟩).heap.modify 0 (putTab2 Rows.laid_counterpane_value_faultTexts)).modify 4 (putTab2 Rows.laid_internal_strconv_uint64pow10)).modify 5 (putTab2 Rows.laid_math_bits_deBruijn32tab)).modify 6 (putTab2 Rows.laid_math_bits_deBruijn64tab)).modify 2 (putTab2 Rows.laid_unicode_utf8_first)).modify 3 (putTab2 Rows.laid_unicode_utf8_acceptRanges) }
end Go.Proofs.YtjfihpaeglpblaaGreatDoor
namespace Go.Proofs.YtjfihpaeglpblaaGreatDoor
open Go.ChangeShapes Go.WideShapes Go.ChangeAt Go.RowKit
theorem cellsAx:Tryz.prog.cellsOf 37=3:=by kernel_rfl
theorem rE:Tryz.prog.cellsOf 35=1:=by kernel_rfl
section
variable {H:Type} {enc:TypeId×Value->H} {W:World}
theorem open_node{r:Reach}{b0:Nat}{v:Value}{d:DataW H}{p:List MemPlace}(hv:Value.okWide Tryz.prog W r b0 34 v)(h:DataW.Trod enc Tryz.prog W 0 (fun _=>true) true 34 v d p) :
  ∃ (t:Tree) (Cn:List Value),v=.agg Cn.toArray/\TreeP iV W t Cn.toArray/\t.ok (Rows.uptoBulk d)/\7*t.size<=Rows.uptoBulk d:=by
 obtain⟨cs,rfl,aq⟩:=okWide_struct Tryz.underlying34 hv;obtain⟨fuel,hf⟩:=h;have sx:DataW.trod enc Tryz.prog W 0 (fun _=>true) true fuel 34 cs.toList=some (d,p):=by simpa [Value.cells] using hf
 obtain⟨t,A,cp,h1,h2,h3,h4,h5⟩:=uGS _ _ _ _ zr sx;refine⟨t,(aJ t.h A t.l.length cp).toList,by rw[<- h1],⟨A,cp,rfl,h2,h3⟩,h4,h5⟩
theorem pI{n:Nat}{c:Value}{y:DataW H×List MemPlace}(hf:DataW.trod enc Tryz.prog W 0 (fun _=>true) true n 35 [c]=some y) :
  ∃ (A:Option Addr) (cap:Nat) (l:List IdR),c=.slice A l.length cap/\eQ W A l/\∀ x∈l,x.fits:=by
 have key:∃ A len cap,c=.slice A len cap:=by
  rcases Go.Deep.open_slice Tryz.underlying35 hf with⟨fh,_⟩|⟨x,len,c',m,n,D,Pl,fh,_⟩
  ·injection fh with fh _;exact⟨_,_,_,fh⟩
  injection fh with fh _;exact⟨_,_,_,fh⟩
 obtain⟨A,len,cap,rfl⟩:=key;obtain⟨l,rfl,h1,h2⟩:=in_ids (enc:=enc) (W:=W) (d:=y.1) (p:=y.2) ⟨n,by simpa [Value.cells] using hf⟩;exact⟨A,cap,l,rfl,h1,h2⟩
theorem open_axes{r:Reach}{b0:Nat}{v:Value}{d:DataW H}{p:List MemPlace}(hv:Value.okWide Tryz.prog W r b0 37 v)(h:DataW.Trod enc Tryz.prog W 0 (fun _=>true) true 37 v d p) :
  ∃ (A B D:Option Addr) (ca cb cd:Nat) (ids jds dead:List IdR),v=axesV A B D ids.length jds.length dead.length ca cb cd/\eQ W A ids/\eQ W B jds/\eQ W D dead/\(∀ x∈ids,x.fits)/\∀ x∈jds,x.fits:=by
 obtain⟨cs,rfl,aq⟩:=okWide_struct Tryz.underlying37 hv;obtain⟨l⟩:=cs
 match l,aq.trans cellsAx with
 | [c0,c1,c2],_=>
  obtain⟨fuel,hf⟩:=h;have sx:DataW.trod enc Tryz.prog W 0 (fun _=>true) true fuel 37 [c0,c1,c2]=some (d,p):=by simpa [Value.cells] using hf
  obtain⟨xs,n,_,hx,_,hlen,hg⟩:=DataW.trod_struct Tryz.underlying37 sx
  match xs,hlen with
  | [y0,y1,y2],_=>
   have g0:DataW.trod enc Tryz.prog W 0 (fun _=>true) true n 35 [c0]=some y0:=by have:=hg 0 _ rfl;simpa [rE] using this
   have g1:DataW.trod enc Tryz.prog W 0 (fun _=>true) true n 35 [c1]=some y1:=by have:=hg 1 _ rfl;simpa [rE] using this
   have g2:DataW.trod enc Tryz.prog W 0 (fun _=>true) true n 35 [c2]=some y2:=by have:=hg 2 _ rfl;simpa [rE] using this
   obtain⟨A,ca,ids,rfl,a1,a2⟩:=pI g0;obtain⟨B,cb,jds,rfl,b1,b2⟩:=pI g1;obtain⟨D,cd,dead,rfl,c1,c2⟩:=pI g2;exact⟨A,B,D,ca,cb,cd,ids,jds,dead,rfl,a1,b1,c1,a2,b2⟩
end
end Go.Proofs.YtjfihpaeglpblaaGreatDoor
namespace Go.Proofs.YtjfihpaeglpblaaGreatDoor.renderSays
open Go.ChangeShapes Go.WideShapes Go.ChangeAt Go.RowKit
open Go.ChangeMaps (open_string shut_string)
theorem contract(H:Type)(enc:TypeId×Value->H)(W:World)(base:Nat)(args:Array Value)(ds gs:List (DataW H))(before:List MemPlace)
  (hval:∀ (j:Nat) t v,Tryz.f3.params[j]?=some t->args[j]?=some v->Value.okWide Tryz.prog W .any base t v)
  (hW:DataW.Whole enc Tryz.prog Tryz.f3.params.toList Rows.renderSaysSpec.vars false W args.toList ds gs before) (hL:laidMetH Tryz.prog Rows.renderSaysUptoRow.laid W) (hSh:W.ShapedOpen Tryz.prog) (hcd:Rows.uptoSmall H (ds++gs)=true) :
  Calls Tryz.prog 3 args W fun e W'=>∃ v,e=.returned v/\Rows.renderSaysSpec.post enc Tryz.prog Tryz.f3 false true false false W args v W':=by
 have hW':=hW;obtain⟨p,q,hA0,hV,rfl,hfz,hnd⟩:=hW;have hA:DataW.TrodAll enc Tryz.prog W 0 (fun _=>true) true Tryz.f3.params.toList args.toList ds p:=hA0;rw[Tryz.params3]at hA hval;obtain⟨v0,vs0,d0,ds0,p0,q0,hargs,rfl,rfl,h0,r0⟩:=trodAll_cons hA;obtain⟨v1,vs1,d1,ds1,p1,q1,rfl,rfl,rfl,h1,r1⟩:=trodAll_cons r0;obtain⟨rfl,rfl,rfl⟩:=trodAll_nil r1;obtain rfl:args=#[v0,v1]:=by cases args;simp_all
 obtain⟨rfl,rfl⟩:=trodVars_none hV;have hb:=of_decide_eq_true hcd;have k0:=h0;have lt0:∀ x∈p0,x.block<W.heap.size:=by obtain⟨m,hm⟩:=k0;exact DataW.trod_lt m _ _ _ hm
 obtain⟨t0,Cn0,rfl,P0,o0,z0⟩:=open_node (hval 0 34 v0 rfl rfl) h0;have b0:Rows.uptoBulk d0<=1048576:=yv (bulk_part (by simp)) hb;have k1:=h1;have lt1:∀ x∈p1,x.block<W.heap.size:=by obtain⟨m,hm⟩:=k1;exact DataW.trod_lt m _ _ _ hm
 obtain⟨A1,B1,D1,ca1,cb1,cd1,is1,js1,ks1,rfl,ha1,hb1,hd1,fa1,fb1⟩:=open_axes (hval 1 37 v1 rfl rfl) h1;have hgl:Gl W:=⟨tab_of_laid (laid:=Rows.renderSaysUptoRow.laid) hL (by first|exact List.mem_cons_self .. |(unfold faultName;simp[Rows.renderSaysUptoRow])),pow_of_laid (laid:=Rows.renderSaysUptoRow.laid) hL (by simp[Rows.renderSaysUptoRow]),max_of_shaped hSh⟩
 clear hA0 hval hcd;have walk:Calls Tryz.prog 3 #[.agg Cn0.toArray,axesV A1 B1 D1 is1.length js1.length ks1.length ca1 cb1 cd1] W fun e w'=>e=.returned (.bool true)/\Below W.heap.size W w':=by
  exact says_any t0 _ Cn0 A1 B1 D1 ca1 cb1 cd1 is1 js1 ks1 W hgl P0 o0 (by omega) ha1 hb1 hd1 fa1 fb1
 refine walk.mono fun e W' ⟨he,bel⟩=>?_
 subst he;exact⟨_,rfl,_,_,_,[],_,[],hW',trodAll_mk1 (shut_bool Tryz.underlying4 _),(trodAll_cons_mk (Below.trod laidOut (by kernel_rfl) (of_decide_eq_true (by kernel_rfl)) k0 bel lt0) (trodAll_cons_mk (Below.trod laidOut (by kernel_rfl) (of_decide_eq_true (by kernel_rfl)) k1 bel lt1) trodAll_mk0)),rfl,bel.frame _,fun h=>by cases h⟩
end Go.Proofs.YtjfihpaeglpblaaGreatDoor.renderSays
