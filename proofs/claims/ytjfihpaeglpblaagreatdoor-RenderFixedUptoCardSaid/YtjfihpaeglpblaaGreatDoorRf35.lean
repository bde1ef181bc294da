/-
  Lemmas, part 35: RrM RrO RrP RrQ.
-/
import Derived.Test.YtjfihpaeglpblaaGreatDoorRf19
import Derived.Test.YtjfihpaeglpblaaGreatDoorRf32
set_option maxHeartbeats 100000000
set_option maxRecDepth 1000000
namespace Go.Proofs.YtjfihpaeglpblaaGreatDoor
open Go.RowKit
abbrev kV:Nat->Prop:=fun _=>True
theorem TreeP.nextA{W W':World}{t:Tree}{cs:Array Value}(h:TreeP kV W t cs)(hb:Below W.heap.size W W'):TreeP kV W' t cs:=by
 have h1:TreeP (fun g=>g<W.heap.size) W t cs:=h.imp (fun g _ hg=>hg);exact(h1.keep ⟨hb.size,fun g hg=>hb.block g hg⟩).imp (fun _ _ _=>trivial)
theorem kid_ref{W:World}{A:Option Addr}{l:List Tree}(h:KidsPO kV W A l)(i:Nat)(hi:i<l.length):∃ g og ci,A=some ⟨g,og,none⟩/\(ci:List Value).length=22/\∀ W',Below W.heap.size W W'->W'.rangeAt g (og+i*22) ci/\TreeP kV W' (l[i]'hi) ci.toArray:=by
 have h1:KidsPO (fun g=>g<W.heap.size) W A l:=by
  rcases h with h|⟨g',o',e,h3,h4,h5⟩
  ·exact .inl h
  exact .inr ⟨g',o',e,h4,h4,KidsP.imp (fun g _ hg=>hg) h5⟩
 obtain⟨g,og,ci,e1,e2,e3⟩:=fC h1 i hi;exact⟨g,og,ci,e1,e2,fun W' hb=>by
  obtain⟨k1,k2⟩:=e3 W' ⟨hb.size,fun g hg=>hb.block g hg⟩;exact⟨k1,k2.imp (fun _ _ _=>trivial)⟩⟩
theorem TreeP.nextIn{W W':World}{t:Tree}{cs:Array Value}(h:TreeP kV W t cs)(hb:Below W.heap.size W W'):TreeIn W' t cs:=(h.nextA hb).all
def eX:Nat->Tree->Bool
 |0,_=>true
 |d+1,t=>decide (400<t.l.length)||decide (300<t.h.name.length)||decide (300<t.h.v.text.length)||t.l.any (eX d)
theorem qG{f:Tree->Bool}{l:List Tree}(h:∀ j (hj:j<l.length),f (l[j]'hj)=false):l.any f=false:=by
 rw[List.any_eq_false];intro x hx;obtain⟨j,hj,rfl⟩:=List.getElem_of_mem hx;rw[h j hj]
 decide
theorem wJ{f:Tree->Bool}{l:List Tree}(j:Nat)(hj:j<l.length)(h:f (l[j]'hj)=true):l.any f=true:=by
 rw[List.any_eq_true];exact⟨_,List.getElem_mem hj,h⟩
theorem uFJ:∀ (d:Nat),d<=40->∀ (t:Tree) (Cn:List Value) (w:World),TreeP kV w t Cn.toArray ->
  Calls Tryz.prog 68 #[.agg Cn.toArray,vI (d:Int)] w fun e w'=>e=.returned (.bool (eX d t))/\Below w.heap.size w w':=by
 intro d
 induction d with
 |zero=>
  intro _ t Cn w hP;obtain⟨W0,aj⟩:=zD (w.alloc (.cells Cn.toArray 34))
  have ak:=zh aj;have aq:=zA aj;clear aj hP;have e:((0:Nat):Int)=0:=rfl;rw[e];clear e
  go_in
  go_upto_region 1 with fail
  rw[<- ak.out];clear ak
  go_wp2_with fail
  go_ret
  exact⟨rfl,aq.out⟩
 |succ d ih=>
  intro hd t Cn w hP;have IH:=zh (ih (by omega));clear ih;obtain⟨⟨kind,vv,s,a,b,r⟩,l⟩:=t;obtain⟨A,ca,ai,l9,qr⟩:=hP;replace ai:Cn.toArray=aH ⟨kind,vv,s,a,b,r⟩ A l.length ca:=ai;replace l9:l.length<=ca:=l9;replace qr:KidsPO kV w A l:=qr;obtain⟨W0,aj⟩:=zD (w.alloc (.cells Cn.toArray 34))
  have ak:=zh aj;have aq:=zA aj;have HL:=zL aj;have HC:Hid (∀ W,Below W0.heap.size W0 W->W.cell? ⟨w.heap.size,4,none⟩=some (vT vv.text)/\W.cell? ⟨w.heap.size,7,none⟩=some (vT s)/\W.cell? ⟨w.heap.size,21,none⟩=some (.slice A l.length ca)):=zh (fun W hb=>by
   have e4:=(HL.out.next hb).cell 4;have e7:=(HL.out.next hb).cell 7;have e21:=(HL.out.next hb).cell 21;rw[ai]at e4 e7 e21;exact⟨e4,e7,e21⟩)
  have qw:(((d+1:Nat):Int)==0)=false:=by rw[beq_eq_false_iff_ne];omega
  have HD:Hid (eX (d+1) (.mk ⟨kind,vv,s,a,b,r⟩ l)=(decide (400<l.length)||decide (300<s.length)||decide (300<vv.text.length)||l.any (eX d))):=zh rfl;obtain⟨res,my⟩:∃ x,x=eX (d+1) (.mk ⟨kind,vv,s,a,b,r⟩ l):=⟨_,rfl⟩
  rw[<- my]at HD ⊢;have HK:=zh (fun i (hi:i<l.length)=>kid_ref qr i hi);have hdi:(d:Int)<=40:=by omega
  obtain⟨c4,c7,jm⟩:=HC.out _ zB;clear aj ai l9 qr my HL;generalize vv.text=tx at *;by_cases h1:400<l.length
  ·have HR:Hid (res=true):=zh (by rw[HD.out,decide_eq_true h1];rfl);have h1i:(400:Int)<(l.length:Int):=by omega
   clear HD HK
   go_in
   go_upto_region 1 with fail
   rw[<- ak.out];clear ak
   go_wp2_with fail
   go_ret
   exact⟨by(rw[HR.out]) <;> rfl,aq.out⟩
  have h1i:¬ (400:Int)<(l.length:Int):=by omega
  by_cases h2:300<s.length
  ·have HR:Hid (res=true):=zh (by rw[HD.out,decide_eq_true h2];simp);have h2i:(300:Int)<(s.length:Int):=by omega
   clear HD HK
   go_in
   go_upto_region 1 with fail
   rw[<- ak.out];clear ak
   go_wp2_with fail
   go_ret
   exact⟨by(rw[HR.out]) <;> rfl,aq.out⟩
  have h2i:¬ (300:Int)<(s.length:Int):=by omega
  by_cases h3:300<tx.length
  ·have HR:Hid (res=true):=zh (by rw[HD.out,decide_eq_true h3];simp);have h3i:(300:Int)<(tx.length:Int):=by omega
   clear HD HK
   go_in
   go_upto_region 1 with fail
   rw[<- ak.out];clear ak
   go_wp2_with fail
   go_ret
   exact⟨by(rw[HR.out]) <;> rfl,aq.out⟩
  have h3i:¬ (300:Int)<(tx.length:Int):=by omega
  have HR:Hid (res=l.any (eX d)):=zh (by rw[HD.out,decide_eq_false h1,decide_eq_false h2,decide_eq_false h3];simp);obtain⟨n,hn⟩:=zD l.length
  have HN:=zh hn;have hni:(n:Int)<=400:=by omega
  rw[<- hn]at HC jm h1i;clear HD h1 h2 h3 hn
  go_in
  go_upto_region 1 with fail
  rw[<- ak.out];clear ak
  go_wp2_with fail
  clear c4 c7 jm
  go_loopw [5] (fun v5 wr=>∃ i:Nat,i<=n/\v5=vI (i:Int)/\Hid (∀ j (hj:j<l.length),j<i->eX d (l[j]'hj)=false)/\Hid (Below W0.heap.size W0 wr)) (fun v5 _=>n-(intOf v5).toNat)
  case atStart=>exact⟨0,zm _,rfl,zh (fun j _ h=>absurd h (Nat.not_lt_zero _)),zh zB⟩
  case round=>
   obtain⟨i,hi,rfl,qo,HB⟩:=hrel;obtain⟨c4,c7,jm⟩:=HC.out _ HB.out;by_cases hlt:i<n
   ·have hlti:(i:Int)<(n:Int):=by omega
    have lc:i<l.length:=by rw[<- HN.out];exact hlt
    obtain⟨g,og,ci,hA,dq,dy⟩:=HK.out i lc;subst hA;have bj:=zh (cN dq);have hbw:=zU aq.out HB.out;obtain⟨k1,k2⟩:=dy wr hbw;have gy:=zh k1;have CN:Hid (Calls Tryz.prog 68 #[.agg ci.toArray,vI (d:Int)] wr fun e w'=>e=.returned (.bool (eX d (l[i]'lc)))/\Below wr.heap.size wr w'):=zh (IH.out _ ci wr k2);obtain⟨bo,zz⟩:∃ x,x=eX d (l[i]'lc):=⟨_,rfl⟩
    rw[<- zz]at CN;have HBo:=zh zz;have hw1:IntKind.i64.wrap (((d+1:Nat):Int)-1)=(d:Int):=by rw[IntWalk.i64_in _ (by omega)];omega
    have hw2:IntKind.i64.wrap ((d:Int)+1-1)=(d:Int):=by rw[IntWalk.i64_in _ (by omega)];omega
    clear k1 k2 dy dq zz HK hbw;cases bo
    ·go_wp2_with (first
      |(refine yr rfl 34 (.tmp 37) rfl g (og+i*22) rfl ci _ gy.out Tryz.underlying34 rfl bj.out ?_)
      |((with_reducible refine CN.out.mono ?_);rintro e wx ⟨rfl,hb⟩;have ba:=zT HB hb;clear hb c4 c7 jm))
     go_roundw
     case rel=>exact⟨i+1,by omega,by go_num,zh (fun j hj hji=>by
      rcases Nat.lt_or_ge j i with h|h
      ·exact qo.out j hj h
      obtain rfl:j=i:=by omega
      exact HBo.out.symm),ba⟩
     case measure=>first |(simp[intOf];done) |(simp[intOf];omega)
    go_wp2_with (first
     |(refine yr rfl 34 (.tmp 37) rfl g (og+i*22) rfl ci _ gy.out Tryz.underlying34 rfl bj.out ?_)
     |((with_reducible refine CN.out.mono ?_);rintro e wx ⟨rfl,hb⟩;have ba:=zT HB hb;clear hb c4 c7 jm))
    go_ret
    exact⟨by(rw[HR.out,wJ (f:=eX d) i lc HBo.out.symm]) <;> rfl,zU aq.out ba.out⟩
   obtain rfl:i=n:=by omega
   go_wp2_with fail
   go_ret
   exact⟨by(rw[HR.out,qG (f:=eX d) (fun j hj=>qo.out j hj (by rw[HN.out];exact hj))]) <;> rfl,zU aq.out HB.out⟩
def iU(t:Tree):Bool:=eX 40 t||decide (400<t.size)
theorem uBI(t:Tree)(Cn:List Value)(w:World)(hP:TreeP kV w t Cn.toArray)(ap:t.size<=1000000) :
  Calls Tryz.prog 31 #[.agg Cn.toArray] w fun e w'=>e=.returned (.bool (iU t))/\Below w.heap.size w w':=by
 obtain⟨W0,aj⟩:=zD (w.alloc (.cells Cn.toArray 34))
 have ak:=zh aj;have aq:=zA aj;have HL:=zL aj;have dq:Cn.length=22:=by
  obtain⟨A,ko,e,_⟩:=hP;exact jI e
 have bj:=zh (cN dq);have CO:Hid (Calls Tryz.prog 68 #[.agg Cn.toArray,vI 40] W0 fun e w'=>e=.returned (.bool (eX 40 t))/\Below W0.heap.size W0 w'):=zh (uFJ 40 zr t Cn W0 (hP.nextA aq.out));have CN:Hid (∀ W,Below w.heap.size w W->Calls Tryz.prog 15 #[.agg Cn.toArray] W fun e w'=>∃ A c,e=.returned (.slice A t.size c)/\Below W.heap.size W w'):=zh (fun W hb=>(sB 1000000 zr t Cn.toArray W ap (hP.nextIn hb)).mono (by
  rintro e w' ⟨A,c,xs,rfl,_,_,um⟩;exact⟨A,c,rfl,um⟩))
 have HD:Hid (iU t=(eX 40 t||decide (400<t.size))):=zh rfl;have hszi:(t.size:Int)<=1000000:=by omega
 generalize iU t=res at *;generalize eX 40 t=ov at *;generalize t.size=n at *;clear aj hP ap dq;cases ov
 ·obtain⟨bn,hbn⟩:∃ b,b=decide (400<n):=⟨_,rfl⟩
  have HR:Hid (res=bn):=zh (by rw[HD.out,<- hbn];rfl);have hdec:decide ((400:Int)<(n:Int))=bn:=by rw[hbn,decide_eq_decide];omega
  clear HD hbn
  go_in
  go_upto_region 1 with fail
  rw[<- ak.out];clear ak
  go_wp2_with (first
   |(refine yr rfl 34 (.tmp 1) rfl w.heap.size 0 rfl Cn _ HL.out.rangeM Tryz.underlying34 rfl bj.out ?_)
   |(refine aI (Eq.trans (aQ rfl rfl rfl rfl) rfl) 34 (.tmp 1) rfl w.heap.size 0 rfl Cn _ HL.out.rangeM Tryz.underlying34 rfl bj.out ?_)
   |((with_reducible refine CO.out.mono ?_);rintro e wx ⟨rfl,hb⟩;have bf:=zT aq hb;replace HL:=zh (HL.out.next hb);clear hb)
   |((with_reducible refine(CN.out _ bf.out).mono ?_);rintro e wx ⟨A2,c2,rfl,hb⟩;have ba:=zT bf hb;clear hb))
  go_ret
  exact⟨by(rw[HR.out]) <;> rfl,ba.out⟩
 have HR:Hid (res=true):=zh (by rw[HD.out];rfl);clear HD CN
 go_in
 go_upto_region 1 with fail
 rw[<- ak.out];clear ak
 go_wp2_with (first
  |(refine yr rfl 34 (.tmp 1) rfl w.heap.size 0 rfl Cn _ HL.out.rangeM Tryz.underlying34 rfl bj.out ?_)
  |((with_reducible refine CO.out.mono ?_);rintro e wx ⟨rfl,hb⟩;have bf:=zT aq hb;clear hb))
 go_ret
 exact⟨by(rw[HR.out]) <;> rfl,bf.out⟩
abbrev axesV(A B D:Option Addr)(n1 n2 n3 c1 c2 c3:Nat):Value:=.agg #[.slice A n1 c1,.slice B n2 c2,.slice D n3 c3]
theorem uAD(t:Tree)(Cn:List Value)(A B D:Option Addr)(n1 n2 n3 c1 c2 c3:Nat)(w:World)(hP:TreeP kV w t Cn.toArray)(ap:t.size<=1000000) :
  Calls Tryz.prog 11 #[.agg Cn.toArray,axesV A B D n1 n2 n3 c1 c2 c3] w fun e w'=>e=.returned (.bool (iU t||decide (60<n1)||decide (60<n2)||decide (60<n3)))/\Below w.heap.size w w':=by
 obtain⟨W0,aj⟩:∃ W0,W0=(w.alloc (.cells Cn.toArray 34)).alloc (.cells #[.slice A n1 c1,.slice B n2 c2,.slice D n3 c3] 37):=⟨_,rfl⟩
 have ak:=zh aj;have aq:Hid (Below w.heap.size w W0):=zh (by rw[aj];exact((Below.refl _ w).alloc zr _).alloc (by rw[World.size_alloc];omega) _);have HL:Hid (Lies W0 w.heap.size 34 Cn.toArray):=zh (by rw[aj];exact(Lies.new w _ _).alloc _);have iu:Hid (Lies W0 (w.heap.size+1) 37 #[.slice A n1 c1,.slice B n2 c2,.slice D n3 c3]):=zh (by
  rw[aj];have h:=Lies.new (w.alloc (.cells Cn.toArray 34)) 37 #[.slice A n1 c1,.slice B n2 c2,.slice D n3 c3];rw[World.size_alloc]at h;exact h)
 have dq:Cn.length=22:=by
  obtain⟨A,ko,e,_⟩:=hP;exact jI e
 have bj:=zh (cN dq);have CO:=zh (uBI t Cn W0 (hP.nextA aq.out) ap);obtain⟨res,my⟩:∃ x,x=(iU t||decide (60<n1)||decide (60<n2)||decide (60<n3)):=⟨_,rfl⟩
 have HR:=zh my;rw[<- my];generalize iU t=ov at *;have HC:Hid (∀ W,Below W0.heap.size W0 W->W.cell? ⟨w.heap.size+1,0,none⟩=some (.slice A n1 c1)/\W.cell? ⟨w.heap.size+1,1,none⟩=some (.slice B n2 c2)/\W.cell? ⟨w.heap.size+1,2,none⟩=some (.slice D n3 c3)):=zh (fun W hb=>⟨(iu.out.next hb).cell 0,(iu.out.next hb).cell 1,(iu.out.next hb).cell 2⟩);clear aj hP ap dq my iu;cases ov
 case' true=>
  have HV:Hid (res=true):=zh (by rw[HR.out];rfl);have HD:=zh trivial
 case' false=>
  rcases Nat.lt_or_ge 60 n1 with g1|g1
  case' inl=>
   have k1:(60:Int)<(n1:Int):=by omega
   have HV:Hid (res=true):=zh (by rw[HR.out,decide_eq_true g1];rfl);have HD:=zh (decide_eq_true k1)
  case' inr=>
   have k1:¬ (60:Int)<(n1:Int):=by omega
   rcases Nat.lt_or_ge 60 n2 with g2|g2
   case' inl=>
    have k2:(60:Int)<(n2:Int):=by omega
    have HV:Hid (res=true):=zh (by rw[HR.out,decide_eq_true g2,Bool.or_true,Bool.true_or]);have HD:=zh (And.intro (decide_eq_false k1) (decide_eq_true k2))
   case' inr=>
    have k2:¬ (60:Int)<(n2:Int):=by omega
    rcases Nat.lt_or_ge 60 n3 with g3|g3
    case' inl=>
     have k3:(60:Int)<(n3:Int):=by omega
     have HV:Hid (res=true):=zh (by rw[HR.out,decide_eq_true g3,Bool.or_true]);have HD:=zh (And.intro (decide_eq_false k1) (And.intro (decide_eq_false k2) (decide_eq_true k3)))
    case' inr=>
     have k3:¬ (60:Int)<(n3:Int):=by omega
     have HV:Hid (res=false):=zh (by rw[HR.out,decide_eq_false (Nat.not_lt.mpr g1),decide_eq_false (Nat.not_lt.mpr g2),decide_eq_false (Nat.not_lt.mpr g3)];rfl);have HD:=zh (And.intro (decide_eq_false k1) (And.intro (decide_eq_false k2) (decide_eq_false k3)))
 all_goals
  clear HR
  go_in
  go_upto_region 1 with fail
  rw[<- ak.out];clear ak
  go_wp2_with (first
   |(refine yr rfl 34 (.tmp 2) rfl w.heap.size 0 rfl Cn _ HL.out.rangeM Tryz.underlying34 rfl bj.out ?_)
   |((with_reducible refine CO.out.mono ?_);rintro e wx ⟨rfl,hb⟩;have bf:=zT aq hb;obtain⟨x0,x1,x2⟩:=HC.out _ hb;clear hb))
  go_ret
  refine⟨?_,bf.out⟩;rw[HV.out]
  first
   |rfl
   |(simp only[HD.out];rfl)
   |(simp only[HD.out.1,HD.out.2];rfl)
   |(simp only[HD.out.1,HD.out.2.1,HD.out.2.2];rfl)
end Go.Proofs.YtjfihpaeglpblaaGreatDoor
