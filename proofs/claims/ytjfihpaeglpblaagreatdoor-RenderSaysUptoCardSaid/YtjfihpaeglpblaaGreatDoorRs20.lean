/-
  Lemmas, part 20: RrH RrI RrJ RrK RrL RrM.
-/
import Derived.Test.YtjfihpaeglpblaaGreatDoorRs18
import Derived.Test.YtjfihpaeglpblaaGreatDoorRs19
set_option maxHeartbeats 100000000
set_option maxRecDepth 1000000
namespace Go.Proofs.YtjfihpaeglpblaaGreatDoor
open Go.RowKit
theorem nB(P Q:Option Addr)(v:Say)(vv:Val)(s:Bs)(a b:Cor)(r:Int)(A:Option Addr)(n cp:Nat)(Cn:List Value)(af:Cn.toArray=aJ ⟨1,vv,s,a,b,r⟩ A n cp)(g:List RTok)(w:World)(x y:Int)(t1:RTok)(hG:((x<0\/(0<=x/\y<0))/\g=dB)\/(0<=x/\0<=y/\g=[t1]/\∀ W,Calls Tryz.prog 81 #[.agg #[.pointer P,.pointer Q,vI v.r,vI v.c],.agg #[vI x,vI y,.bool a.fr,.bool a.fc]] W fun e w'=>TkO W w' e [t1]))(hP:∀ W,Below w.heap.size w W->Calls Tryz.prog 20 #[.pointer P,.agg #[vI a.row.a,vI a.row.n]] W fun e w'=>e=.returned (vI x)/\Below W.heap.size W w')(hQ:∀ W,Below w.heap.size w W->Calls Tryz.prog 20 #[.pointer Q,.agg #[vI a.col.a,vI a.col.n]] W fun e w'=>e=.returned (vI y)/\Below W.heap.size W w') :
  Calls Tryz.prog 36 #[.agg #[.pointer P,.pointer Q,vI v.r,vI v.c],.agg Cn.toArray] w fun e w'=>TkO w w' e g:=by
 obtain⟨W0,ai,ag,L0,HL⟩:=fC P Q v Cn w;have ap:=zh (fun W (h:Below W0.heap.size W0 W)=>And.intro (cU (L0.out.next h)) (cI (HL.out.next h) af));have HB:Hid (Below W0.heap.size W0 W0):=zh zB;have CP:=zh hP;have CQ:=zh hQ;have HG:=zh hG;clear hG;clear hP hQ af
 go_in
 go_upto_region 1 with fail
 rw[<- ai.out];clear ai;obtain⟨⟨w0,w1,w2,w3⟩,e0,-,-,-,-,-,-,-,e8,e9,e10,e11,e12,e13,-⟩:=ap.out _ HB.out;obtain⟨W1,an⟩:=zD (W0.alloc (.cells #[vI a.row.a,vI a.row.n,vI a.col.a,vI a.col.n,.bool a.fr,.bool a.fc] 29))
 have al:=zh an;have bq:=zA an;have au:Hid (Below w.heap.size w W1):=zh (zU ag.out bq.out);have L3:Hid (Lies W1 W0.heap.size 29 #[vI a.row.a,vI a.row.n,vI a.col.a,vI a.col.n,.bool a.fr,.bool a.fc]):=zh (by rw[an];exact Lies.new _ _ _)
 have HD:Hid (∀ W,Below W1.heap.size W1 W->W.cell? ⟨w.heap.size,0,none⟩=some (.pointer P)/\W.cell? ⟨w.heap.size,1,none⟩=some (.pointer Q)/\W.cell? ⟨w.heap.size,2,none⟩=some (vI v.r)/\W.cell? ⟨w.heap.size,3,none⟩=some (vI v.c)/\W.cell? ⟨w.heap.size+1,0,none⟩=some (vI 1)/\W.cell? ⟨W0.heap.size,0,none⟩=some (vI a.row.a)/\W.cell? ⟨W0.heap.size,1,none⟩=some (vI a.row.n)/\W.cell? ⟨W0.heap.size,2,none⟩=some (vI a.col.a)/\W.cell? ⟨W0.heap.size,3,none⟩=some (vI a.col.n)/\W.cell? ⟨W0.heap.size,4,none⟩=some (.bool a.fr)/\W.cell? ⟨W0.heap.size,5,none⟩=some (.bool a.fc)/\Below W1.heap.size W1 W):=zh (fun W h=>by
  obtain⟨⟨w0,w1,w2,w3⟩,e0,-,-,-,-,-,-,-,e8,e9,e10,e11,e12,e13,-⟩:=ap.out W (zU bq.out h);exact⟨w0,w1,w2,w3,e0,(L3.out.next h).cell 0,(L3.out.next h).cell 1,(L3.out.next h).cell 2,(L3.out.next h).cell 3,(L3.out.next h).cell 4,(L3.out.next h).cell 5,h⟩)
 clear an
 go_upto_region 8 with fail
 rw[<- al.out];clear al ap HL L0 L3;clear w0 w1 w2 w3 e0 e8 e9 e10 e11 e12 e13;obtain⟨v0,v1,v2,v3,k0,q0,q1,q2,q3,q4,q5,dc⟩:=HD.out _ zB
 go_cut [7,8] (fun va vb wx=>va=vI x/\vb=vI y/\Hid (Below W1.heap.size W1 wx))
 case first=>
  go_region_held3 (fun w'=>w'.cell? ⟨w.heap.size,0,none⟩=some (.pointer P)/\w'.cell? ⟨w.heap.size,1,none⟩=some (.pointer Q)/\w'.cell? ⟨w.heap.size,2,none⟩=some (vI v.r)/\w'.cell? ⟨w.heap.size,3,none⟩=some (vI v.c)/\w'.cell? ⟨w.heap.size+1,0,none⟩=some (vI 1)/\w'.cell? ⟨W0.heap.size,0,none⟩=some (vI a.row.a)/\w'.cell? ⟨W0.heap.size,1,none⟩=some (vI a.row.n)/\w'.cell? ⟨W0.heap.size,2,none⟩=some (vI a.col.a)/\w'.cell? ⟨W0.heap.size,3,none⟩=some (vI a.col.n)/\w'.cell? ⟨W0.heap.size,4,none⟩=some (.bool a.fr)/\w'.cell? ⟨W0.heap.size,5,none⟩=some (.bool a.fc)/\Below W1.heap.size W1 w')
   (first|exact HD.out _ dc|exact HD.out _ dc.drew |(go_split_ands;exact HD.out _ (Below.trans (by assumption) (Below.mono hb (Below.size (by assumption)))))|assumption)
   (first
    |(go_at_call 20;(with_reducible refine(CP.out _ (Below.trans au.out (Below.mono ?hbw (Below.size au.out)))).mono ?_);(case hbw=>(first|assumption |(go_split_ands;assumption)));rintro e wx ⟨rfl,hb⟩)
    |(go_at_call 20;(with_reducible refine(CQ.out _ (Below.trans au.out (Below.mono ?hbw (Below.size au.out)))).mono ?_);(case hbw=>(first|assumption |(go_split_ands;assumption)));rintro e wx ⟨rfl,hb⟩))
  all_goals go_wp2_with fail
  all_goals go_meet
  all_goals refine⟨rfl,rfl,zh ?_⟩
  all_goals first|assumption |(go_split_ands;assumption)
 case rest=>
 obtain⟨rfl,rfl,wg⟩:=hcut;clear v0 v1 v2 v3 k0 q0 q1 q2 q3 q4 q5 dc CP CQ;obtain⟨v0,v1,v2,v3,k0,q0,q1,q2,q3,q4,q5,dc⟩:=HD.out _ wg.out;clear dc;replace HB:=wg;clear wg;rcases HG.out with⟨hx|⟨hx,hy⟩,hg⟩|⟨hx,hy,hg,hM⟩
 ·have CG:Hid (∀ W,Calls Tryz.prog 80 #[] W fun e w'=>TkO W w' e g):=zh (fun W=>by rw[hg];exact gA W);clear hg
  go_wp2_with (first
   |((with_reducible refine(CG.out _).mono ?_);rintro e wx ⟨A5,gm,rfl,ho,hb⟩;have de:=zh (aL ho HB.out.size);clear ho;replace HB:=zT HB hb;clear hb;clear v0 v1 v2 v3 k0 q0 q1 q2 q3 q4 q5;obtain⟨v0,v1,v2,v3,k0,q0,q1,q2,q3,q4,q5,-⟩:=HD.out _ HB.out))
  go_ret
  exact⟨A5,gm,rfl,aL de.out au.out.size,zU au.out HB.out⟩
 ·have CG:Hid (∀ W,Calls Tryz.prog 80 #[] W fun e w'=>TkO W w' e g):=zh (fun W=>by rw[hg];exact gA W);clear hg
  go_wp2_with (first
   |((with_reducible refine(CG.out _).mono ?_);rintro e wx ⟨A5,gm,rfl,ho,hb⟩;have de:=zh (aL ho HB.out.size);clear ho;replace HB:=zT HB hb;clear hb;clear v0 v1 v2 v3 k0 q0 q1 q2 q3 q4 q5;obtain⟨v0,v1,v2,v3,k0,q0,q1,q2,q3,q4,q5,-⟩:=HD.out _ HB.out))
  go_ret
  exact⟨A5,gm,rfl,aL de.out au.out.size,zU au.out HB.out⟩
 have CM:=zh hM;subst hg;clear hM HG
 go_wp2_with (first
  |((with_reducible refine(CM.out _).mono ?_);rintro e wx ⟨A5,gm,rfl,ho,hb⟩;have de:=zh (aL ho HB.out.size);clear ho;replace HB:=zT HB hb;clear hb;clear v0 v1 v2 v3 k0 q0 q1 q2 q3 q4 q5;obtain⟨v0,v1,v2,v3,k0,q0,q1,q2,q3,q4,q5,-⟩:=HD.out _ HB.out))
 go_ret
 exact⟨A5,gm,rfl,aL de.out au.out.size,zU au.out HB.out⟩
theorem nC(P Q:Option Addr)(v:Say)(vv:Val)(s:Bs)(a b:Cor)(r:Int)(A:Option Addr)(n cp:Nat)(Cn:List Value)(af:Cn.toArray=aJ ⟨3,vv,s,a,b,r⟩ A n cp)(g:List RTok)(w:World)(x y:Int)(t1 tc:RTok)(f6:tc=tk 5 [35])(hG:((x<0\/(0<=x/\y<0))/\g=dB)\/(0<=x/\0<=y/\g=[t1]++[tc]/\∀ W,Calls Tryz.prog 81 #[.agg #[.pointer P,.pointer Q,vI v.r,vI v.c],.agg #[vI x,vI y,.bool a.fr,.bool a.fc]] W fun e w'=>TkO W w' e [t1]))(hP:∀ W,Below w.heap.size w W->Calls Tryz.prog 20 #[.pointer P,.agg #[vI a.row.a,vI a.row.n]] W fun e w'=>e=.returned (vI x)/\Below W.heap.size W w')(hQ:∀ W,Below w.heap.size w W->Calls Tryz.prog 20 #[.pointer Q,.agg #[vI a.col.a,vI a.col.n]] W fun e w'=>e=.returned (vI y)/\Below W.heap.size W w') :
  Calls Tryz.prog 36 #[.agg #[.pointer P,.pointer Q,vI v.r,vI v.c],.agg Cn.toArray] w fun e w'=>TkO w w' e g:=by
 obtain⟨W0,ai,ag,L0,HL⟩:=fC P Q v Cn w;have ap:=zh (fun W (h:Below W0.heap.size W0 W)=>And.intro (cU (L0.out.next h)) (cI (HL.out.next h) af));have HB:Hid (Below W0.heap.size W0 W0):=zh zB;have CP:=zh hP;have CQ:=zh hQ;have HG:=zh hG;have HT:=zh f6;clear hG f6;clear hP hQ af
 go_in
 go_upto_region 1 with fail
 rw[<- ai.out];clear ai;obtain⟨⟨w0,w1,w2,w3⟩,e0,-,-,-,-,-,-,-,e8,e9,e10,e11,e12,e13,-⟩:=ap.out _ HB.out;obtain⟨W1,an⟩:=zD (W0.alloc (.cells #[vI a.row.a,vI a.row.n,vI a.col.a,vI a.col.n,.bool a.fr,.bool a.fc] 29))
 have al:=zh an;have bq:=zA an;have au:Hid (Below w.heap.size w W1):=zh (zU ag.out bq.out);have L3:Hid (Lies W1 W0.heap.size 29 #[vI a.row.a,vI a.row.n,vI a.col.a,vI a.col.n,.bool a.fr,.bool a.fc]):=zh (by rw[an];exact Lies.new _ _ _)
 have HD:Hid (∀ W,Below W1.heap.size W1 W->W.cell? ⟨w.heap.size,0,none⟩=some (.pointer P)/\W.cell? ⟨w.heap.size,1,none⟩=some (.pointer Q)/\W.cell? ⟨w.heap.size,2,none⟩=some (vI v.r)/\W.cell? ⟨w.heap.size,3,none⟩=some (vI v.c)/\W.cell? ⟨w.heap.size+1,0,none⟩=some (vI 3)/\W.cell? ⟨W0.heap.size,0,none⟩=some (vI a.row.a)/\W.cell? ⟨W0.heap.size,1,none⟩=some (vI a.row.n)/\W.cell? ⟨W0.heap.size,2,none⟩=some (vI a.col.a)/\W.cell? ⟨W0.heap.size,3,none⟩=some (vI a.col.n)/\W.cell? ⟨W0.heap.size,4,none⟩=some (.bool a.fr)/\W.cell? ⟨W0.heap.size,5,none⟩=some (.bool a.fc)/\Below W1.heap.size W1 W):=zh (fun W h=>by
  obtain⟨⟨w0,w1,w2,w3⟩,e0,-,-,-,-,-,-,-,e8,e9,e10,e11,e12,e13,-⟩:=ap.out W (zU bq.out h);exact⟨w0,w1,w2,w3,e0,(L3.out.next h).cell 0,(L3.out.next h).cell 1,(L3.out.next h).cell 2,(L3.out.next h).cell 3,(L3.out.next h).cell 4,(L3.out.next h).cell 5,h⟩)
 clear an
 go_upto_region 8 with fail
 rw[<- al.out];clear al ap HL L0 L3;clear w0 w1 w2 w3 e0 e8 e9 e10 e11 e12 e13;obtain⟨v0,v1,v2,v3,k0,q0,q1,q2,q3,q4,q5,dc⟩:=HD.out _ zB
 go_cut [7,8] (fun va vb wx=>va=vI x/\vb=vI y/\Hid (Below W1.heap.size W1 wx))
 case first=>
  go_region_held3 (fun w'=>w'.cell? ⟨w.heap.size,0,none⟩=some (.pointer P)/\w'.cell? ⟨w.heap.size,1,none⟩=some (.pointer Q)/\w'.cell? ⟨w.heap.size,2,none⟩=some (vI v.r)/\w'.cell? ⟨w.heap.size,3,none⟩=some (vI v.c)/\w'.cell? ⟨w.heap.size+1,0,none⟩=some (vI 3)/\w'.cell? ⟨W0.heap.size,0,none⟩=some (vI a.row.a)/\w'.cell? ⟨W0.heap.size,1,none⟩=some (vI a.row.n)/\w'.cell? ⟨W0.heap.size,2,none⟩=some (vI a.col.a)/\w'.cell? ⟨W0.heap.size,3,none⟩=some (vI a.col.n)/\w'.cell? ⟨W0.heap.size,4,none⟩=some (.bool a.fr)/\w'.cell? ⟨W0.heap.size,5,none⟩=some (.bool a.fc)/\Below W1.heap.size W1 w')
   (first|exact HD.out _ dc|exact HD.out _ dc.drew |(go_split_ands;exact HD.out _ (Below.trans (by assumption) (Below.mono hb (Below.size (by assumption)))))|assumption)
   (first
    |(go_at_call 20;(with_reducible refine(CP.out _ (Below.trans au.out (Below.mono ?hbw (Below.size au.out)))).mono ?_);(case hbw=>(first|assumption |(go_split_ands;assumption)));rintro e wx ⟨rfl,hb⟩)
    |(go_at_call 20;(with_reducible refine(CQ.out _ (Below.trans au.out (Below.mono ?hbw (Below.size au.out)))).mono ?_);(case hbw=>(first|assumption |(go_split_ands;assumption)));rintro e wx ⟨rfl,hb⟩))
  all_goals go_wp2_with fail
  all_goals go_meet
  all_goals refine⟨rfl,rfl,zh ?_⟩
  all_goals first|assumption |(go_split_ands;assumption)
 case rest=>
 obtain⟨rfl,rfl,wg⟩:=hcut;clear v0 v1 v2 v3 k0 q0 q1 q2 q3 q4 q5 dc CP CQ;obtain⟨v0,v1,v2,v3,k0,q0,q1,q2,q3,q4,q5,dc⟩:=HD.out _ wg.out;clear dc;replace HB:=wg;clear wg;rcases HG.out with⟨hx|⟨hx,hy⟩,hg⟩|⟨hx,hy,hg,hM⟩
 ·have CG:Hid (∀ W,Calls Tryz.prog 80 #[] W fun e w'=>TkO W w' e g):=zh (fun W=>by rw[hg];exact gA W);clear hg
  go_wp2_with (first
   |((with_reducible refine(CG.out _).mono ?_);rintro e wx ⟨A5,gm,rfl,ho,hb⟩;have de:=zh (aL ho HB.out.size);clear ho;replace HB:=zT HB hb;clear hb;clear v0 v1 v2 v3 k0 q0 q1 q2 q3 q4 q5;obtain⟨v0,v1,v2,v3,k0,q0,q1,q2,q3,q4,q5,-⟩:=HD.out _ HB.out))
  go_ret
  exact⟨A5,gm,rfl,aL de.out au.out.size,zU au.out HB.out⟩
 ·have CG:Hid (∀ W,Calls Tryz.prog 80 #[] W fun e w'=>TkO W w' e g):=zh (fun W=>by rw[hg];exact gA W);clear hg
  go_wp2_with (first
   |((with_reducible refine(CG.out _).mono ?_);rintro e wx ⟨A5,gm,rfl,ho,hb⟩;have de:=zh (aL ho HB.out.size);clear ho;replace HB:=zT HB hb;clear hb;clear v0 v1 v2 v3 k0 q0 q1 q2 q3 q4 q5;obtain⟨v0,v1,v2,v3,k0,q0,q1,q2,q3,q4,q5,-⟩:=HD.out _ HB.out))
  go_ret
  exact⟨A5,gm,rfl,aL de.out au.out.size,zU au.out HB.out⟩
 have CM:=zh hM;have CKc:Hid (∀ W,Calls Tryz.prog 82 #[vI 5,vS #[35]] W fun e w'=>TkO W w' e [tc]):=zh (fun W=>by rw[HT.out];exact aR 5 [35] W);subst hg;clear hM HG HT
 go_wp2_with (first
  |((with_reducible refine(CM.out _).mono ?_);rintro e wx ⟨A1,ls,rfl,ho,hb⟩;have b7:=zh (aL ho HB.out.size);clear ho;replace HB:=zT HB hb;clear hb;clear v0 v1 v2 v3 k0 q0 q1 q2 q3 q4 q5;obtain⟨v0,v1,v2,v3,k0,q0,q1,q2,q3,q4,q5,-⟩:=HD.out _ HB.out)
  |((with_reducible refine(CKc.out _).mono ?_);rintro e wx ⟨A3,cc3,rfl,ho,hb⟩;have jb:=zh (aL ho HB.out.size);replace b7:=zh (aD hb b7.out);clear ho;replace HB:=zT HB hb;clear hb;clear v0 v1 v2 v3 k0 q0 q1 q2 q3 q4 q5;obtain⟨v0,v1,v2,v3,k0,q0,q1,q2,q3,q4,q5,-⟩:=HD.out _ HB.out)
  |(at_builtin;refine aT rfl _ _ rfl W1.heap.size W1.heap.size _ _ [t1] [tc] rfl b7.out rfl jb.out (by simp) HB.out.size ?_;intro A5 gm w5 k5 g5;have de:=zh k5;have hb:=aN b7.out g5 HB.out.size;clear k5 g5;replace HB:=zh (HB.out.trans hb);clear hb;clear v0 v1 v2 v3 k0 q0 q1 q2 q3 q4 q5;obtain⟨v0,v1,v2,v3,k0,q0,q1,q2,q3,q4,q5,-⟩:=HD.out _ HB.out))
 go_ret
 exact⟨A5,gm,rfl,aL de.out au.out.size,zU au.out HB.out⟩
theorem uGD(P Q:Option Addr)(v:Say)(vv:Val)(s:Bs)(a b:Cor)(r:Int)(A:Option Addr)(n cp:Nat)(Cn:List Value)(af:Cn.toArray=aJ ⟨4,vv,s,a,b,r⟩ A n cp)(g:List RTok)(w:World)(t1 t2 t3:RTok)(lt:List RTok)(h1:t1=tk 3 s)(h2:t2=tk 5 [40])(h3:t3=tk 5 [41])(hg:g=[t1]++[t2]++lt++[t3])(hlt:lt.length<=400000)(hLs:∀ W,Below w.heap.size w W->Calls Tryz.prog 84 #[.agg #[.pointer P,.pointer Q,vI v.r,vI v.c],.slice A n cp,vS #[44]] W fun x w'=>TkO W w' x lt) :
  Calls Tryz.prog 36 #[.agg #[.pointer P,.pointer Q,vI v.r,vI v.c],.agg Cn.toArray] w fun e w'=>TkO w w' e g:=by
 obtain⟨W0,ai,ag,L0,HL⟩:=fC P Q v Cn w;have ap:=zh (fun W (h:Below W0.heap.size W0 W)=>And.intro (cU (L0.out.next h)) (cI (HL.out.next h) af));have HB:Hid (Below W0.heap.size W0 W0):=zh zB;have CL:=zh (fun W (h:Below W0.heap.size W0 W)=>hLs W (zU ag.out h));have C1:Hid (∀ W,Calls Tryz.prog 82 #[vI 3,vT s] W fun x w'=>TkO W w' x [t1]):=zh (fun W=>by rw[h1];exact aR 3 s W);have C2:Hid (∀ W,Calls Tryz.prog 82 #[vI 5,vS #[40]] W fun x w'=>TkO W w' x [t2]):=zh (fun W=>by rw[h2];exact aR 5 [40] W);have C3:Hid (∀ W,Calls Tryz.prog 82 #[vI 5,vS #[41]] W fun x w'=>TkO W w' x [t3]):=zh (fun W=>by rw[h3];exact aR 5 [41] W);have ri:=zh hlt;subst hg;clear af hLs h1 h2 h3 hlt
 go_in
 go_upto_region 1 with fail
 rw[<- ai.out];clear ai;obtain⟨⟨w0,w1,w2,w3⟩,e0,-,-,-,-,-,-,e7,-,-,-,-,-,-,-,-,-,-,-,-,-,e21⟩:=ap.out _ HB.out
 go_wp2_with (first
  |((with_reducible refine(C1.out _).mono ?_);rintro e wx ⟨B1,cB1,rfl,ho,hb⟩;have b7:=zh (aL ho HB.out.size);clear ho;replace HB:=zT HB hb;clear hb;clear w0 w1 w2 w3 e0 e7 e21;obtain⟨⟨w0,w1,w2,w3⟩,e0,-,-,-,-,-,-,e7,-,-,-,-,-,-,-,-,-,-,-,-,-,e21⟩:=ap.out _ HB.out)
  |((with_reducible refine(C2.out _).mono ?_);rintro e wx ⟨B2,cB2,rfl,ho,hb⟩;have ee:=zh (aL ho HB.out.size);replace b7:=zh (aD hb b7.out);clear ho;replace HB:=zT HB hb;clear hb;clear w0 w1 w2 w3 e0 e7 e21;obtain⟨⟨w0,w1,w2,w3⟩,e0,-,-,-,-,-,-,e7,-,-,-,-,-,-,-,-,-,-,-,-,-,e21⟩:=ap.out _ HB.out)
  |(at_builtin;refine aT rfl _ _ rfl W0.heap.size W0.heap.size _ _ [t1] [t2] rfl b7.out rfl ee.out (by simp) HB.out.size ?_;intro B3 ur w4 k4 g4;have jb:=zh k4;have hb:=aN b7.out g4 HB.out.size;clear k4 g4;replace HB:=zh (HB.out.trans hb);clear hb;clear w0 w1 w2 w3 e0 e7 e21;obtain⟨⟨w0,w1,w2,w3⟩,e0,-,-,-,-,-,-,e7,-,-,-,-,-,-,-,-,-,-,-,-,-,e21⟩:=ap.out _ HB.out)
  |((with_reducible refine(CL.out _ HB.out).mono ?_);rintro e wx ⟨B4,cB4,rfl,ho,hb⟩;have jc:=zh (aL ho HB.out.size);replace jb:=zh (aD hb jb.out);clear ho;replace HB:=zT HB hb;clear hb;clear w0 w1 w2 w3 e0 e7 e21;obtain⟨⟨w0,w1,w2,w3⟩,e0,-,-,-,-,-,-,e7,-,-,-,-,-,-,-,-,-,-,-,-,-,e21⟩:=ap.out _ HB.out)
  |(at_builtin;refine aT rfl _ _ rfl W0.heap.size W0.heap.size _ _ ([t1]++[t2]) lt rfl jb.out rfl jc.out (by have:=ri.out;simp;omega) HB.out.size ?_;intro B5 cB5 w4 k4 g4;have de:=zh k4;have hb:=aN jb.out g4 HB.out.size;clear k4 g4;replace HB:=zh (HB.out.trans hb);clear hb;clear w0 w1 w2 w3 e0 e7 e21;obtain⟨⟨w0,w1,w2,w3⟩,e0,-,-,-,-,-,-,e7,-,-,-,-,-,-,-,-,-,-,-,-,-,e21⟩:=ap.out _ HB.out)
  |((with_reducible refine(C3.out _).mono ?_);rintro e wx ⟨B6,cB6,rfl,ho,hb⟩;have ez:=zh (aL ho HB.out.size);replace de:=zh (aD hb de.out);clear ho;replace HB:=zT HB hb;clear hb;clear w0 w1 w2 w3 e0 e7 e21;obtain⟨⟨w0,w1,w2,w3⟩,e0,-,-,-,-,-,-,e7,-,-,-,-,-,-,-,-,-,-,-,-,-,e21⟩:=ap.out _ HB.out)
  |(at_builtin;refine aT rfl _ _ rfl W0.heap.size W0.heap.size _ _ ([t1]++[t2]++lt) [t3] rfl de.out rfl ez.out (by have:=ri.out;simp;omega) HB.out.size ?_;intro B7 cB7 w4 k4 g4;have HO7:=zh k4;have hb:=aN de.out g4 HB.out.size;clear k4 g4;replace HB:=zh (HB.out.trans hb);clear hb;clear w0 w1 w2 w3 e0 e7 e21;obtain⟨⟨w0,w1,w2,w3⟩,e0,-,-,-,-,-,-,e7,-,-,-,-,-,-,-,-,-,-,-,-,-,e21⟩:=ap.out _ HB.out))
 go_ret
 exact⟨B7,cB7,by first|rfl|exact congrArg (fun k=>Ending.returned (.slice B7 k cB7)) (by simp),aL HO7.out ag.out.size,zU ag.out HB.out⟩
theorem uCE(P Q:Option Addr)(v:Say)(vv:Val)(s:Bs)(a b:Cor)(r:Int)(A:Option Addr)(n cp:Nat)(Cn:List Value)(af:Cn.toArray=aJ ⟨5,vv,s,a,b,r⟩ A n cp)(g:List RTok)(w:World)(gb ob:Nat)(ci:List Value)(lv:Int)(tw:List RTok)(tc:RTok)(hs:s=[37])(hA:A=some ⟨gb,ob,none⟩)(hn:n=1)(f6:tc=tk 5 [37])(hg:g=tw++[tc])(hlt:tw.length<=400000)(zi:(Tryz.prog.info? 34).map (·.size)=some ci.length)(hR:∀ W,Below w.heap.size w W->W.rangeAt gb ob ci)(hV:∀ W,Calls Tryz.prog 86 #[.agg ci.toArray] W fun e w'=>e=.returned (vI lv)/\Below W.heap.size W w')(hT:∀ W,Below w.heap.size w W->Calls Tryz.prog 85 #[.agg #[.pointer P,.pointer Q,vI v.r,vI v.c],.agg ci.toArray,.bool (decide (lv<7))] W fun e w'=>TkO W w' e tw) :
  Calls Tryz.prog 36 #[.agg #[.pointer P,.pointer Q,vI v.r,vI v.c],.agg Cn.toArray] w fun e w'=>TkO w w' e g:=by
 obtain⟨W0,ai,ag,L0,HL⟩:=fC P Q v Cn w;have ap:=zh (fun W (h:Below W0.heap.size W0 W)=>And.intro (cU (L0.out.next h)) (cI (HL.out.next h) af));have HB:Hid (Below W0.heap.size W0 W0):=zh zB;subst hs hA hn;have CT:=zh (fun W (h:Below W0.heap.size W0 W)=>hT W (zU ag.out h));have CV:=zh hV;have CK:Hid (∀ W,Calls Tryz.prog 82 #[vI 5,vS #[37]] W fun x w'=>TkO W w' x [tc]):=zh (fun W=>by rw[f6];exact aR 5 [37] W);have ri:=zh hlt
 have bm:Hid (∀ W,Below W0.heap.size W0 W->W.rangeAt w.heap.size 0 [.pointer P,.pointer Q,vI v.r,vI v.c]/\W.cell? ⟨w.heap.size+1,21,none⟩=some (.slice (some ⟨gb,ob,none⟩) 1 cp)/\W.rangeAt gb ob ci/\Below W0.heap.size W0 W):=zh (fun W h=>⟨Lies.rangeN (C:=[.pointer P,.pointer Q,vI v.r,vI v.c]) (L0.out.next h),by have q:=(HL.out.next h).cell 21;rw[af]at q;exact q,hR W (zU ag.out h),h⟩);have bg:=zh zi;subst hg;clear af hT hV f6 hlt hR zi
 go_in
 go_upto_region 1 with fail
 rw[<- ai.out];clear ai;obtain⟨⟨w0,w1,w2,w3⟩,e0,-,-,-,-,-,-,e7,-,-,-,-,-,-,-,-,-,-,-,-,-,e21⟩:=ap.out _ HB.out
 go_upto_region 22 with fail
 clear w0 w1 w2 w3 e0 e7 e21;refine wp_region_held_drew (S:=fun w'=>w'.rangeAt w.heap.size 0 [.pointer P,.pointer Q,vI v.r,vI v.c]/\w'.cell? ⟨w.heap.size+1,21,none⟩=some (.slice (some ⟨gb,ob,none⟩) 1 cp)/\w'.rangeAt gb ob ci/\Below W0.heap.size W0 w') (by kernel_rfl) (bm.out _ HB.out.drew) (fun ae=>?_);replace HB:=zh HB.out.drew;refine TkC 0 (.agg #[.pointer P,.pointer Q,vI v.r,vI v.c]) rfl (yieldsIf_load_mid (by rfl) 84 (.tmp 2) rfl w.heap.size 0 rfl [.pointer P,.pointer Q,vI v.r,vI v.c] _ (fun w2 h=>h.1) Tryz.underlying84 rfl (by kernel_rfl)) ?_;refine TkA 1 (vP (w.heap.size+1) 21) ?_;refine TkB 2 (.slice (some ⟨gb,ob,none⟩) 1 cp) ?_;refine TkA 3 (vP gb ob) ?_
 refine TkC 4 (.agg ci.toArray) rfl (yieldsIf_load_mid (by rfl) 34 (.tmp 91) rfl gb ob (by kernel_rfl) ci _ (fun w2 h=>h.2.2.1) Tryz.underlying34 rfl bg.out) ?_;refine TkA 5 (vP (w.heap.size+1) 21) ?_;refine TkB 6 (.slice (some ⟨gb,ob,none⟩) 1 cp) ?_;refine TkA 7 (vP gb ob) ?_;refine TkC 8 (.agg ci.toArray) rfl (yieldsIf_load_mid (by rfl) 34 (.tmp 95) rfl gb ob (by kernel_rfl) ci _ (fun w2 h=>h.2.2.1) Tryz.underlying34 rfl bg.out) ?_;refine TkR 9 (fun K hK=>?_)
 go_simp
 go_at_call 86
 refine(CV.out _).mono ?_;rintro x wx ⟨rfl,hb⟩;replace HB:=zT HB hb;clear hb
 go_wp2_with fail
 refine hK.out _ _ (bm.out _ HB.out) (fun aa=>?_);clear hK K ae;have ae:=aa;clear aa;refine TkA 10 (.bool (decide (lv<7))) ?_;refine TkR 11 (fun K hK=>?_)
 go_simp
 go_at_call 85
 refine(CT.out _ HB.out).mono ?_;rintro x wx ⟨B1,cB1,rfl,ho,hb⟩;have b7:=zh (aL ho HB.out.size);replace HB:=zT HB hb;clear ho hb
 go_wp2_with fail
 refine hK.out _ _ (bm.out _ HB.out) (fun aa=>?_);clear hK K ae;have ae:=aa;clear aa;refine TkR 12 (fun K hK=>?_)
 go_simp
 go_at_call 82
 refine(CK.out _).mono ?_;rintro x wx ⟨B2,cB2,rfl,ho,hb⟩;have ee:=zh (aL ho HB.out.size);replace b7:=zh (aD hb b7.out);replace HB:=zT HB hb;clear ho hb
 go_wp2_with fail
 refine hK.out _ _ (bm.out _ HB.out) (fun aa=>?_);clear hK K ae;have ae:=aa;clear aa;refine TkR 13 (fun K hK=>?_);refine dI rfl _ _ rfl W0.heap.size W0.heap.size _ _ tw [tc] rfl b7.out rfl ee.out (by have:=ri.out;(try simp only[yi,List.length_nil]);omega) HB.out.size ?_;intro B3 ur w5 k5 g5;have jb:=zh k5;replace HB:=zh (HB.out.trans (aN b7.out g5 HB.out.size));clear k5 g5
 (try simp only[List.getElem_toArray,List.getElem_cons_succ,List.getElem_cons_zero])
 refine hK.out _ _ (bm.out _ HB.out) (fun aa=>?_);clear hK K ae;have ae:=aa;clear aa;refine TkA 14 (.slice B3 (tw++[tc]).length ur) ?_
 (try simp only[List.getElem_toArray,List.getElem_cons_succ,List.getElem_cons_zero])
 refine TkD ?_
 (try simp only[Act.put,yz])
 go_wp2_with fail
 go_ret
 exact⟨B3,ur,by first|rfl|exact congrArg (fun k:Nat=>Ending.returned (.slice B3 k ur)) (by simp),aL jb.out ag.out.size,zU ag.out HB.out⟩
theorem uGG(P Q:Option Addr)(v:Say)(vv:Val)(s:Bs)(a b:Cor)(r:Int)(A:Option Addr)(n cp:Nat)(Cn:List Value)(af:Cn.toArray=aJ ⟨5,vv,s,a,b,r⟩ A n cp)(g:List RTok)(w:World)(gb ob:Nat)(ci:List Value)(lv:Int)(tw:List RTok)(tc:RTok)(hs:(s==[37])=false)(hA:A=some ⟨gb,ob,none⟩)(hn:n=1)(f6:tc=tk 5 s)(hg:g=[tc]++tw)(hlt:tw.length<=400000)(zi:(Tryz.prog.info? 34).map (·.size)=some ci.length)(hR:∀ W,Below w.heap.size w W->W.rangeAt gb ob ci)(hV:∀ W,Calls Tryz.prog 86 #[.agg ci.toArray] W fun e w'=>e=.returned (vI lv)/\Below W.heap.size W w')(hT:∀ W,Below w.heap.size w W->Calls Tryz.prog 85 #[.agg #[.pointer P,.pointer Q,vI v.r,vI v.c],.agg ci.toArray,.bool (decide (lv<6))] W fun e w'=>TkO W w' e tw) :
  Calls Tryz.prog 36 #[.agg #[.pointer P,.pointer Q,vI v.r,vI v.c],.agg Cn.toArray] w fun e w'=>TkO w w' e g:=by
 obtain⟨W0,ai,ag,L0,HL⟩:=fC P Q v Cn w;have ap:=zh (fun W (h:Below W0.heap.size W0 W)=>And.intro (cU (L0.out.next h)) (cI (HL.out.next h) af));have HB:Hid (Below W0.heap.size W0 W0):=zh zB;subst hA hn;have CT:=zh (fun W (h:Below W0.heap.size W0 W)=>hT W (zU ag.out h));have CV:=zh hV;have CK:Hid (∀ W,Calls Tryz.prog 82 #[vI 5,vT s] W fun x w'=>TkO W w' x [tc]):=zh (fun W=>by rw[f6];exact aR 5 s W);have ri:=zh hlt
 have bm:Hid (∀ W,Below W0.heap.size W0 W->W.rangeAt w.heap.size 0 [.pointer P,.pointer Q,vI v.r,vI v.c]/\W.cell? ⟨w.heap.size+1,7,none⟩=some (vT s)/\W.cell? ⟨w.heap.size+1,21,none⟩=some (.slice (some ⟨gb,ob,none⟩) 1 cp)/\W.rangeAt gb ob ci/\Below W0.heap.size W0 W):=zh (fun W h=>⟨Lies.rangeN (C:=[.pointer P,.pointer Q,vI v.r,vI v.c]) (L0.out.next h),by have q:=(HL.out.next h).cell 7;rw[af]at q;exact q,by have q:=(HL.out.next h).cell 21;rw[af]at q;exact q,hR W (zU ag.out h),h⟩);have bg:=zh zi;subst hg;clear af hT hV f6 hlt hR zi
 go_in
 go_upto_region 1 with fail
 rw[<- ai.out];clear ai;obtain⟨⟨w0,w1,w2,w3⟩,e0,-,-,-,-,-,-,e7,-,-,-,-,-,-,-,-,-,-,-,-,-,e21⟩:=ap.out _ HB.out
 go_upto_region 23 with fail
 clear w0 w1 w2 w3 e0 e7 e21;refine wp_region_held_drew (S:=fun w'=>w'.rangeAt w.heap.size 0 [.pointer P,.pointer Q,vI v.r,vI v.c]/\w'.cell? ⟨w.heap.size+1,7,none⟩=some (vT s)/\w'.cell? ⟨w.heap.size+1,21,none⟩=some (.slice (some ⟨gb,ob,none⟩) 1 cp)/\w'.rangeAt gb ob ci/\Below W0.heap.size W0 w') (by kernel_rfl) (bm.out _ HB.out.drew) (fun ae=>?_);replace HB:=zh HB.out.drew;refine TkA 0 (vP (w.heap.size+1) 7) ?_;refine TkB 1 (vT s) ?_;refine TkC 3 (.agg #[.pointer P,.pointer Q,vI v.r,vI v.c]) rfl (yieldsIf_load_mid (by rfl) 84 (.tmp 2) rfl w.heap.size 0 rfl [.pointer P,.pointer Q,vI v.r,vI v.c] _ (fun w2 h=>h.1) Tryz.underlying84 rfl (by kernel_rfl)) ?_;refine TkA 4 (vP (w.heap.size+1) 21) ?_;refine TkB 5 (.slice (some ⟨gb,ob,none⟩) 1 cp) ?_
 refine TkA 6 (vP gb ob) ?_;refine TkC 7 (.agg ci.toArray) rfl (yieldsIf_load_mid (by rfl) 34 (.tmp 108) rfl gb ob (by kernel_rfl) ci _ (fun w2 h=>h.2.2.2.1) Tryz.underlying34 rfl bg.out) ?_;refine TkA 8 (vP (w.heap.size+1) 21) ?_;refine TkB 9 (.slice (some ⟨gb,ob,none⟩) 1 cp) ?_;refine TkA 10 (vP gb ob) ?_;refine TkC 11 (.agg ci.toArray) rfl (yieldsIf_load_mid (by rfl) 34 (.tmp 112) rfl gb ob (by kernel_rfl) ci _ (fun w2 h=>h.2.2.2.1) Tryz.underlying34 rfl bg.out) ?_;refine TkR 2 (fun K hK=>?_)
 go_simp
 go_at_call 82
 refine(CK.out _).mono ?_;rintro x wx ⟨B1,cB1,rfl,ho,hb⟩;have b7:=zh (aL ho HB.out.size);replace HB:=zT HB hb;clear ho hb
 go_wp2_with fail
 refine hK.out _ _ (bm.out _ HB.out) (fun aa=>?_);clear hK K ae;have ae:=aa;clear aa;refine TkR 12 (fun K hK=>?_)
 go_simp
 go_at_call 86
 refine(CV.out _).mono ?_;rintro x wx ⟨rfl,hb⟩;replace b7:=zh (aD hb b7.out);replace HB:=zT HB hb;clear hb
 go_wp2_with fail
 refine hK.out _ _ (bm.out _ HB.out) (fun aa=>?_);clear hK K ae;have ae:=aa;clear aa;refine TkA 13 (.bool (decide (lv<6))) ?_;refine TkR 14 (fun K hK=>?_)
 go_simp
 go_at_call 85
 refine(CT.out _ HB.out).mono ?_;rintro x wx ⟨B2,cB2,rfl,ho,hb⟩;have ee:=zh (aL ho HB.out.size);replace b7:=zh (aD hb b7.out);replace HB:=zT HB hb;clear ho hb
 go_wp2_with fail
 refine hK.out _ _ (bm.out _ HB.out) (fun aa=>?_);clear hK K ae;have ae:=aa;clear aa;refine TkR 15 (fun K hK=>?_);refine dI rfl _ _ rfl W0.heap.size W0.heap.size _ _ [tc] tw rfl b7.out rfl ee.out (by have:=ri.out;(try simp only[yi,List.length_nil]);omega) HB.out.size ?_;intro B3 ur w5 k5 g5;have jb:=zh k5;replace HB:=zh (HB.out.trans (aN b7.out g5 HB.out.size));clear k5 g5
 (try simp only[List.getElem_toArray,List.getElem_cons_succ,List.getElem_cons_zero])
 refine hK.out _ _ (bm.out _ HB.out) (fun aa=>?_);clear hK K ae;have ae:=aa;clear aa;refine TkA 16 (.slice B3 ([tc]++tw).length ur) ?_
 (try simp only[List.getElem_toArray,List.getElem_cons_succ,List.getElem_cons_zero])
 refine TkD ?_
 (try simp only[Act.put,yz])
 go_wp2_with fail
 go_ret
 exact⟨B3,ur,by first|rfl|exact congrArg (fun k:Nat=>Ending.returned (.slice B3 k ur)) (by simp),aL jb.out ag.out.size,zU ag.out HB.out⟩
theorem rtok_two(P Q:Option Addr)(v:Say)(vv:Val)(s:Bs)(a b:Cor)(r:Int)(A:Option Addr)(n cp:Nat)(Cn:List Value)(af:Cn.toArray=aJ ⟨6,vv,s,a,b,r⟩ A n cp)(g:List RTok)(w:World)(gb ob:Nat)(ci cj:List Value)(lev lv1 lv2:Int)(t1 t2:List RTok)(tc:RTok)(hA:A=some ⟨gb,ob,none⟩)(hn:n=2)(f6:tc=tk 5 s)(hg:g=t1++[tc]++t2)(hlt:t1.length+t2.length<=400000)(hii:(Tryz.prog.info? 34).map (·.size)=some ci.length)(hij:(Tryz.prog.info? 34).map (·.size)=some cj.length)(hR:∀ W,Below w.heap.size w W->W.rangeAt gb ob ci/\W.rangeAt gb (ob+22) cj)(hV0:∀ W,Calls Tryz.prog 86 #[.agg Cn.toArray] W fun e w'=>e=.returned (vI lev)/\Below W.heap.size W w')(hV1:∀ W,Calls Tryz.prog 86 #[.agg ci.toArray] W fun e w'=>e=.returned (vI lv1)/\Below W.heap.size W w')(hV2:∀ W,Calls Tryz.prog 86 #[.agg cj.toArray] W fun e w'=>e=.returned (vI lv2)/\Below W.heap.size W w')(hT1:∀ W,Below w.heap.size w W->Calls Tryz.prog 85 #[.agg #[.pointer P,.pointer Q,vI v.r,vI v.c],.agg ci.toArray,.bool (decide (lv1<lev))] W fun e w'=>TkO W w' e t1)(hT2:∀ W,Below w.heap.size w W->Calls Tryz.prog 85 #[.agg #[.pointer P,.pointer Q,vI v.r,vI v.c],.agg cj.toArray,.bool (decide (lv2<=lev))] W fun e w'=>TkO W w' e t2) :
  Calls Tryz.prog 36 #[.agg #[.pointer P,.pointer Q,vI v.r,vI v.c],.agg Cn.toArray] w fun e w'=>TkO w w' e g:=by
 obtain⟨W0,ai,ag,L0,HL⟩:=fC P Q v Cn w;have ap:=zh (fun W (h:Below W0.heap.size W0 W)=>And.intro (cU (L0.out.next h)) (cI (HL.out.next h) af));have HB:Hid (Below W0.heap.size W0 W0):=zh zB;subst hA hn;have C1:=zh (fun W (h:Below W0.heap.size W0 W)=>hT1 W (zU ag.out h));have C2:=zh (fun W (h:Below W0.heap.size W0 W)=>hT2 W (zU ag.out h));have CV0:=zh hV0;have CV1:=zh hV1;have CV2:=zh hV2;have CK:Hid (∀ W,Calls Tryz.prog 82 #[vI 5,vT s] W fun x w'=>TkO W w' x [tc]):=zh (fun W=>by rw[f6];exact aR 5 s W);have ri:=zh hlt
 have ei:Hid (∀ W,Below W0.heap.size W0 W->W.rangeAt w.heap.size 0 [.pointer P,.pointer Q,vI v.r,vI v.c]/\W.cell? ⟨w.heap.size+1,21,none⟩=some (.slice (some ⟨gb,ob,none⟩) 2 cp)/\W.rangeAt gb ob ci/\Below W0.heap.size W0 W):=zh (fun W h=>⟨Lies.rangeN (C:=[.pointer P,.pointer Q,vI v.r,vI v.c]) (L0.out.next h),by have q:=(HL.out.next h).cell 21;rw[af]at q;exact q,(hR W (zU ag.out h)).1,h⟩);have jf:Hid (∀ W,Below W0.heap.size W0 W->W.rangeAt w.heap.size 0 [.pointer P,.pointer Q,vI v.r,vI v.c]/\W.cell? ⟨w.heap.size+1,21,none⟩=some (.slice (some ⟨gb,ob,none⟩) 2 cp)/\W.rangeAt gb (ob+22) cj/\Below W0.heap.size W0 W):=zh (fun W h=>⟨Lies.rangeN (C:=[.pointer P,.pointer Q,vI v.r,vI v.c]) (L0.out.next h),by have q:=(HL.out.next h).cell 21;rw[af]at q;exact q,(hR W (zU ag.out h)).2,h⟩)
 have HRn:Hid (∀ W,Below W0.heap.size W0 W->W.rangeAt (w.heap.size+1) 0 Cn):=zh (fun W h=>Lies.rangeN (C:=Cn) (HL.out.next h));have HI0:=zh (uDX af);have HIi:=zh hii;have HIj:=zh hij;subst hg;clear af hT1 hT2 hV0 hV1 hV2 f6 hlt hR hii hij
 go_in
 go_upto_region 1 with fail
 rw[<- ai.out];clear ai;obtain⟨⟨w0,w1,w2,w3⟩,e0,-,-,-,-,-,-,e7,-,-,-,-,-,-,-,-,-,-,-,-,-,e21⟩:=ap.out _ HB.out
 go_upto_region 26 with(first
  |(refine yr rfl 34 (.tmp 3) rfl (w.heap.size+1) 0 rfl Cn _ (HRn.out _ HB.out) Tryz.underlying34 rfl HI0.out ?_)
  |((with_reducible refine(CV0.out _).mono ?_);rintro e wx ⟨rfl,hb⟩;replace HB:=zT HB hb;clear hb;clear w0 w1 w2 w3 e0 e7 e21;obtain⟨⟨w0,w1,w2,w3⟩,e0,-,-,-,-,-,-,e7,-,-,-,-,-,-,-,-,-,-,-,-,-,e21⟩:=ap.out _ HB.out))
 clear w0 w1 w2 w3 e0 e7 e21
 go_cut [5] (fun v5 wx=>∃ A c,v5=.slice A t1.length c/\Hid (wx.ownsRow W0.heap.size 85 3 (.slice A t1.length c) t1.length (cL t1))/\Hid (Below W0.heap.size W0 wx))
 case first=>
  refine wp_region_held_drew (S:=fun w'=>w'.rangeAt w.heap.size 0 [.pointer P,.pointer Q,vI v.r,vI v.c]/\w'.cell? ⟨w.heap.size+1,21,none⟩=some (.slice (some ⟨gb,ob,none⟩) 2 cp)/\w'.rangeAt gb ob ci/\Below W0.heap.size W0 w') (by kernel_rfl) (ei.out _ HB.out.drew) (fun ae=>?_);replace HB:=zh HB.out.drew;refine TkC 0 (.agg #[.pointer P,.pointer Q,vI v.r,vI v.c]) rfl (yieldsIf_load_mid (by rfl) 84 (.tmp 2) rfl w.heap.size 0 rfl [.pointer P,.pointer Q,vI v.r,vI v.c] _ (fun w2 h=>h.1) Tryz.underlying84 rfl (by kernel_rfl)) ?_;refine TkA 1 (vP (w.heap.size+1) 21) ?_;refine TkB 2 (.slice (some ⟨gb,ob,none⟩) 2 cp) ?_;refine TkA 3 (vP gb ob) ?_;refine TkC 4 (.agg ci.toArray) rfl (yieldsIf_load_mid (by rfl) 34 (.tmp 125) rfl gb ob (by kernel_rfl) ci _ (fun w2 h=>h.2.2.1) Tryz.underlying34 rfl HIi.out) ?_
  refine TkA 5 (vP (w.heap.size+1) 21) ?_;refine TkB 6 (.slice (some ⟨gb,ob,none⟩) 2 cp) ?_;refine TkA 7 (vP gb ob) ?_;refine TkC 8 (.agg ci.toArray) rfl (yieldsIf_load_mid (by rfl) 34 (.tmp 129) rfl gb ob (by kernel_rfl) ci _ (fun w2 h=>h.2.2.1) Tryz.underlying34 rfl HIi.out) ?_;refine TkA 10 (vI lev) ?_;refine TkR 9 (fun K hK=>?_)
  go_simp
  go_at_call 86
  refine(CV1.out _).mono ?_;rintro x wx ⟨rfl,hb⟩;replace HB:=zT HB hb;clear hb
  go_wp2_with fail
  refine hK.out _ _ (ei.out _ HB.out) (fun aa=>?_);clear hK K ae;have ae:=aa;clear aa;refine TkA 11 (.bool (decide (lv1<lev))) ?_;refine TkR 12 (fun K hK=>?_)
  go_simp
  go_at_call 85
  refine(C1.out _ HB.out).mono ?_;rintro x wx ⟨B1,cB1,rfl,ho,hb⟩;have b7:=zh (aL ho HB.out.size);replace HB:=zT HB hb;clear ho hb
  go_wp2_with fail
  refine hK.out _ _ (ei.out _ HB.out) (fun aa=>?_);clear hK K ae;have ae:=aa;clear aa;refine TkA 13 (.slice B1 t1.length cB1) ?_
  (try simp only[List.getElem_toArray,List.getElem_cons_succ,List.getElem_cons_zero])
  refine TkD ?_
  (try simp only[Act.put,yz])
  go_wp2_with fail
  go_meet
  exact⟨B1,cB1,rfl,b7,HB⟩
 case rest=>
 obtain⟨B1,cB1,rfl,b7,bq⟩:=hcut;replace HB:=bq;clear bq C1 CV1 ei;obtain⟨⟨w0,w1,w2,w3⟩,e0,-,-,-,-,-,-,e7,-,-,-,-,-,-,-,-,-,-,-,-,-,e21⟩:=ap.out _ HB.out
 go_upto_region 28 with(first
  |((with_reducible refine(CK.out _).mono ?_);rintro e wx ⟨B2,cB2,rfl,ho,hb⟩;have ee:=zh (aL ho HB.out.size);replace b7:=zh (aD hb b7.out);clear ho;replace HB:=zT HB hb;clear hb;clear w0 w1 w2 w3 e0 e7 e21;obtain⟨⟨w0,w1,w2,w3⟩,e0,-,-,-,-,-,-,e7,-,-,-,-,-,-,-,-,-,-,-,-,-,e21⟩:=ap.out _ HB.out)
  |(at_builtin;refine aT rfl _ _ rfl W0.heap.size W0.heap.size _ _ t1 [tc] rfl b7.out rfl ee.out (by have:=ri.out;simp;omega) HB.out.size ?_;intro B3 ur w4 k4 g4;have jb:=zh k4;have hb:=aN b7.out g4 HB.out.size;clear k4 g4;replace HB:=zh (HB.out.trans hb);clear hb;clear w0 w1 w2 w3 e0 e7 e21;obtain⟨⟨w0,w1,w2,w3⟩,e0,-,-,-,-,-,-,e7,-,-,-,-,-,-,-,-,-,-,-,-,-,e21⟩:=ap.out _ HB.out))
 clear w0 w1 w2 w3 e0 e7 e21;refine wp_region_held_drew (S:=fun w'=>w'.rangeAt w.heap.size 0 [.pointer P,.pointer Q,vI v.r,vI v.c]/\w'.cell? ⟨w.heap.size+1,21,none⟩=some (.slice (some ⟨gb,ob,none⟩) 2 cp)/\w'.rangeAt gb (ob+22) cj/\Below W0.heap.size W0 w') (by kernel_rfl) (jf.out _ HB.out.drew) (fun ae=>?_);replace jb:=zh (aD zB.drew jb.out);replace HB:=zh HB.out.drew;have e3:(t1++[tc]).length=t1.length+1:=by simp
 have jb:Hid (World.ownsRow _ W0.heap.size 85 3 (.slice B3 (t1.length+1) ur) (t1++[tc]).length (cL (t1++[tc]))):=zh (by have h:=jb.out;rw[e3]at h ⊢;exact h);clear e3;refine TkA 0 (.slice B3 (t1.length+1) ur) ?_;refine TkC 1 (.agg #[.pointer P,.pointer Q,vI v.r,vI v.c]) rfl (yieldsIf_load_mid (by rfl) 84 (.tmp 2) rfl w.heap.size 0 rfl [.pointer P,.pointer Q,vI v.r,vI v.c] _ (fun w2 h=>h.1) Tryz.underlying84 rfl (by kernel_rfl)) ?_;refine TkA 2 (vP (w.heap.size+1) 21) ?_;refine TkB 3 (.slice (some ⟨gb,ob,none⟩) 2 cp) ?_;refine TkA 4 (vP gb (ob+22)) ?_;refine TkC 5 (.agg cj.toArray) rfl (yieldsIf_load_mid (by rfl) 34 (.tmp 144) rfl gb (ob+22) (by kernel_rfl) cj _ (fun w2 h=>h.2.2.1) Tryz.underlying34 rfl HIj.out) ?_;refine TkA 6 (vP (w.heap.size+1) 21) ?_;refine TkB 7 (.slice (some ⟨gb,ob,none⟩) 2 cp) ?_
 refine TkA 8 (vP gb (ob+22)) ?_;refine TkC 9 (.agg cj.toArray) rfl (yieldsIf_load_mid (by rfl) 34 (.tmp 148) rfl gb (ob+22) (by kernel_rfl) cj _ (fun w2 h=>h.2.2.1) Tryz.underlying34 rfl HIj.out) ?_;refine TkA 11 (vI lev) ?_;refine TkR 10 (fun K hK=>?_)
 go_simp
 go_at_call 86
 refine(CV2.out _).mono ?_;rintro x wx ⟨rfl,hb⟩;replace jb:=zh (aD hb jb.out);replace HB:=zT HB hb;clear hb
 go_wp2_with fail
 refine hK.out _ _ (jf.out _ HB.out) (fun aa=>?_);clear hK K ae;have ae:=aa;clear aa;refine TkA 12 (.bool (decide (lv2<=lev))) ?_;refine TkR 13 (fun K hK=>?_)
 go_simp
 go_at_call 85
 refine(C2.out _ HB.out).mono ?_;rintro x wx ⟨B4,cB4,rfl,ho,hb⟩;have jc:=zh (aL ho HB.out.size);replace jb:=zh (aD hb jb.out);replace HB:=zT HB hb;clear ho hb
 go_wp2_with fail
 refine hK.out _ _ (jf.out _ HB.out) (fun aa=>?_);clear hK K ae;have ae:=aa;clear aa;refine TkR 14 (fun K hK=>?_);refine dI rfl _ _ rfl W0.heap.size W0.heap.size _ _ (t1++[tc]) t2 rfl jb.out rfl jc.out (by have:=ri.out;simp only[yl,yi,List.length_nil];omega) HB.out.size ?_;intro B5 cB5 w5 k5 g5;have de:=zh k5;replace HB:=zh (HB.out.trans (aN jb.out g5 HB.out.size));clear k5 g5
 (try simp only[List.getElem_toArray,List.getElem_cons_succ,List.getElem_cons_zero])
 refine hK.out _ _ (jf.out _ HB.out) (fun aa=>?_);clear hK K ae;have ae:=aa;clear aa;refine TkA 15 (.slice B5 (t1++[tc]++t2).length cB5) ?_
 (try simp only[List.getElem_toArray,List.getElem_cons_succ,List.getElem_cons_zero])
 refine TkD ?_
 (try simp only[Act.put,yz])
 go_wp2_with fail
 go_ret
 exact⟨B5,cB5,by first|rfl|exact congrArg (fun k:Nat=>Ending.returned (.slice B5 k cB5)) (by simp),aL de.out ag.out.size,zU ag.out HB.out⟩
theorem rtok_mat(P Q:Option Addr)(v:Say)(vv:Val)(s:Bs)(a b:Cor)(r:Int)(A:Option Addr)(n cp:Nat)(Cn:List Value)(af:Cn.toArray=aJ ⟨8,vv,s,a,b,r⟩ A n cp)(g:List RTok)(w:World)(gb ob rr cc:Nat)(TS:List (List RTok))(hA:A=some ⟨gb,ob,none⟩)(hr:r=(rr:Int))(hn:n=rr*cc)(h1:1<=rr)(h2:1<=cc)(hc:rr*cc<=cp)(vk:rr*cc<=100000)(hg:g=cS cc TS rr++[tk 5 [125]])(hl:∀ i,i<=rr->(cS cc TS i).length<=400000)(hLs:∀ i,i<rr->∀ W,Below w.heap.size w W->Calls Tryz.prog 84 #[.agg #[.pointer P,.pointer Q,vI v.r,vI v.c],.slice (some ⟨gb,ob+i*cc*22,none⟩) cc (cp-i*cc),vS #[44]] W fun e w'=>TkO W w' e (bF ((TS.drop (i*cc)).take cc))) :
  Calls Tryz.prog 36 #[.agg #[.pointer P,.pointer Q,vI v.r,vI v.c],.agg Cn.toArray] w fun e w'=>TkO w w' e g:=by
 obtain⟨W0,ai,ag,L0,HL⟩:=fC P Q v Cn w;have ap:=zh (fun W (h:Below W0.heap.size W0 W)=>And.intro (cU (L0.out.next h)) (cI (HL.out.next h) af));have HB:Hid (Below W0.heap.size W0 W0):=zh zB;subst hA hr hn;have CL:=zh (fun i (hi:i<rr) W (h:Below W0.heap.size W0 W)=>hLs i hi W (zU ag.out h));obtain⟨x,hx⟩:∃ t,t=tk 5 [123]:=⟨_,rfl⟩
 obtain⟨y,hy⟩:∃ t,t=tk 5 [59]:=⟨_,rfl⟩
 obtain⟨z,hz⟩:∃ t,t=tk 5 [125]:=⟨_,rfl⟩
 have CX:Hid (∀ W,Calls Tryz.prog 82 #[vI 5,vS #[123]] W fun x' w'=>TkO W w' x' [x]):=zh (fun W=>by rw[hx];exact aR 5 [123] W);have CY:Hid (∀ W,Calls Tryz.prog 82 #[vI 5,vS #[59]] W fun x' w'=>TkO W w' x' [y]):=zh (fun W=>by rw[hy];exact aR 5 [59] W);have CZ:Hid (∀ W,Calls Tryz.prog 82 #[vI 5,vS #[125]] W fun x' w'=>TkO W w' x' [z]):=zh (fun W=>by rw[hz];exact aR 5 [125] W);obtain⟨acc,vw⟩:∃ f:Nat->List RTok,∀ i,f i=if i=0 then [x] else cS cc TS i:=⟨fun i=>if i=0 then [x] else cS cc TS i,fun _=>rfl⟩
 have nv:Hid (∀ i,acc (i+1)=(if i=0 then acc i else acc i++[y])++bF ((TS.drop (i*cc)).take cc)):=zh (fun i=>by
  rw[vw,vw,if_neg (by omega),cS];by_cases h0:i=0
  ·rw[if_pos h0,if_pos h0,if_pos h0,h0,hx];rfl
  rw[if_neg h0,if_neg h0,if_neg h0,hy];simp)
 have ll:Hid (acc 0=[x]):=zh (by rw[vw,if_pos rfl]);have HAn:Hid (g=acc rr++[z]):=zh (by rw[hg,vw,if_neg (by omega),hz]);have HAl:Hid (∀ i,i<=rr->(acc i).length<=400001):=zh (fun i hi=>by
  rw[vw]
  split
  ·simp
  have:=hl i hi;omega)
 obtain⟨N,hN⟩:=zD (rr*cc)
 rw[<- hN]at af;have HN:=zh hN;have tz:cc<=N:=by rw[hN];exact Nat.le_mul_of_pos_left cc h1
 have hrN:rr<=N:=by rw[hN];exact Nat.le_mul_of_pos_right rr h2
 have hNb:N<=100000:=by rw[hN];exact vk
 have kr:N<=cp:=by rw[hN];exact hc
 have hq:(N:Int).tdiv (rr:Int)=(cc:Int):=by
  rw[hN,Int.natCast_mul];exact Int.mul_tdiv_cancel_left (cc:Int) (by omega)
 have jw:((rr:Int)==0)=false:=by rw[beq_eq_false_iff_ne];omega
 have HR:=zh (And.intro h1 (And.intro h2 (And.intro tz (And.intro hrN (And.intro hNb kr)))));have xc:(rr:Int)<=100000:=by omega
 have hcwi:(cc:Int)<=100000:=by omega
 have fj:(1:Int)<=(rr:Int):=by omega
 have bm:Hid (∀ W,Below W0.heap.size W0 W->W.rangeAt w.heap.size 0 [.pointer P,.pointer Q,vI v.r,vI v.c]/\W.cell? ⟨w.heap.size+1,21,none⟩=some (.slice (some ⟨gb,ob,none⟩) N cp)/\Below W0.heap.size W0 W):=zh (fun W h=>⟨Lies.rangeN (C:=[.pointer P,.pointer Q,vI v.r,vI v.c]) (L0.out.next h),by have q:=(HL.out.next h).cell 21;rw[af]at q;exact q,h⟩);clear af hLs hx hy hz vw hg hl hN h1 h2 hc vk tz hrN hNb kr
 go_in
 go_upto_region 1 with fail
 rw[<- ai.out];clear ai;rw[<- HN.out]at ap;obtain⟨⟨w0,w1,w2,w3⟩,e0,-,-,-,-,-,-,-,-,-,-,-,-,-,-,-,-,-,-,-,e20,e21⟩:=ap.out _ HB.out
 go_upto_region 34 with(first
  |((with_reducible refine(CX.out _).mono ?_);rintro e wx ⟨B0,cB0,rfl,ho,hb⟩;have HO0:=zh (aL ho HB.out.size);clear ho;replace HB:=zT HB hb;clear hb;clear w0 w1 w2 w3 e0 e20 e21;obtain⟨⟨w0,w1,w2,w3⟩,e0,-,-,-,-,-,-,-,-,-,-,-,-,-,-,-,-,-,-,-,e20,e21⟩:=ap.out _ HB.out))
 clear hq jw
 go_wp2_with fail
 clear w0 w1 w2 w3 e0 e20 e21
 go_loopw [5,11] (fun v5 v11 wr=>∃ i:Nat,i<=rr/\v11=vI (i:Int)/\Hid (wr.ownsRow W0.heap.size 85 3 v5 (acc i).length (cL (acc i)))/\Hid (Below W0.heap.size W0 wr)) (fun _ v11 _=>rr-(intOf v11).toNat)
 case atStart=>exact⟨0,zm _,rfl,zh (by rw[ll.out];exact HO0.out),HB⟩
 case round=>
  clear HO0 HB ll;obtain⟨i,hi,rfl,hO,hB⟩:=hrel;obtain⟨⟨w0,w1,w2,w3⟩,e0,-,-,-,-,-,-,-,-,-,-,-,-,-,-,-,-,-,-,-,e20,e21⟩:=ap.out _ hB.out;by_cases hlt:i<rr
  ·have hlti:(i:Int)<(rr:Int):=by omega
   obtain⟨q1,q2,q3,q4,q5,q6⟩:=HR.out;have hb1:i*cc+cc<=N:=by
    have:=Nat.mul_le_mul_right cc (by omega:i+1<=rr);rw[Nat.succ_mul,<- HN.out]at this;exact this
   obtain⟨a',ha⟩:∃ a,a=i*cc:=⟨_,rfl⟩
   rw[<- ha]at hb1;obtain⟨b',hb⟩:∃ b,b=a'+cc:=⟨_,rfl⟩
   have u4q:IntKind.i64.wrap ((i:Int)*(cc:Int))=(a':Int):=by
    rw[ha,<- Int.natCast_mul];exact IntWalk.i64_in _ (by rw[<- ha];omega)
   have hw2:IntKind.i64.wrap ((a':Int)+(cc:Int))=(b':Int):=by
    rw[IntWalk.i64_in _ (by omega)];omega
   have fi:=lI (g:=gb) (o:=ob) (N:=N) (c:=cp) (a:=a') (b:=b') (by omega) (by omega) q6;have CN:=zh (CL.out i hlt);rw[<- ha]at CN;rw[show b'-a'=cc by omega]at fi;have HE:=zh (nv.out i);rw[<- ha]at HE;have cr:=zh (HAl.out i hi);have o6:=zh (HAl.out (i+1) (by omega));generalize bF ((TS.drop a').take cc)=tt at *;generalize jr:acc i=ac0 at *;clear q1 q2 q3 q4 q5 q6 hb1 ha hb jr;obtain⟨A1,ls,rfl⟩:=aV hO.out
   go_upto_if 176 with fail
   clear w0 w1 w2 w3 e0 e20 e21
   go_cut [5] (fun v5 wx=>∃ A ac c,v5=.slice A ac.length c/\Hid (wx.ownsRow W0.heap.size 85 3 (.slice A ac.length c) ac.length (cL ac))/\Hid (Below W0.heap.size W0 wx)/\Hid (acc (i+1)=ac++tt)/\Hid (ac.length<=400002))
   case first=>
    by_cases gu:i=0
    ·have tu:(i:Int)<=0:=by omega
     have HQ:Hid (acc (i+1)=ac0++tt):=zh (by rw[HE.out,if_pos gu]);clear gu
     go_wp2_with fail
     go_meet
     exact⟨A1,ac0,ls,rfl,hO,hB,HQ,zh (by have:=cr.out;omega)⟩
    have tu:(0:Int)<(i:Int):=by omega
    have HQ:Hid (acc (i+1)=(ac0++[y])++tt):=zh (by rw[HE.out,if_neg gu]);clear gu
    go_wp2_with (first
     |((with_reducible refine(CY.out _).mono ?_);rintro e wx ⟨A2,oh,rfl,ho,hb⟩;have ee:=zh (aL ho hB.out.size);replace hO:=zh (aD hb hO.out);clear ho;replace hB:=zT hB hb;clear hb)
     |(at_builtin;refine aT rfl _ _ rfl W0.heap.size W0.heap.size _ _ ac0 [y] rfl hO.out rfl ee.out (by have:=cr.out;simp;omega) hB.out.size ?_;intro A4 qc w4 k4 g4;have jc:=zh k4;have hb:=aN hO.out g4 hB.out.size;clear k4 g4;replace hB:=zh (hB.out.trans hb);clear hb))
    go_meet
    exact⟨A4,ac0++[y],qc,congrArg (fun k=>Value.slice A4 k qc) (by simp),jc,hB,HQ,zh (by have:=cr.out;simp;omega)⟩
   case rest=>
   obtain⟨A4,ac,qc,rfl,jc,HB,jf,ij⟩:=hcut;have HTl:Hid (ac.length+tt.length<=400001):=zh (by have:=o6.out;rw[jf.out,yl]at this;exact this);clear hO hB HE cr o6 CX CY CZ nv HAn HAl ap HR HL L0
   go_upto_region 39 with fail
   refine wp_region_held_drew (S:=fun w'=>w'.rangeAt w.heap.size 0 [.pointer P,.pointer Q,vI v.r,vI v.c]/\w'.cell? ⟨w.heap.size+1,21,none⟩=some (.slice (some ⟨gb,ob,none⟩) N cp)/\Below W0.heap.size W0 w') (by kernel_rfl) (bm.out _ HB.out.drew) (fun ae=>?_);replace jc:=zh (aD zB.drew jc.out);replace HB:=zh HB.out.drew;refine TkA 0 (.slice A4 ac.length qc) ?_;refine TkC 1 (.agg #[.pointer P,.pointer Q,vI v.r,vI v.c]) rfl (yieldsIf_load_mid (by rfl) 84 (.tmp 2) rfl w.heap.size 0 rfl [.pointer P,.pointer Q,vI v.r,vI v.c] _ (fun w2 h=>h.1) Tryz.underlying84 rfl (by kernel_rfl)) ?_;refine TkA 2 (vP (w.heap.size+1) 21) ?_;refine TkB 3 (.slice (some ⟨gb,ob,none⟩) N cp) ?_;refine TkA 4 (vI (i:Int)) ?_;refine TkA 5 (vI (cc:Int)) ?_
   refine TkC 6 (vI (a':Int)) rfl (Or.inl ⟨by rfl,fun w2 hS=>by simp[execOp,go_sem,u4q]⟩) ?_;refine TkA 7 (vI (i:Int)) ?_;refine TkA 8 (vI (cc:Int)) ?_;refine TkC 9 (vI (a':Int)) rfl (Or.inl ⟨by rfl,fun w2 hS=>by simp[execOp,go_sem,u4q]⟩) ?_;refine TkA 10 (vI (cc:Int)) ?_;refine TkC 11 (vI (b':Int)) rfl (Or.inl ⟨by rfl,fun w2 hS=>by simp[execOp,go_sem,hw2]⟩) ?_;refine TkC 12 (.slice (some ⟨gb,ob+a'*22,none⟩) cc (cp-a')) rfl (Or.inl ⟨by rfl,fun w2 hS=>by simp[execOp,go_sem,fi]⟩) ?_;refine TkR 13 (fun K hK=>?_)
   go_simp
   go_at_call 84
   refine(CN.out _ HB.out).mono ?_;rintro x wx ⟨B5,cB5,rfl,ho,hb⟩;have de:=zh (aL ho HB.out.size);replace jc:=zh (aD hb jc.out);replace HB:=zT HB hb;clear ho hb
   go_wp2_with fail
   refine hK.out _ _ (bm.out _ HB.out) (fun aa=>?_);clear hK K ae;have ae:=aa;clear aa;refine TkR 14 (fun K hK=>?_);refine dI rfl _ _ rfl W0.heap.size W0.heap.size _ _ ac tt rfl jc.out rfl de.out (by have:=HTl.out;omega) HB.out.size ?_;intro B6 cB6 w5 k5 g5;have ez:=zh k5;replace HB:=zh (HB.out.trans (aN jc.out g5 HB.out.size));clear k5 g5
   (try simp only[List.getElem_toArray,List.getElem_cons_succ,List.getElem_cons_zero])
   refine hK.out _ _ (bm.out _ HB.out) (fun aa=>?_);clear hK K ae;have ae:=aa;clear aa;refine TkA 15 (.slice B6 (ac++tt).length cB6) ?_
   (try simp only[List.getElem_toArray,List.getElem_cons_succ,List.getElem_cons_zero])
   refine TkD ?_
   (try simp only[Act.put,yz])
   go_wp2_with fail
   go_roundw
   case rel=>exact⟨i+1,by omega,by go_num,zh (by rw[jf.out];first|exact ez.out |(have h:=ez.out;simp only[yl]at h ⊢;exact h)),HB⟩
   case measure=>first |(simp[intOf];done) |(simp[intOf];omega)
  obtain rfl:i=rr:=by omega
  have cr:=zh (HAl.out i zr);obtain⟨A1,ls,rfl⟩:=aV hO.out;generalize acc i=ac0 at *
  go_wp2_with (first
   |((with_reducible refine(CZ.out _).mono ?_);rintro e wx ⟨A2,oh,rfl,ho,hb⟩;have ee:=zh (aL ho hB.out.size);replace hO:=zh (aD hb hO.out);clear ho;replace hB:=zT hB hb;clear hb w0 w1 w2 w3 e0 e20 e21)
   |(at_builtin;refine aT rfl _ _ rfl W0.heap.size W0.heap.size _ _ ac0 [z] rfl hO.out rfl ee.out (by have:=cr.out;simp;omega) hB.out.size ?_;intro A4 qc w4 k4 g4;have jc:=zh k4;have hb:=aN hO.out g4 hB.out.size;clear k4 g4;replace hB:=zh (hB.out.trans hb);clear hb))
  go_ret
  rw[HAn.out];exact⟨A4,qc,by first|rfl|exact congrArg (fun k:Nat=>Ending.returned (.slice A4 k qc)) (by simp),aL jc.out ag.out.size,zU ag.out hB.out⟩
abbrev iV:Nat->Prop:=fun _=>True
theorem TreeP.nextA{W W':World}{t:Tree}{cs:Array Value}(h:TreeP iV W t cs)(hb:Below W.heap.size W W'):TreeP iV W' t cs:=by
 have h1:TreeP (fun g=>g<W.heap.size) W t cs:=h.imp (fun g _ hg=>hg);exact(h1.keep ⟨hb.size,fun g hg=>hb.block g hg⟩).imp (fun _ _ _=>trivial)
theorem nR{W:World}{A:Option Addr}{l:List Tree}(h:KidsPO iV W A l)(i:Nat)(hi:i<l.length):∃ g og ci,A=some ⟨g,og,none⟩/\(ci:List Value).length=22/\∀ W',Below W.heap.size W W'->W'.rangeAt g (og+i*22) ci/\TreeP iV W' (l[i]'hi) ci.toArray:=by
 have h1:KidsPO (fun g=>g<W.heap.size) W A l:=by
  rcases h with h|⟨g',o',e,h3,h4,h5⟩
  ·exact .inl h
  exact .inr ⟨g',o',e,h4,h4,KidsP.imp (fun g _ hg=>hg) h5⟩
 obtain⟨g,og,ci,e1,e2,e3⟩:=gZ h1 i hi;exact⟨g,og,ci,e1,e2,fun W' hb=>by
  obtain⟨k1,k2⟩:=e3 W' ⟨hb.size,fun g hg=>hb.block g hg⟩;exact⟨k1,k2.imp (fun _ _ _=>trivial)⟩⟩
def uI(p q:Option Nat)(R C:AxV)(v:Say)(t:Tree):Prop:=∀ (w:World) (Cn:List Value),AxQ w p R->AxQ w q C->TreeP iV w t Cn.toArray->Calls Tryz.prog 36 #[.agg #[.pointer (ptr p),.pointer (ptr q),vI v.r,vI v.c],.agg Cn.toArray] w fun e w'=>TkO w w' e (t.toks v R C)
theorem iN{p q:Option Nat}{R C:AxV}{v:Say}{t:Tree}{kd:Int}(hr:t.right kd=true)(aq:t.size<=1000)(hk:uI p q R C v t){w:World}(hp:AxQ w p R)(hq:AxQ w q C){ci:List Value}(cv:∀ W,Below w.heap.size w W->TreeP iV W t ci.toArray)(f:Bool)(least:Int)(hf:f=decide (¬ least<=bN t)) :
  ∀ W,Below w.heap.size w W->Calls Tryz.prog 85 #[.agg #[.pointer (ptr p),.pointer (ptr q),vI v.r,vI v.c],.agg ci.toArray,.bool f] W fun e w'=>TkO W w' e (dU (bN t) least (t.toks v R C)):=fun W hb=>by
 obtain⟨A,n,c,e⟩:=(cv w zB).cells;have hl:=eF v R C t kd hr;have h:=xA (ptr p) (ptr q) v t.h A n c ci (zh e) (t.toks v R C) (by omega) f W (fun W2 aw=>hk W2 ci ((hp.next hb).next aw) ((hq.next hb).next aw) (cv W2 (zU hb aw)));have e2:(if f then tk 5 [40]::(t.toks v R C++[tk 5 [41]]) else t.toks v R C)=dU (bN t) least (t.toks v R C):=by
  unfold dU;rw[hf];by_cases h0:least<=bN t
  ·simp[h0]
  simp[h0]
 rw[e2]at h;exact h
theorem xZ{p q:Option Nat}{R C:AxV}{v:Say}{A:Option Addr}{l:List Tree}{kd:Int}(lo n ca:Nat)(lz:lo+n<=l.length)(g o:Nat)(hA2:0<n->A=some ⟨g,o,none⟩)(A':Option Addr)(hA3:0<n->A'=some ⟨g,o+lo*22,none⟩)(hr:aZ l kd=true)(hk:∀ i (hi:i<l.length),uI p q R C v (l[i]'hi))(w:World)(hp:AxQ w p R)(hq:AxQ w q C)(hP:KidsPO iV w A l)(aq:aM l<=1000)(hn:l.length<=1000) :
  ∀ W,Below w.heap.size w W->Calls Tryz.prog 84 #[.agg #[.pointer (ptr p),.pointer (ptr q),vI v.r,vI v.c],.slice A' n ca,vS #[44]] W fun e w'=>TkO W w' e (bF (((bG v R C l).drop lo).take n)):=fun W hb=>by
 obtain⟨L,hL⟩:∃ L,L=(l.drop lo).take n:=⟨_,rfl⟩
 have e0:((bG v R C l).drop lo).take n=bG v R C L:=by rw[nF,fP,hL]
 have hrL:aZ L kd=true:=by rw[hL];exact oB n (wX lo hr)
 have uu:L.length=n:=by rw[hL,zc,yk];omega
 have hLs:aM L<=aM l:=by
  rw[hL];refine yv (xC _ _) ?_;have:=jE (l.take lo) (l.drop lo);rw[List.take_append_drop]at this;omega
 rw[e0];have hsum:=fO v R C L kd hrL;have wl:∀ k,(bF ((bG v R C L).take k)).length<=400000:=by
  intro k;have h1:=gL ((bG v R C L).take k);have h2:=lX (bG v R C L) k;have h3:((bG v R C L).take k).length<=L.length:=by rw[zc,bR];omega
  omega
 have key:=uFV (ptr p) (ptr q) v A' ca (bG v R C L) W (fun k fs=>?_) (by rw[bR,uu];omega) wl (fun k fs=>by
  have:=zK (List.getElem_mem fs);omega)
 ·rw[bR,uu]at key;exact key
 rw[bR,uu]at fs;have hi:lo+k<l.length:=by omega
 obtain⟨g',og,ci,e1,fq,cv⟩:=nR hP (lo+k) hi;have e2:=hA2 (by omega);rw[e2]at e1;injection e1 with e1;injection e1 with e1 e3 _;subst e1 e3;refine⟨g,o+lo*22,ci,hA3 (by omega),fq,fun W2 aw=>?_⟩;have hbw:=zU hb aw;obtain⟨c1,c2⟩:=cv W2 hbw;have zo:k<L.length:=by omega
 have eL:L[k]'zo=l[lo+k]'hi:=by
  subst hL;rw[List.getElem_take,List.getElem_drop]
 have e4:(bG v R C L)[k]'(by rw[bR];exact zo)=(l[lo+k]'hi).toks v R C:=by
  rw[pJ _ _ _ L k zo,eL]
 rw[e4];exact⟨by rw[show o+lo*22+k*22=o+(lo+k)*22 by omega];exact c1,hk (lo+k) hi W2 ci (hp.next hbw) (hq.next hbw) c2⟩
end Go.Proofs.YtjfihpaeglpblaaGreatDoor
