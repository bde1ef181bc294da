/-
  Lemmas, part 9: PaO PaP.
-/
import Derived.Test.YtjfihpaeglpblaaGreatDoorRv8
set_option maxHeartbeats 100000000
set_option maxRecDepth 1000000
namespace Go.Proofs.YtjfihpaeglpblaaGreatDoor
open Go.RowKit
abbrev kL(c:Cor):Array Value:=#[vI c.row.a,vI c.row.n,vI c.col.a,vI c.col.n,.bool c.fr,.bool c.fc]
theorem uCR(a b:Cor)(w:World) :
  Calls Tryz.prog 163 #[arV a b] w fun e w'=>e=.returned (.bool (cG a b))/\Below w.heap.size w w':=by
 obtain⟨W1,an⟩:=zD (w.alloc (.cells #[vI a.row.a,vI a.row.n,vI a.col.a,vI a.col.n,.bool a.fr,.bool a.fc,vI b.row.a,vI b.row.n,vI b.col.a,vI b.col.n,.bool b.fr,.bool b.fc] 31))
 have am:=zh an;have HL:=zL an;have HB:=zA an;clear an;obtain⟨rb,xj⟩:=zE (cG a b)
 have HR:=zh xj;rw[xj];clear xj;have x0:=HL.out.cell 0;have x1:=HL.out.cell 1;have x2:=HL.out.cell 2;have x3:=HL.out.cell 3;have x4:=HL.out.cell 4;have x5:=HL.out.cell 5;have x6:=HL.out.cell 6;have x7:=HL.out.cell 7;have x8:=HL.out.cell 8;have x9:=HL.out.cell 9;have x10:=HL.out.cell 10;have x11:=HL.out.cell 11;simp only[za,zb,zf]at x0 x1 x2 x3 x4 x5 x6 x7 x8 x9 x10 x11;have hlt:=HL.out.lt
 go_in
 go_upto_region 1 with fail
 rw[<- am.out];generalize hq:w.heap.size=q at *
 go_cut [3,4] (fun va vb wx=>∃ qa qb,va=vP qa 0/\vb=vP qb 0/\Hid (Lies wx qa 29 (kL a)/\Lies wx qb 29 (kL b)/\Below q w wx))
 case first=>
  have mz:=zh (Lies.new W1 29 (kL a));have HA2:=zh (Lies.new (W1.alloc (.cells (kL a) 29)) 29 (kL b));have ls:=zh (Lies.new W1 29 (kL b));have HC2:=zh (Lies.new (W1.alloc (.cells (kL b) 29)) 29 (kL a));have vx:Hid (Below q w (((W1.alloc (.cells (kL a) 29)).alloc (.cells (kL b) 29)).drew)):=zh ((HB.out.alloc (by have:=HB.out.size;omega) _).alloc (by have:=HB.out.size;simp;omega) _).drew;have xl:Hid (Below q w (((W1.alloc (.cells (kL b) 29)).alloc (.cells (kL a) 29)).drew)):=zh ((HB.out.alloc (by have:=HB.out.size;omega) _).alloc (by have:=HB.out.size;simp;omega) _).drew
  go_region
  all_goals go_wp2_with fail
  all_goals go_meet
  all_goals first
   |exact⟨_,_,rfl,rfl,zh ⟨mz.out.alloc _,by have:=HA2.out;rwa [World.size_alloc]at this,vx.out⟩⟩
   |exact⟨_,_,rfl,rfl,zh ⟨by have:=HC2.out;rwa [World.size_alloc]at this,ls.out.alloc _,xl.out⟩⟩
 case rest=>
  obtain⟨qa,qb,rfl,rfl,hc⟩:=hcut;clear x0 x1 x2 x3 x4 x5 x6 x7 x8 x9 x10 x11 HL HB am hlt;obtain⟨W3,ie⟩:=zD (wc.alloc (.cells #[vI 0,vI 0] 27))
  have bv:Below wc.heap.size wc W3:=by rw[ie];exact(zp _)
  have HA:=zh (hc.out.1.next bv);have ln:=zh (hc.out.2.1.next bv);have aq:=hc.out.2.2.size;have HZ:=zL ie;have HB:Hid (Below q w W3):=zh (hc.out.2.2.trans (bv.mono (by omega)));have HW3:=zh ie;obtain⟨r1,fh⟩:∃ x,decide (a.row≠id0)=x:=⟨_,rfl⟩
  obtain⟨k1,eh⟩:∃ x,decide (a.col≠id0)=x:=⟨_,rfl⟩
  obtain⟨r2,lu⟩:∃ x,decide (b.row≠id0)=x:=⟨_,rfl⟩
  obtain⟨k2,fi⟩:∃ x,decide (b.col≠id0)=x:=⟨_,rfl⟩
  obtain⟨f1,hf1⟩:∃ x,a.fr=x:=⟨_,rfl⟩
  obtain⟨f2,vy⟩:∃ x,b.fr=x:=⟨_,rfl⟩
  obtain⟨g1,i5⟩:∃ x,a.fc=x:=⟨_,rfl⟩
  obtain⟨g2,lw⟩:∃ x,b.fc=x:=⟨_,rfl⟩
  have jb:Hid (rb=((r1==r2)&&(k1==k2)&&(r1||k1)&&(r1||(!f1&&!f2))&&(k1||(!g1&&!g2)))):=zh (by rw[<- HR.out];unfold cG;dsimp only;rw[fh,eh,lu,fi,hf1,vy,i5,lw]);have N1:∀ w:World,(binOp .neq 27 (idV a.row) (idV id0)).run Tryz.prog w=.ok (.bool r1) w:=fun w=>by rw[fQ,fh]
  have N2:∀ w:World,(binOp .neq 27 (idV a.col) (idV id0)).run Tryz.prog w=.ok (.bool k1) w:=fun w=>by rw[fQ,eh]
  have N3:∀ w:World,(binOp .neq 27 (idV b.row) (idV id0)).run Tryz.prog w=.ok (.bool r2) w:=fun w=>by rw[fQ,lu]
  have N4:∀ w:World,(binOp .neq 27 (idV b.col) (idV id0)).run Tryz.prog w=.ok (.bool k2) w:=fun w=>by rw[fQ,fi]
  have HN:=zh (And.intro N1 (And.intro N2 (And.intro N3 N4)));have HF:=zh (And.intro hf1 (And.intro vy (And.intro i5 lw)));clear N1 N2 N3 N4 fh eh lu fi hf1 vy i5 lw hc bv ie HR
  go_upto_region 3 with fail
  rw[<- HW3.out];generalize wc.heap.size=qz at *;clear HW3
  go_cut [6,7] (fun va vb wx=>va=.bool r1/\vb=.bool k1/\Hid (Below W3.heap.size W3 wx))
  case first=>
   obtain⟨TT,ai⟩:∃ TT:List (Nat×Nat×Value),TT=((0,13,vP qa 0)::(1,14,idV a.row)::(2,15,idV id0)::(3,16,.bool r1)::(4,17,vP qa 2)::(5,18,idV a.col)::(6,19,idV id0)::(7,20,.bool k1)::(8,6,.bool r1)::(9,7,.bool k1)::[]):=⟨_,rfl⟩
   have az:=zh ai;clear ai;refine bX (fun a0=>65<=a0.tmps.size/\a0.eval (.tmp 3)=vP qa 0/\a0.eval (.tmp 4)=vP qb 0/\a0.eval (.tmp 5)=vP qz 0) (13::14::15::16::17::18::19::20::6::7::[]) TT [] (fun w'=>Below W3.heap.size W3 w') (by kernel_rfl) (by kernel_rfl) ⟨by simp,rfl,rfl,rfl⟩ zB.drew ?_ ?_
   ·rintro a0 ⟨hs,kv,xm,ri⟩ zl a1 w1 zj o aq hI al ho zd;have ab:Below W3.heap.size W3 w1:=hI.st;have ai:=az.out
    subst ai;have e3x:=hI.off.q kv;have e4x:=hI.off.q xm;have e5x:=hI.off.q ri;have hj:=Up.of_false al;have hj12:zj<10:=by rw[aq]at hj;exact hj
    have G:RG _ _ _ _ _ _ _ _ _ _ _:=⟨by rfl,hI,hs,al,ho,zd⟩
    (iterate 9 rcases zq hj12 with hj12|rfl);obtain rfl:=cz hj12;all_goals obtain rfl:=oi ho
    ·exact G.nl 0 rfl (by simp[execOp,go_sem,e3x])
    ·have Lx:=HA.out.next ab;have x0:=Lx.cell 0;have x1:=Lx.cell 1;simp only[za,zb,zf]at x0 x1;exact G.nl 1 rfl (by simp[execOp,go_sem,G.t 0,x0,x1])
    ·have Lx:=HZ.out.next ab;have x0:=Lx.cell 0;have x1:=Lx.cell 1;simp only[za,zb,zf]at x0 x1;exact G.nl 2 rfl (by simp[execOp,go_sem,e5x,x0,x1])
    ·have N1:=HN.out.1;exact G.nl 3 rfl (by simp[execOp,go_sem,G.t 1,G.t 2,N1])
    ·exact G.nl 4 rfl (by simp[execOp,go_sem,e3x])
    ·have Lx:=HA.out.next ab;have x2:=Lx.cell 2;have x3:=Lx.cell 3;simp only[za,zb,zf]at x2 x3;exact G.nl 5 rfl (by simp[execOp,go_sem,G.t 4,x2,x3])
    ·have Lx:=HZ.out.next ab;have x0:=Lx.cell 0;have x1:=Lx.cell 1;simp only[za,zb,zf]at x0 x1;exact G.nl 6 rfl (by simp[execOp,go_sem,e5x,x0,x1])
    ·have N1:=HN.out.2.1;exact G.nl 7 rfl (by simp[execOp,go_sem,G.t 5,G.t 6,N1])
    ·exact G.nl 8 rfl (by simp[execOp,go_sem,G.t 3])
    exact G.nl 9 rfl (by simp[execOp,go_sem,G.t 7])
   intro zl a1 w1 hI bj;have ab:Below W3.heap.size W3 w1:=hI.st;have ai:=az.out;subst ai;have z6:=hI.ptk 8 rfl (bj 8 (by decide));have z7:=hI.ptk 9 rfl (bj 9 (by decide));obtain⟨ff,rfl,hf⟩:=hI.off.forms;rw[<- hf 6]at z6;rw[<- hf 7]at z7;clear hI;simp only[List.foldl,Act.put,yz,List.set];rw[z6,z7]
   go_wp2_with fail
   go_meet
   exact⟨rfl,rfl,zh ab⟩
  case rest=>
   obtain⟨rfl,rfl,na⟩:=hcut;have HA4:=zh (HA.out.next na.out);have xp:=zh (ln.out.next na.out);have vo:=zh (HZ.out.next na.out);have bt:=zh (HB.out.trans (na.out.mono (by have:=HB.out.size;omega)));clear HA ln HZ HB na;obtain⟨y1,hy1⟩:∃ x,x=!(r1==r2):=⟨_,rfl⟩
   obtain⟨y2,hy2⟩:∃ x,x=!(k1==k2):=⟨_,rfl⟩
   obtain⟨y,hy⟩:∃ x,x=(y1||y2):=⟨_,rfl⟩
   have HY:=zh (And.intro hy1 (And.intro hy2 hy));clear hy1 hy2 hy;obtain⟨W4,my⟩:=zD wc
   subst my
   go_upto_region 4 with fail
   go_cut [34] (fun v wx=>v=.bool y/\Hid (Below W4.heap.size W4 wx))
   case first=>
    obtain⟨hy1,hy2,hy⟩:=HY.out;obtain⟨TT,ai⟩:∃ TT:List (Nat×Nat×Value),TT=((0,21,.bool r1)::(1,22,vP qb 0)::(2,23,idV b.row)::(3,24,idV id0)::(4,25,.bool r2)::(5,26,.bool y1)::(6,27,.bool y1)::(7,28,(bif y1 then undef else .bool k1))::(8,29,(bif y1 then undef else vP qb 2))::(9,30,(bif y1 then undef else idV b.col))::(10,31,(bif y1 then undef else idV id0))::(11,32,(bif y1 then undef else .bool k2))::(12,33,(bif y1 then undef else .bool y2))::(13,34,.bool y)::[]):=⟨_,rfl⟩
    have az:=zh ai;clear ai;refine aX (fun a0=>65<=a0.tmps.size/\a0.eval (.tmp 3)=vP qa 0/\a0.eval (.tmp 4)=vP qb 0/\a0.eval (.tmp 5)=vP qz 0/\a0.eval (.tmp 6)=.bool r1/\a0.eval (.tmp 7)=.bool k1) (21::22::23::24::25::26::27::28::29::30::31::32::33::34::[]) TT [] (fun w'=>Below W4.heap.size W4 w') (by kernel_rfl) ⟨by simp,rfl,rfl,rfl,rfl,rfl⟩ zB ?_ ?_
    ·rintro a0 ⟨hs,kv,xm,ri,wm,hq7⟩ zl a1 w1 zj o aq hI al ho zd;have ab:Below W4.heap.size W4 w1:=hI.st;have ai:=az.out
     subst ai;have e3x:=hI.off.q kv;have e4x:=hI.off.q xm;have e5x:=hI.off.q ri;have e6x:=hI.off.q wm;have e7x:=hI.off.q hq7;have hj:=Up.of_false al;have hj12:zj<14:=by rw[aq]at hj;exact hj
     have G:RG _ _ _ _ _ _ _ _ _ _ _:=⟨by rfl,hI,hs,al,ho,zd⟩
     (iterate 13 rcases zq hj12 with hj12|rfl);obtain rfl:=cz hj12;all_goals obtain rfl:=oi ho
     ·exact G.nl 0 rfl (by simp[execOp,go_sem,e6x])
     ·exact G.nl 1 rfl (by simp[execOp,go_sem,e4x])
     ·have Lx:=xp.out.next ab;have x0:=Lx.cell 0;have x1:=Lx.cell 1;simp only[za,zb,zf]at x0 x1;exact G.nl 2 rfl (by simp[execOp,go_sem,G.t 1,x0,x1])
     ·have Lx:=vo.out.next ab;have x0:=Lx.cell 0;have x1:=Lx.cell 1;simp only[za,zb,zf]at x0 x1;exact G.nl 3 rfl (by simp[execOp,go_sem,e5x,x0,x1])
     ·have N1:=HN.out.2.2.1;exact G.nl 4 rfl (by simp[execOp,go_sem,G.t 2,G.t 3,N1])
     ·exact G.nl 5 rfl (by simp[execOp,go_sem,G.t 0,G.t 4,hy1])
     ·exact G.nl 6 rfl (by simp[execOp,go_sem,G.t 5])
     ·refine G.gn 6 7 ?_;rintro rfl;simp[execOp,go_sem,e7x]
     ·refine G.gn 6 8 ?_;rintro rfl;simp[execOp,go_sem,e4x]
     ·have pg:=G.g 6;cases y1
      ·have Lx:=xp.out.next ab;have x2:=Lx.cell 2;have x3:=Lx.cell 3;simp only[za,zb,zf]at x2 x3;exact G.vl 9 rfl pg (by simp[execOp,go_sem,G.t 8,x2,x3])
      exact G.sk 9 pg
     ·have pg:=G.g 6;cases y1
      ·have Lx:=vo.out.next ab;have x0:=Lx.cell 0;have x1:=Lx.cell 1;simp only[za,zb,zf]at x0 x1;exact G.vl 10 rfl pg (by simp[execOp,go_sem,e5x,x0,x1])
      exact G.sk 10 pg
     ·refine G.gn 6 11 ?_;rintro rfl;have N1:=HN.out.2.2.2;simp[execOp,go_sem,G.t 9,G.t 10,N1]
     ·refine G.gn 6 12 ?_;rintro rfl;simp[execOp,go_sem,G.t 7,G.t 11,hy2]
     cases y1
     all_goals exact G.nl 13 rfl (by simp[execOp,go_sem,G.t 6,G.t 12,hy])
    intro zl a1 w1 hI bj;have ab:Below W4.heap.size W4 w1:=hI.st;have ai:=az.out;subst ai;have z34:=hI.ptk 13 rfl (bj 13 (by decide));obtain⟨ff,rfl,hf⟩:=hI.off.forms;rw[<- hf 34]at z34;clear hI;simp only[List.foldl,Act.put,yz,List.set];rw[z34]
    go_wp2_with fail
    go_meet
    exact⟨rfl,zh ab⟩
   case rest=>
    obtain⟨rfl,fw⟩:=hcut;have HA5:=zh (HA4.out.next fw.out);have HBb5:=zh (xp.out.next fw.out);have bm:=zh (bt.out.trans (fw.out.mono (by have:=bt.out.size;omega)));clear HA4 xp vo bt fw HN;cases y
    ·obtain⟨z,hz⟩:∃ x,x=(r1||k1):=⟨_,rfl⟩
     obtain⟨nf1,ur⟩:∃ x,x=(!f1):=⟨_,rfl⟩
     obtain⟨ng1,ut⟩:∃ x,x=(!g1):=⟨_,rfl⟩
     obtain⟨m1,tm⟩:∃ x,x=(nf1&&!f2):=⟨_,rfl⟩
     obtain⟨m2,xy⟩:∃ x,x=(ng1&&!g2):=⟨_,rfl⟩
     obtain⟨s1,ed⟩:∃ x,x=(r1||m1):=⟨_,rfl⟩
     obtain⟨s2,j5⟩:∃ x,x=(k1||m2):=⟨_,rfl⟩
     obtain⟨u,hu⟩:∃ x,x=(z&&s1):=⟨_,rfl⟩
     obtain⟨v,hv⟩:∃ x,x=(u&&s2):=⟨_,rfl⟩
     have HV:Hid (rb=v):=zh (by rw[jb.out,hv,hu,ed,j5,tm,xy,ur,ut,hz];have:=HY.out.2.2;rw[HY.out.1,HY.out.2.1]at this;revert this;cases r1 <;> cases r2 <;> cases k1 <;> cases k2 <;> simp);have HVV:=zh (And.intro hz (And.intro ur (And.intro ut (And.intro tm (And.intro xy (And.intro ed (And.intro j5 (And.intro hu hv))))))));clear hz ur ut tm xy ed j5 hu hv;obtain⟨W5,fe⟩:=zD wc
     subst fe
     go_upto_region 6 with fail
     obtain⟨hz,ur,ut,tm,xy,ed,j5,hu,hv⟩:=HVV.out;obtain⟨hf1,vy,i5,lw⟩:=HF.out
     obtain⟨TT,ai⟩:∃ TT:List (Nat×Nat×Value),TT=((0,35,.bool r1)::(1,36,.bool r1)::(2,37,(bif r1 then undef else .bool k1))::(3,38,.bool z)::(4,39,.bool z)::(5,40,(bif z then .bool r1 else undef))::(6,41,(bif z then .bool r1 else undef))::(7,42,(bif z then (bif r1 then undef else vP qa 4) else undef))::(8,43,(bif z then (bif r1 then undef else .bool f1) else undef))::(9,44,(bif z then (bif r1 then undef else .bool nf1) else undef))::(10,45,(bif z then (bif r1 then undef else .bool nf1) else undef))::(11,46,(bif z then (bif r1 then undef else (bif nf1 then vP qb 4 else undef)) else undef))::(12,47,(bif z then (bif r1 then undef else (bif nf1 then .bool f2 else undef)) else undef))::(13,48,(bif z then (bif r1 then undef else (bif nf1 then .bool (!f2) else undef)) else undef))::(14,49,(bif z then (bif r1 then undef else .bool m1) else undef))::(15,50,(bif z then .bool s1 else undef))::(16,51,.bool u)::(17,52,.bool u)::(18,53,(bif u then .bool k1 else undef))::(19,54,(bif u then .bool k1 else undef))::(20,55,(bif u then (bif k1 then undef else vP qa 5) else undef))::(21,56,(bif u then (bif k1 then undef else .bool g1) else undef))::(22,57,(bif u then (bif k1 then undef else .bool ng1) else undef))::(23,58,(bif u then (bif k1 then undef else .bool ng1) else undef))::(24,59,(bif u then (bif k1 then undef else (bif ng1 then vP qb 5 else undef)) else undef))::(25,60,(bif u then (bif k1 then undef else (bif ng1 then .bool g2 else undef)) else undef))::(26,61,(bif u then (bif k1 then undef else (bif ng1 then .bool (!g2) else undef)) else undef))::(27,62,(bif u then (bif k1 then undef else .bool m2) else undef))::(28,63,(bif u then .bool s2 else undef))::(29,64,.bool v)::(30,2,.bool v)::[]):=⟨_,rfl⟩
     have az:=zh ai;clear ai;refine aX (fun a0=>65<=a0.tmps.size/\a0.eval (.tmp 3)=vP qa 0/\a0.eval (.tmp 4)=vP qb 0/\a0.eval (.tmp 6)=.bool r1/\a0.eval (.tmp 7)=.bool k1) (35::36::37::38::39::40::41::42::43::44::45::46::47::48::49::50::51::52::53::54::55::56::57::58::59::60::61::62::63::64::2::[]) TT [] (fun w'=>Below W5.heap.size W5 w') (by kernel_rfl) ⟨by simp,rfl,rfl,rfl,rfl⟩ zB ?_ ?_
     ·rintro a0 ⟨hs,kv,xm,wm,hq7⟩ zl a1 w1 zj o aq hI al ho zd;have ab:Below W5.heap.size W5 w1:=hI.st;have ai:=az.out
      subst ai;have e3x:=hI.off.q kv;have e4x:=hI.off.q xm;have e6x:=hI.off.q wm;have e7x:=hI.off.q hq7;have hj:=Up.of_false al;have hj12:zj<31:=by rw[aq]at hj;exact hj
      have G:RG _ _ _ _ _ _ _ _ _ _ _:=⟨by rfl,hI,hs,al,ho,zd⟩
      (iterate 30 rcases zq hj12 with hj12|rfl);obtain rfl:=cz hj12;all_goals obtain rfl:=oi ho
      ·exact G.nl 0 rfl (by simp[execOp,go_sem,e6x])
      ·exact G.nl 1 rfl (by simp[execOp,go_sem,G.t 0])
      ·refine G.gn 1 2 ?_;rintro rfl;simp[execOp,go_sem,e7x]
      ·cases r1
       all_goals exact G.nl 3 rfl (by simp[execOp,go_sem,G.t 1,G.t 2,hz])
      ·exact G.nl 4 rfl (by simp[execOp,go_sem,G.t 3])
      ·refine G.gv 4 5 ?_;rintro rfl;simp[execOp,go_sem,e6x]
      ·refine G.gv 4 6 ?_;rintro rfl;simp[execOp,go_sem,G.t 5]
      ·have pg:=G.g 6;cases z
       ·exact G.su 7 pg
       cases r1
       ·exact G.vl 7 rfl pg (by simp[execOp,go_sem,e3x])
       exact G.sk 7 pg
      ·have pg:=G.g 6;cases z
       ·exact G.su 8 pg
       cases r1
       ·have Lx:=HA5.out.next ab;have x4:=Lx.cell 4;simp only[za,zb,zf]at x4;exact G.vl 8 rfl pg (by simp[execOp,go_sem,G.t 7,x4,hf1])
       exact G.sk 8 pg
      ·have pg:=G.g 6;cases z
       ·exact G.su 9 pg
       cases r1
       ·exact G.vl 9 rfl pg (by simp[execOp,go_sem,G.t 8,ur])
       exact G.sk 9 pg
      ·have pg:=G.g 6;cases z
       ·exact G.su 10 pg
       cases r1
       ·exact G.vl 10 rfl pg (by simp[execOp,go_sem,G.t 9])
       exact G.sk 10 pg
      ·have pg:=G.g 10;cases z
       ·exact G.su 11 pg
       cases r1
       ·cases nf1
        ·exact G.sk 11 pg
        exact G.vl 11 rfl pg (by simp[execOp,go_sem,e4x])
       exact G.su 11 pg
      ·have pg:=G.g 10;cases z
       ·exact G.su 12 pg
       cases r1
       ·cases nf1
        ·exact G.sk 12 pg
        have Lx:=HBb5.out.next ab;have x4:=Lx.cell 4;simp only[za,zb,zf]at x4;exact G.vl 12 rfl pg (by simp[execOp,go_sem,G.t 11,x4,vy])
       exact G.su 12 pg
      ·have pg:=G.g 10;cases z
       ·exact G.su 13 pg
       cases r1
       ·cases nf1
        ·exact G.sk 13 pg
        exact G.vl 13 rfl pg (by simp[execOp,go_sem,G.t 12])
       exact G.su 13 pg
      ·have pg:=G.g 6;cases z
       ·exact G.su 14 pg
       cases r1
       ·cases nf1
        all_goals exact G.vl 14 rfl pg (by simp[execOp,go_sem,G.t 10,G.t 13,tm])
       exact G.sk 14 pg
      ·have pg:=G.g 4;cases z
       ·exact G.sk 15 pg
       cases r1
       all_goals exact G.vl 15 rfl pg (by simp[execOp,go_sem,G.t 6,G.t 14,ed])
      ·cases z
       all_goals exact G.nl 16 rfl (by simp[execOp,go_sem,G.t 4,G.t 15,hu])
      ·exact G.nl 17 rfl (by simp[execOp,go_sem,G.t 16])
      ·refine G.gv 17 18 ?_;rintro rfl;simp[execOp,go_sem,e7x]
      ·refine G.gv 17 19 ?_;rintro rfl;simp[execOp,go_sem,G.t 18]
      ·have pg:=G.g 19;cases u
       ·exact G.su 20 pg
       cases k1
       ·exact G.vl 20 rfl pg (by simp[execOp,go_sem,e3x])
       exact G.sk 20 pg
      ·have pg:=G.g 19;cases u
       ·exact G.su 21 pg
       cases k1
       ·have Lx:=HA5.out.next ab;have x5:=Lx.cell 5;simp only[za,zb,zf]at x5;exact G.vl 21 rfl pg (by simp[execOp,go_sem,G.t 20,x5,i5])
       exact G.sk 21 pg
      ·have pg:=G.g 19;cases u
       ·exact G.su 22 pg
       cases k1
       ·exact G.vl 22 rfl pg (by simp[execOp,go_sem,G.t 21,ut])
       exact G.sk 22 pg
      ·have pg:=G.g 19;cases u
       ·exact G.su 23 pg
       cases k1
       ·exact G.vl 23 rfl pg (by simp[execOp,go_sem,G.t 22])
       exact G.sk 23 pg
      ·have pg:=G.g 23;cases u
       ·exact G.su 24 pg
       cases k1
       ·cases ng1
        ·exact G.sk 24 pg
        exact G.vl 24 rfl pg (by simp[execOp,go_sem,e4x])
       exact G.su 24 pg
      ·have pg:=G.g 23;cases u
       ·exact G.su 25 pg
       cases k1
       ·cases ng1
        ·exact G.sk 25 pg
        have Lx:=HBb5.out.next ab;have x5:=Lx.cell 5;simp only[za,zb,zf]at x5;exact G.vl 25 rfl pg (by simp[execOp,go_sem,G.t 24,x5,lw])
       exact G.su 25 pg
      ·have pg:=G.g 23;cases u
       ·exact G.su 26 pg
       cases k1
       ·cases ng1
        ·exact G.sk 26 pg
        exact G.vl 26 rfl pg (by simp[execOp,go_sem,G.t 25])
       exact G.su 26 pg
      ·have pg:=G.g 19;cases u
       ·exact G.su 27 pg
       cases k1
       ·cases ng1
        all_goals exact G.vl 27 rfl pg (by simp[execOp,go_sem,G.t 23,G.t 26,xy])
       exact G.sk 27 pg
      ·have pg:=G.g 17;cases u
       ·exact G.sk 28 pg
       cases k1
       all_goals exact G.vl 28 rfl pg (by simp[execOp,go_sem,G.t 19,G.t 27,j5])
      ·cases u
       all_goals exact G.nl 29 rfl (by simp[execOp,go_sem,G.t 17,G.t 28,hv])
      exact G.nl 30 rfl (by simp[execOp,go_sem,G.t 29])
     intro zl a1 w1 hI bj;have ab:Below W5.heap.size W5 w1:=hI.st;have ai:=az.out;subst ai;have z2:=hI.ptk 30 rfl (bj 30 (by decide));obtain⟨ff,rfl,hf⟩:=hI.off.forms;rw[<- hf 2]at z2;clear hI;simp only[List.foldl,Act.put,yz,List.set];rw[z2]
     go_wp2_with fail
     go_ret
     exact⟨by first|exact aA HV.out.symm |(rw[HV.out];rfl),by first|exact bm.out.trans (ab.mono (by have:=bm.out.size;omega)) |(rw[hq];exact bm.out.trans (ab.mono (by have:=bm.out.size;omega)))⟩
    have hrf:Hid (rb=false):=zh (by rw[jb.out];have:=HY.out.2.2;rw[HY.out.1,HY.out.2.1]at this;revert this;cases r1 <;> cases r2 <;> cases k1 <;> cases k2 <;> simp)
    go_wp2_with fail
    go_ret
    exact⟨by first|exact aA hrf.out.symm |(rw[hrf.out];rfl),by first|exact bm.out |(rw[hq];exact bm.out)⟩
def NodeH.fine(h:NodeH):Prop:=-9223372036854775808<=h.v.mant/\h.v.mant<=9223372036854775807/\h.v.text.length<=1000000/\h.name.length<=100000
mutual
def Tree.fine:Tree->Prop
 | .mk h l=>h.fine/\uDW l
def uDW:List Tree->Prop
 | []=>True
 |t::r=>t.fine/\uDW r
end
theorem oW:∀ {l:List Tree} (i:Nat) (hi:i<l.length),uDW l->l[i].fine
 | [],_,hi,_=>absurd hi (by simp)
 |t::r,0,_,h=>h.1
 |t::r,i+1,hi,h=>oW (l:=r) i (by simpa using hi) h.2
theorem yZ{l:List Tree}{k:Int}(i:Nat)(h:aZ (l.take i) k=false):aZ l k=false:=by
 induction l generalizing i with
 |nil=>simp[aZ]at h
 |cons t r ih=>
  cases i with
  |zero=>simp[aZ]at h
  |succ i=>
   rw[List.take_succ_cons]at h;unfold aZ at h ⊢;cases h1:(decide (k≠8)||decide (t.h.kind=0)) <;> cases h2:t.right k <;> rw[h1,h2]at h <;> try simp
   simp at h;exact ih i h
structure RF(a:Act)(g o:Nat)(above:Int):Prop where
 sz:287<=a.tmps.size
 s0:a.eval (.tmp 0)=vP g o
 s1:a.eval (.tmp 1)=vI above
 df:a.defers=[]
theorem RF.off{a a':Act}{S:List Nat}{g o:Nat}{above:Int}(h:RF a g o above)(hO:Off S a a')(h0:0∉S)(h1:1∉S):RF a' g o above :=
 ⟨by rw[hO.size];exact h.sz,(hO.eval h0).trans h.s0,(hO.eval h1).trans h.s1,hO.defers.trans h.df⟩
theorem uEJ{fn:Func}{t:Tmp}{a:Act}{w:World}{R:Ending->World->Prop}{v:Value}(h:fn.results=#[.tmp t])(hd:a.defers=[])(hv:a.eval (.tmp t)=v)(hR:R (.returned v) w):bodyPost Tryz.prog fn R .ret a w:=by
 refine yt (results_tmp h a.tmps _ _) hd ?_;have:a.tmps.getD t undef=v:=by rw[<- cD hv,Array.getD_eq_getD_getElem?]
 rw[this];exact hR
theorem dS{Q:Exit->Act->World->Prop}{a:Act}{w:World}{id:Nat}{x y s:Nat}{k c:Int}{ty:TypeId}{p1 p2:String}{t1 t2:TypeId}(b:Bool)(h:a.eval (.tmp s)=vI k)(hb:(k==c)=b)(hx:x<a.tmps.size)(hy:y<a.tmps.size)
  (hn:∀ a',Off [x,y] a a'->a'.eval (.tmp y)=.bool b->Q .normal a' w) :
  (Code.region id #[{ dst:=some x,op:=.binOp .eql ty (.tmp s) (.const (vI c)) ty,type:=t1,pos:=p1,after:=#[],guard:=none },{ dst:=some y,op:=.assign (.tmp x),type:=t2,pos:=p2,after:=#[⟨0,.data⟩],guard:=none }] false).wp Tryz.prog Q a w:=by
 subst hb;refine wp_region_lit ?_;refine wpList_plain rfl fun K hK=>?_
 unfold Oper.wp;have h1:(execOp a.eval { dst:=some x,op:=.binOp .eql ty (.tmp s) (.const (vI c)) ty,type:=t1,pos:=p1,after:=#[],guard:=none }).run Tryz.prog w=.ok (.value (.bool (k==c))) w:=by
  have h':=cD h;simp[execOp,go_sem,h']
 rw[h1];refine hK _ _ ?_;refine wpList_plain rfl fun K2 tu=>?_
 unfold Oper.wp;have h2:(execOp (a.put (some x) (.bool (k==c))).eval { dst:=some y,op:=.assign (.tmp x),type:=t2,pos:=p2,after:=#[⟨0,.data⟩],guard:=none }).run Tryz.prog w=.ok (.value (.bool (k==c))) w:=by
  simp[execOp,go_sem];intro hh;omega
 rw[h2];refine tu _ _ ?_;exact hn _ (((Off.refl _ _).put (.head _) _).put (.tail _ (.head _)) _) (fZ _ _ (by rw[oI];exact hy))
theorem wp_inc{Q:Exit->Act->World->Prop}{a:Act}{w:World}{id:Nat}{x s:Nat}{k:Int}{ty t1 t2:TypeId}{p1 p2:String}(h:a.eval (.tmp s)=vI k)(hk:IntKind.i64.wrap (k+1)=k+1)(hx:x<a.tmps.size)(hs:s<a.tmps.size)
  (hn:∀ a',Off [x,s] a a'->a'.eval (.tmp s)=vI (k+1)->Q .normal a' w) :
  (Code.region id #[{ dst:=some x,op:=.binOp .add ty (.tmp s) (.const (vI 1)) ty,type:=t1,pos:=p1,after:=#[],guard:=none },{ dst:=some s,op:=.move (.tmp x),type:=t2,pos:=p2,after:=#[⟨0,.data⟩],guard:=none }] false).wp Tryz.prog Q a w:=by
 refine wp_region_lit ?_;refine wpList_plain rfl fun K hK=>?_
 unfold Oper.wp;have h1:(execOp a.eval { dst:=some x,op:=.binOp .add ty (.tmp s) (.const (vI 1)) ty,type:=t1,pos:=p1,after:=#[],guard:=none }).run Tryz.prog w=.ok (.value (vI (k+1))) w:=by
  have h':=cD h;simp[execOp,go_sem,h',hk]
 rw[h1];refine hK _ _ ?_;refine wpList_plain rfl fun K2 tu=>?_
 unfold Oper.wp;have h2:(execOp (a.put (some x) (vI (k+1))).eval { dst:=some s,op:=.move (.tmp x),type:=t2,pos:=p2,after:=#[⟨0,.data⟩],guard:=none }).run Tryz.prog w=.ok (.value (vI (k+1))) w:=by
  simp[execOp,go_sem];intro hh;omega
 rw[h2];refine tu _ _ ?_;exact hn _ (((Off.refl _ _).put (.head _) _).put (.tail _ (.head _)) _) (fZ _ _ (by rw[oI];exact hs))
end Go.Proofs.YtjfihpaeglpblaaGreatDoor
