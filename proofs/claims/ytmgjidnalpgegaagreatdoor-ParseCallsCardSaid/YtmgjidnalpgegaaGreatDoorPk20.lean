/-
  Lemmas, part 20: PaO PaP.
-/
import Derived.Test.YtmgjidnalpgegaaGreatDoorPk19
set_option maxHeartbeats 100000000
namespace Go.Proofs.YtmgjidnalpgegaaGreatDoor
open Go.RowKit
abbrev mT(c:Cor):Array Value:=#[.int .i64 c.row.a,.int .i64 c.row.n,.int .i64 c.col.a,.int .i64 c.col.n,.bool c.fr,.bool c.fc]
set_option maxRecDepth 1000000 in
theorem uGS(a b:Cor)(w:World) :
  Calls Tryz.prog 53 #[arV a b] w fun e w'=>e=.returned (.bool (dL a b))/\Below w.heap.size w w':=by
 obtain⟨W1,dv⟩:∃ W1,W1=w.alloc (.cells #[.int .i64 a.row.a,.int .i64 a.row.n,.int .i64 a.col.a,.int .i64 a.col.n,.bool a.fr,.bool a.fc,.int .i64 b.row.a,.int .i64 b.row.n,.int .i64 b.col.a,.int .i64 b.col.n,.bool b.fr,.bool b.fc] 38):=⟨_,rfl⟩
 have cy:=zh dv;have HL:Hid (Lies W1 w.heap.size 38 #[.int .i64 a.row.a,.int .i64 a.row.n,.int .i64 a.col.a,.int .i64 a.col.n,.bool a.fr,.bool a.fc,.int .i64 b.row.a,.int .i64 b.row.n,.int .i64 b.col.a,.int .i64 b.col.n,.bool b.fr,.bool b.fc]):=zh (by rw[dv];exact Lies.new _ _ _);have HB:Hid (Below w.heap.size w W1):=zh (by rw[dv];exact zp _);clear dv;obtain⟨rb,hrb⟩:∃ rb,dL a b=rb:=⟨_,rfl⟩
 have HR:=zh hrb;rw[hrb];clear hrb;have x0:=HL.out.cell 0;have x1:=HL.out.cell 1;have x2:=HL.out.cell 2;have x3:=HL.out.cell 3;have x4:=HL.out.cell 4;have x5:=HL.out.cell 5;have x6:=HL.out.cell 6;have x7:=HL.out.cell 7;have x8:=HL.out.cell 8;have x9:=HL.out.cell 9;have x10:=HL.out.cell 10;have x11:=HL.out.cell 11;simp only[za,zb,zf]at x0 x1 x2 x3 x4 x5 x6 x7 x8 x9 x10 x11;have hlt:=HL.out.lt
 go_enter Tryz.func53,Tryz.ntmps53
 go_upto_region 1 with fail
 rw[<- cy.out];generalize hq:w.heap.size=q at *
 go_cut [3,4] (fun va vb wx=>∃ qa qb,va=.pointer (some ⟨qa,0,none⟩)/\vb=.pointer (some ⟨qb,0,none⟩)/\Hid (Lies wx qa 36 (mT a)/\Lies wx qb 36 (mT b)/\Below q w wx))
 case first=>
  have jh:=zh (Lies.new W1 36 (mT a));have bq:=zh (Lies.new (W1.alloc (.cells (mT a) 36)) 36 (mT b));have dx:=zh (Lies.new W1 36 (mT b));have HC2:=zh (Lies.new (W1.alloc (.cells (mT b) 36)) 36 (mT a));have HBa:Hid (Below q w (((W1.alloc (.cells (mT a) 36)).alloc (.cells (mT b) 36)).drew)):=zh ((HB.out.alloc (by have:=HB.out.size;omega) _).alloc (by have:=HB.out.size;simp;omega) _).drew;have HBc:Hid (Below q w (((W1.alloc (.cells (mT b) 36)).alloc (.cells (mT a) 36)).drew)):=zh ((HB.out.alloc (by have:=HB.out.size;omega) _).alloc (by have:=HB.out.size;simp;omega) _).drew
  go_region
  all_goals go_wp2_with fail
  all_goals go_meet
  all_goals first
   |exact⟨_,_,rfl,rfl,zh ⟨jh.out.alloc _,by have:=bq.out;rwa [World.size_alloc]at this,HBa.out⟩⟩
   |exact⟨_,_,rfl,rfl,zh ⟨by have:=HC2.out;rwa [World.size_alloc]at this,dx.out.alloc _,HBc.out⟩⟩
 case rest=>
  obtain⟨qa,qb,rfl,rfl,hc⟩:=hcut;clear x0 x1 x2 x3 x4 x5 x6 x7 x8 x9 x10 x11 HL HB cy hlt;obtain⟨W3,om⟩:∃ W3,W3=wc.alloc (.cells #[.int .i64 0,.int .i64 0] 34):=⟨_,rfl⟩
  have bu:Below wc.heap.size wc W3:=by rw[om];exact(zp _)
  have HA:=zh (hc.out.1.next bu);have tc:=zh (hc.out.2.1.next bu);have bg:=hc.out.2.2.size;have HZ:Hid (Lies W3 wc.heap.size 34 #[.int .i64 0,.int .i64 0]):=zh (by rw[om];exact Lies.new _ _ _);have HB:Hid (Below q w W3):=zh (hc.out.2.2.trans (bu.mono (by omega)));have HW3:=zh om;obtain⟨r1,jq⟩:∃ x,decide (a.row≠id0)=x:=⟨_,rfl⟩
  obtain⟨k1,dc⟩:∃ x,decide (a.col≠id0)=x:=⟨_,rfl⟩
  obtain⟨r2,j7⟩:∃ x,decide (b.row≠id0)=x:=⟨_,rfl⟩
  obtain⟨k2,fg⟩:∃ x,decide (b.col≠id0)=x:=⟨_,rfl⟩
  obtain⟨f1,oy⟩:∃ x,a.fr=x:=⟨_,rfl⟩
  obtain⟨f2,hf2⟩:∃ x,b.fr=x:=⟨_,rfl⟩
  obtain⟨g1,mg⟩:∃ x,a.fc=x:=⟨_,rfl⟩
  obtain⟨g2,rj⟩:∃ x,b.fc=x:=⟨_,rfl⟩
  have ce:Hid (rb=((r1==r2)&&(k1==k2)&&(r1||k1)&&(r1||(!f1&&!f2))&&(k1||(!g1&&!g2)))):=zh (by rw[<- HR.out];unfold dL;dsimp only;rw[jq,dc,j7,fg,oy,hf2,mg,rj]);have N1:∀ w:World,(binOp .neq 34 (idV a.row) (idV id0)).run Tryz.prog w=.ok (.bool r1) w:=fun w=>by rw[iI,jq]
  have N2:∀ w:World,(binOp .neq 34 (idV a.col) (idV id0)).run Tryz.prog w=.ok (.bool k1) w:=fun w=>by rw[iI,dc]
  have N3:∀ w:World,(binOp .neq 34 (idV b.row) (idV id0)).run Tryz.prog w=.ok (.bool r2) w:=fun w=>by rw[iI,j7]
  have N4:∀ w:World,(binOp .neq 34 (idV b.col) (idV id0)).run Tryz.prog w=.ok (.bool k2) w:=fun w=>by rw[iI,fg]
  have HN:=zh (And.intro N1 (And.intro N2 (And.intro N3 N4)));have HF:=zh (And.intro oy (And.intro hf2 (And.intro mg rj)));clear N1 N2 N3 N4 jq dc j7 fg oy hf2 mg rj hc bu om HR
  go_upto_region 3 with fail
  rw[<- HW3.out];generalize wc.heap.size=qz at *;clear HW3
  go_cut [6,7] (fun va vb wx=>va=.bool r1/\vb=.bool k1/\Hid (Below W3.heap.size W3 wx))
  case first=>
   obtain⟨TT,ae⟩:∃ TT:List (Nat×Nat×Value),TT=((0,13,.pointer (some ⟨qa,0,none⟩))::(1,14,idV a.row)::(2,15,idV id0)::(3,16,.bool r1)::(4,17,.pointer (some ⟨qa,2,none⟩))::(5,18,idV a.col)::(6,19,idV id0)::(7,20,.bool k1)::(8,6,.bool r1)::(9,7,.bool k1)::[]):=⟨_,rfl⟩
   have aq:=zh ae;clear ae;refine bO (fun a0=>65<=a0.tmps.size/\a0.eval (.tmp 3)=.pointer (some ⟨qa,0,none⟩)/\a0.eval (.tmp 4)=.pointer (some ⟨qb,0,none⟩)/\a0.eval (.tmp 5)=.pointer (some ⟨qz,0,none⟩)) (13::14::15::16::17::18::19::20::6::7::[]) TT [] (fun w'=>Below W3.heap.size W3 w') (by kernel_rfl) (by kernel_rfl) ⟨by simp,rfl,rfl,rfl⟩ (Below.refl _ _).drew ?_ ?_
   ·rintro a0 ⟨hs,mu,kx,ub⟩ zl a1 w1 zj o bg hI aa ho zd;have af:Below W3.heap.size W3 w1:=hI.st;have ae:=aq.out;have hk:okU (TT.map fun e=>(e.1,e.2.1)) (13::14::15::16::17::18::19::20::6::7::[]) 65=true:=by rw[ae];rfl
    subst ae;have e3x:=aF ((hI.off.eval (by decide)).trans mu);have e4x:=aF ((hI.off.eval (by decide)).trans kx);have e5x:=aF ((hI.off.eval (by decide)).trans ub);have hj:=Up.of_false aa;have hj12:zj<10:=by rw[bg]at hj;exact hj
    have G:RG _ _ _ _ _ _ _ _ _ _ _:=⟨hk,hI,hs,aa,ho,zd⟩
    (iterate 9 rcases zq hj12 with hj12|rfl);obtain rfl:=cz hj12;all_goals obtain rfl:=oi ho
    ·exact G.nl 0 rfl (by simp[execOp,go_sem,e3x])
    ·have Lx:=HA.out.next af;have x0:=Lx.cell 0;have x1:=Lx.cell 1;simp only[za,zb,zf]at x0 x1;exact G.nl 1 rfl (by simp[execOp,go_sem,G.t 0 rfl,x0,x1])
    ·have Lx:=HZ.out.next af;have x0:=Lx.cell 0;have x1:=Lx.cell 1;simp only[za,zb,zf]at x0 x1;exact G.nl 2 rfl (by simp[execOp,go_sem,e5x,x0,x1])
    ·have N1:=HN.out.1;exact G.nl 3 rfl (by simp[execOp,go_sem,G.t 1 rfl,G.t 2 rfl,N1])
    ·exact G.nl 4 rfl (by simp[execOp,go_sem,e3x])
    ·have Lx:=HA.out.next af;have x2:=Lx.cell 2;have x3:=Lx.cell 3;simp only[za,zb,zf]at x2 x3;exact G.nl 5 rfl (by simp[execOp,go_sem,G.t 4 rfl,x2,x3])
    ·have Lx:=HZ.out.next af;have x0:=Lx.cell 0;have x1:=Lx.cell 1;simp only[za,zb,zf]at x0 x1;exact G.nl 6 rfl (by simp[execOp,go_sem,e5x,x0,x1])
    ·have N1:=HN.out.2.1;exact G.nl 7 rfl (by simp[execOp,go_sem,G.t 5 rfl,G.t 6 rfl,N1])
    ·exact G.nl 8 rfl (by simp[execOp,go_sem,G.t 3 rfl])
    exact G.nl 9 rfl (by simp[execOp,go_sem,G.t 7 rfl])
   intro zl a1 w1 hI aw;have af:Below W3.heap.size W3 w1:=hI.st;have ae:=aq.out;subst ae;have z6:=hI.ptk 8 rfl (aw 8 (by decide));have z7:=hI.ptk 9 rfl (aw 9 (by decide));obtain⟨ff,rfl,hf⟩:=hI.off.forms;rw[<- hf 6]at z6;rw[<- hf 7]at z7;clear hI;simp only[List.foldl,Act.put,yz,List.set];rw[z6,z7]
   go_wp2_with fail
   go_meet
   exact⟨rfl,rfl,zh af⟩
  case rest=>
   obtain⟨rfl,rfl,lp⟩:=hcut;have lj:=zh (HA.out.next lp.out);have HBb4:=zh (tc.out.next lp.out);have HZ4:=zh (HZ.out.next lp.out);have cg:=zh (HB.out.trans (lp.out.mono (by have:=HB.out.size;omega)));clear HA tc HZ HB lp;obtain⟨y1,hy1⟩:∃ x,x=!(r1==r2):=⟨_,rfl⟩
   obtain⟨y2,hy2⟩:∃ x,x=!(k1==k2):=⟨_,rfl⟩
   obtain⟨y,hy⟩:∃ x,x=(y1||y2):=⟨_,rfl⟩
   have HY:=zh (And.intro hy1 (And.intro hy2 hy));clear hy1 hy2 hy;obtain⟨W4,i9⟩:∃ W4,W4=wc:=⟨_,rfl⟩
   subst i9
   go_upto_region 4 with fail
   go_cut [34] (fun v wx=>v=.bool y/\Hid (Below W4.heap.size W4 wx))
   case first=>
    obtain⟨hy1,hy2,hy⟩:=HY.out;obtain⟨TT,ae⟩:∃ TT:List (Nat×Nat×Value),TT=((0,21,.bool r1)::(1,22,.pointer (some ⟨qb,0,none⟩))::(2,23,idV b.row)::(3,24,idV id0)::(4,25,.bool r2)::(5,26,.bool y1)::(6,27,.bool y1)::(7,28,(bif y1 then undef else .bool k1))::(8,29,(bif y1 then undef else .pointer (some ⟨qb,2,none⟩)))::(9,30,(bif y1 then undef else idV b.col))::(10,31,(bif y1 then undef else idV id0))::(11,32,(bif y1 then undef else .bool k2))::(12,33,(bif y1 then undef else .bool y2))::(13,34,.bool y)::[]):=⟨_,rfl⟩
    have aq:=zh ae;clear ae;refine bI (fun a0=>65<=a0.tmps.size/\a0.eval (.tmp 3)=.pointer (some ⟨qa,0,none⟩)/\a0.eval (.tmp 4)=.pointer (some ⟨qb,0,none⟩)/\a0.eval (.tmp 5)=.pointer (some ⟨qz,0,none⟩)/\a0.eval (.tmp 6)=.bool r1/\a0.eval (.tmp 7)=.bool k1) (21::22::23::24::25::26::27::28::29::30::31::32::33::34::[]) TT [] (fun w'=>Below W4.heap.size W4 w') (by kernel_rfl) ⟨by simp,rfl,rfl,rfl,rfl,rfl⟩ (Below.refl _ _) ?_ ?_
    ·rintro a0 ⟨hs,mu,kx,ub,ny,hq7⟩ zl a1 w1 zj o bg hI aa ho zd;have af:Below W4.heap.size W4 w1:=hI.st;have ae:=aq.out;have hk:okU (TT.map fun e=>(e.1,e.2.1)) (21::22::23::24::25::26::27::28::29::30::31::32::33::34::[]) 65=true:=by rw[ae];rfl
     subst ae;have e3x:=aF ((hI.off.eval (by decide)).trans mu);have e4x:=aF ((hI.off.eval (by decide)).trans kx);have e5x:=aF ((hI.off.eval (by decide)).trans ub);have e6x:=aF ((hI.off.eval (by decide)).trans ny);have e7x:=aF ((hI.off.eval (by decide)).trans hq7);have hj:=Up.of_false aa;have hj12:zj<14:=by rw[bg]at hj;exact hj
     have G:RG _ _ _ _ _ _ _ _ _ _ _:=⟨hk,hI,hs,aa,ho,zd⟩
     (iterate 13 rcases zq hj12 with hj12|rfl);obtain rfl:=cz hj12;all_goals obtain rfl:=oi ho
     ·exact G.nl 0 rfl (by simp[execOp,go_sem,e6x])
     ·exact G.nl 1 rfl (by simp[execOp,go_sem,e4x])
     ·have Lx:=HBb4.out.next af;have x0:=Lx.cell 0;have x1:=Lx.cell 1;simp only[za,zb,zf]at x0 x1;exact G.nl 2 rfl (by simp[execOp,go_sem,G.t 1 rfl,x0,x1])
     ·have Lx:=HZ4.out.next af;have x0:=Lx.cell 0;have x1:=Lx.cell 1;simp only[za,zb,zf]at x0 x1;exact G.nl 3 rfl (by simp[execOp,go_sem,e5x,x0,x1])
     ·have N1:=HN.out.2.2.1;exact G.nl 4 rfl (by simp[execOp,go_sem,G.t 2 rfl,G.t 3 rfl,N1])
     ·exact G.nl 5 rfl (by simp[execOp,go_sem,G.t 0 rfl,G.t 4 rfl,hy1])
     ·exact G.nl 6 rfl (by simp[execOp,go_sem,G.t 5 rfl])
     ·refine G.gn 6 7 rfl rfl rfl ?_;rintro rfl;simp[execOp,go_sem,e7x]
     ·refine G.gn 6 8 rfl rfl rfl ?_;rintro rfl;simp[execOp,go_sem,e4x]
     ·have pg:=G.g 6 rfl;cases y1
      ·have Lx:=HBb4.out.next af;have x2:=Lx.cell 2;have x3:=Lx.cell 3;simp only[za,zb,zf]at x2 x3;exact G.vl 9 rfl pg rfl (by simp[execOp,go_sem,G.t 8 rfl,x2,x3])
      exact G.sk 9 rfl pg rfl
     ·have pg:=G.g 6 rfl;cases y1
      ·have Lx:=HZ4.out.next af;have x0:=Lx.cell 0;have x1:=Lx.cell 1;simp only[za,zb,zf]at x0 x1;exact G.vl 10 rfl pg rfl (by simp[execOp,go_sem,e5x,x0,x1])
      exact G.sk 10 rfl pg rfl
     ·refine G.gn 6 11 rfl rfl rfl ?_;rintro rfl;have N1:=HN.out.2.2.2;simp[execOp,go_sem,G.t 9 rfl,G.t 10 rfl,N1]
     ·refine G.gn 6 12 rfl rfl rfl ?_;rintro rfl;simp[execOp,go_sem,G.t 7 rfl,G.t 11 rfl,hy2]
     cases y1
     all_goals have p6:=G.d 6 rfl
     all_goals have p12:=G.d 12 rfl
     all_goals exact G.nl 13 rfl (by simp[execOp,go_sem,aF p6,aF p12,hy])
    intro zl a1 w1 hI aw;have af:Below W4.heap.size W4 w1:=hI.st;have ae:=aq.out;subst ae;have z34:=hI.ptk 13 rfl (aw 13 (by decide));obtain⟨ff,rfl,hf⟩:=hI.off.forms;rw[<- hf 34]at z34;clear hI;simp only[List.foldl,Act.put,yz,List.set];rw[z34]
    go_wp2_with fail
    go_meet
    exact⟨rfl,zh af⟩
   case rest=>
    obtain⟨rfl,ip⟩:=hcut;have j2:=zh (lj.out.next ip.out);have HBb5:=zh (HBb4.out.next ip.out);have di:=zh (cg.out.trans (ip.out.mono (by have:=cg.out.size;omega)));clear lj HBb4 HZ4 cg ip HN;cases y
    ·obtain⟨z,hz⟩:∃ x,x=(r1||k1):=⟨_,rfl⟩
     obtain⟨nf1,xx⟩:∃ x,x=(!f1):=⟨_,rfl⟩
     obtain⟨ng1,xy⟩:∃ x,x=(!g1):=⟨_,rfl⟩
     obtain⟨m1,tj⟩:∃ x,x=(nf1&&!f2):=⟨_,rfl⟩
     obtain⟨m2,vu⟩:∃ x,x=(ng1&&!g2):=⟨_,rfl⟩
     obtain⟨s1,hs1⟩:∃ x,x=(r1||m1):=⟨_,rfl⟩
     obtain⟨s2,qq⟩:∃ x,x=(k1||m2):=⟨_,rfl⟩
     obtain⟨u,hu⟩:∃ x,x=(z&&s1):=⟨_,rfl⟩
     obtain⟨v,hv⟩:∃ x,x=(u&&s2):=⟨_,rfl⟩
     have HV:Hid (rb=v):=zh (by rw[ce.out,hv,hu,hs1,qq,tj,vu,xx,xy,hz];have:=HY.out.2.2;rw[HY.out.1,HY.out.2.1]at this;revert this;cases r1 <;> cases r2 <;> cases k1 <;> cases k2 <;> simp);have HVV:=zh (And.intro hz (And.intro xx (And.intro xy (And.intro tj (And.intro vu (And.intro hs1 (And.intro qq (And.intro hu hv))))))));clear hz xx xy tj vu hs1 qq hu hv;obtain⟨W5,vw⟩:∃ W5,W5=wc:=⟨_,rfl⟩
     subst vw
     go_upto_region 6 with fail
     obtain⟨hz,xx,xy,tj,vu,hs1,qq,hu,hv⟩:=HVV.out;obtain⟨oy,hf2,mg,rj⟩:=HF.out
     obtain⟨TT,ae⟩:∃ TT:List (Nat×Nat×Value),TT=((0,35,.bool r1)::(1,36,.bool r1)::(2,37,(bif r1 then undef else .bool k1))::(3,38,.bool z)::(4,39,.bool z)::(5,40,(bif z then .bool r1 else undef))::(6,41,(bif z then .bool r1 else undef))::(7,42,(bif z then (bif r1 then undef else .pointer (some ⟨qa,4,none⟩)) else undef))::(8,43,(bif z then (bif r1 then undef else .bool f1) else undef))::(9,44,(bif z then (bif r1 then undef else .bool nf1) else undef))::(10,45,(bif z then (bif r1 then undef else .bool nf1) else undef))::(11,46,(bif z then (bif r1 then undef else (bif nf1 then .pointer (some ⟨qb,4,none⟩) else undef)) else undef))::(12,47,(bif z then (bif r1 then undef else (bif nf1 then .bool f2 else undef)) else undef))::(13,48,(bif z then (bif r1 then undef else (bif nf1 then .bool (!f2) else undef)) else undef))::(14,49,(bif z then (bif r1 then undef else .bool m1) else undef))::(15,50,(bif z then .bool s1 else undef))::(16,51,.bool u)::(17,52,.bool u)::(18,53,(bif u then .bool k1 else undef))::(19,54,(bif u then .bool k1 else undef))::(20,55,(bif u then (bif k1 then undef else .pointer (some ⟨qa,5,none⟩)) else undef))::(21,56,(bif u then (bif k1 then undef else .bool g1) else undef))::(22,57,(bif u then (bif k1 then undef else .bool ng1) else undef))::(23,58,(bif u then (bif k1 then undef else .bool ng1) else undef))::(24,59,(bif u then (bif k1 then undef else (bif ng1 then .pointer (some ⟨qb,5,none⟩) else undef)) else undef))::(25,60,(bif u then (bif k1 then undef else (bif ng1 then .bool g2 else undef)) else undef))::(26,61,(bif u then (bif k1 then undef else (bif ng1 then .bool (!g2) else undef)) else undef))::(27,62,(bif u then (bif k1 then undef else .bool m2) else undef))::(28,63,(bif u then .bool s2 else undef))::(29,64,.bool v)::(30,2,.bool v)::[]):=⟨_,rfl⟩
     have aq:=zh ae;clear ae;refine bI (fun a0=>65<=a0.tmps.size/\a0.eval (.tmp 3)=.pointer (some ⟨qa,0,none⟩)/\a0.eval (.tmp 4)=.pointer (some ⟨qb,0,none⟩)/\a0.eval (.tmp 6)=.bool r1/\a0.eval (.tmp 7)=.bool k1) (35::36::37::38::39::40::41::42::43::44::45::46::47::48::49::50::51::52::53::54::55::56::57::58::59::60::61::62::63::64::2::[]) TT [] (fun w'=>Below W5.heap.size W5 w') (by kernel_rfl) ⟨by simp,rfl,rfl,rfl,rfl⟩ (Below.refl _ _) ?_ ?_
     ·rintro a0 ⟨hs,mu,kx,ny,hq7⟩ zl a1 w1 zj o bg hI aa ho zd;have af:Below W5.heap.size W5 w1:=hI.st;have ae:=aq.out;have hk:okU (TT.map fun e=>(e.1,e.2.1)) (35::36::37::38::39::40::41::42::43::44::45::46::47::48::49::50::51::52::53::54::55::56::57::58::59::60::61::62::63::64::2::[]) 65=true:=by rw[ae];rfl
      subst ae;have e3x:=aF ((hI.off.eval (by decide)).trans mu);have e4x:=aF ((hI.off.eval (by decide)).trans kx);have e6x:=aF ((hI.off.eval (by decide)).trans ny);have e7x:=aF ((hI.off.eval (by decide)).trans hq7);have hj:=Up.of_false aa;have hj12:zj<31:=by rw[bg]at hj;exact hj
      have G:RG _ _ _ _ _ _ _ _ _ _ _:=⟨hk,hI,hs,aa,ho,zd⟩
      (iterate 30 rcases zq hj12 with hj12|rfl);obtain rfl:=cz hj12;all_goals obtain rfl:=oi ho
      ·exact G.nl 0 rfl (by simp[execOp,go_sem,e6x])
      ·exact G.nl 1 rfl (by simp[execOp,go_sem,G.t 0 rfl])
      ·refine G.gn 1 2 rfl rfl rfl ?_;rintro rfl;simp[execOp,go_sem,e7x]
      ·cases r1
       all_goals have p1:=G.d 1 rfl
       all_goals have p2:=G.d 2 rfl
       all_goals exact G.nl 3 rfl (by simp[execOp,go_sem,aF p1,aF p2,hz])
      ·exact G.nl 4 rfl (by simp[execOp,go_sem,G.t 3 rfl])
      ·refine G.gv 4 5 rfl rfl rfl ?_;rintro rfl;simp[execOp,go_sem,e6x]
      ·refine G.gv 4 6 rfl rfl rfl ?_;rintro rfl;simp[execOp,go_sem,G.t 5 rfl]
      ·have pg:=G.g 6 rfl;cases z
       ·exact bF hk hI hs (inT 7 rfl) fX aa ho zd (aT rfl rfl rfl pg) rfl
       cases r1
       ·exact G.vl 7 rfl pg rfl (by simp[execOp,go_sem,e3x])
       exact G.sk 7 rfl pg rfl
      ·have pg:=G.g 6 rfl;cases z
       ·exact bF hk hI hs (inT 8 rfl) fX aa ho zd (aT rfl rfl rfl pg) rfl
       cases r1
       ·have Lx:=j2.out.next af;have x4:=Lx.cell 4;simp only[za,zb,zf]at x4;exact G.vl 8 rfl pg rfl (by simp[execOp,go_sem,G.t 7 rfl,x4,oy])
       exact G.sk 8 rfl pg rfl
      ·have pg:=G.g 6 rfl;cases z
       ·exact bF hk hI hs (inT 9 rfl) fX aa ho zd (aT rfl rfl rfl pg) rfl
       cases r1
       ·exact G.vl 9 rfl pg rfl (by simp[execOp,go_sem,G.t 8 rfl,xx])
       exact G.sk 9 rfl pg rfl
      ·have pg:=G.g 6 rfl;cases z
       ·exact bF hk hI hs (inT 10 rfl) fX aa ho zd (aT rfl rfl rfl pg) rfl
       cases r1
       ·exact G.vl 10 rfl pg rfl (by simp[execOp,go_sem,G.t 9 rfl])
       exact G.sk 10 rfl pg rfl
      ·have pg:=G.g 10 rfl;cases z
       ·exact bF hk hI hs (inT 11 rfl) fX aa ho zd (aT rfl rfl rfl pg) rfl
       cases r1
       ·cases nf1
        ·exact G.sk 11 rfl pg rfl
        exact G.vl 11 rfl pg rfl (by simp[execOp,go_sem,e4x])
       exact bF hk hI hs (inT 11 rfl) fX aa ho zd (aT rfl rfl rfl pg) rfl
      ·have pg:=G.g 10 rfl;cases z
       ·exact bF hk hI hs (inT 12 rfl) fX aa ho zd (aT rfl rfl rfl pg) rfl
       cases r1
       ·cases nf1
        ·exact G.sk 12 rfl pg rfl
        have Lx:=HBb5.out.next af;have x4:=Lx.cell 4;simp only[za,zb,zf]at x4;exact G.vl 12 rfl pg rfl (by simp[execOp,go_sem,G.t 11 rfl,x4,hf2])
       exact bF hk hI hs (inT 12 rfl) fX aa ho zd (aT rfl rfl rfl pg) rfl
      ·have pg:=G.g 10 rfl;cases z
       ·exact bF hk hI hs (inT 13 rfl) fX aa ho zd (aT rfl rfl rfl pg) rfl
       cases r1
       ·cases nf1
        ·exact G.sk 13 rfl pg rfl
        exact G.vl 13 rfl pg rfl (by simp[execOp,go_sem,G.t 12 rfl])
       exact bF hk hI hs (inT 13 rfl) fX aa ho zd (aT rfl rfl rfl pg) rfl
      ·have pg:=G.g 6 rfl;cases z
       ·exact bF hk hI hs (inT 14 rfl) fX aa ho zd (aT rfl rfl rfl pg) rfl
       cases r1
       ·cases nf1
        all_goals have p10:=G.d 10 rfl
        all_goals have p13:=G.d 13 rfl
        all_goals exact G.vl 14 rfl pg rfl (by simp[execOp,go_sem,aF p10,aF p13,tj])
       exact G.sk 14 rfl pg rfl
      ·have pg:=G.g 4 rfl;cases z
       ·exact G.sk 15 rfl pg rfl
       cases r1
       all_goals have p6:=G.d 6 rfl
       all_goals have p14:=G.d 14 rfl
       all_goals exact G.vl 15 rfl pg rfl (by simp[execOp,go_sem,aF p6,aF p14,hs1])
      ·cases z
       all_goals have p4:=G.d 4 rfl
       all_goals have p15:=G.d 15 rfl
       all_goals exact G.nl 16 rfl (by simp[execOp,go_sem,aF p4,aF p15,hu])
      ·exact G.nl 17 rfl (by simp[execOp,go_sem,G.t 16 rfl])
      ·refine G.gv 17 18 rfl rfl rfl ?_;rintro rfl;simp[execOp,go_sem,e7x]
      ·refine G.gv 17 19 rfl rfl rfl ?_;rintro rfl;simp[execOp,go_sem,G.t 18 rfl]
      ·have pg:=G.g 19 rfl;cases u
       ·exact bF hk hI hs (inT 20 rfl) fX aa ho zd (aT rfl rfl rfl pg) rfl
       cases k1
       ·exact G.vl 20 rfl pg rfl (by simp[execOp,go_sem,e3x])
       exact G.sk 20 rfl pg rfl
      ·have pg:=G.g 19 rfl;cases u
       ·exact bF hk hI hs (inT 21 rfl) fX aa ho zd (aT rfl rfl rfl pg) rfl
       cases k1
       ·have Lx:=j2.out.next af;have x5:=Lx.cell 5;simp only[za,zb,zf]at x5;exact G.vl 21 rfl pg rfl (by simp[execOp,go_sem,G.t 20 rfl,x5,mg])
       exact G.sk 21 rfl pg rfl
      ·have pg:=G.g 19 rfl;cases u
       ·exact bF hk hI hs (inT 22 rfl) fX aa ho zd (aT rfl rfl rfl pg) rfl
       cases k1
       ·exact G.vl 22 rfl pg rfl (by simp[execOp,go_sem,G.t 21 rfl,xy])
       exact G.sk 22 rfl pg rfl
      ·have pg:=G.g 19 rfl;cases u
       ·exact bF hk hI hs (inT 23 rfl) fX aa ho zd (aT rfl rfl rfl pg) rfl
       cases k1
       ·exact G.vl 23 rfl pg rfl (by simp[execOp,go_sem,G.t 22 rfl])
       exact G.sk 23 rfl pg rfl
      ·have pg:=G.g 23 rfl;cases u
       ·exact bF hk hI hs (inT 24 rfl) fX aa ho zd (aT rfl rfl rfl pg) rfl
       cases k1
       ·cases ng1
        ·exact G.sk 24 rfl pg rfl
        exact G.vl 24 rfl pg rfl (by simp[execOp,go_sem,e4x])
       exact bF hk hI hs (inT 24 rfl) fX aa ho zd (aT rfl rfl rfl pg) rfl
      ·have pg:=G.g 23 rfl;cases u
       ·exact bF hk hI hs (inT 25 rfl) fX aa ho zd (aT rfl rfl rfl pg) rfl
       cases k1
       ·cases ng1
        ·exact G.sk 25 rfl pg rfl
        have Lx:=HBb5.out.next af;have x5:=Lx.cell 5;simp only[za,zb,zf]at x5;exact G.vl 25 rfl pg rfl (by simp[execOp,go_sem,G.t 24 rfl,x5,rj])
       exact bF hk hI hs (inT 25 rfl) fX aa ho zd (aT rfl rfl rfl pg) rfl
      ·have pg:=G.g 23 rfl;cases u
       ·exact bF hk hI hs (inT 26 rfl) fX aa ho zd (aT rfl rfl rfl pg) rfl
       cases k1
       ·cases ng1
        ·exact G.sk 26 rfl pg rfl
        exact G.vl 26 rfl pg rfl (by simp[execOp,go_sem,G.t 25 rfl])
       exact bF hk hI hs (inT 26 rfl) fX aa ho zd (aT rfl rfl rfl pg) rfl
      ·have pg:=G.g 19 rfl;cases u
       ·exact bF hk hI hs (inT 27 rfl) fX aa ho zd (aT rfl rfl rfl pg) rfl
       cases k1
       ·cases ng1
        all_goals have p23:=G.d 23 rfl
        all_goals have p26:=G.d 26 rfl
        all_goals exact G.vl 27 rfl pg rfl (by simp[execOp,go_sem,aF p23,aF p26,vu])
       exact G.sk 27 rfl pg rfl
      ·have pg:=G.g 17 rfl;cases u
       ·exact G.sk 28 rfl pg rfl
       cases k1
       all_goals have p19:=G.d 19 rfl
       all_goals have p27:=G.d 27 rfl
       all_goals exact G.vl 28 rfl pg rfl (by simp[execOp,go_sem,aF p19,aF p27,qq])
      ·cases u
       all_goals have p17:=G.d 17 rfl
       all_goals have p28:=G.d 28 rfl
       all_goals exact G.nl 29 rfl (by simp[execOp,go_sem,aF p17,aF p28,hv])
      exact G.nl 30 rfl (by simp[execOp,go_sem,G.t 29 rfl])
     intro zl a1 w1 hI aw;have af:Below W5.heap.size W5 w1:=hI.st;have ae:=aq.out;subst ae;have z2:=hI.ptk 30 rfl (aw 30 (by decide));obtain⟨ff,rfl,hf⟩:=hI.off.forms;rw[<- hf 2]at z2;clear hI;simp only[List.foldl,Act.put,yz,List.set];rw[z2]
     go_wp2_with fail
     go_ret
     exact⟨by first|exact aI HV.out.symm |(rw[HV.out];rfl),by first|exact di.out.trans (af.mono (by have:=di.out.size;omega)) |(rw[hq];exact di.out.trans (af.mono (by have:=di.out.size;omega)))⟩
    have hrf:Hid (rb=false):=zh (by rw[ce.out];have:=HY.out.2.2;rw[HY.out.1,HY.out.2.1]at this;revert this;cases r1 <;> cases r2 <;> cases k1 <;> cases k2 <;> simp)
    go_wp2_with fail
    go_ret
    exact⟨by first|exact aI hrf.out.symm |(rw[hrf.out];rfl),by first|exact di.out |(rw[hq];exact di.out)⟩
def NodeH.fine(h:NodeH):Prop:=-9223372036854775808<=h.v.mant/\h.v.mant<=9223372036854775807/\h.v.text.length<=1000000/\h.name.length<=100000
mutual
def Tree.fine:Tree->Prop
 | .mk h l=>h.fine/\uHI l
def uHI:List Tree->Prop
 | []=>True
 |t::r=>t.fine/\uHI r
end
theorem wZ:∀ {l:List Tree} (i:Nat) (hi:i<l.length),uHI l->l[i].fine
 | [],_,hi,_=>absurd hi (by simp)
 |t::r,0,_,h=>h.1
 |t::r,i+1,hi,h=>wZ (l:=r) i (by simpa using hi) h.2
theorem uCV{l:List Tree}{k:Int}(i:Nat)(h:bP (l.take i) k=false):bP l k=false:=by
 induction l generalizing i with
 |nil=>simp[bP]at h
 |cons t r ih=>
  cases i with
  |zero=>simp[bP]at h
  |succ i=>
   rw[List.take_succ_cons]at h;unfold bP at h ⊢;cases h1:(decide (k≠8)||decide (t.h.kind=0)) <;> cases h2:t.right k <;> rw[h1,h2]at h <;> try simp
   simp at h;exact ih i h
structure RF(a:Act)(g o:Nat)(above:Int):Prop where
 sz:287<=a.tmps.size
 s0:a.eval (.tmp 0)=.pointer (some ⟨g,o,none⟩)
 s1:a.eval (.tmp 1)=.int .i64 above
 df:a.defers=[]
theorem RF.off{a a':Act}{S:List Nat}{g o:Nat}{above:Int}(h:RF a g o above)(hO:Off S a a')(h0:0∉S)(h1:1∉S):RF a' g o above :=
 ⟨by rw[hO.size];exact h.sz,(hO.eval h0).trans h.s0,(hO.eval h1).trans h.s1,hO.defers.trans h.df⟩
theorem uHZ{fn:Func}{t:Tmp}{a:Act}{w:World}{R:Ending->World->Prop}{v:Value}(h:fn.results=#[.tmp t])(hd:a.defers=[])(hv:a.eval (.tmp t)=v)(hR:R (.returned v) w):bodyPost Tryz.prog fn R .ret a w:=by
 refine yt (results_tmp h a.tmps _ _) hd ?_;have:a.tmps.getD t undef=v:=by rw[<- aF hv,Array.getD_eq_getD_getElem?]
 rw[this];exact hR
theorem fH{Q:Exit->Act->World->Prop}{a:Act}{w:World}{id:Nat}{x y s:Nat}{k c:Int}{ty:TypeId}{p1 p2:String}{t1 t2:TypeId}(b:Bool)(h:a.eval (.tmp s)=.int .i64 k)(hb:(k==c)=b)(hx:x<a.tmps.size)(hy:y<a.tmps.size)
  (hn:∀ a',Off [x,y] a a'->a'.eval (.tmp y)=.bool b->Q .normal a' w) :
  (Code.region id #[{ dst:=some x,op:=.binOp .eql ty (.tmp s) (.const (.int .i64 c)) ty,type:=t1,pos:=p1,after:=#[],guard:=none },{ dst:=some y,op:=.assign (.tmp x),type:=t2,pos:=p2,after:=#[⟨0,.data⟩],guard:=none }] false).wp Tryz.prog Q a w:=by
 subst hb;refine wp_region_lit ?_;refine wpList_plain rfl fun K hK=>?_
 unfold Oper.wp;have h1:(execOp a.eval { dst:=some x,op:=.binOp .eql ty (.tmp s) (.const (.int .i64 c)) ty,type:=t1,pos:=p1,after:=#[],guard:=none }).run Tryz.prog w=.ok (.value (.bool (k==c))) w:=by
  have h':=aF h;simp[execOp,go_sem,h']
 rw[h1];refine hK _ _ ?_;refine wpList_plain rfl fun K2 hK2=>?_
 unfold Oper.wp;have h2:(execOp (a.put (some x) (.bool (k==c))).eval { dst:=some y,op:=.assign (.tmp x),type:=t2,pos:=p2,after:=#[⟨0,.data⟩],guard:=none }).run Tryz.prog w=.ok (.value (.bool (k==c))) w:=by
  simp[execOp,go_sem];intro hh;omega
 rw[h2];refine hK2 _ _ ?_;exact hn _ (((Off.refl _ _).put (.head _) _).put (.tail _ (.head _)) _) (jD _ _ (by rw[qL];exact hy))
theorem wp_inc{Q:Exit->Act->World->Prop}{a:Act}{w:World}{id:Nat}{x s:Nat}{k:Int}{ty t1 t2:TypeId}{p1 p2:String}(h:a.eval (.tmp s)=.int .i64 k)(hk:IntKind.i64.wrap (k+1)=k+1)(hx:x<a.tmps.size)(hs:s<a.tmps.size)
  (hn:∀ a',Off [x,s] a a'->a'.eval (.tmp s)=.int .i64 (k+1)->Q .normal a' w) :
  (Code.region id #[{ dst:=some x,op:=.binOp .add ty (.tmp s) (.const (.int .i64 1)) ty,type:=t1,pos:=p1,after:=#[],guard:=none },{ dst:=some s,op:=.move (.tmp x),type:=t2,pos:=p2,after:=#[⟨0,.data⟩],guard:=none }] false).wp Tryz.prog Q a w:=by
 refine wp_region_lit ?_;refine wpList_plain rfl fun K hK=>?_
 unfold Oper.wp;have h1:(execOp a.eval { dst:=some x,op:=.binOp .add ty (.tmp s) (.const (.int .i64 1)) ty,type:=t1,pos:=p1,after:=#[],guard:=none }).run Tryz.prog w=.ok (.value (.int .i64 (k+1))) w:=by
  have h':=aF h;simp[execOp,go_sem,h',hk]
 rw[h1];refine hK _ _ ?_;refine wpList_plain rfl fun K2 hK2=>?_
 unfold Oper.wp;have h2:(execOp (a.put (some x) (.int .i64 (k+1))).eval { dst:=some s,op:=.move (.tmp x),type:=t2,pos:=p2,after:=#[⟨0,.data⟩],guard:=none }).run Tryz.prog w=.ok (.value (.int .i64 (k+1))) w:=by
  simp[execOp,go_sem];intro hh;omega
 rw[h2];refine hK2 _ _ ?_;exact hn _ (((Off.refl _ _).put (.head _) _).put (.tail _ (.head _)) _) (jD _ _ (by rw[qL];exact hs))
end Go.Proofs.YtmgjidnalpgegaaGreatDoor
