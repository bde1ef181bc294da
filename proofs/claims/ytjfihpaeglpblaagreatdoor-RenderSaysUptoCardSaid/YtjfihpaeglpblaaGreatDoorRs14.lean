/-
  Lemmas, part 14: PaW PaU PaX RlF RlG Rr2 Rr3 Rr4 Rr5.
-/
import Derived.Test.YtjfihpaeglpblaaGreatDoorRs13
set_option maxHeartbeats 100000000
set_option maxRecDepth 1000000
namespace Go.Proofs.YtjfihpaeglpblaaGreatDoor
open Go.RowKit
theorem rnew_any(A:Option Addr)(cap:Nat)(ids:List IdR)(w:World)(hA:eQ w A ids)(hn:ids.length<=300) :
  Calls Tryz.prog 70 #[.slice A ids.length cap] w fun e w'=>∃ v1 v2,e=.returned (vP w.heap.size 0)/\RfMk w.heap.size (w.heap.size+1) (bL ids) (List.replicate (bL ids).length true) v1 v2 w'/\Below w.heap.size w w':=by
 have HA:=zh hA;have HS:=zh (iB ids);have i6:=zh (pA ids);have mo:Hid (bL (ids.take ids.length)=bL ids):=zh (by rw[List.take_length]);obtain⟨n,dw⟩:=zD ids.length
 have HN:=zh dw;rw[<- dw]at hn ⊢;clear hA dw;obtain⟨W1,an⟩:=zD (w.alloc (.cells #[.slice none 0 0,.slice none 0 0] 156))
 have HM0:Hid (RfMk w.heap.size (w.heap.size+1) [] [] (.slice none 0 0) (.slice none 0 0) W1):=zh (by rw[an];exact⟨Lies.new w _ _,⟨rfl,.inl ⟨rfl,rfl⟩⟩,⟨rfl,.inl ⟨rfl,rfl⟩⟩⟩);have ag:=zA an;have wt:Hid (w.heap.size+1<=W1.heap.size):=zh (by rw[an];simp);have al:=zh an;clear an
 go_in
 go_upto_region 2 with fail
 rw[<- al.out];clear al
 go_wp2_with fail
 go_loopw [4] (fun v wx=>∃ (k:Nat) (v1 v2:Value),v=vI (k:Int)/\k<=n/\Hid (RfMk w.heap.size (w.heap.size+1) (bL (ids.take k)) (List.replicate (bL (ids.take k)).length true) v1 v2 wx)/\Hid (Below w.heap.size w wx)/\Hid (w.heap.size+1<=wx.heap.size)) (fun v _=>n-(intOf v).toNat)
 case atStart=>exact⟨0,_,_,rfl,zm _,HM0,ag,wt⟩
 case round=>
  obtain⟨k,v1,v2,rfl,hk,hM,hB,hZ⟩:=hrel;generalize ra:w.heap.size=q at *;have HQ:=zh ra;clear ra HM0 ag wt;by_cases hlt:k<n
  ·have iu:k<ids.length:=by rw[<- HN.out];exact hlt
   have hkn:(k:Int)<(n:Int):=by omega
   have rv:(k:Int)<=300:=by omega
   obtain⟨ga,oa,rfl,kl,bp⟩:=HA.out (by omega);obtain⟨c0,c1⟩:=bp k iu;have jr:=yv (i6.out k (by omega)) (Nat.le_of_lt iu);have re:=zh (HS.out k iu);have HRx:Hid (wr.rangeAt ga (oa+k*2) [vI ids[k].a,vI ids[k].n]):=zh (fun j v hv=>by
    match j,hv with
    |0,hv=>simp at hv;subst hv;exact(hB.out.cell (p:=⟨ga,_,none⟩) (by rw[<- HQ.out];exact kl)).trans c0
    |1,hv=>simp at hv;subst hv;exact(hB.out.cell (p:=⟨ga,_,none⟩) (by rw[<- HQ.out];exact kl)).trans c1)
   have uk:ga<wr.heap.size:=by have:=hZ.out;rw[HQ.out]at kl;omega
   rw[<- HN.out]at jr;generalize ids[k]=x at *;generalize bL (ids.take k)=acc at *;generalize ox:bL (ids.take (k+1))=acc' at *;have js:=zh ox;clear ox c0 c1 bp;obtain⟨A1,cm,rfl⟩:=aV hM.out.r1;obtain⟨A2,di,rfl⟩:=aV hM.out.r2;generalize hle:acc.length=m at *;have r7:=zh hle;clear hle;obtain⟨b0,fe⟩:∃ b,decide (x≠id0)=b:=⟨_,rfl⟩
   obtain⟨b1,hb1⟩:∃ b,decide (bB acc x<0)=b:=⟨_,rfl⟩
   obtain⟨d,hd⟩:∃ d,d=(b0&&b1):=⟨_,rfl⟩
   have hN1:∀ w:World,(binOp .neq 27 (idV x) (idV id0)).run Tryz.prog w=.ok (.bool b0) w:=fun w=>by rw[fL,fe]
   have HBs:=zh (And.intro fe (And.intro hb1 (And.intro hd hN1)));have HD:Hid (acc'=if d then acc++[x] else acc):=zh (by
    rw[re.out,jG,hd,<- fe,<- hb1];by_cases h1:x=id0
    ·rw[if_pos (.inl h1)];simp[h1]
    by_cases h2:x∈acc
    ·have hn:¬ bB acc x<0:=fun h=>(uX acc x).1 h h2
     rw[if_pos (.inr h2),if_neg (by simp[h1];exact Int.not_lt.1 hn)]
    rw[if_neg (by simp[h1,h2]),if_pos];have:=(uX acc x).2 h2;simp[h1,this])
   clear fe hb1 hd hN1 re;obtain⟨Wr,hWr⟩:=zD wr
   subst hWr
   go_upto_region 5 with fail
   go_cut [35] (fun v wx=>v=.bool d/\Hid (Below Wr.heap.size Wr wx))
   case first=>
    obtain⟨fe,hb1,hd,hN1⟩:=HBs.out
    obtain⟨TT,ah⟩:∃ TT:List (Nat×Nat×Value),TT=((0,13,.slice (some ⟨ga,oa,none⟩) n cap)::(1,14,vI (k:Int))::(2,15,vP ga (oa+k*2))::(3,16,idV x)::(4,17,idV id0)::(5,18,.bool b0)::(6,19,.bool b0)::(7,20,(bif b0 then vP q 0 else undef))::(8,21,(bif b0 then .slice (some ⟨ga,oa,none⟩) n cap else undef))::(9,22,(bif b0 then vI (k:Int) else undef))::(10,23,(bif b0 then vP ga (oa+k*2) else undef))::(11,24,(bif b0 then idV x else undef))::(12,25,(bif b0 then vI (bB acc x) else undef))::(13,26,(bif b0 then .bool b1 else undef))::(14,27,.bool d)::(15,28,.bool d)::(16,29,(bif d then vP q 0 else undef))::(17,30,(bif d then vP q 0 else undef))::(18,31,(bif d then vP q 0 else undef))::(19,32,(bif d then .slice A1 m cm else undef))::(20,33,(bif d then vI (m:Nat) else undef))::(21,34,(bif d then .bool true else undef))::(22,35,.bool d)::[]):=⟨_,rfl⟩
    have bd:=zh ah;clear ah;refine aX (fun a0=>59<=a0.tmps.size/\a0.eval (.tmp 0)=.slice (some ⟨ga,oa,none⟩) n cap/\a0.eval (.tmp 3)=vP q 0/\a0.eval (.tmp 4)=vI (k:Int)) (13::14::15::16::17::18::19::20::21::22::23::24::25::26::27::28::29::30::31::32::33::34::35::[]) TT [] (fun w'=>Below Wr.heap.size Wr w') (by kernel_rfl) ⟨by simp,rfl,rfl,rfl⟩ zB ?_ ?_
    ·rintro a0 ⟨hs,dv,kn,wh⟩ zl a1 w1 zj o aq hI aj ho zd;have qy:Below Wr.heap.size Wr w1:=hI.st;have ah:=bd.out
     subst ah;have e0x:=hI.off.q dv;have e3x:=hI.off.q kn;have e4x:=hI.off.q wh;have hj:=Up.of_false aj;have hj12:zj<23:=by rw[aq]at hj;exact hj
     have G:RG _ _ _ _ _ _ _ _ _ _ _:=⟨by rfl,hI,hs,aj,ho,zd⟩
     (iterate 22 rcases zq hj12 with hj12|rfl);obtain rfl:=cz hj12;all_goals obtain rfl:=oi ho
     ·exact G.nl 0 rfl (by simp[execOp,go_sem,e0x])
     ·exact G.nl 1 rfl (by simp[execOp,go_sem,e4x])
     ·exact G.nl 2 rfl (by simp[execOp,go_sem,G.t 0,G.t 1,hkn])
     ·have p2:=G.d 2;exact G.nl 3 rfl (aQ 27 (.tmp 15) rfl ga (oa+k*2) p2 _ _ (fun j v hv=>(qy.cell (p:=⟨ga,oa+k*2+j,none⟩) uk).trans (HRx.out j v hv)) Tryz.underlying27 rfl iM)
     ·exact G.nl 4 rfl (by simp[execOp,go_sem])
     ·exact G.nl 5 rfl (by simp[execOp,go_sem,G.t 3,G.t 4,hN1])
     ·exact G.nl 6 rfl (by simp[execOp,go_sem,G.t 5])
     ·refine G.gv 6 7 ?_;rintro rfl;simp[execOp,go_sem,e3x]
     ·refine G.gv 6 8 ?_;rintro rfl;simp[execOp,go_sem,e0x]
     ·refine G.gv 6 9 ?_;rintro rfl;simp[execOp,go_sem,e4x]
     ·refine G.gv 6 10 ?_;rintro rfl;simp[execOp,go_sem,G.t 8,G.t 9,hkn]
     ·refine G.gv 6 11 ?_;rintro rfl;have p10:=G.d 10;exact aQ 27 (.tmp 23) rfl ga (oa+k*2) p10 _ _ (fun j v hv=>(qy.cell (p:=⟨ga,oa+k*2+j,none⟩) uk).trans (HRx.out j v hv)) Tryz.underlying27 rfl iM
     ·have pg:=G.g 6;cases b0
      ·exact G.sk 12 pg
      refine G.cw 12 rfl pg 130 #[vP q 0,idV x] (by simp[go_sem,G.t 7,G.t 11]) ?_;refine(gO q (q+1) acc (List.replicate acc.length true) _ _ x w1 (by rw[r7.out];exact hM.out.next qy) (by rw[r7.out];omega)).mono ?_;rintro e w2 ⟨rfl,hb⟩;exact⟨rfl,zU qy hb⟩
     ·refine G.gv 6 13 ?_;rintro rfl;simp[execOp,go_sem,G.t 12,hb1]
     ·cases b0
      all_goals exact G.nl 14 rfl (by simp[execOp,go_sem,G.t 6,G.t 13,hd])
     ·exact G.nl 15 rfl (by simp[execOp,go_sem,G.t 14])
     ·refine G.gv 15 16 ?_;rintro rfl;simp[execOp,go_sem,e3x]
     ·refine G.gv 15 17 ?_;rintro rfl;simp[execOp,go_sem,G.t 16]
     ·refine G.gv 15 18 ?_;rintro rfl;simp[execOp,go_sem,G.t 17]
     ·refine G.gv 15 19 ?_;rintro rfl;have xq:w1.cell? ⟨q,0,none⟩=some (.slice A1 m cm):=(hM.out.next qy).ax.cell 0;simp[execOp,go_sem,G.t 18,xq]
     ·refine G.gv 15 20 ?_;rintro rfl;simp[go_sem,G.t 19]
     ·have pg:=G.g 15;cases d
      ·exact G.sk 21 pg
      have tf:(m:Int)<1000:=by omega
      exact G.vl 21 rfl pg (by simp[execOp,go_sem,G.t 20,tf])
     cases d
     all_goals exact G.nl 22 rfl (by simp[execOp,go_sem,G.t 15,G.t 21])
    intro zl a1 w1 hI bi;have qy:Below Wr.heap.size Wr w1:=hI.st;have ah:=bd.out;subst ah;have z35:=hI.ptk 22 rfl (bi 22 (by decide));obtain⟨ff,rfl,hf⟩:=hI.off.forms;rw[<- hf 35]at z35;clear hI;simp only[List.foldl,Act.put,yz,List.set];rw[z35];simp only[Exit.then]
    go_step
    go_meet
    exact⟨rfl,zh qy⟩
   case rest=>
    obtain⟨rfl,lh⟩:=hcut;have xi:=zh (hM.out.next lh.out);have hB4:=zh (hB.out.trans (lh.out.mono (by have:=hZ.out;omega)));have hZ4:Hid (q+1<=wc.heap.size):=zh (by have:=lh.out.size;have:=hZ.out;omega);have eu:=HD.out;have HRx4:Hid (wc.rangeAt ga (oa+k*2) [vI x.a,vI x.n]):=zh (fun j v hv=>(lh.out.cell (p:=⟨ga,oa+k*2+j,none⟩) uk).trans (HRx.out j v hv));have hga4:ga<wc.heap.size:=yu uk lh.out.size;clear hM hB hZ HRx uk HBs HD lh;cases d
    ·rw[if_neg (by decide)]at eu;have jm:=zh eu;clear eu
     go_wp2_with fail
     go_roundw
     case rel=>exact⟨k+1,_,_,by go_num,by omega,by rw[js.out,jm.out,r7.out];exact xi,hB4,hZ4⟩
     case measure=>first |(simp[intOf];done) |(simp[intOf];omega)
    rw[if_pos rfl]at eu;have jm:=zh eu;clear eu;obtain⟨W4,pr⟩:=zD wc
    subst pr;have HX4:=zh xi.out.ax;have ld:Hid (W4.ownsRow (q+1) 27 2 (.slice A1 m cm) m (aI acc)):=zh (by have:=xi.out.r1;rwa [r7.out]at this);have i7:Hid (W4.ownsRow (q+1) 4 1 (.slice A2 m di) m ((List.replicate m true).map Value.bool)):=zh (by have:=xi.out.r2;rwa [r7.out]at this);have HY:Hid (∀ g,(Value.slice A1 m cm).ownBlock=some g->g∈q::(Value.slice A1 m cm).ownBlock.toList):=zh (fun g hg=>by rw[hg];simp);have ra:q<=ga->False:=fun h=>by rw[HQ.out]at kl;omega
    have ww:Hid (ga∉q::(Value.slice A1 m cm).ownBlock.toList):=zh (fun h=>by
     rcases ym.1 h with h|h
     ·exact ra (by omega)
     have:=(bZ ld.out ga (by simpa using h)).1;exact ra (by omega))
    go_upto_region 6 with fail
    go_cut [46] (fun v wx=>∃ v1',Hid (Lies wx q 156 #[v1',.slice A2 m di])/\Hid (wx.ownsRow (q+1) 27 2 v1' (m+1) (aI acc++[vI x.a,vI x.n]))/\Hid (Kp (q::(Value.slice A1 m cm).ownBlock.toList) W4 wx))
    case first=>
     obtain⟨TT,ah⟩:∃ TT:List (Nat×Nat×Value),TT=[(0,36,vP q 0),(1,37,vP q 0),(2,38,vP q 0),(3,39,vP q 0),(4,40,.slice A1 m cm),(5,41,.slice (some ⟨ga,oa,none⟩) n cap),(6,42,vI (k:Int)),(7,43,vP ga (oa+k*2)),(8,44,.agg #[vI x.a,vI x.n]),(11,47,vP q 0),(12,48,vP q 0)]:=⟨_,rfl⟩
     have bd:=zh ah;clear ah;refine fE (by kernel_rfl) (by kernel_rfl) (fun a0=>59<=a0.tmps.size/\a0.eval (.tmp 0)=.slice (some ⟨ga,oa,none⟩) n cap/\a0.eval (.tmp 3)=vP q 0/\a0.eval (.tmp 4)=vI (k:Int)) (GA [36,37,38,39,40,41,42,43,44,45,46,47,48] TT (q::(Value.slice A1 m cm).ownBlock.toList) W4 4 9 45 10 46 13 q 0 27 156 #[.slice A1 m cm,.slice A2 m di] (q+1) 2 m (.slice A1 m cm) (aI acc) [vI x.a,vI x.n]) ⟨by simp,rfl,rfl,rfl⟩ (GA.start _ _ (Kp.refl _ _).drew ld.out HX4.out) ?_ ?_
     ·rintro a0 ⟨hs,dv,kn,wh⟩ zl a1 w1 j o aq hI aj ho zd;have ah:=bd.out;subst ah;have hk:GAk [36,37,38,39,40,41,42,43,44,45,46,47,48] [(0,36,vP q 0),(1,37,vP q 0),(2,38,vP q 0),(3,39,vP q 0),(4,40,.slice A1 m cm),(5,41,.slice (some ⟨ga,oa,none⟩) n cap),(6,42,vI (k:Int)),(7,43,vP ga (oa+k*2)),(8,44,.agg #[vI x.a,vI x.n]),(11,47,vP q 0),(12,48,vP q 0)] (q::(Value.slice A1 m cm).ownBlock.toList) 9 45 10 46 13 q 27 156 (.slice A1 m cm) 59:=⟨rfl,by decide,HY.out,.head _⟩
      have hj:=Up.of_false aj;have hj12:j<14:=by rw[aq]at hj;exact hj
      have e0x:a1.eval (.tmp 0)=.slice (some ⟨ga,oa,none⟩) n cap:=(hI.off.eval (by decide)).trans dv;have e3x:a1.eval (.tmp 3)=vP q 0:=(hI.off.eval (by decide)).trans kn;have e4x:a1.eval (.tmp 4)=vI (k:Int):=(hI.off.eval (by decide)).trans wh;rcases(by omega:j=0\/j=1\/j=2\/j=3\/j=4\/j=5\/j=6\/j=7\/j=8\/j=9\/j=10\/j=11\/j=12\/j=13) with rfl|rfl|rfl|rfl|rfl|rfl|rfl|rfl|rfl|rfl|rfl|rfl|rfl|rfl<;>obtain rfl:=oi ho
      ·exact bP hk hI hs (.head _) aj ho rfl rfl (by simp[execOp,go_sem,cD e3x])
      ·exact bP hk hI hs (.tail _ (.head _)) aj ho rfl rfl (by simp[execOp,go_sem,cD e3x])
      ·have d1:=ud zd 1;have p1:=pk hI.pt 1 rfl d1;exact bP hk hI hs (mm 2 rfl) aj ho rfl rfl (by simp[execOp,go_sem,cD p1])
      ·have d2:=ud zd 2;have p2:=pk hI.pt 2 rfl d2;exact bP hk hI hs (mm 3 rfl) aj ho rfl rfl (by simp[execOp,go_sem,cD p2])
      ·have d3:=ud zd 3;have p3:=pk hI.pt 3 rfl d3;have c0:=(hI.unl aj).cell 0;simp only[za,zb]at c0;exact bP hk hI hs (mm 4 rfl) aj ho rfl rfl (by simp[execOp,go_sem,cD p3,c0])
      ·exact bP hk hI hs (mm 5 rfl) aj ho rfl rfl (by simp[execOp,go_sem,cD e0x])
      ·exact bP hk hI hs (mm 6 rfl) aj ho rfl rfl (by simp[execOp,go_sem,cD e4x])
      ·have d5:=ud zd 5;have p5:=pk hI.pt 5 rfl d5;have d6:=ud zd 6;have p6:=pk hI.pt 6 rfl d6;exact bP hk hI hs (mm 7 rfl) aj ho rfl rfl (by simp[execOp,go_sem,cD p5,cD p6,hkn])
      ·have d7:=ud zd 7;have p7:=pk hI.pt 7 rfl d7;exact bP hk hI hs (mm 8 rfl) aj ho rfl rfl (aQ 27 (.tmp 43) rfl ga (oa+k*2) p7 [vI x.a,vI x.n] _ (fun j v hv=>(hI.kp.cell (g:=ga) (i:=oa+k*2+j) hga4 ww.out).trans (HRx4.out j v hv)) Tryz.underlying27 rfl iM)
      ·have d8:=ud zd 8;have p8:=pk hI.pt 8 rfl d8;exact rR hk hI hs aj ho rfl rfl (by simp[execOp,go_sem,cD p8])
      ·have d4:=ud zd 4;have p4:=pk hI.pt 4 rfl d4;have d9:=ud zd 9;obtain⟨i1,gi,gz0,gz1,gz2⟩:=info_parts rU;exact uAY hk hI hs aj ho rfl rfl d4 d9 35 40 rfl p4 i1 (.agg #[vI 0,vI 0]) 16 Tryz.underlying35 gi gz0 gz1 gz2 rfl (by decide) rfl (by intro u hu;simp at hu;rcases hu with rfl|rfl <;> rfl) (by unfold maxLen;omega) (by omega) (yv hZ4.out hI.kp.size)
      ·have d0:=ud zd 0;have p0:=pk hI.pt 0 rfl d0;exact bP hk hI hs (mm 9 rfl) aj ho rfl rfl (by simp[execOp,go_sem,cD p0])
      ·have d11:=ud zd 11;have p11:=pk hI.pt 9 rfl d11;exact bP hk hI hs (mm 10 rfl) aj ho rfl rfl (by simp[execOp,go_sem,cD p11])
      have d12:=ud zd 12;have p12:=pk hI.pt 10 rfl d12;have d10:=ud zd 10;exact rS hk hI aj ho rfl rfl d10 (fun hL jd=>by
       obtain⟨gs,cs,jd⟩:=jd;have c0:=hL.cell 0;have k0:=hL.frozen 0;simp at c0;rw[jd];simp[execOp,go_sem,cD p12,cD jd,c0,k0])
     intro zl a1 w1 hI bi;have ah:=bd.out;subst ah;have jt:=hI.kp;have ba:=hI.o2 (bi 10 (by decide));have ju:=(hI.b2 (bi 13 (by decide))).2;obtain⟨ff,rfl,hf⟩:=hI.off.forms;rw[<- hf 46]at ba ju;clear hI;generalize ff 46=v' at *;simp only[List.foldl,Act.put,yz,List.set];simp only[Exit.then]
     go_step
     go_meet
     exact⟨v',zh ju,zh ba,zh jt⟩
    case rest=>
     obtain⟨v1',rq,oy,ln⟩:=hcut;obtain⟨A1',oz,rfl⟩:=aV oy.out;have lf:=zh (bT i7.out ln.out (fun g hg=>by
      intro hm;rcases ym.1 hm with h|h
      ·subst h;exact bE (by decide) i7.out HX4.out hg.symm
      exact iA (by decide) i7.out ld.out g hg (by simpa using h)))
     have bk:=zh (hB4.out.trans (ln.out.below (B:=q) (fun g hg=>by
      rcases ym.1 hg with h|h
      ·omega
      have:=(bZ ld.out g (by simpa using h)).1;omega) (by have:=hZ4.out;omega)))
     have qh:Hid (q+1<=wc.heap.size):=zh (yv hZ4.out ln.out.size);clear HX4 ld i7 ln hB4 hZ4 HY ww xi HRx4 hga4;have x1:=rq.out.cell 1;have f1:=rq.out.frozen 1;simp only[za,zb,zf]at x1;have hqz:q<wc.heap.size:=by have:=qh.out;omega
     obtain⟨i1,gi,gz0,gz1,gz2⟩:=info_parts nQ
     go_wp2_with (at_builtin;refine wpList_append_own _ rfl _ _ 148 rfl (q+1) 4 i1 (.bool false) 1 1 Tryz.underlying148 gi gz0 gz1 gz2 rfl (by decide) _ _ _ rfl (World.ownsRow.alloc lf.out _) ⟨wc.heap.size,0,none⟩ 1 1 [.bool true] rfl rfl ?c1 ?c2 ?c3 ?c4 ?c5 ?_)
     case c1=>
      intro j u hj
      match j,hj with
      |0,hj=>simp at hj;subst hj;simp[Addr.add]
     case c2=>intro u hu;simp at hu;subst hu;rfl
     case c3=>unfold maxLen;omega
     case c4=>omega
     case c5=>have:=qh.out;rw[World.size_alloc];omega
     intro v2' W6 ej dr _;obtain⟨A2',o3,rfl⟩:=aV ej;have kl:wc.grownBy W6 (Value.slice A2 m di).ownBlock:=(World.grownBy_alloc wc _ _).trans dr;have rt:=zh (rq.out.grownA kl (bE (by decide) lf.out rq.out));have HR6:=zh (World.ownsRow.kept oy.out kl (by
      cases hv:(Value.slice A1' (m+1) oz).ownBlock with
      |none=>exact .inl rfl
      |some g=>exact .inr (fun e=>iA (by decide) oy.out lf.out g hv e.symm)))
     have HR62:=zh ej;have ni:=zh (bk.out.grown kl (by have:=qh.out;omega) (fun g hg=>by have:=(bZ lf.out g hg).1;omega));have HZ6:Hid (q+1<=W6.heap.size):=zh (yv qh.out kl.size);clear kl dr ej rq oy lf bk qh x1 f1 hqz;have x1:=rt.out.cell 1;have f1:=rt.out.frozen 1;simp only[za,zb,zf]at x1
     go_wp2_with fail
     go_roundw
     case rel=>
      refine⟨k+1,.slice A1' (m+1) oz,.slice A2' (m+1) o3,by go_num,by omega,zh ⟨rt.out.put 1 _,?_,?_⟩,zh (ni.out.setCell (p:=⟨q,1,none⟩) (Nat.le_refl q) _),zh (by rw[World.size_setCell];exact HZ6.out)⟩
      ·rw[js.out,jm.out,jP,yl,r7.out];exact lR (by decide) HR6.out rt.out 1 _
      rw[js.out,jm.out,yl,r7.out];have h:=lR (by decide) HR62.out rt.out 1 (.slice A2' (m+1) o3);rw[show (List.replicate (m+[x].length) true).map Value.bool=(List.replicate m true).map Value.bool++[.bool true] from by rw[List.length_singleton,List.replicate_succ',List.map_append];rfl,List.map_replicate];exact h
     case measure=>first |(simp[intOf];done) |(simp[intOf];omega)
  obtain rfl:k=n:=by omega
  rw[HN.out,mo.out]at hM
  go_wp2_with fail
  go_ret
  exact⟨v1,v2,by rw[HQ.out];rfl,by rw[HQ.out];exact hM.out,by rw[HQ.out];exact hB.out⟩
theorem kp_below{W W':World}(h:Kp [] W W'):Below W.heap.size W W':=h.below (fun k hk=>by cases hk) zr
theorem pAxis_nd(ids:List IdR):∀ k,k<=ids.length->(bL (ids.take k)).Nodup/\id0∉bL (ids.take k):=by
 intro k
 induction k with
 |zero=>intro _;exact⟨List.nodup_nil,by simp[bL]⟩
 |succ k ih=>
  intro h;obtain⟨h1,h2⟩:=ih (by omega);rw[iB ids k h];unfold jG
  split
  ·exact⟨h1,h2⟩
  rename_i hn
  rw[not_or]at hn;refine⟨?_,?_⟩
  ·rw[List.nodup_append];refine⟨h1,by simp,fun a ha b hb=>?_⟩;rw[yf.1 hb];exact fun e=>hn.2 (e ▸ ha)
  rw[List.mem_append,not_or];exact⟨h2,fun h=>hn.1 (yf.1 h).symm⟩
theorem oZ(ids:List IdR):(bL ids).Nodup/\id0∉bL ids/\(bL ids).length<=ids.length/\∀ y∈bL ids,y∈ids:=by
 have h1:=pAxis_nd ids ids.length zr;have h2:=pA ids ids.length zr;have h3:=uW ids ids.length zr;rw[List.take_length]at h1 h2 h3;exact⟨h1.1,h1.2,h2,h3⟩
def dZ(l dead:List IdR):List Bool:=dead.foldl (fun fl x=>iF l fl x false) (List.replicate l.length true)
theorem pS(l dead:List IdR)(k:Nat)(h:k<dead.length):dZ l (dead.take (k+1))=iF l (dZ l (dead.take k)) dead[k] false:=by
 unfold dZ;rw[yw h,List.foldl_append];rfl
theorem rH(l dead:List IdR):∀ k,k<=dead.length->(dZ l (dead.take k)).length=l.length:=by
 intro k
 induction k with
 |zero=>intro _;exact List.length_replicate
 |succ k ih=>intro h;rw[pS l dead k h,uGL,ih (by omega)]
structure TwoAx(w:World)(q m b1 b2:Nat)(acc:List IdR)(fl:List Bool)(v1 v2 u1 u2:Value)(W:World):Prop where
 a:AxRaw q b1 acc fl v1 v2 W
 r:RfMk m b2 acc fl u1 u2 W
 b:Below w.heap.size w W
 q1:w.heap.size<=q
 qm:q<m
 mb:m<=b2
 e1:∀ g,v1.ownBlock=some g->g<m
 e2:∀ g,v2.ownBlock=some g->w.heap.size<=g/\g<m
 bs:b2<=W.heap.size
theorem TwoAx.del{w:World}{q m b1 b2:Nat}{acc:List IdR}{fl fl':List Bool}{v1 v2 u1 u2:Value}{W W':World}(h:TwoAx w q m b1 b2 acc fl v1 v2 u1 u2 W)(hk:Kp (q::v2.ownBlock.toList) W W')(ha:AxRaw q b1 acc fl' v1 v2 W') :
  AxRaw q b1 acc fl' v1 v2 W'/\RfMk m b2 acc fl u1 u2 W'/\Below w.heap.size w W'/\b2<=W'.heap.size:=by
 have hm:∀ g,m<=g->g∉q::v2.ownBlock.toList:=fun g hg hx=>by
  rcases ym.1 hx with hx|hx
  ·have:=h.qm;omega
  have:=(h.e2 g (by simpa using hx)).2;omega
 refine⟨ha,h.r.kp hk (hm m zr) (fun g hg=>hm g (yv h.mb (bZ h.r.r1 g hg).1)) (fun g hg=>hm g (yv h.mb (bZ h.r.r2 g hg).1)),h.b.trans (hk.below (fun g hg=>?_) h.b.size),yv h.bs hk.size⟩;rcases ym.1 hg with hx|hx
 ·rw[hx];exact h.q1
 exact(h.e2 g (by simpa using hx)).1
theorem TwoAx.set{w:World}{q m b1 b2:Nat}{acc:List IdR}{fl fl':List Bool}{v1 v2 u1 u2 u2':Value}{W0 W W':World}(h:TwoAx w q m b1 b2 acc fl v1 v2 u1 u2 W0)(ha:AxRaw q b1 acc fl' v1 v2 W)(hb:Below w.heap.size w W)(hz:b2<=W.heap.size)(hk:Kp [m] W W')(hr:RfMk m b2 acc fl' u1 u2' W'):TwoAx w q m b1 b2 acc fl' v1 v2 u1 u2' W':=by
 have hm:∀ g,g<m->g∉[m]:=fun g hg hx=>by have:=yf.1 hx;omega
 exact⟨ha.kp hk (hm q h.qm) (fun g hg=>hm g (h.e1 g hg)) (fun g hg=>hm g (h.e2 g hg).2),hr,hb.trans (hk.below (fun g hg=>by rw[yf.1 hg];exact Nat.le_of_lt (Nat.lt_of_le_of_lt h.q1 h.qm)) hb.size),h.q1,h.qm,h.mb,h.e1,h.e2,yv hz hk.size⟩
theorem uK(A D:Option Addr)(cap capd:Nat)(ids dead:List IdR)(w:World)(hA:eQ w A ids)(hD:eQ w D dead)(hn:ids.length<=300)(hnd:dead.length<=300)(hf:∀ y∈ids,y.fits) :
  Calls Tryz.prog 32 #[.slice A ids.length cap,.slice D dead.length capd] w fun e w'=>∃ m b1 b2 v1 v2 u1 u2,e=.returned (.tuple #[vP w.heap.size 0,vP m 0])/\TwoAx w w.heap.size m b1 b2 (bL ids) (dZ (bL ids) dead) v1 v2 u1 u2 w':=by
 have CA:=zh (uEK A cap ids w hA hn hf);have CR:=zh (fun W h=>rnew_any A cap ids W h hn);have HA:=zh hA;have HD:=zh hD;have HND:=zh hnd;obtain⟨k1,k2,k3,k4⟩:=oZ ids;have qi:Hid ((bL ids).length<=300):=zh (yv k3 hn);have HSu:=zh (pS (bL ids) dead);have r7:=zh (rH (bL ids) dead);have H0:Hid (dZ (bL ids) (dead.take 0)=List.replicate (bL ids).length true):=zh rfl;have mo:Hid (dZ (bL ids) (dead.take dead.length)=dZ (bL ids) dead):=zh (by rw[List.take_length]);obtain⟨n,dw⟩:=zD dead.length
 have HN:=zh dw;rw[<- dw];generalize bL ids=acc at *;clear hA hD k1 k2 k3 k4 hf hnd dw
 go_in
 go_wp2_with fail
 refine CA.out.mono ?_;rintro e w1 ⟨v1,v2,rfl,h1,hb1⟩;have CR1:=zh (CR.out w1 (fun h0=>by obtain⟨g,o,e,hr⟩:=HA.out h0;exact⟨g,o,e,hr.at hb1.size (hb1.block g hr.1)⟩));have H1:=zh h1;have bq:=zh hb1;clear h1 hb1 CA CR HA
 go_wp2_with fail
 refine CR1.out.mono ?_;rintro e w2 ⟨u1,u2,rfl,h2,aw⟩;have HT:Hid (TwoAx w w.heap.size w1.heap.size (w.heap.size+2) (w1.heap.size+1) acc (dZ acc (dead.take 0)) v1 v2 u1 u2 w2):=zh (by
  rw[H0.out];have ha:=H1.out.next aw;refine⟨⟨ha.ax,ha.r1,?_⟩,h2,zU bq.out aw,zr,H1.out.ax.lt,Nat.le_succ _,fun g hg=>(bZ H1.out.r1 g hg).2,fun g hg=>⟨by have:=(bZ H1.out.r2 g hg).1;omega,(bZ H1.out.r2 g hg).2⟩,h2.ax.lt⟩;rw[List.length_replicate];unfold dX;rw[List.map_replicate];exact ha.r2)
 generalize hm:w1.heap.size=m at *;clear h2 aw CR1 H1 bq
 go_wp2_with fail
 go_loopw [8] (fun v wr=>∃ (k:Nat) (u2':Value),k<=n/\v=vI (k:Int)/\Hid (TwoAx w w.heap.size m (w.heap.size+2) (m+1) acc (dZ acc (dead.take k)) v1 v2 u1 u2' wr)) (fun v _=>n-(intOf v).toNat)
 case atStart=>exact⟨0,_,zm _,rfl,HT⟩
 case round=>
  obtain⟨k,u2',hk,rfl,hT⟩:=hrel;clear HT;generalize ra:w.heap.size=q at *;have HQ:=zh ra;clear ra;have rv:(k:Int)<=300:=by have:=HND.out;have:=HN.out;omega
  by_cases hlt:k<n
  ·have iu:k<dead.length:=by rw[<- HN.out];exact hlt
   have hkn:(k:Int)<(n:Int):=by omega
   obtain⟨ga,oa,rfl,kl,bp⟩:=HD.out (by omega);obtain⟨c0,c1⟩:=bp k iu;have re:=zh (HSu.out k iu);have HLk:=zh (r7.out k (by omega));have hbw:Below q w wr:=by have h:=hT.out.b;rw[HQ.out]at h;exact h
   have d0:wr.cell? ⟨ga,oa+k*2,none⟩=some (vI dead[k].a):=(hbw.cell (p:=⟨ga,_,none⟩) (by rw[<- HQ.out];exact kl)).trans c0;have d1:wr.cell? ⟨ga,oa+k*2+1,none⟩=some (vI dead[k].n):=(hbw.cell (p:=⟨ga,_,none⟩) (by rw[<- HQ.out];exact kl)).trans c1;have HGa:Hid (ga<q):=zh (by rw[<- HQ.out];exact kl);have rl:Hid (∀ W,Below w.heap.size w W->W.cell? ⟨ga,oa+k*2,none⟩=some (vI dead[k].a)/\W.cell? ⟨ga,oa+k*2+1,none⟩=some (vI dead[k].n)):=zh (fun W hb=>⟨(hb.cell (p:=⟨ga,_,none⟩) kl).trans c0,(hb.cell (p:=⟨ga,_,none⟩) kl).trans c1⟩);clear c0 c1 bp hbw;generalize dead[k]=x at *;obtain⟨xa,xn⟩:=x;dsimp only at d0 d1;generalize dZ acc (dead.take k)=fl at *
   go_wp2_with fail
   refine(uAQ q (q+2) acc fl v1 v2 ⟨xa,xn⟩ wr hT.out.a HLk.out.symm (by have:=qi.out;omega)).mono ?_;rintro e w3 ⟨⟨n3,rfl⟩,h3,k3⟩;have HDl:=zh (hT.out.del k3 h3);obtain⟨e0,e1⟩:=rl.out w3 HDl.out.2.2.1;clear h3 k3 d0 d1
   go_wp2_with fail
   refine(rset_any m (m+1) acc fl u1 u2' ⟨xa,xn⟩ false w3 HDl.out.2.1 HLk.out.symm (by have:=qi.out;omega) HDl.out.2.2.2).mono ?_;rintro e w4 ⟨⟨n4,rfl⟩,⟨u2'',h4⟩,k4⟩;have HT4:=zh (hT.out.set HDl.out.1 HDl.out.2.2.1 HDl.out.2.2.2 k4 h4);clear h4 k4 HDl e0 e1
   go_wp2_with fail
   go_roundw
   case rel=>exact⟨k+1,u2'',by omega,by go_num,zh (by rw[re.out];exact HT4.out)⟩
   case measure=>first |(simp[intOf];done) |(simp[intOf];omega)
  obtain rfl:k=n:=by omega
  go_wp2_with fail
  (try simp only[Exit.inBlock,Exit.then])
  refine yt (results_tmp2 rfl _ _ _) rfl ?_;exact⟨_,_,_,_,_,_,_,by first|rfl |(rw[HQ.out];rfl),by have h:=hT.out;rw[HN.out,mo.out]at h;first|exact h |(rw[HQ.out];exact h)⟩
theorem gV:∀ (a b:List IdR),aI (a++b)=aI a++aI b
 | [],_=>rfl
 |x::a,b=>by
  show _::_::aI (a++b)=_;rw[gV a b];rfl
theorem aN{W W4:World}{B n sz:Nat}{e:TypeId}{v:Value}{xs:List Value}(ho:W.ownsRow B e sz v n xs)(h:W.grownBy W4 v.ownBlock)(hB:B<=W.heap.size):Below B W W4 :=
 ((Kp.refl v.ownBlock.toList W).grown h (fun y hy=>.inl (by rw[hy];exact .head _))).below (fun y hy=>(bZ ho y (by simpa using hy)).1) hB
theorem jF{ops:Array Oper}{rest:List Oper}{o:Oper}{a:Act}{w:World}{Q:Exit->Act->World->Prop}(pm:o.guard=none)(s x:Operand)(ho:o.op=.call { callee:=.builtin .append,args:=#[s,x],argTypes:=#[35,35] })
  (base n:Nat) (v:Value) (xs:List Value) (hs:a.eval s=v) (ba:w.ownsRow base 27 2 v n xs) (hn:n<=1000000) (dt:base<=w.heap.size)
  (z:Nat) (y:IdR) (hx:a.eval x=.slice (some ⟨z,0,none⟩) 1 1) (hz:Lies w z 27 #[vI y.a,vI y.n])
  (h:∀ A' c' w',w'.ownsRow base 27 2 (.slice A' (n+1) c') (n+1) (xs++aI [y])->w.grownBy w' v.ownBlock->wpList Tryz.prog ops Q rest (a.put o.dst (.slice A' (n+1) c')) w'):wpList Tryz.prog ops Q (o::rest) a w:=by
 obtain⟨i1,gi,gz0,gz1,gz2⟩:=info_parts rU;have h0:w.cell? ⟨z,0,none⟩=some (vI y.a):=hz.cell 0;have h1:w.cell? ⟨z,1,none⟩=some (vI y.n):=hz.cell 1;refine wpList_append_own (P:=Tryz.prog) w pm s x 35 ho base 27 i1 (.agg #[vI 0,vI 0]) 2 16 Tryz.underlying35 gi gz0 gz1 gz2 rfl (by decide) v n xs hs ba ⟨z,0,none⟩ 1 1 (aI [y]) hx rfl (fun j u hj=>?_) (fun u hu=>?_) (by unfold maxLen;omega) (by omega) dt (fun v' w' k1 k2 _=>?_)
 ·match j,hj with
  |0,hj=>cases hj;exact h0
  |1,hj=>cases hj;simpa [Addr.add] using h1
 ·rcases ym.1 hu with rfl|hu
  ·rfl
  rw[yf.1 hu];rfl
 obtain⟨A',c',rfl⟩:=aV k1;exact h A' c' w' k1 k2
theorem uCD(q base:Nat)(l:List IdR)(fl:List Bool)(v1 v2:Value)(w:World)(hM:RfMk q base l fl v1 v2 w)(hl:l.length=fl.length)(hn:l.length<=300) :
  Calls Tryz.prog 45 #[vP q 0] w fun e w'=>∃ A c,e=.returned (.slice A (aG l fl).length c)/\w'.ownsRow w.heap.size 27 2 (.slice A (aG l fl).length c) (aG l fl).length (aI (aG l fl))/\Below w.heap.size w w':=by
 have HM:=zh hM;have HL:=zh hl;have HN:=zh hn;have HSu:Hid (∀ k (hk:k<l.length) (fs:k<fl.length),aG (l.take (k+1)) (fl.take (k+1))=aG (l.take k) (fl.take k)++(if fl[k] then [l[k]] else [])):=zh (fun k hk _=>kX l fl k hl hk);have mo:Hid (aG (l.take l.length) (fl.take l.length)=aG l fl):=zh (by rw[List.take_length,hl,List.take_length]);have r7:Hid (∀ k,(aG (l.take k) (fl.take k)).length<=300):=zh (fun k=>yv (cZ _ _) (by rw[zc];omega));clear hM hl hn
 go_in
 go_wp2_with fail
 go_loopw [3,4] (fun v3 v4 wr=>∃ k:Nat,k<=l.length/\v4=vI (k:Int)/\Hid (wr.ownsRow w.heap.size 27 2 v3 (aG (l.take k) (fl.take k)).length (aI (aG (l.take k) (fl.take k))))/\Hid (Below w.heap.size w wr)) (fun _ v _=>l.length-(intOf v).toNat)
 case atStart=>exact⟨0,zm _,rfl,zh ⟨rfl,.inl ⟨rfl,rfl⟩⟩,zh zB⟩
 case round=>
  obtain⟨k,hk,rfl,hO,hB⟩:=hrel;have j8:=zh (HM.out.next hB.out);obtain⟨A1,cm,rfl⟩:=aV j8.out.r1;obtain⟨A2,di,rfl⟩:=aV j8.out.r2;have a0:=j8.out.ax.cell 0;have a1:=j8.out.ax.cell 1;simp only[za,zb,zf]at a0 a1;have rv:(k:Int)<=300:=by have:=HN.out;omega
  by_cases hlt:k<l.length
  ·have iu:(k:Int)<(l.length:Int):=by omega
   have fs:k<fl.length:=by rw[<- HL.out];exact hlt
   obtain⟨g1,c1,hv1,_,ix⟩:=j8.out.r1.form (by omega);cases hv1;obtain⟨g2,c2,hv2,_,lq⟩:=j8.out.r2.form (by omega);cases hv2;have hc:wr.cell? ⟨g2,k,none⟩=some (.bool fl[k]):=by
    rw[j8.out.r2.cellAt k (by omega),List.getElem?_map,List.getElem?_eq_getElem fs];rfl
   have re:=zh (HSu.out k hlt fs);have hrg:=hH j8.out.r1 k hlt;have d0:wr.cell? ⟨g1,k*2,none⟩=some (vI l[k].a):=hrg 0 _ rfl;have d1:wr.cell? ⟨g1,k*2+1,none⟩=some (vI l[k].n):=hrg 1 _ rfl;clear hrg;generalize l[k]=x at *;generalize fl[k]=c at *;obtain⟨xa,xn⟩:=x;dsimp only at d0 d1;have HLk:=zh (r7.out k);generalize jr:aG (l.take k) (fl.take k)=acc at *;clear jr;cases c
   ·go_wp2_with fail
    go_roundw
    case rel=>exact⟨k+1,by omega,by go_num,by rw[re.out];simp only[Bool.false_eq_true,if_false,List.append_nil];exact hO,hB⟩
    case measure=>first |(simp[intOf];done) |(simp[intOf];omega)
   have xz:=zh (hO.out.alloc (.cells #[vI xa,vI xn] 27));have cu:Hid (w.heap.size<=(wr.alloc (.cells #[vI xa,vI xn] 27)).heap.size):=zh (by rw[World.size_alloc];exact Nat.le_succ_of_le hB.out.size);have HLz:=zh (Lies.new wr 27 #[vI xa,vI xn])
   go_wp2_with (at_builtin;refine jF rfl _ _ rfl w.heap.size acc.length _ _ rfl xz.out (by have:=HLk.out;omega) cu.out wr.heap.size ⟨xa,xn⟩ rfl HLz.out ?_;intro A4 c4 w4 k4 g4;have K4:=zh k4;have G4:=zh g4;clear k4 g4)
   go_roundw
   case rel=>
    refine⟨k+1,by omega,by go_num,?_,zh ?_⟩
    ·rw[re.out];simp only[if_true];rw[gV,yl];exact K4
    exact(hB.out.alloc hB.out.size _).trans (aN xz.out G4.out cu.out)
   case measure=>first |(simp[intOf];done) |(simp[intOf];omega)
  obtain rfl:k=l.length:=by omega
  go_wp2_with fail
  go_ret
  rw[mo.out]at hO;obtain⟨A3,c3,rfl⟩:=aV hO.out;exact⟨A3,c3,rfl,hO.out,hB.out⟩
theorem qC(l:List IdR)(hd:l.Nodup)(x:IdR):(x∉l/\bB l x=-1)\/∃ k:Nat,∃ hk:k<l.length,l[k]=x/\bB l x=(k:Int):=by
 by_cases h:x∈l
 ·obtain⟨k,hk,rfl⟩:=List.getElem_of_mem h;exact .inr ⟨k,hk,rfl,lS hd hk⟩
 exact .inl ⟨h,lA h⟩
def TwoId(w:World)(x y:IdR)(w':World):Prop:=w.heap.size<w'.heap.size/\w.heap.size+1<w'.heap.size/\w'.cell? ⟨w.heap.size,0,none⟩=some (vI x.a)/\w'.cell? ⟨w.heap.size,1,none⟩=some (vI x.n)/\w'.cell? ⟨w.heap.size+1,0,none⟩=some (vI y.a)/\w'.cell? ⟨w.heap.size+1,1,none⟩=some (vI y.n)/\Below w.heap.size w w'
theorem TwoId.start(w:World)(x y:IdR):TwoId w x y ((w.alloc (.cells #[vI x.a,vI x.n] 27)).alloc (.cells #[vI y.a,vI y.n] 27)):=by
 have h1:=(Lies.new w 27 #[vI x.a,vI x.n]).alloc (.cells #[vI y.a,vI y.n] 27);have h2:=Lies.new (w.alloc (.cells #[vI x.a,vI x.n] 27)) 27 #[vI y.a,vI y.n];rw[World.size_alloc]at h2;exact⟨h1.lt,h2.lt,h1.cell 0,h1.cell 1,h2.cell 0,h2.cell 1,((Below.refl _ w).alloc zr _).alloc (by rw[World.size_alloc];omega) _⟩
theorem TwoId.next{w w' w'':World}{x y:IdR}(h:TwoId w x y w')(hb:Below w'.heap.size w' w''):TwoId w x y w'':=by
 obtain⟨h1,h2,h3,h4,h5,h6,h7⟩:=h;exact⟨yu h1 hb.size,yu h2 hb.size,(hb.cell (p:=⟨w.heap.size,0,none⟩) h1).trans h3,(hb.cell (p:=⟨w.heap.size,1,none⟩) h1).trans h4,(hb.cell (p:=⟨w.heap.size+1,0,none⟩) h2).trans h5,(hb.cell (p:=⟨w.heap.size+1,1,none⟩) h2).trans h6,h7.trans (hb.mono (by omega))⟩
theorem uFC{ids:List IdR}{fl:List Bool}(hl:ids.length=fl.length)(f k:Nat)(hf:f<=k)(hk:k<ids.length):aG ((ids.drop f).take (k+1-f)) ((fl.drop f).take (k+1-f))=aG ((ids.drop f).take (k-f)) ((fl.drop f).take (k-f))++(if fl[k]'(by omega) then [ids[k]] else []):=by
 have h:=kX (ids.drop f) (fl.drop f) (k-f) (by simp[hl]) (by rw[yk];omega);rw[show k-f+1=k+1-f by omega]at h;rw[h];simp only[List.getElem_drop,show f+(k-f)=k by omega]
theorem wV(q base:Nat)(ids:List IdR)(fl:List Bool)(v1 v2:Value)(x y:IdR)(w:World)(hM:RfMk q base ids fl v1 v2 w)(hle:ids.length=fl.length)(hn:ids.length<=300)(hd:ids.Nodup) :
  Calls Tryz.prog 200 #[vP q 0,idV x,idV y] w fun e w'=>∃ A c,e=.returned (.slice A (aO (some (ids,fl)) x y).length c)/\w'.ownsRow w.heap.size 27 2 (.slice A (aO (some (ids,fl)) x y).length c) (aO (some (ids,fl)) x y).length (aI (aO (some (ids,fl)) x y))/\Below w.heap.size w w':=by
 have T0:=zh (TwoId.start w x y);obtain⟨L,hL⟩:=zD (aO (some (ids,fl)) x y)
 have HL:=zh hL;rw[<- hL];clear hL;have HM:=zh hM;have HS:=zh (And.intro hle (And.intro hn hd));have C1:Hid (∀ W,Below w.heap.size w W->Calls Tryz.prog 130 #[vP q 0,.agg #[vI x.a,vI x.n]] W fun e w'=>e=.returned (vI (bB ids x))/\Below W.heap.size W w'):=zh (fun W h=>gO q base ids fl v1 v2 x W (hM.next h) (by omega));have C2:Hid (∀ W,Below w.heap.size w W->Calls Tryz.prog 130 #[vP q 0,.agg #[vI y.a,vI y.n]] W fun e w'=>e=.returned (vI (bB ids y))/\Below W.heap.size W w'):=zh (fun W h=>gO q base ids fl v1 v2 y W (hM.next h) (by omega));have ti:=zh (qC ids hd x);have pu:=zh (qC ids hd y);generalize bB ids x=px at *;generalize bB ids y=py at *;clear hM hle hn hd;obtain⟨g0,g1,g2,g3,g4,g5,g6⟩:=T0.out
 go_in
 go_upto_region 1 with fail
 generalize (w.alloc (.cells #[vI x.a,vI x.n] 27)).alloc (.cells #[vI y.a,vI y.n] 27)=W at *
 go_cut [7,8] (fun va vb wx=>va=vI px/\vb=vI py/\Hid (TwoId w x y wx))
 case first=>
  go_region_held3 (fun w'=>w.heap.size<w'.heap.size/\w.heap.size+1<w'.heap.size/\w'.cell? ⟨w.heap.size,0,none⟩=some (vI x.a)/\w'.cell? ⟨w.heap.size,1,none⟩=some (vI x.n)/\w'.cell? ⟨w.heap.size+1,0,none⟩=some (vI y.a)/\w'.cell? ⟨w.heap.size+1,1,none⟩=some (vI y.n)/\Below w.heap.size w w')
   (first|exact T0.out|exact(TwoId.next T0.out zB.drew) |(go_split_ands;exact(TwoId.next (w:=w) ⟨by assumption,by assumption,by assumption,by assumption,by assumption,by assumption,by assumption⟩ hb))|assumption)
   (first
    |(go_at_call 130;(with_reducible refine(C1.out _ ?hbw).mono ?_);(case hbw=>(first|assumption |(go_split_ands;assumption)));rintro e wx ⟨rfl,hb⟩)
    |(go_at_call 130;(with_reducible refine(C2.out _ ?hbw).mono ?_);(case hbw=>(first|assumption |(go_split_ands;assumption)));rintro e wx ⟨rfl,hb⟩))
  all_goals go_wp2_with fail
  all_goals go_meet
  all_goals refine⟨rfl,rfl,zh ?_⟩
  all_goals first|assumption |(go_split_ands;exact⟨by assumption,by assumption,by assumption,by assumption,by assumption,by assumption,by assumption⟩)
 case rest=>
 obtain⟨rfl,rfl,hT⟩:=hcut;clear g0 g1 g2 g3 g4 g5 g6 T0 C1 C2;have bk:=zh hT.out.2.2.2.2.2.2;clear hT;by_cases kq:0<=px/\0<=py
 ·obtain⟨kx,pq,ex,rfl⟩:=ti.out.resolve_left (fun h=>by omega);obtain⟨ky,tn,ey,rfl⟩:=pu.out.resolve_left (fun h=>by omega);have ag:=HL.out;rw[<- ex,<- ey,rD HS.out.2.2 pq tn]at ag;have bq:=zh ag;clear ag ex ey ti pu HL;have hn3:=HS.out.2.1;have hle:=HS.out.1;rcases Nat.lt_or_ge ky kx with hgt|hgt
  case' inl=>
   have hz:(ky:Int)<(kx:Int):=by omega
   have au:Hid (L=aG ((ids.drop ky).take (kx+1-ky)) ((fl.drop ky).take (kx+1-ky))):=zh (by
    have h:=bq.out;rw[Nat.min_eq_right (by omega),Nat.max_eq_left (by omega)]at h;exact h)
   have uv:ky<=kx:=by omega
   have ny:¬ (kx:Int)<0:=by omega
   have bj:¬ (ky:Int)<0:=by omega
   have o5:=pq;have tj:=tn;clear pq tn;obtain⟨l,rfl⟩:=zD kx
   obtain⟨f,rfl⟩:=zD ky
  case' inr=>
   have hz:(kx:Int)<=(ky:Int):=by omega
   have au:Hid (L=aG ((ids.drop kx).take (ky+1-kx)) ((fl.drop kx).take (ky+1-kx))):=zh (by
    have h:=bq.out;rw[Nat.min_eq_left (by omega),Nat.max_eq_right (by omega)]at h;exact h)
   have uv:kx<=ky:=by omega
   have ny:¬ (kx:Int)<0:=by omega
   have bj:¬ (ky:Int)<0:=by omega
   have tj:=pq;have o5:=tn;clear pq tn;obtain⟨f,rfl⟩:=zD kx
   obtain⟨l,rfl⟩:=zD ky
  all_goals
   clear bq kq;have HSu:Hid (∀ k,f<=k->∀ (hk:k<ids.length) (fs:k<fl.length),aG ((ids.drop f).take (k+1-f)) ((fl.drop f).take (k+1-f))=aG ((ids.drop f).take (k-f)) ((fl.drop f).take (k-f))++(if fl[k] then [ids[k]] else [])):=zh (fun k hf hk _=>uFC hle f k hf hk);have r7:Hid (∀ k,(aG ((ids.drop f).take (k-f)) ((fl.drop f).take (k-f))).length<=300):=zh (fun k=>yv (cZ _ _) (by rw[zc,yk];omega));have HFl:Hid (f<=l/\l<ids.length):=zh ⟨uv,o5⟩;clear uv o5 tj hgt
   go_upto_region 7 with fail
   clear hz ny bj
   go_wp2_with fail
   go_loopw [9,10] (fun v9 v10 wr=>∃ k:Nat,f<=k/\k<=l+1/\v10=vI (k:Int)/\Hid (wr.ownsRow w.heap.size 27 2 v9 (aG ((ids.drop f).take (k-f)) ((fl.drop f).take (k-f))).length (aI (aG ((ids.drop f).take (k-f)) ((fl.drop f).take (k-f)))))/\Hid (Below w.heap.size w wr)) (fun _ v _=>l+1-(intOf v).toNat)
   case atStart=>exact⟨f,zr,by have:=HFl.out;omega,rfl,zh (by rw[Nat.sub_self];exact⟨by simp[aG,aI],.inl ⟨rfl,by simp[aG]⟩⟩),bk⟩
   case round=>
    obtain⟨k,hfk,hk,rfl,hO,hB⟩:=hrel;have j8:=zh (HM.out.next hB.out);obtain⟨A1,cm,rfl⟩:=aV j8.out.r1;obtain⟨A2,di,rfl⟩:=aV j8.out.r2;have a0:=j8.out.ax.cell 0;have a1:=j8.out.ax.cell 1;simp only[za,zb,zf]at a0 a1;have rv:(k:Int)<=301:=by have:=HFl.out;omega
    by_cases hlt:k<=l
    ·have iu:(k:Int)<=(l:Int):=by omega
     have ec:k<ids.length:=by have:=HFl.out;omega
     have hkj:(k:Int)<(ids.length:Int):=by omega
     have fs:k<fl.length:=by rw[<- hle];exact ec
     obtain⟨g1,c1,hv1,_,ix⟩:=j8.out.r1.form (by omega);cases hv1;obtain⟨g2,c2,hv2,_,lq⟩:=j8.out.r2.form (by omega);cases hv2;have hc:wr.cell? ⟨g2,k,none⟩=some (.bool fl[k]):=by
      rw[j8.out.r2.cellAt k (by omega),List.getElem?_map,List.getElem?_eq_getElem fs];rfl
     have re:=zh (HSu.out k hfk ec fs);have hrg:=hH j8.out.r1 k ec;have d0:wr.cell? ⟨g1,k*2,none⟩=some (vI ids[k].a):=hrg 0 _ rfl;have d1:wr.cell? ⟨g1,k*2+1,none⟩=some (vI ids[k].n):=hrg 1 _ rfl;clear hrg;generalize ids[k]=x at *;generalize fl[k]=c at *;obtain⟨xa,xn⟩:=x;dsimp only at d0 d1;have HLk:=zh (r7.out k);generalize jr:aG ((ids.drop f).take (k-f)) ((fl.drop f).take (k-f))=acc at *;clear jr;cases c
     ·go_wp2_with fail
      go_roundw
      case rel=>exact⟨k+1,by omega,by omega,by go_num,by rw[re.out];simp only[Bool.false_eq_true,if_false,List.append_nil];exact hO,hB⟩
      case measure=>first |(simp[intOf];done) |(simp[intOf];omega)
     have xz:=zh (hO.out.alloc (.cells #[vI xa,vI xn] 27));have cu:Hid (w.heap.size<=(wr.alloc (.cells #[vI xa,vI xn] 27)).heap.size):=zh (by rw[World.size_alloc];exact Nat.le_succ_of_le hB.out.size);have HLz:=zh (Lies.new wr 27 #[vI xa,vI xn])
     go_wp2_with (at_builtin;refine jF rfl _ _ rfl w.heap.size acc.length _ _ rfl xz.out (by have:=HLk.out;omega) cu.out wr.heap.size ⟨xa,xn⟩ rfl HLz.out ?_;intro A4 c4 w4 k4 g4;have K4:=zh k4;have G4:=zh g4;clear k4 g4)
     go_roundw
     case rel=>
      have hbw:Below w.heap.size w w4:=(hB.out.alloc hB.out.size _).trans (aN xz.out G4.out cu.out);refine⟨k+1,by omega,by omega,by go_num,?_,zh hbw⟩;rw[re.out];simp only[if_true];rw[gV,yl];exact K4
     case measure=>first |(simp[intOf];done) |(simp[intOf];omega)
    obtain rfl:k=l+1:=by omega
    go_wp2_with fail
    go_ret
    rw[<- au.out]at hO;obtain⟨A3,c3,rfl⟩:=aV hO.out;exact⟨A3,c3,rfl,hO.out,hB.out⟩
 have nx:Hid (L=[]):=zh (by
  rw[HL.out];refine jK ?_;rcases ti.out with⟨h,_⟩|⟨k,_,_,h⟩
  ·exact .inl h
  rcases pu.out with⟨h',_⟩|⟨k',_,_,h'⟩
  ·exact .inr h'
  exact absurd ⟨by omega,by omega⟩ kq)
 have hcase:px<0\/0<=px/\py<0:=by omega
 clear HL ti pu kq;rcases hcase with h1|⟨h1,h2⟩
 all_goals go_wp2_with fail
 all_goals go_ret
 all_goals
  have hL:=nx.out;subst hL;exact⟨none,0,rfl,⟨rfl,.inl ⟨rfl,rfl⟩⟩,bk.out⟩
def AxQ(W:World):Option Nat->AxV->Prop
 |none,none=>True
 |some b,some (ids,fl)=>ids.length=fl.length/\ids.length<=300/\(∀ y∈ids,y.fits)/\ids.Nodup/\∃ base v1 v2,RfMk b base ids fl v1 v2 W
 |_,_=>False
theorem AxQ.next{W W':World}{p:Option Nat}{A:AxV}(h:AxQ W p A)(hb:Below W.heap.size W W'):AxQ W' p A:=by
 match p,A,h with
 |none,none,_=>trivial
 |some b,some (ids,fl),⟨h1,h2,h3,h4,base,v1,v2,h5⟩=>exact⟨h1,h2,h3,h4,base,v1,v2,h5.next hb⟩
theorem vK(x:IdR)(w:World) :
  Calls Tryz.prog 47 #[idV x] w fun e w'=>e=.returned (.bool (decide (x=id0)))/\Below w.heap.size w w':=by
 obtain⟨xa,xn⟩:=x;by_cases h1:xa=0
 ·subst h1;by_cases h2:xn=0
  ·subst h2;have HB:Hid (Below w.heap.size w (w.alloc (.cells #[vI 0,vI 0] 27))):=zh ((Below.refl _ w).alloc zr _);have HE:Hid (decide ((⟨0,0⟩:IdR)=id0)=true):=zh (decide_eq_true rfl);generalize decide ((⟨0,0⟩:IdR)=id0)=d at *
   go_in
   go_wp2_with fail
   go_ret
   exact⟨by(rw[HE.out]) <;> rfl,HB.out⟩
  have HB:Hid (Below w.heap.size w (w.alloc (.cells #[vI 0,vI xn] 27))):=zh ((Below.refl _ w).alloc zr _);have HE:Hid (decide ((⟨0,xn⟩:IdR)=id0)=false):=zh (decide_eq_false (fun e=>h2 (by injection e)));generalize decide ((⟨0,xn⟩:IdR)=id0)=d at *;have h2b:(xn==0)=false:=by simp[h2]
  go_in
  go_wp2_with fail
  go_ret
  exact⟨by(rw[HE.out]) <;> rfl,HB.out⟩
 have HB:Hid (Below w.heap.size w (w.alloc (.cells #[vI xa,vI xn] 27))):=zh ((Below.refl _ w).alloc zr _);have HE:Hid (decide ((⟨xa,xn⟩:IdR)=id0)=false):=zh (decide_eq_false (fun e=>h1 (by injection e)));generalize decide ((⟨xa,xn⟩:IdR)=id0)=d at *;have h1b:(xa==0)=false:=by simp[h1]
 go_in
 go_wp2_with fail
 go_ret
 exact⟨by(rw[HE.out]) <;> rfl,HB.out⟩
theorem lD(p:Option Nat)(A:AxV)(x:IdR)(w:World)(hA:AxQ w p A) :
  Calls Tryz.prog 20 #[.pointer (ptr p),idV x] w fun e w'=>e=.returned (vI (aU A x))/\Below w.heap.size w w':=by
 have ag:Hid (Below w.heap.size w (w.alloc (.cells #[vI x.a,vI x.n] 27))):=zh ((Below.refl _ w).alloc zr _)
 match p,A,hA with
 |none,none,_=>
  unfold ptr aU
  go_in
  go_wp2_with fail
  go_ret
  exact⟨rfl,ag.out⟩
 |some q,some (ids,fl),⟨hl,hn,_,_,base,v1,v2,hM⟩=>
 unfold ptr;rw[show aU (some (ids,fl)) x=bB (aG ids fl) x from rfl];obtain⟨W1,an⟩:=zD (w.alloc (.cells #[vI x.a,vI x.n] 27))
 have al:=zh an;have i8:=zL an;have hb1:Below w.heap.size w W1:=by rw[an];exact(zp _)
 have bq:=zh hb1;have CO:=zh (uCD q base ids fl v1 v2 W1 (hM.next hb1) hl hn);have i6:Hid ((aG ids fl).length<=300):=zh (yv (cZ _ _) hn);clear an hb1 hM hl hn ag;generalize aG ids fl=l at *
 go_in
 go_upto_region 1 with fail
 rw[<- al.out];generalize hq:w.heap.size=qb at *;clear al
 go_wp2_with fail
 refine CO.out.mono ?_;rintro e W2 ⟨A,cap,rfl,hM2,aw⟩;have HM:=zh hM2;have HL:=zh (i8.out.next aw);have HB:=zh (bq.out.trans (aw.mono (by rw[<- hq];exact bq.out.size)));have HQ2:Hid (qb<=W2.heap.size):=zh (by rw[<- hq];have:=bq.out.size;have:=aw.size;omega);clear hM2 aw i8 CO bq;obtain⟨n,dw⟩:=zD l.length
 have HN:=zh dw;rw[<- dw]at HM ⊢;clear dw
 go_wp2_with fail
 go_loopw [6] (fun v wr=>∃ k:Nat,k<=n/\v=vI (k:Int)/\Hid (x∉l.take k)/\Hid (Below W2.heap.size W2 wr)) (fun v _=>n-(intOf v).toNat)
 case atStart=>exact⟨0,zm _,rfl,zh (by simp),zh zB⟩
 case round=>
  obtain⟨k,hk,rfl,ma,pf⟩:=hrel;have j8:=zh (aD pf.out HM.out);have rv:(k:Int)<=300:=by have:=i6.out;have:=HN.out;omega
  by_cases hlt:k<n
  ·have iu:(k:Int)<(n:Int):=by omega
   have ki:k<l.length:=by rw[<- HN.out];exact hlt
   obtain⟨g,ou,hv,mq,hgl⟩:=j8.out.form (by omega);cases hv;have jh:=hH j8.out k ki;have d0:wr.cell? ⟨g,k*2,none⟩=some (vI l[k].a):=jh 0 _ rfl;have d1:wr.cell? ⟨g,k*2+1,none⟩=some (vI l[k].n):=jh 1 _ rfl;clear jh;obtain⟨y,hy⟩:=zE (l[k])
   rw[hy]at d0 d1;have HY:=zh hy;clear hy;obtain⟨b,hb⟩:=zE (decide (y=x))
   have lk:=zh hb;clear hb;have hLr:=HL.out.next pf.out;have x0:=hLr.cell 0;have x1:=hLr.cell 1;simp only[za,zb,zf]at x0 x1;have hxl:=hLr.lt;clear hLr;obtain⟨Wr,hWr⟩:=zD wr
   subst hWr
   go_upto_region 7 with fail
   go_cut [34] (fun v wx=>v=.bool b/\Hid (Below Wr.heap.size Wr wx))
   case first=>
    obtain⟨ya,yn⟩:=y;obtain⟨xa,xn⟩:=x;dsimp only at d0 d1 x0 x1;have hB2:=lk.out;by_cases h1:ya=xa
    ·subst h1;by_cases h2:yn=xn
     ·subst h2;have HE:Hid (b=true):=zh (by rw[<- hB2];simp);clear hB2 lk
      go_region
      all_goals go_wp2_with fail
      all_goals go_meet
      all_goals exact⟨by rw[HE.out],zh zB.drew⟩
     have HE:Hid (b=false):=zh (by rw[<- hB2];simp[h2]);have h2b:(yn==xn)=false:=by simp[h2]
     clear hB2 lk
     go_region
     all_goals go_wp2_with fail
     all_goals go_meet
     all_goals exact⟨by rw[HE.out],zh zB.drew⟩
    have HE:Hid (b=false):=zh (by rw[<- hB2];simp[h1]);have h1b:(ya==xa)=false:=by simp[h1]
    clear hB2 lk
    go_region
    all_goals go_wp2_with fail
    all_goals go_meet
    all_goals exact⟨by rw[HE.out],zh zB.drew⟩
   case rest=>
    obtain⟨rfl,lh⟩:=hcut;have nc:=zh (zU pf.out lh.out);clear lh d0 d1 x0 x1;cases b
    ·have ug:y≠x:=of_decide_eq_false lk.out
     go_wp2_with fail
     go_roundw
     case rel=>exact⟨k+1,by omega,by go_num,zh (by rw[yw ki,HY.out,List.mem_append,not_or];exact⟨ma.out,fun h=>ug (yf.1 h).symm⟩),nc⟩
     case measure=>first |(simp[intOf];done) |(simp[intOf];omega)
    have ug:y=x:=of_decide_eq_true lk.out
    go_wp2_with fail
    go_ret
    exact⟨by rw[show bB l x=(k:Int) from(gM x l 0 k ma.out (by rw[List.getElem?_eq_getElem ki,HY.out,ug])).trans (by rw[Nat.zero_add])];rfl,by first|exact HB.out.trans (nc.out.mono HQ2.out) |(rw[hq];exact HB.out.trans (nc.out.mono HQ2.out))⟩
  obtain rfl:k=n:=by omega
  go_wp2_with fail
  go_ret
  exact⟨by rw[show bB l x=-1 from eU x l 0 (by have:=ma.out;rwa [HN.out,List.take_length]at this)];rfl,by first|exact HB.out.trans (pf.out.mono HQ2.out) |(rw[hq];exact HB.out.trans (pf.out.mono HQ2.out))⟩
def TwoEl(w:World)(B g j:Nat)(x y:IdR)(w':World):Prop:=g<w'.heap.size/\w'.cell? ⟨g,0,none⟩=some (vI x.a)/\w'.cell? ⟨g,1,none⟩=some (vI x.n)/\w'.cell? ⟨g,j*2,none⟩=some (vI y.a)/\w'.cell? ⟨g,j*2+1,none⟩=some (vI y.n)/\B<=w'.heap.size/\Below B w w'
theorem TwoEl.next{w w' w'':World}{B g j:Nat}{x y:IdR}(h:TwoEl w B g j x y w')(hb:Below w'.heap.size w' w''):TwoEl w B g j x y w'':=by
 obtain⟨h1,h2,h3,h4,h5,h6,h7⟩:=h;exact⟨yu h1 hb.size,(hb.cell (p:=⟨g,0,none⟩) h1).trans h2,(hb.cell (p:=⟨g,1,none⟩) h1).trans h3,(hb.cell (p:=⟨g,j*2,none⟩) h1).trans h4,(hb.cell (p:=⟨g,j*2+1,none⟩) h1).trans h5,yv h6 hb.size,h7.trans (hb.mono h6)⟩
def uDP:Option (Int×Int)->Value
 |none=>.tuple #[vI (-1),vI (-1)]
 |some (x,y)=>.tuple #[vI x,vI y]
theorem mP{A:AxV}{a b:IdR}(h:aO A a b=[]):cM A a b=none:=by
 unfold cM;rw[h]
theorem kK{A:AxV}{a b:IdR}(m:Nat)(x0 y0:IdR)(h:(aO A a b).length=m+1)(h0:(aO A a b)[0]?=some x0)(h1:(aO A a b)[m]?=some y0):cM A a b=(if eV A a b then some (aU A y0,aU A x0) else some (aU A x0,aU A y0)):=by
 unfold cM;generalize aO A a b=L at *
 match L,h with
 |x::r,h=>
  dsimp only;have e:(x::r).getLast (by simp)=y0:=by
   rw[List.getLast_eq_getElem];have hm:(x::r).length-1=m:=by rw[h];rfl
   have h2:(x::r)[(x::r).length-1]?=some y0:=by rw[hm];exact h1
   exact(List.getElem?_eq_some_iff.1 h2).2
  have e0:x=x0:=Option.some.inj h0;rw[e,e0]
theorem vD(p:Option Nat)(A:AxV)(x y:IdR)(w:World)(hA:AxQ w p A) :
  Calls Tryz.prog 145 #[.pointer (ptr p),idV x,idV y] w fun e w'=>e=.returned (uDP (cM A x y))/\Below w.heap.size w w':=by
 have T0:=zh (TwoId.start w x y)
 match p,A,hA with
 |none,none,_=>
  unfold ptr;obtain⟨v,hv⟩:=zD (uDP (cM none x y))
  have HV:Hid (v=.tuple #[vI (-1),vI (-1)]):=zh hv;rw[<- hv];clear hv
  go_in
  go_wp2_with fail
  refine yt (results_tmp2 rfl _ _ _) rfl ?_;exact⟨by(rw[HV.out]) <;> rfl,T0.out.2.2.2.2.2.2⟩
 |some q,some (ids,fl),r8=>
 obtain⟨hl,hn,hf,hd,base,v1,v2,hM⟩:=id r8;unfold ptr;have CB:=zh (fun W h=>wV q base ids fl v1 v2 x y W (hM.next h) hl hn hd);have CP:Hid (∀ z W,Below w.heap.size w W->Calls Tryz.prog 20 #[vP q 0,idV z] W fun e w'=>e=.returned (vI (aU (some (ids,fl)) z))/\Below W.heap.size W w'):=zh (fun z W h=>lD (some q) (some (ids,fl)) z W (AxQ.next (p:=some q) (A:=some (ids,fl)) r8 h));have F1:Hid (∀ W,Below w.heap.size w W->Calls Tryz.prog 130 #[vP q 0,.agg #[vI x.a,vI x.n]] W fun e w'=>e=.returned (vI (bB ids x))/\Below W.heap.size W w'):=zh (fun W h=>gO q base ids fl v1 v2 x W (hM.next h) (by omega))
 have F2:Hid (∀ W,Below w.heap.size w W->Calls Tryz.prog 130 #[vP q 0,.agg #[vI y.a,vI y.n]] W fun e w'=>e=.returned (vI (bB ids y))/\Below W.heap.size W w'):=zh (fun W h=>gO q base ids fl v1 v2 y W (hM.next h) (by omega));have HNil:=zh (mP (A:=some (ids,fl)) (a:=x) (b:=y));have yc:=zh (kK (A:=some (ids,fl)) (a:=x) (b:=y));have HBh:Hid (eV (some (ids,fl)) x y=decide (bB ids y<bB ids x)):=zh rfl;have nc:Hid ((aO (some (ids,fl)) x y).length<=300):=zh (by
  unfold aO;dsimp only
  split
  ·exact zm _
  exact yv (cZ _ _) (by rw[zc,yk];omega))
 obtain⟨v,hv⟩:=zD (uDP (cM (some (ids,fl)) x y))
 have HV:=zh hv;rw[<- hv];generalize cM (some (ids,fl)) x y=E at *;generalize aO (some (ids,fl)) x y=L at *;generalize eV (some (ids,fl)) x y=bh at *;generalize aU (some (ids,fl))=P at *;generalize bB ids x=px at *;generalize bB ids y=py at *;clear hl hn hf hd hM hv r8 hA;obtain⟨g0,g1,g2,g3,g4,g5,g6⟩:=T0.out
 go_in
 go_upto_region 1 with fail
 generalize (w.alloc (.cells #[vI x.a,vI x.n] 27)).alloc (.cells #[vI y.a,vI y.n] 27)=W at *
 go_wp2_with fail
 refine(CB.out _ g6).mono ?_;rintro e W2 ⟨B,c,rfl,ho,aw⟩;clear g0 g1 g2 g3 g4 g5 g6;have HT:=zh (T0.out.next aw);have HO:=zh ho;clear ho aw T0 CB;obtain⟨n,hn⟩:=zD L.length
 have HN:=zh hn;rw[<- hn]at HO ⊢;clear hn;rcases Nat.eq_zero_or_pos n with ny|ny
 ·subst ny;have HE:Hid (v=.tuple #[vI (-1),vI (-1)]):=zh (by rw[HV.out,HNil.out (List.eq_nil_of_length_eq_zero HN.out.symm)];rfl);clear HV
  go_wp2_with fail
  refine yt (results_tmp2 rfl _ _ _) rfl ?_;exact⟨by(rw[HE.out]) <;> rfl,HT.out.2.2.2.2.2.2⟩
 obtain⟨m,td⟩:∃ m,n=m+1:=⟨n-1,by omega⟩
 have hL:L.length=m+1:=HN.out.symm.trans td;obtain⟨x0,hx0⟩:=zE (L[0])
 obtain⟨y0,hy0⟩:=zE (L[m])
 have HE:=zh (yc.out m x0 y0 hL (by rw[List.getElem?_eq_getElem (by omega),hx0]) (by rw[List.getElem?_eq_getElem (by omega),hy0]));obtain⟨g,ou,hv,mq,hgl⟩:=HO.out.form (by omega);cases hv;have jw:=hH HO.out 0 (by omega);have fj:=hH HO.out m (by omega);rw[hx0]at jw;rw[hy0]at fj;have T1:Hid (TwoEl w w.heap.size g m x0 y0 W2):=zh ⟨hgl,jw 0 _ rfl,jw 1 _ rfl,fj 0 _ rfl,fj 1 _ rfl,HT.out.2.2.2.2.2.2.size,HT.out.2.2.2.2.2.2⟩;have hm3:(m:Int)<300:=by have:=nc.out;omega
 have u4q:IntKind.i64.wrap ((n:Int)-1)=(m:Int):=by rw[IntWalk.i64_in _ (by omega)];omega
 have hw2:(m:Int)<(n:Int):=by omega
 have hw3:¬ (n:Int)=0:=by omega
 have hw4:((n:Int)==0)=false:=by simp;omega
 have hw5:(0:Int)<(n:Int):=by omega
 have C1:Hid (∀ W,Below w.heap.size w W->Calls Tryz.prog 20 #[vP q 0,.agg #[vI x0.a,vI x0.n]] W fun e w'=>e=.returned (vI (P x0))/\Below W.heap.size W w'):=zh (CP.out x0);have C2:Hid (∀ W,Below w.heap.size w W->Calls Tryz.prog 20 #[vP q 0,.agg #[vI y0.a,vI y0.n]] W fun e w'=>e=.returned (vI (P y0))/\Below W.heap.size W w'):=zh (CP.out y0);clear hx0 hy0 jw fj yc HNil CP mq hgl nc;clear hL;clear td;generalize P x0=a0 at *;generalize P y0=a1 at *
 go_upto_region 6 with fail
 obtain⟨e0,e1,e2,e3,e4,e5,e6⟩:=T1.out
 go_cut [9,10] (fun va vb wx=>va=vI a0/\vb=vI a1/\Hid (Below W2.heap.size W2 wx))
 case first=>
  go_region_held3 (fun w'=>g<w'.heap.size/\w'.cell? ⟨g,0,none⟩=some (vI x0.a)/\w'.cell? ⟨g,1,none⟩=some (vI x0.n)/\w'.cell? ⟨g,m*2,none⟩=some (vI y0.a)/\w'.cell? ⟨g,m*2+1,none⟩=some (vI y0.n)/\w.heap.size<=w'.heap.size/\Below w.heap.size w w'/\Below W2.heap.size W2 w')
   (first|exact⟨e0,e1,e2,e3,e4,e5,e6,Below.refl _ _⟩ |(obtain⟨z0,z1,z2,z3,z4,z5,z6⟩:=TwoEl.next T1.out (Below.refl _ W2).drew;exact⟨z0,z1,z2,z3,z4,z5,z6,(Below.refl _ W2).drew⟩) |(go_split_ands;(obtain⟨z0,z1,z2,z3,z4,z5,z6⟩:=TwoEl.next (w:=w) ⟨by assumption,by assumption,by assumption,by assumption,by assumption,by assumption,by assumption⟩ hb;exact⟨z0,z1,z2,z3,z4,z5,z6,Below.trans (by assumption) (Below.mono hb (Below.size (by assumption)))⟩))|assumption)
   (first
    |(go_at_call 20;(with_reducible refine(C1.out _ ?hbw).mono ?_);(case hbw=>(first|assumption |(go_split_ands;assumption)));rintro e wx ⟨rfl,hb⟩)
    |(go_at_call 20;(with_reducible refine(C2.out _ ?hbw).mono ?_);(case hbw=>(first|assumption |(go_split_ands;assumption)));rintro e wx ⟨rfl,hb⟩))
  all_goals go_wp2_with fail
  all_goals go_meet
  all_goals refine⟨rfl,rfl,zh ?_⟩
  all_goals first|assumption |(go_split_ands;assumption)
 case rest=>
 obtain⟨rfl,rfl,bv⟩:=hcut;clear e0 e1 e2 e3 e4 e5 e6 C1 C2 T1 HO u4q hw2 hw3 hw4 hw5 ny;have ye:=zh (HT.out.next bv.out);clear HT bv;by_cases hlt:py<px
 ·obtain rfl:bh=true:=HBh.out.trans (decide_eq_true hlt);obtain⟨g0,g1,g2,g3,g4,g5,g6⟩:=ye.out
  go_upto_region 7 with fail
  go_cut [39] (fun va wx=>va=.bool true/\Hid (Below w.heap.size w wx))
  case first=>
   go_region_held3 (fun w'=>w.heap.size<w'.heap.size/\w.heap.size+1<w'.heap.size/\w'.cell? ⟨w.heap.size,0,none⟩=some (vI x.a)/\w'.cell? ⟨w.heap.size,1,none⟩=some (vI x.n)/\w'.cell? ⟨w.heap.size+1,0,none⟩=some (vI y.a)/\w'.cell? ⟨w.heap.size+1,1,none⟩=some (vI y.n)/\Below w.heap.size w w')
    (first|exact ye.out|exact(TwoId.next ye.out zB.drew) |(go_split_ands;exact(TwoId.next (w:=w) ⟨by assumption,by assumption,by assumption,by assumption,by assumption,by assumption,by assumption⟩ hb))|assumption)
    (first
     |(go_at_call 130;(with_reducible refine(F1.out _ ?hbw).mono ?_);(case hbw=>(first|assumption |(go_split_ands;assumption)));rintro e wx ⟨rfl,hb⟩)
     |(go_at_call 130;(with_reducible refine(F2.out _ ?hbw).mono ?_);(case hbw=>(first|assumption |(go_split_ands;assumption)));rintro e wx ⟨rfl,hb⟩))
   all_goals go_wp2_with fail
   all_goals go_meet
   all_goals refine⟨by first|rfl|exact congrArg Value.bool (decide_eq_false hlt)|exact congrArg Value.bool (decide_eq_true hlt)|exact congrArg Value.bool (decide_eq_false (by omega)),zh ?_⟩
   all_goals first|assumption |(go_split_ands;assumption)
  case rest=>
  obtain⟨rfl,mz⟩:=hcut;clear g0 g1 g2 g3 g4 g5 g6 ye F1 F2 HBh
  go_wp2_with fail
  refine yt (results_tmp2 rfl _ _ _) rfl ?_;exact⟨by(rw[HV.out,HE.out]) <;> rfl,mz.out⟩
 obtain rfl:bh=false:=HBh.out.trans (decide_eq_false hlt);have hge:px<=py:=by omega
 obtain⟨g0,g1,g2,g3,g4,g5,g6⟩:=ye.out
 go_upto_region 7 with fail
 go_cut [39] (fun va wx=>va=.bool false/\Hid (Below w.heap.size w wx))
 case first=>
  go_region_held3 (fun w'=>w.heap.size<w'.heap.size/\w.heap.size+1<w'.heap.size/\w'.cell? ⟨w.heap.size,0,none⟩=some (vI x.a)/\w'.cell? ⟨w.heap.size,1,none⟩=some (vI x.n)/\w'.cell? ⟨w.heap.size+1,0,none⟩=some (vI y.a)/\w'.cell? ⟨w.heap.size+1,1,none⟩=some (vI y.n)/\Below w.heap.size w w')
   (first|exact ye.out|exact(TwoId.next ye.out zB.drew) |(go_split_ands;exact(TwoId.next (w:=w) ⟨by assumption,by assumption,by assumption,by assumption,by assumption,by assumption,by assumption⟩ hb))|assumption)
   (first
    |(go_at_call 130;(with_reducible refine(F1.out _ ?hbw).mono ?_);(case hbw=>(first|assumption |(go_split_ands;assumption)));rintro e wx ⟨rfl,hb⟩)
    |(go_at_call 130;(with_reducible refine(F2.out _ ?hbw).mono ?_);(case hbw=>(first|assumption |(go_split_ands;assumption)));rintro e wx ⟨rfl,hb⟩))
  all_goals go_wp2_with fail
  all_goals go_meet
  all_goals refine⟨by first|rfl|exact congrArg Value.bool (decide_eq_false hlt)|exact congrArg Value.bool (decide_eq_true hlt)|exact congrArg Value.bool (decide_eq_false (by omega)),zh ?_⟩
  all_goals first|assumption |(go_split_ands;assumption)
 case rest=>
 obtain⟨rfl,mz⟩:=hcut;clear g0 g1 g2 g3 g4 g5 g6 ye F1 F2 HBh
 go_wp2_with fail
 refine yt (results_tmp2 rfl _ _ _) rfl ?_;exact⟨by(rw[HV.out,HE.out]) <;> rfl,mz.out⟩
end Go.Proofs.YtjfihpaeglpblaaGreatDoor
