/-
  Lemmas, part 14: PaW PaU PaX RlF Rr4 Rr5 Rr8 TokL WrC.
-/
import Derived.Test.YtjfihpaeglpblaaGreatDoorRt13
set_option maxHeartbeats 100000000
set_option maxRecDepth 1000000
namespace Go.Proofs.YtjfihpaeglpblaaGreatDoor
open Go.RowKit
theorem rnew_any(A:Option Addr)(cap:Nat)(ids:List IdR)(w:World)(hA:eA w A ids)(hn:ids.length<=300) :
  Calls Tryz.prog 70 #[.slice A ids.length cap] w fun e w'=>∃ v1 v2,e=.returned (vP w.heap.size 0)/\RfMk w.heap.size (w.heap.size+1) (bD ids) (List.replicate (bD ids).length true) v1 v2 w'/\Below w.heap.size w w':=by
 have HA:=zh hA;have HS:=zh (gE ids);have iv:=zh (nP ids);have mf:Hid (bD (ids.take ids.length)=bD ids):=zh (by rw[List.take_length]);obtain⟨n,ev⟩:=zD ids.length
 have HN:=zh ev;rw[<- ev]at hn ⊢;clear hA ev;obtain⟨W1,am⟩:=zD (w.alloc (.cells #[.slice none 0 0,.slice none 0 0] 156))
 have HM0:Hid (RfMk w.heap.size (w.heap.size+1) [] [] (.slice none 0 0) (.slice none 0 0) W1):=zh (by rw[am];exact⟨Lies.new w _ _,⟨rfl,.inl ⟨rfl,rfl⟩⟩,⟨rfl,.inl ⟨rfl,rfl⟩⟩⟩);have au:=zA am;have uo:Hid (w.heap.size+1<=W1.heap.size):=zh (by rw[am];simp);have al:=zh am;clear am
 go_in
 go_upto_region 2 with fail
 rw[<- al.out];clear al
 go_wp2_with fail
 go_loopw [4] (fun v wx=>∃ (k:Nat) (v1 v2:Value),v=vI (k:Int)/\k<=n/\Hid (RfMk w.heap.size (w.heap.size+1) (bD (ids.take k)) (List.replicate (bD (ids.take k)).length true) v1 v2 wx)/\Hid (Below w.heap.size w wx)/\Hid (w.heap.size+1<=wx.heap.size)) (fun v _=>n-(intOf v).toNat)
 case atStart=>exact⟨0,_,_,rfl,zm _,HM0,au,uo⟩
 case round=>
  obtain⟨k,v1,v2,rfl,hk,hM,hB,hZ⟩:=hrel;generalize oo:w.heap.size=q at *;have HQ:=zh oo;clear oo HM0 au uo;by_cases hlt:k<n
  ·have ii:k<ids.length:=by rw[<- HN.out];exact hlt
   have hkn:(k:Int)<(n:Int):=by omega
   have tm:(k:Int)<=300:=by omega
   obtain⟨ga,oa,rfl,js,bi⟩:=HA.out (by omega);obtain⟨c0,c1⟩:=bi k ii;have pf:=yv (iv.out k (by omega)) (Nat.le_of_lt ii);have uq:=zh (HS.out k ii);have HRx:Hid (wr.rangeAt ga (oa+k*2) [vI ids[k].a,vI ids[k].n]):=zh (fun j v hv=>by
    match j,hv with
    |0,hv=>simp at hv;subst hv;exact(hB.out.cell (p:=⟨ga,_,none⟩) (by rw[<- HQ.out];exact js)).trans c0
    |1,hv=>simp at hv;subst hv;exact(hB.out.cell (p:=⟨ga,_,none⟩) (by rw[<- HQ.out];exact js)).trans c1)
   have rz:ga<wr.heap.size:=by have:=hZ.out;rw[HQ.out]at js;omega
   rw[<- HN.out]at pf;generalize ids[k]=x at *;generalize bD (ids.take k)=acc at *;generalize mg:bD (ids.take (k+1))=acc' at *;have i6:=zh mg;clear mg c0 c1 bi;obtain⟨A1,bw,rfl⟩:=aZ hM.out.r1;obtain⟨A2,cy,rfl⟩:=aZ hM.out.r2;generalize hle:acc.length=m at *;have uf:=zh hle;clear hle;obtain⟨b0,ei⟩:∃ b,decide (x≠id0)=b:=⟨_,rfl⟩
   obtain⟨b1,hb1⟩:∃ b,decide (bG acc x<0)=b:=⟨_,rfl⟩
   obtain⟨d,hd⟩:∃ d,d=(b0&&b1):=⟨_,rfl⟩
   have hN1:∀ w:World,(binOp .neq 27 (idV x) (idV id0)).run Tryz.prog w=.ok (.bool b0) w:=fun w=>by rw[eV,ei]
   have HBs:=zh (And.intro ei (And.intro hb1 (And.intro hd hN1)));have HD:Hid (acc'=if d then acc++[x] else acc):=zh (by
    rw[uq.out,iI,hd,<- ei,<- hb1];by_cases h1:x=id0
    ·rw[if_pos (.inl h1)];simp[h1]
    by_cases h2:x∈acc
    ·have hn:¬ bG acc x<0:=fun h=>(tI acc x).1 h h2
     rw[if_pos (.inr h2),if_neg (by simp[h1];exact Int.not_lt.1 hn)]
    rw[if_neg (by simp[h1,h2]),if_pos];have:=(tI acc x).2 h2;simp[h1,this])
   clear ei hb1 hd hN1 uq;obtain⟨Wr,hWr⟩:=zD wr
   subst hWr
   go_upto_region 5 with fail
   go_cut [35] (fun v wx=>v=.bool d/\Hid (Below Wr.heap.size Wr wx))
   case first=>
    obtain⟨ei,hb1,hd,hN1⟩:=HBs.out
    obtain⟨TT,ae⟩:∃ TT:List (Nat×Nat×Value),TT=((0,13,.slice (some ⟨ga,oa,none⟩) n cap)::(1,14,vI (k:Int))::(2,15,vP ga (oa+k*2))::(3,16,idV x)::(4,17,idV id0)::(5,18,.bool b0)::(6,19,.bool b0)::(7,20,(bif b0 then vP q 0 else undef))::(8,21,(bif b0 then .slice (some ⟨ga,oa,none⟩) n cap else undef))::(9,22,(bif b0 then vI (k:Int) else undef))::(10,23,(bif b0 then vP ga (oa+k*2) else undef))::(11,24,(bif b0 then idV x else undef))::(12,25,(bif b0 then vI (bG acc x) else undef))::(13,26,(bif b0 then .bool b1 else undef))::(14,27,.bool d)::(15,28,.bool d)::(16,29,(bif d then vP q 0 else undef))::(17,30,(bif d then vP q 0 else undef))::(18,31,(bif d then vP q 0 else undef))::(19,32,(bif d then .slice A1 m bw else undef))::(20,33,(bif d then vI (m:Nat) else undef))::(21,34,(bif d then .bool true else undef))::(22,35,.bool d)::[]):=⟨_,rfl⟩
    have aq:=zh ae;clear ae;refine aS (fun a0=>59<=a0.tmps.size/\a0.eval (.tmp 0)=.slice (some ⟨ga,oa,none⟩) n cap/\a0.eval (.tmp 3)=vP q 0/\a0.eval (.tmp 4)=vI (k:Int)) (13::14::15::16::17::18::19::20::21::22::23::24::25::26::27::28::29::30::31::32::33::34::35::[]) TT [] (fun w'=>Below Wr.heap.size Wr w') (by kernel_rfl) ⟨by simp,rfl,rfl,rfl⟩ zB ?_ ?_
    ·rintro a0 ⟨hs,de,jt,ub⟩ zl a1 w1 zj o ap hI ag ho zd;have oj:Below Wr.heap.size Wr w1:=hI.st;have ae:=aq.out
     subst ae;have e0x:=hI.off.q de;have e3x:=hI.off.q jt;have e4x:=hI.off.q ub;have hj:=Up.of_false ag;have hj12:zj<23:=by rw[ap]at hj;exact hj
     have G:RG _ _ _ _ _ _ _ _ _ _ _:=⟨by rfl,hI,hs,ag,ho,zd⟩
     (iterate 22 rcases zq hj12 with hj12|rfl);obtain rfl:=cz hj12;all_goals obtain rfl:=oi ho
     ·exact G.nl 0 rfl (by simp[execOp,go_sem,e0x])
     ·exact G.nl 1 rfl (by simp[execOp,go_sem,e4x])
     ·exact G.nl 2 rfl (by simp[execOp,go_sem,G.t 0,G.t 1,hkn])
     ·have p2:=G.d 2;exact G.nl 3 rfl (aM 27 (.tmp 15) rfl ga (oa+k*2) p2 _ _ (fun j v hv=>(oj.cell (p:=⟨ga,oa+k*2+j,none⟩) rz).trans (HRx.out j v hv)) Tryz.underlying27 rfl gP)
     ·exact G.nl 4 rfl (by simp[execOp,go_sem])
     ·exact G.nl 5 rfl (by simp[execOp,go_sem,G.t 3,G.t 4,hN1])
     ·exact G.nl 6 rfl (by simp[execOp,go_sem,G.t 5])
     ·refine G.gv 6 7 ?_;rintro rfl;simp[execOp,go_sem,e3x]
     ·refine G.gv 6 8 ?_;rintro rfl;simp[execOp,go_sem,e0x]
     ·refine G.gv 6 9 ?_;rintro rfl;simp[execOp,go_sem,e4x]
     ·refine G.gv 6 10 ?_;rintro rfl;simp[execOp,go_sem,G.t 8,G.t 9,hkn]
     ·refine G.gv 6 11 ?_;rintro rfl;have p10:=G.d 10;exact aM 27 (.tmp 23) rfl ga (oa+k*2) p10 _ _ (fun j v hv=>(oj.cell (p:=⟨ga,oa+k*2+j,none⟩) rz).trans (HRx.out j v hv)) Tryz.underlying27 rfl gP
     ·have pg:=G.g 6;cases b0
      ·exact G.sk 12 pg
      refine G.cw 12 rfl pg 130 #[vP q 0,idV x] (by simp[go_sem,G.t 7,G.t 11]) ?_;refine(tS q (q+1) acc (List.replicate acc.length true) _ _ x w1 (by rw[uf.out];exact hM.out.next oj) (by rw[uf.out];omega)).mono ?_;rintro e w2 ⟨rfl,hb⟩;exact⟨rfl,zU oj hb⟩
     ·refine G.gv 6 13 ?_;rintro rfl;simp[execOp,go_sem,G.t 12,hb1]
     ·cases b0
      all_goals exact G.nl 14 rfl (by simp[execOp,go_sem,G.t 6,G.t 13,hd])
     ·exact G.nl 15 rfl (by simp[execOp,go_sem,G.t 14])
     ·refine G.gv 15 16 ?_;rintro rfl;simp[execOp,go_sem,e3x]
     ·refine G.gv 15 17 ?_;rintro rfl;simp[execOp,go_sem,G.t 16]
     ·refine G.gv 15 18 ?_;rintro rfl;simp[execOp,go_sem,G.t 17]
     ·refine G.gv 15 19 ?_;rintro rfl;have xq:w1.cell? ⟨q,0,none⟩=some (.slice A1 m bw):=(hM.out.next oj).ax.cell 0;simp[execOp,go_sem,G.t 18,xq]
     ·refine G.gv 15 20 ?_;rintro rfl;simp[go_sem,G.t 19]
     ·have pg:=G.g 15;cases d
      ·exact G.sk 21 pg
      have q8:(m:Int)<1000:=by omega
      exact G.vl 21 rfl pg (by simp[execOp,go_sem,G.t 20,q8])
     cases d
     all_goals exact G.nl 22 rfl (by simp[execOp,go_sem,G.t 15,G.t 21])
    intro zl a1 w1 hI az;have oj:Below Wr.heap.size Wr w1:=hI.st;have ae:=aq.out;subst ae;have z35:=hI.ptk 22 rfl (az 22 (by decide));obtain⟨ff,rfl,hf⟩:=hI.off.forms;rw[<- hf 35]at z35;clear hI;simp only[List.foldl,Act.put,yz,List.set];rw[z35];simp only[Exit.then]
    go_step
    go_meet
    exact⟨rfl,zh oj⟩
   case rest=>
    obtain⟨rfl,kr⟩:=hcut;have uw:=zh (hM.out.next kr.out);have ye:=zh (hB.out.trans (kr.out.mono (by have:=hZ.out;omega)));have hZ4:Hid (q+1<=wc.heap.size):=zh (by have:=kr.out.size;have:=hZ.out;omega);have ec:=HD.out;have HRx4:Hid (wc.rangeAt ga (oa+k*2) [vI x.a,vI x.n]):=zh (fun j v hv=>(kr.out.cell (p:=⟨ga,oa+k*2+j,none⟩) rz).trans (HRx.out j v hv));have hga4:ga<wc.heap.size:=yu rz kr.out.size;clear hM hB hZ HRx rz HBs HD kr;cases d
    ·rw[if_neg (by decide)]at ec;have ir:=zh ec;clear ec
     go_wp2_with fail
     go_roundw
     case rel=>exact⟨k+1,_,_,by go_num,by omega,by rw[i6.out,ir.out,uf.out];exact uw,ye,hZ4⟩
     case measure=>first |(simp[intOf];done) |(simp[intOf];omega)
    rw[if_pos rfl]at ec;have ir:=zh ec;clear ec;obtain⟨W4,nc⟩:=zD wc
    subst nc;have we:=zh uw.out.ax;have kn:Hid (W4.ownsRow (q+1) 27 2 (.slice A1 m bw) m (aJ acc)):=zh (by have:=uw.out.r1;rwa [uf.out]at this);have jk:Hid (W4.ownsRow (q+1) 4 1 (.slice A2 m cy) m ((List.replicate m true).map Value.bool)):=zh (by have:=uw.out.r2;rwa [uf.out]at this);have HY:Hid (∀ g,(Value.slice A1 m bw).ownBlock=some g->g∈q::(Value.slice A1 m bw).ownBlock.toList):=zh (fun g hg=>by rw[hg];simp);have oo:q<=ga->False:=fun h=>by rw[HQ.out]at js;omega
    have ut:Hid (ga∉q::(Value.slice A1 m bw).ownBlock.toList):=zh (fun h=>by
     rcases ym.1 h with h|h
     ·exact oo (by omega)
     have:=(bR kn.out ga (by simpa using h)).1;exact oo (by omega))
    go_upto_region 6 with fail
    go_cut [46] (fun v wx=>∃ v1',Hid (Lies wx q 156 #[v1',.slice A2 m cy])/\Hid (wx.ownsRow (q+1) 27 2 v1' (m+1) (aJ acc++[vI x.a,vI x.n]))/\Hid (Kp (q::(Value.slice A1 m bw).ownBlock.toList) W4 wx))
    case first=>
     obtain⟨TT,ae⟩:∃ TT:List (Nat×Nat×Value),TT=[(0,36,vP q 0),(1,37,vP q 0),(2,38,vP q 0),(3,39,vP q 0),(4,40,.slice A1 m bw),(5,41,.slice (some ⟨ga,oa,none⟩) n cap),(6,42,vI (k:Int)),(7,43,vP ga (oa+k*2)),(8,44,.agg #[vI x.a,vI x.n]),(11,47,vP q 0),(12,48,vP q 0)]:=⟨_,rfl⟩
     have aq:=zh ae;clear ae;refine eN (by kernel_rfl) (by kernel_rfl) (fun a0=>59<=a0.tmps.size/\a0.eval (.tmp 0)=.slice (some ⟨ga,oa,none⟩) n cap/\a0.eval (.tmp 3)=vP q 0/\a0.eval (.tmp 4)=vI (k:Int)) (GA [36,37,38,39,40,41,42,43,44,45,46,47,48] TT (q::(Value.slice A1 m bw).ownBlock.toList) W4 4 9 45 10 46 13 q 0 27 156 #[.slice A1 m bw,.slice A2 m cy] (q+1) 2 m (.slice A1 m bw) (aJ acc) [vI x.a,vI x.n]) ⟨by simp,rfl,rfl,rfl⟩ (GA.start _ _ (Kp.refl _ _).drew kn.out we.out) ?_ ?_
     ·rintro a0 ⟨hs,de,jt,ub⟩ zl a1 w1 j o ap hI ag ho zd;have ae:=aq.out;subst ae;have hk:GAk [36,37,38,39,40,41,42,43,44,45,46,47,48] [(0,36,vP q 0),(1,37,vP q 0),(2,38,vP q 0),(3,39,vP q 0),(4,40,.slice A1 m bw),(5,41,.slice (some ⟨ga,oa,none⟩) n cap),(6,42,vI (k:Int)),(7,43,vP ga (oa+k*2)),(8,44,.agg #[vI x.a,vI x.n]),(11,47,vP q 0),(12,48,vP q 0)] (q::(Value.slice A1 m bw).ownBlock.toList) 9 45 10 46 13 q 27 156 (.slice A1 m bw) 59:=⟨rfl,by decide,HY.out,.head _⟩
      have hj:=Up.of_false ag;have hj12:j<14:=by rw[ap]at hj;exact hj
      have e0x:a1.eval (.tmp 0)=.slice (some ⟨ga,oa,none⟩) n cap:=(hI.off.eval (by decide)).trans de;have e3x:a1.eval (.tmp 3)=vP q 0:=(hI.off.eval (by decide)).trans jt;have e4x:a1.eval (.tmp 4)=vI (k:Int):=(hI.off.eval (by decide)).trans ub;rcases(by omega:j=0\/j=1\/j=2\/j=3\/j=4\/j=5\/j=6\/j=7\/j=8\/j=9\/j=10\/j=11\/j=12\/j=13) with rfl|rfl|rfl|rfl|rfl|rfl|rfl|rfl|rfl|rfl|rfl|rfl|rfl|rfl<;>obtain rfl:=oi ho
      ·exact bH hk hI hs (.head _) ag ho rfl rfl (by simp[execOp,go_sem,bQ e3x])
      ·exact bH hk hI hs (.tail _ (.head _)) ag ho rfl rfl (by simp[execOp,go_sem,bQ e3x])
      ·have d1:=ud zd 1;have p1:=pk hI.pt 1 rfl d1;exact bH hk hI hs (mm 2 rfl) ag ho rfl rfl (by simp[execOp,go_sem,bQ p1])
      ·have d2:=ud zd 2;have p2:=pk hI.pt 2 rfl d2;exact bH hk hI hs (mm 3 rfl) ag ho rfl rfl (by simp[execOp,go_sem,bQ p2])
      ·have d3:=ud zd 3;have p3:=pk hI.pt 3 rfl d3;have c0:=(hI.unl ag).cell 0;simp only[za,zb]at c0;exact bH hk hI hs (mm 4 rfl) ag ho rfl rfl (by simp[execOp,go_sem,bQ p3,c0])
      ·exact bH hk hI hs (mm 5 rfl) ag ho rfl rfl (by simp[execOp,go_sem,bQ e0x])
      ·exact bH hk hI hs (mm 6 rfl) ag ho rfl rfl (by simp[execOp,go_sem,bQ e4x])
      ·have d5:=ud zd 5;have p5:=pk hI.pt 5 rfl d5;have d6:=ud zd 6;have p6:=pk hI.pt 6 rfl d6;exact bH hk hI hs (mm 7 rfl) ag ho rfl rfl (by simp[execOp,go_sem,bQ p5,bQ p6,hkn])
      ·have d7:=ud zd 7;have p7:=pk hI.pt 7 rfl d7;exact bH hk hI hs (mm 8 rfl) ag ho rfl rfl (aM 27 (.tmp 43) rfl ga (oa+k*2) p7 [vI x.a,vI x.n] _ (fun j v hv=>(hI.kp.cell (g:=ga) (i:=oa+k*2+j) hga4 ut.out).trans (HRx4.out j v hv)) Tryz.underlying27 rfl gP)
      ·have d8:=ud zd 8;have p8:=pk hI.pt 8 rfl d8;exact qM hk hI hs ag ho rfl rfl (by simp[execOp,go_sem,bQ p8])
      ·have d4:=ud zd 4;have p4:=pk hI.pt 4 rfl d4;have d9:=ud zd 9;obtain⟨i1,gi,gz0,gz1,gz2⟩:=info_parts uS;exact zK hk hI hs ag ho rfl rfl d4 d9 35 40 rfl p4 i1 (.agg #[vI 0,vI 0]) 16 Tryz.underlying35 gi gz0 gz1 gz2 rfl (by decide) rfl (by intro u hu;simp at hu;rcases hu with rfl|rfl <;> rfl) (by unfold maxLen;omega) (by omega) (yv hZ4.out hI.kp.size)
      ·have d0:=ud zd 0;have p0:=pk hI.pt 0 rfl d0;exact bH hk hI hs (mm 9 rfl) ag ho rfl rfl (by simp[execOp,go_sem,bQ p0])
      ·have d11:=ud zd 11;have p11:=pk hI.pt 9 rfl d11;exact bH hk hI hs (mm 10 rfl) ag ho rfl rfl (by simp[execOp,go_sem,bQ p11])
      have d12:=ud zd 12;have p12:=pk hI.pt 10 rfl d12;have d10:=ud zd 10;exact qN hk hI ag ho rfl rfl d10 (fun hL jp=>by
       obtain⟨gs,cs,jp⟩:=jp;have c0:=hL.cell 0;have k0:=hL.frozen 0;simp at c0;rw[jp];simp[execOp,go_sem,bQ p12,bQ jp,c0,k0])
     intro zl a1 w1 hI az;have ae:=aq.out;subst ae;have i7:=hI.kp;have aw:=hI.o2 (az 10 (by decide));have i8:=(hI.b2 (az 13 (by decide))).2;obtain⟨ff,rfl,hf⟩:=hI.off.forms;rw[<- hf 46]at aw i8;clear hI;generalize ff 46=v' at *;simp only[List.foldl,Act.put,yz,List.set];simp only[Exit.then]
     go_step
     go_meet
     exact⟨v',zh i8,zh aw,zh i7⟩
    case rest=>
     obtain⟨v1',pi,mh,j3⟩:=hcut;obtain⟨A1',mi,rfl⟩:=aZ mh.out;have jx:=zh (bN jk.out j3.out (fun g hg=>by
      intro hm;rcases ym.1 hm with h|h
      ·subst h;exact aY (by decide) jk.out we.out hg.symm
      exact gD (by decide) jk.out kn.out g hg (by simpa using h)))
     have bg:=zh (ye.out.trans (j3.out.below (B:=q) (fun g hg=>by
      rcases ym.1 hg with h|h
      ·omega
      have:=(bR kn.out g (by simpa using h)).1;omega) (by have:=hZ4.out;omega)))
     have ni:Hid (q+1<=wc.heap.size):=zh (yv hZ4.out j3.out.size);clear we kn jk j3 ye hZ4 HY ut uw HRx4 hga4;have x1:=pi.out.cell 1;have f1:=pi.out.frozen 1;simp only[za,zb,zf]at x1;have hqz:q<wc.heap.size:=by have:=ni.out;omega
     obtain⟨i1,gi,gz0,gz1,gz2⟩:=info_parts mG
     go_wp2_with (at_builtin;refine wpList_append_own _ rfl _ _ 148 rfl (q+1) 4 i1 (.bool false) 1 1 Tryz.underlying148 gi gz0 gz1 gz2 rfl (by decide) _ _ _ rfl (World.ownsRow.alloc jx.out _) ⟨wc.heap.size,0,none⟩ 1 1 [.bool true] rfl rfl ?c1 ?c2 ?c3 ?c4 ?c5 ?_)
     case c1=>
      intro j u hj
      match j,hj with
      |0,hj=>simp at hj;subst hj;simp[Addr.add]
     case c2=>intro u hu;simp at hu;subst hu;rfl
     case c3=>unfold maxLen;omega
     case c4=>omega
     case c5=>have:=ni.out;rw[World.size_alloc];omega
     intro v2' W6 du dc _;obtain⟨A2',mj,rfl⟩:=aZ du;have js:wc.grownBy W6 (Value.slice A2 m cy).ownBlock:=(World.grownBy_alloc wc _ _).trans dc;have pj:=zh (pi.out.grownA js (aY (by decide) jx.out pi.out));have HR6:=zh (World.ownsRow.kept mh.out js (by
      cases hv:(Value.slice A1' (m+1) mi).ownBlock with
      |none=>exact .inl rfl
      |some g=>exact .inr (fun e=>gD (by decide) mh.out jx.out g hv e.symm)))
     have wh:=zh du;have ot:=zh (bg.out.grown js (by have:=ni.out;omega) (fun g hg=>by have:=(bR jx.out g hg).1;omega));have HZ6:Hid (q+1<=W6.heap.size):=zh (yv ni.out js.size);clear js dc du pi mh jx bg ni x1 f1 hqz;have x1:=pj.out.cell 1;have f1:=pj.out.frozen 1;simp only[za,zb,zf]at x1
     go_wp2_with fail
     go_roundw
     case rel=>
      refine⟨k+1,.slice A1' (m+1) mi,.slice A2' (m+1) mj,by go_num,by omega,zh ⟨pj.out.put 1 _,?_,?_⟩,zh (ot.out.setCell (p:=⟨q,1,none⟩) (Nat.le_refl q) _),zh (by rw[World.size_setCell];exact HZ6.out)⟩
      ·rw[i6.out,ir.out,iQ,yl,uf.out];exact kF (by decide) HR6.out pj.out 1 _
      rw[i6.out,ir.out,yl,uf.out];have h:=kF (by decide) wh.out pj.out 1 (.slice A2' (m+1) mj);rw[show (List.replicate (m+[x].length) true).map Value.bool=(List.replicate m true).map Value.bool++[.bool true] from by rw[List.length_singleton,List.replicate_succ',List.map_append];rfl,List.map_replicate];exact h
     case measure=>first |(simp[intOf];done) |(simp[intOf];omega)
  obtain rfl:k=n:=by omega
  rw[HN.out,mf.out]at hM
  go_wp2_with fail
  go_ret
  exact⟨v1,v2,by rw[HQ.out];rfl,by rw[HQ.out];exact hM.out,by rw[HQ.out];exact hB.out⟩
theorem kp_below{W W':World}(h:Kp [] W W'):Below W.heap.size W W':=h.below (fun k hk=>by cases hk) zr
theorem pAxis_nd(ids:List IdR):∀ k,k<=ids.length->(bD (ids.take k)).Nodup/\id0∉bD (ids.take k):=by
 intro k
 induction k with
 |zero=>intro _;exact⟨List.nodup_nil,by simp[bD]⟩
 |succ k ih=>
  intro h;obtain⟨h1,h2⟩:=ih (by omega);rw[gE ids k h];unfold iI
  split
  ·exact⟨h1,h2⟩
  rename_i hn
  rw[not_or]at hn;refine⟨?_,?_⟩
  ·rw[List.nodup_append];refine⟨h1,by simp,fun a ha b hb=>?_⟩;rw[yf.1 hb];exact fun e=>hn.2 (e ▸ ha)
  rw[List.mem_append,not_or];exact⟨h2,fun h=>hn.1 (yf.1 h).symm⟩
theorem nO(ids:List IdR):(bD ids).Nodup/\id0∉bD ids/\(bD ids).length<=ids.length/\∀ y∈bD ids,y∈ids:=by
 have h1:=pAxis_nd ids ids.length zr;have h2:=nP ids ids.length zr;have h3:=tH ids ids.length zr;rw[List.take_length]at h1 h2 h3;exact⟨h1.1,h1.2,h2,h3⟩
def dH(l dead:List IdR):List Bool:=dead.foldl (fun fl x=>gK l fl x false) (List.replicate l.length true)
theorem oJ(l dead:List IdR)(k:Nat)(h:k<dead.length):dH l (dead.take (k+1))=gK l (dH l (dead.take k)) dead[k] false:=by
 unfold dH;rw[yw h,List.foldl_append];rfl
theorem qD(l dead:List IdR):∀ k,k<=dead.length->(dH l (dead.take k)).length=l.length:=by
 intro k
 induction k with
 |zero=>intro _;exact List.length_replicate
 |succ k ih=>intro h;rw[oJ l dead k h,uFA,ih (by omega)]
structure TwoAx(w:World)(q m b1 b2:Nat)(acc:List IdR)(fl:List Bool)(v1 v2 u1 u2:Value)(W:World):Prop where
 a:AxRaw q b1 acc fl v1 v2 W
 r:RfMk m b2 acc fl u1 u2 W
 b:Below w.heap.size w W
 q1:w.heap.size<=q
 qm:q<m
 mb:m<=b2
 e1:∀ g,v1.ownBlock=some g->g<m
 e2:∀ g,v2.ownBlock=some g->w.heap.size<=g/\g<m
 bs:b2<=W.heap.size
theorem TwoAx.del{w:World}{q m b1 b2:Nat}{acc:List IdR}{fl fl':List Bool}{v1 v2 u1 u2:Value}{W W':World}(h:TwoAx w q m b1 b2 acc fl v1 v2 u1 u2 W)(hk:Kp (q::v2.ownBlock.toList) W W')(ha:AxRaw q b1 acc fl' v1 v2 W') :
  AxRaw q b1 acc fl' v1 v2 W'/\RfMk m b2 acc fl u1 u2 W'/\Below w.heap.size w W'/\b2<=W'.heap.size:=by
 have hm:∀ g,m<=g->g∉q::v2.ownBlock.toList:=fun g hg hx=>by
  rcases ym.1 hx with hx|hx
  ·have:=h.qm;omega
  have:=(h.e2 g (by simpa using hx)).2;omega
 refine⟨ha,h.r.kp hk (hm m zr) (fun g hg=>hm g (yv h.mb (bR h.r.r1 g hg).1)) (fun g hg=>hm g (yv h.mb (bR h.r.r2 g hg).1)),h.b.trans (hk.below (fun g hg=>?_) h.b.size),yv h.bs hk.size⟩;rcases ym.1 hg with hx|hx
 ·rw[hx];exact h.q1
 exact(h.e2 g (by simpa using hx)).1
theorem TwoAx.set{w:World}{q m b1 b2:Nat}{acc:List IdR}{fl fl':List Bool}{v1 v2 u1 u2 u2':Value}{W0 W W':World}(h:TwoAx w q m b1 b2 acc fl v1 v2 u1 u2 W0)(ha:AxRaw q b1 acc fl' v1 v2 W)(hb:Below w.heap.size w W)(hz:b2<=W.heap.size)(hk:Kp [m] W W')(hr:RfMk m b2 acc fl' u1 u2' W'):TwoAx w q m b1 b2 acc fl' v1 v2 u1 u2' W':=by
 have hm:∀ g,g<m->g∉[m]:=fun g hg hx=>by have:=yf.1 hx;omega
 exact⟨ha.kp hk (hm q h.qm) (fun g hg=>hm g (h.e1 g hg)) (fun g hg=>hm g (h.e2 g hg).2),hr,hb.trans (hk.below (fun g hg=>by rw[yf.1 hg];exact Nat.le_of_lt (Nat.lt_of_le_of_lt h.q1 h.qm)) hb.size),h.q1,h.qm,h.mb,h.e1,h.e2,yv hz hk.size⟩
theorem sU(A D:Option Addr)(cap capd:Nat)(ids dead:List IdR)(w:World)(hA:eA w A ids)(hD:eA w D dead)(hn:ids.length<=300)(hnd:dead.length<=300)(hf:∀ y∈ids,y.fits) :
  Calls Tryz.prog 32 #[.slice A ids.length cap,.slice D dead.length capd] w fun e w'=>∃ m b1 b2 v1 v2 u1 u2,e=.returned (.tuple #[vP w.heap.size 0,vP m 0])/\TwoAx w w.heap.size m b1 b2 (bD ids) (dH (bD ids) dead) v1 v2 u1 u2 w':=by
 have CA:=zh (uDM A cap ids w hA hn hf);have CR:=zh (fun W h=>rnew_any A cap ids W h hn);have HA:=zh hA;have HD:=zh hD;have HND:=zh hnd;obtain⟨k1,k2,k3,k4⟩:=nO ids;have nj:Hid ((bD ids).length<=300):=zh (yv k3 hn);have HSu:=zh (oJ (bD ids) dead);have uf:=zh (qD (bD ids) dead);have H0:Hid (dH (bD ids) (dead.take 0)=List.replicate (bD ids).length true):=zh rfl;have mf:Hid (dH (bD ids) (dead.take dead.length)=dH (bD ids) dead):=zh (by rw[List.take_length]);obtain⟨n,ev⟩:=zD dead.length
 have HN:=zh ev;rw[<- ev];generalize bD ids=acc at *;clear hA hD k1 k2 k3 k4 hf hnd ev
 go_in
 go_wp2_with fail
 refine CA.out.mono ?_;rintro e w1 ⟨v1,v2,rfl,h1,hb1⟩;have CR1:=zh (CR.out w1 (fun h0=>by obtain⟨g,o,e,hr⟩:=HA.out h0;exact⟨g,o,e,hr.at hb1.size (hb1.block g hr.1)⟩));have H1:=zh h1;have b6:=zh hb1;clear h1 hb1 CA CR HA
 go_wp2_with fail
 refine CR1.out.mono ?_;rintro e w2 ⟨u1,u2,rfl,h2,bd⟩;have HT:Hid (TwoAx w w.heap.size w1.heap.size (w.heap.size+2) (w1.heap.size+1) acc (dH acc (dead.take 0)) v1 v2 u1 u2 w2):=zh (by
  rw[H0.out];have ha:=H1.out.next bd;refine⟨⟨ha.ax,ha.r1,?_⟩,h2,zU b6.out bd,zr,H1.out.ax.lt,Nat.le_succ _,fun g hg=>(bR H1.out.r1 g hg).2,fun g hg=>⟨by have:=(bR H1.out.r2 g hg).1;omega,(bR H1.out.r2 g hg).2⟩,h2.ax.lt⟩;rw[List.length_replicate];unfold dD;rw[List.map_replicate];exact ha.r2)
 generalize hm:w1.heap.size=m at *;clear h2 bd CR1 H1 b6
 go_wp2_with fail
 go_loopw [8] (fun v wr=>∃ (k:Nat) (u2':Value),k<=n/\v=vI (k:Int)/\Hid (TwoAx w w.heap.size m (w.heap.size+2) (m+1) acc (dH acc (dead.take k)) v1 v2 u1 u2' wr)) (fun v _=>n-(intOf v).toNat)
 case atStart=>exact⟨0,_,zm _,rfl,HT⟩
 case round=>
  obtain⟨k,u2',hk,rfl,hT⟩:=hrel;clear HT;generalize oo:w.heap.size=q at *;have HQ:=zh oo;clear oo;have tm:(k:Int)<=300:=by have:=HND.out;have:=HN.out;omega
  by_cases hlt:k<n
  ·have ii:k<dead.length:=by rw[<- HN.out];exact hlt
   have hkn:(k:Int)<(n:Int):=by omega
   obtain⟨ga,oa,rfl,js,bi⟩:=HD.out (by omega);obtain⟨c0,c1⟩:=bi k ii;have uq:=zh (HSu.out k ii);have HLk:=zh (uf.out k (by omega));have hbw:Below q w wr:=by have h:=hT.out.b;rw[HQ.out]at h;exact h
   have d0:wr.cell? ⟨ga,oa+k*2,none⟩=some (vI dead[k].a):=(hbw.cell (p:=⟨ga,_,none⟩) (by rw[<- HQ.out];exact js)).trans c0;have d1:wr.cell? ⟨ga,oa+k*2+1,none⟩=some (vI dead[k].n):=(hbw.cell (p:=⟨ga,_,none⟩) (by rw[<- HQ.out];exact js)).trans c1;have HGa:Hid (ga<q):=zh (by rw[<- HQ.out];exact js);have oz:Hid (∀ W,Below w.heap.size w W->W.cell? ⟨ga,oa+k*2,none⟩=some (vI dead[k].a)/\W.cell? ⟨ga,oa+k*2+1,none⟩=some (vI dead[k].n)):=zh (fun W hb=>⟨(hb.cell (p:=⟨ga,_,none⟩) js).trans c0,(hb.cell (p:=⟨ga,_,none⟩) js).trans c1⟩);clear c0 c1 bi hbw;generalize dead[k]=x at *;obtain⟨xa,xn⟩:=x;dsimp only at d0 d1;generalize dH acc (dead.take k)=fl at *
   go_wp2_with fail
   refine(yV q (q+2) acc fl v1 v2 ⟨xa,xn⟩ wr hT.out.a HLk.out.symm (by have:=nj.out;omega)).mono ?_;rintro e w3 ⟨⟨n3,rfl⟩,h3,k3⟩;have xr:=zh (hT.out.del k3 h3);obtain⟨e0,e1⟩:=oz.out w3 xr.out.2.2.1;clear h3 k3 d0 d1
   go_wp2_with fail
   refine(rset_any m (m+1) acc fl u1 u2' ⟨xa,xn⟩ false w3 xr.out.2.1 HLk.out.symm (by have:=nj.out;omega) xr.out.2.2.2).mono ?_;rintro e w4 ⟨⟨n4,rfl⟩,⟨u2'',h4⟩,k4⟩;have HT4:=zh (hT.out.set xr.out.1 xr.out.2.2.1 xr.out.2.2.2 k4 h4);clear h4 k4 xr e0 e1
   go_wp2_with fail
   go_roundw
   case rel=>exact⟨k+1,u2'',by omega,by go_num,zh (by rw[uq.out];exact HT4.out)⟩
   case measure=>first |(simp[intOf];done) |(simp[intOf];omega)
  obtain rfl:k=n:=by omega
  go_wp2_with fail
  (try simp only[Exit.inBlock,Exit.then])
  refine yt (results_tmp2 rfl _ _ _) rfl ?_;exact⟨_,_,_,_,_,_,_,by first|rfl |(rw[HQ.out];rfl),by have h:=hT.out;rw[HN.out,mf.out]at h;first|exact h |(rw[HQ.out];exact h)⟩
def AxQ(W:World):Option Nat->AxV->Prop
 |none,none=>True
 |some b,some (ids,fl)=>ids.length=fl.length/\ids.length<=300/\(∀ y∈ids,y.fits)/\ids.Nodup/\∃ base v1 v2,RfMk b base ids fl v1 v2 W
 |_,_=>False
theorem AxQ.next{W W':World}{p:Option Nat}{A:AxV}(h:AxQ W p A)(hb:Below W.heap.size W W'):AxQ W' p A:=by
 match p,A,h with
 |none,none,_=>trivial
 |some b,some (ids,fl),⟨h1,h2,h3,h4,base,v1,v2,h5⟩=>exact⟨h1,h2,h3,h4,base,v1,v2,h5.next hb⟩
theorem pY{A:AxV}{a b:IdR}(h:aO A a b=[]):dG A a b=none:=by
 unfold dG;rw[h]
theorem oE{A:AxV}{a b:IdR}(m:Nat)(x0 y0:IdR)(h:(aO A a b).length=m+1)(h0:(aO A a b)[0]?=some x0)(h1:(aO A a b)[m]?=some y0):dG A a b=(if fV A a b then some (bC A y0,bC A x0) else some (bC A x0,bC A y0)):=by
 unfold dG;generalize aO A a b=L at *
 match L,h with
 |x::r,h=>
  dsimp only;have e:(x::r).getLast (by simp)=y0:=by
   rw[List.getLast_eq_getElem];have hm:(x::r).length-1=m:=by rw[h];rfl
   have h2:(x::r)[(x::r).length-1]?=some y0:=by rw[hm];exact h1
   exact(List.getElem?_eq_some_iff.1 h2).2
  have e0:x=x0:=Option.some.inj h0;rw[e,e0]
def Say.ok:Say->Prop
 | .plain=>True
 | .seen r c=>r<=400/\c<=400
def lG:AxV->Prop
 |none=>True
 |some (ids,fl)=>ids.length=fl.length/\ids.length<=300/\(∀ y∈ids,y.fits)/\ids.Nodup
theorem AxQ.av{W:World}{p:Option Nat}{A:AxV}(h:AxQ W p A):lG A:=by
 match p,A,h with
 |none,none,_=>trivial
 |some b,some (ids,fl),⟨h1,h2,h3,h4,_⟩=>exact⟨h1,h2,h3,h4⟩
theorem AxF.av{W:World}{p:Option Nat}{A:AxV}(h:AxF W p A):lG A:=by
 match p,A,h with
 |none,none,_=>trivial
 |some b,some (ids,fl),⟨h1,h2,h3,h4,_⟩=>exact⟨h1,h2,h3,h4⟩
theorem tG{ids:List IdR}{fl:List Bool}(he:ids.length=fl.length)(x k:Nat):∀ y∈aN ((ids.drop x).take k) ((fl.drop x).take k),y∈aN ids fl:=by
 intro y hy;have h1:y∈aN (ids.drop x) (fl.drop x):=by
  rw[cN (ids.drop x) (fl.drop x) k (by simp[he])];exact List.mem_append_left _ hy
 rw[cN ids fl x he];exact List.mem_append_right _ h1
theorem tK{A:AxV}(hA:lG A)(a b:IdR):∀ z∈aO A a b,∃ n:Nat,n<=300/\bC A z=(n:Int):=by
 match A,hA with
 |none,_=>intro z hz;cases hz
 |some (ids,fl),⟨h1,h2,h3,h4⟩=>
  intro z hz;have hl:z∈aN ids fl:=by
   unfold aO at hz;dsimp only at hz
   split at hz
   ·cases hz
   exact tG h1 _ _ z hz
  obtain⟨k,hk,rfl⟩:=List.getElem_of_mem hl;have hd:(aN ids fl).Nodup:=by
   have hs:∀ (r:List IdR) (s:List Bool),r.Nodup->(aN r s).Nodup:=by
    intro r
    induction r with
    |nil=>intro s _;cases s <;> simp[aN]
    |cons u r ih=>
     intro s hn;cases s with
     |nil=>simp[aN]
     |cons c s=>
      rw[List.nodup_cons]at hn;unfold aN
      split
      ·rw[List.nodup_cons];exact⟨fun hm=>hn.1 (cW _ _ _ hm),ih s hn.2⟩
      exact ih s hn.2
   exact hs ids fl h4
  refine⟨k,?_,?_⟩
  ·have:=eU ids fl;omega
  show bG (aN ids fl) _=_;exact nQ hd hk
theorem dJ{A:AxV}(hA:lG A)(a b:IdR):dG A a b=none\/∃ n m:Nat,n<=300/\m<=300/\dG A a b=some ((n:Int),(m:Int)):=by
 rcases Nat.eq_zero_or_pos (aO A a b).length with h0|h0
 ·exact .inl (pY (List.eq_nil_of_length_eq_zero h0))
 obtain⟨m,hm⟩:∃ m,(aO A a b).length=m+1:=⟨(aO A a b).length-1,by omega⟩
 have hp:=tK hA a b;have e:=oE m ((aO A a b)[0]'(by omega)) ((aO A a b)[m]'(by omega)) hm (List.getElem?_eq_getElem _) (List.getElem?_eq_getElem _);obtain⟨n1,k1,e1⟩:=hp _ (List.getElem_mem (by omega:0<(aO A a b).length));obtain⟨n2,k2,e2⟩:=hp _ (List.getElem_mem (by omega:m<(aO A a b).length));rw[e1,e2]at e
 right
 rw[e]
 split
 ·exact⟨n2,n1,k2,k1,rfl⟩
 exact⟨n1,n2,k1,k2,rfl⟩
def endsV:Option (Int×Int)->Value
 |none=>.tuple #[vI 0,vI 0,.bool false]
 |some (a,b)=>.tuple #[vI a,vI b,.bool true]
theorem iL{ids:List IdR}{fl:List Bool}(he:ids.length=fl.length){x y z:IdR}(hz:z∈aO (some (ids,fl)) x y):z∈ids/\x∈ids/\y∈ids:=by
 have hx:x∈ids:=Classical.byContradiction (fun h=>by rw[lI (.inl h)]at hz;cases hz);have hy:y∈ids:=Classical.byContradiction (fun h=>by rw[lI (.inr h)]at hz;cases hz);refine⟨?_,hx,hy⟩;unfold aO at hz;dsimp only at hz
 split at hz
 ·cases hz
 exact cW _ _ _ (tG he _ _ z hz)
theorem uFK(p:Option Nat)(A:AxV)(x y:IdR)(w:World)(hA:AxF w p A)(hx:x.fits)(hy:y.fits)(hz:(aO A x y).length=0) :
  Calls Tryz.prog 194 #[.pointer (ptr p),idV x,idV y] w fun e w'=>e=.returned (.tuple #[vI 0,vI 0,.bool false])/\AxF w' p A/\Kp p.toList w w':=by
 obtain⟨W0,ak⟩:∃ W0,W0=(w.alloc (.cells #[vI x.a,vI x.n] 27)).alloc (.cells #[vI y.a,vI y.n] 27):=⟨_,rfl⟩
 have ai:=zh ak;have au:Hid (Below w.heap.size w W0):=zh (by rw[ak];exact((Below.refl _ w).alloc zr _).alloc (by rw[World.size_alloc];omega) _);have L0:Hid (Lies W0 w.heap.size 27 #[vI x.a,vI x.n]):=zh (by rw[ak];exact(Lies.new w _ _).alloc _);have L1:Hid (Lies W0 (w.heap.size+1) 27 #[vI y.a,vI y.n]):=zh (by
  rw[ak];have h:=Lies.new (w.alloc (.cells #[vI x.a,vI x.n] 27)) 27 #[vI y.a,vI y.n];rw[World.size_alloc]at h;exact h)
 have CB:=zh (jG p A x y W0 (hA.next au.out) hx hy);clear ak hA hx hy;obtain⟨x0,x1⟩:W0.cell? ⟨w.heap.size,0,none⟩=some (vI x.a)/\W0.cell? ⟨w.heap.size,1,none⟩=some (vI x.n):=⟨L0.out.cell 0,L0.out.cell 1⟩
 obtain⟨y0,y1⟩:W0.cell? ⟨w.heap.size+1,0,none⟩=some (vI y.a)/\W0.cell? ⟨w.heap.size+1,1,none⟩=some (vI y.n):=⟨L1.out.cell 0,L1.out.cell 1⟩
 go_in
 go_upto_region 1 with fail
 rw[<- ai.out];clear ai
 go_wp2_with fail
 refine CB.out.mono ?_;rintro e W2 ⟨B,c,rfl,-,hF,hk⟩;clear CB x0 x1 y0 y1;have li:=zh hF;have ep:Hid (Kp p.toList w W2):=zh ((Kp.of_below au.out).trans hk);rw[hz];clear hF hk hz
 go_wp2_with fail
 go_ret3
 exact⟨rfl,li.out,ep.out⟩
theorem uBS(b:Nat)(ids:List IdR)(fl:List Bool)(x y z u:IdR)(m n1 n2:Nat)(w:World)(hA:AxF w (some b) (some (ids,fl)))(hx:x.fits)(hy:y.fits)(hm:(aO (some (ids,fl)) x y).length=m+1)
  (hz:(aO (some (ids,fl)) x y)[0]?=some z) (hu:(aO (some (ids,fl)) x y)[m]?=some u) (h1:bC (some (ids,fl)) z=(n1:Int)) (h2:bC (some (ids,fl)) u=(n2:Int)) (bh:Bool) (hb:fV (some (ids,fl)) x y=bh) :
  Calls Tryz.prog 194 #[.pointer (ptr (some b)),idV x,idV y] w fun e w'=>e=.returned (.tuple #[vI (if bh then (n2:Int) else n1),vI (if bh then (n1:Int) else n2),.bool true])/\AxF w' (some b) (some (ids,fl))/\Kp [b] w w':=by
 obtain⟨W0,ak⟩:∃ W0,W0=(w.alloc (.cells #[vI x.a,vI x.n] 27)).alloc (.cells #[vI y.a,vI y.n] 27):=⟨_,rfl⟩
 have ai:=zh ak;have au:Hid (Below w.heap.size w W0):=zh (by rw[ak];exact((Below.refl _ w).alloc zr _).alloc (by rw[World.size_alloc];omega) _);have L0:Hid (Lies W0 w.heap.size 27 #[vI x.a,vI x.n]):=zh (by rw[ak];exact(Lies.new w _ _).alloc _);have L1:Hid (Lies W0 (w.heap.size+1) 27 #[vI y.a,vI y.n]):=zh (by
  rw[ak];have h:=Lies.new (w.alloc (.cells #[vI x.a,vI x.n] 27)) 27 #[vI y.a,vI y.n];rw[World.size_alloc]at h;exact h)
 have hbw:b<w.heap.size:=by
  obtain⟨_,_,_,_,_,_,_,_,h⟩:=hA.lists;exact h
 have hmz:=List.mem_of_getElem? hz;have hmu:=List.mem_of_getElem? hu;have hfz:z.fits:=hA.2.2.1 z (iL hA.1 hmz).1;have hfu:u.fits:=hA.2.2.1 u (iL hA.1 hmu).1;have hm300:m+1<=300:=by
  have e:(aO (some (ids,fl)) x y).length<=ids.length:=by
   unfold aO;dsimp only
   split
   ·simp
   refine yv (eU _ _) ?_;rw[zc,yk];omega
  have:=hA.2.1;omega
 have CB:=zh (jG (some b) (some (ids,fl)) x y W0 (hA.next au.out) hx hy);have CZ:Hid (∀ W,AxF W (some b) (some (ids,fl))->Calls Tryz.prog 40 #[.pointer (ptr (some b)),.agg #[vI z.a,vI z.n]] W fun e w'=>e=.returned (.tuple #[vI (n1:Int),.bool true])/\AxF w' (some b) (some (ids,fl))/\Kp [b] W w'):=zh (fun W h=>(fK (some b) (some (ids,fl)) z W h hfz).mono (by
  rintro e w' ⟨rfl,k1,k2⟩;refine⟨?_,k1,k2⟩;unfold rH;rw[h1,if_neg (by omega),decide_eq_true (by omega)]))
 have CU:Hid (∀ W,AxF W (some b) (some (ids,fl))->Calls Tryz.prog 40 #[.pointer (ptr (some b)),.agg #[vI u.a,vI u.n]] W fun e w'=>e=.returned (.tuple #[vI (n2:Int),.bool true])/\AxF w' (some b) (some (ids,fl))/\Kp [b] W w'):=zh (fun W h=>(fK (some b) (some (ids,fl)) u W h hfu).mono (by
  rintro e w' ⟨rfl,k1,k2⟩;refine⟨?_,k1,k2⟩;unfold rH;rw[h2,if_neg (by omega),decide_eq_true (by omega)]))
 have CH:Hid (∀ W,AxF W (some b) (some (ids,fl))->Calls Tryz.prog 228 #[.pointer (ptr (some b)),.agg #[vI x.a,vI x.n],.agg #[vI y.a,vI y.n]] W fun e w'=>e=.returned (.bool bh)/\Below W.heap.size W w'):=zh (fun W h=>by
  rw[<- hb];exact uT b ids fl x y W h (iL hA.1 hmz).2.1 (iL hA.1 hmz).2.2)
 have HNb:Hid (∀ k,w.heap.size<=k->k∉[b]):=zh (fun k hk hm=>by rw[yf.1 hm]at hk;omega);obtain⟨L,hL⟩:=zD (aO (some (ids,fl)) x y)
 rw[<- hL]at CB hm hz hu;have HLm:=zh (And.intro hm (And.intro hz hu));have hmi:(m:Int)+1<=300:=by omega
 clear ak hA hx hy hmz hmu hfz hfu hm300 hm hz hu h1 h2 hb hL hbw;obtain⟨x0,x1⟩:W0.cell? ⟨w.heap.size,0,none⟩=some (vI x.a)/\W0.cell? ⟨w.heap.size,1,none⟩=some (vI x.n):=⟨L0.out.cell 0,L0.out.cell 1⟩
 obtain⟨y0,y1⟩:W0.cell? ⟨w.heap.size+1,0,none⟩=some (vI y.a)/\W0.cell? ⟨w.heap.size+1,1,none⟩=some (vI y.n):=⟨L1.out.cell 0,L1.out.cell 1⟩
 go_in
 go_upto_region 1 with fail
 rw[<- ai.out];clear ai
 go_wp2_with fail
 refine CB.out.mono ?_;rintro e W2 ⟨B,c,rfl,ho,hF,hk⟩;clear CB x0 x1 y0 y1;have li:=zh hF;have ep:Hid (Kp [b] w W2):=zh ((Kp.of_below au.out).trans hk);have ql:Hid (Lies W2 w.heap.size 27 #[vI x.a,vI x.n]):=zh (hk.lies L0.out (HNb.out _ zr));have HY2:Hid (Lies W2 (w.heap.size+1) 27 #[vI y.a,vI y.n]):=zh (hk.lies L1.out (HNb.out _ (Nat.le_succ _)));obtain⟨hm,hz,hu⟩:=HLm.out;rw[hm]at ho ⊢;obtain⟨g,cp,q1,ig,ko,bi⟩:=fB ho (by omega);injection q1 with q1 _ q2;subst q1 q2;obtain⟨lw,gu⟩:=List.getElem?_eq_some_iff.1 hz;obtain⟨hu0,hu1⟩:=List.getElem?_eq_some_iff.1 hu;have k0:=fL L 0 lw;have km:=fL L m hu0;rw[gu]at k0;rw[hu1]at km
 have HRw:Hid (∀ W,Kp [b] W2 W->W.cell? ⟨g,0,none⟩=some (vI z.a)/\W.cell? ⟨g,1,none⟩=some (vI z.n)/\W.cell? ⟨g,m*2,none⟩=some (vI u.a)/\W.cell? ⟨g,m*2+1,none⟩=some (vI u.n)):=zh (fun W iy=>by
  have lg:=HNb.out g (yv au.out.size ig);refine⟨(iy.cell ko lg).trans (bi _ _ k0.1),(iy.cell ko lg).trans (bi _ _ k0.2),(iy.cell ko lg).trans (bi _ _ km.1),(iy.cell ko lg).trans (bi _ _ km.2)⟩)
 obtain⟨c0,c1,-,-⟩:=HRw.out W2 (Kp.refl _ _);clear ho hF hk hm hz hu ig ko bi lw gu hu0 hu1 k0 km L0 L1;have hmn:(0:Int)<(m:Int)+1:=by omega
 have pi:Hid (∀ W,Kp [b] W2 W->W.cell? ⟨w.heap.size,0,none⟩=some (vI x.a)/\W.cell? ⟨w.heap.size,1,none⟩=some (vI x.n)/\W.cell? ⟨w.heap.size+1,0,none⟩=some (vI y.a)/\W.cell? ⟨w.heap.size+1,1,none⟩=some (vI y.n)):=zh (fun W hk=>by
  have e1:=hk.lies ql.out (HNb.out _ zr);have e2:=hk.lies HY2.out (HNb.out _ (Nat.le_succ _));exact⟨e1.cell 0,e1.cell 1,e2.cell 0,e2.cell 1⟩)
 clear ql HY2;cases bh
 all_goals
  go_wp2_with (first
   |((with_reducible refine(CZ.out _ li.out).mono ?_);rintro e W3 ⟨rfl,hF,hk⟩;have HF3:=zh hF;have nj:=zh hk;clear hF hk c0 c1 li;obtain⟨-,-,c2,c3⟩:=HRw.out W3 nj.out)
   |((with_reducible refine(CU.out _ HF3.out).mono ?_);rintro e W4 ⟨rfl,hF,hk⟩;have HF4:=zh hF;have fh:=zh (nj.out.trans hk);clear hF hk c2 c3 HF3;obtain⟨x0,x1,y0,y1⟩:=pi.out W4 fh.out)
   |((with_reducible refine(CH.out _ HF4.out).mono ?_);rintro e W5 ⟨rfl,hb⟩;have z8:=zh (HF4.out.next hb);have j3:=zh (fh.out.trans (Kp.of_below hb));clear hb))
  go_ret3
  exact⟨rfl,z8.out,ep.out.trans j3.out⟩
theorem uB(p:Option Nat)(A:AxV)(x y:IdR)(w:World)(hA:AxF w p A)(hx:x.fits)(hy:y.fits) :
  Calls Tryz.prog 194 #[.pointer (ptr p),idV x,idV y] w fun e w'=>e=.returned (endsV (dG A x y))/\AxF w' p A/\Kp p.toList w w':=by
 rcases Nat.eq_zero_or_pos (aO A x y).length with hz|hz
 ·rw[pY (List.eq_nil_of_length_eq_zero hz)];exact uFK p A x y w hA hx hy hz
 match p,A,hA,hz with
 |none,none,_,hz=>exact absurd hz (by show ¬ 0<([]:List IdR).length;simp)
 |some b,some (ids,fl),hA,hz=>
  obtain⟨m,hm⟩:∃ m,(aO (some (ids,fl)) x y).length=m+1:=⟨(aO (some (ids,fl)) x y).length-1,by omega⟩
  have hp:=tK hA.av x y;obtain⟨n1,k1,e1⟩:=hp _ (List.getElem_mem (by omega:0<(aO (some (ids,fl)) x y).length));obtain⟨n2,k2,e2⟩:=hp _ (List.getElem_mem (by omega:m<(aO (some (ids,fl)) x y).length));have hav:=oE m _ _ hm (List.getElem?_eq_getElem (by omega)) (List.getElem?_eq_getElem (by omega));rw[e1,e2]at hav;refine(uBS b ids fl x y _ _ m n1 n2 w hA hx hy hm (List.getElem?_eq_getElem (by omega)) (List.getElem?_eq_getElem (by omega)) e1 e2 _ rfl).mono ?_;rintro e w' ⟨rfl,h2,h3⟩;refine⟨?_,h2,h3⟩;rw[hav];cases fV (some (ids,fl)) x y <;> rfl
end Go.Proofs.YtjfihpaeglpblaaGreatDoor
