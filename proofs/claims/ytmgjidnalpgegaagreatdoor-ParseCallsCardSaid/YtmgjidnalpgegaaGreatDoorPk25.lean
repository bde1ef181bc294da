/-
  Lemmas, part 25: RkP RkA RkB RkC RkE RkF RkH.
-/
import Derived.Test.YtmgjidnalpgegaaGreatDoorPk24
set_option maxHeartbeats 100000000
namespace Go.Proofs.YtmgjidnalpgegaaGreatDoor
open Go.RowKit
set_option maxRecDepth 1000000 in
theorem uKQ(A:Option Addr)(cap:Nat)(ids:List IdR)(w:World)(hA:mR w A ids)(hn:ids.length<=maxLen) :
  Calls Tryz.prog 19 #[.slice A ids.length cap] w fun e w'=>∃ v1 v2,e=.returned (.pointer (some ⟨w.heap.size,0,none⟩))/\RfMk w.heap.size (w.heap.size+1) (cY ids) (List.replicate (cY ids).length true) v1 v2 w'/\Below w.heap.size w w':=by
 have HA:=zh hA;have HS:=zh (nL ids);have HAll:Hid (cY (ids.take ids.length)=cY ids):=zh (by rw[List.take_length]);obtain⟨n,s6⟩:∃ n,n=ids.length:=⟨_,rfl⟩
 have HN:=zh s6;rw[<- s6]at hn ⊢;unfold maxLen at hn;clear hA s6;obtain⟨W1,dv⟩:∃ W1,W1=w.alloc (.cells #[.slice none 0 0,.slice none 0 0] 85):=⟨_,rfl⟩
 have HM0:Hid (RfMk w.heap.size (w.heap.size+1) [] [] (.slice none 0 0) (.slice none 0 0) W1):=zh (by rw[dv];exact⟨Lies.new w _ _,⟨rfl,.inl ⟨rfl,rfl⟩⟩,⟨rfl,.inl ⟨rfl,rfl⟩⟩⟩);have HB0:Hid (Below w.heap.size w W1):=zh (by rw[dv];exact zp _);have HZ0:Hid (w.heap.size+1<=W1.heap.size):=zh (by rw[dv];simp);have cy:=zh dv;clear dv
 go_enter Tryz.func19,Tryz.ntmps19
 go_upto_region 2 with fail
 rw[<- cy.out];clear cy
 go_wp2_with fail
 go_loopw [4] (fun v wx=>∃ (k:Nat) (v1 v2:Value),v=.int .i64 (k:Int)/\k<=n/\Hid (RfMk w.heap.size (w.heap.size+1) (cY (ids.take k)) (List.replicate (cY (ids.take k)).length true) v1 v2 wx)/\Hid (Below w.heap.size w wx)/\Hid (w.heap.size+1<=wx.heap.size)) (fun v _=>n-(intOf v).toNat)
 case atStart=>exact⟨0,_,_,rfl,zm _,HM0,HB0,HZ0⟩
 case round=>
  obtain⟨k,v1,v2,rfl,hk,hM,hB,hZ⟩:=hrel;generalize fa:w.heap.size=q at *;have HQ:=zh fa;clear fa HM0 HB0 HZ0;by_cases hlt:k<n
  ·have lh:k<ids.length:=by rw[<- HN.out];exact hlt
   have hkn:(k:Int)<(n:Int):=by omega
   have ol:(k:Int)<=9223372036854775806:=by omega
   obtain⟨ga,oa,rfl,m5,bj⟩:=HA.out (by omega);obtain⟨c0,c1⟩:=bj k lh;have hacc:=xJ (ids.take k);have HSt:=zh (HS.out k lh);have HRx:Hid (wr.rangeAt ga (oa+k*2) [.int .i64 ids[k].a,.int .i64 ids[k].n]):=zh (fun j v hv=>by
    match j,hv with
    |0,hv=>simp at hv;subst hv;exact(hB.out.cell (p:=⟨ga,_,none⟩) (by rw[<- HQ.out];exact m5)).trans c0
    |1,hv=>simp at hv;subst hv;exact(hB.out.cell (p:=⟨ga,_,none⟩) (by rw[<- HQ.out];exact m5)).trans c1)
   have zx:ga<wr.heap.size:=by have:=hZ.out;rw[HQ.out]at m5;omega
   generalize ids[k]=x at *;generalize cY (ids.take k)=acc at *;generalize o6:cY (ids.take (k+1))=acc' at *;have j0:=zh o6;clear o6 c0 c1 bj;obtain⟨A1,ap,rfl⟩:=fE hM.out.r1;obtain⟨A2,cap2,rfl⟩:=fE hM.out.r2;generalize hle:acc.length=m at *;have HLe:=zh hle;clear hle;obtain⟨b0,cn⟩:∃ b,decide (x≠id0)=b:=⟨_,rfl⟩
   obtain⟨b1,af⟩:∃ b,decide (qE acc x<0)=b:=⟨_,rfl⟩
   obtain⟨b2,bf⟩:∃ b,decide ((m:Int)<1000)=b:=⟨_,rfl⟩
   obtain⟨c,hc⟩:∃ c,c=(b0&&b1):=⟨_,rfl⟩
   obtain⟨d,hd⟩:∃ d,d=(c&&b2):=⟨_,rfl⟩
   have rg:∀ w:World,(binOp .neq 34 (idV x) (idV id0)).run Tryz.prog w=.ok (.bool b0) w:=fun w=>by rw[iI,cn]
   have HBs:=zh (And.intro cn (And.intro af (And.intro hd (And.intro rg (And.intro hc bf)))));have HD:Hid (acc'=if d then acc++[x] else acc):=zh (by
    rw[HSt.out,eR,hd,hc,<- cn,<- af,<- bf];have hle:=HLe.out;by_cases h0:1000<=acc.length
    ·rw[if_pos (.inl h0),if_neg (by simp;omega)]
    have h0i:(m:Int)<1000:=by omega
    by_cases h1:x=id0
    ·rw[if_pos (.inr (.inl h1))];simp[h1]
    by_cases h2:x∈acc
    ·have hn:¬ qE acc x<0:=fun h=>(xM acc x).1 h h2
     rw[if_pos (.inr (.inr h2)),if_neg (by simp[h1];intro h3;omega)]
    rw[if_neg (by simp[h1,h2];omega),if_pos];have:=(xM acc x).2 h2;simp[h1,this,h0i])
   clear cn af bf hc hd rg HSt;obtain⟨Wr,hWr⟩:∃ Wr,Wr=wr:=⟨_,rfl⟩
   subst hWr
   go_upto_region 5 with fail
   go_cut [35] (fun v wx=>v=.bool d/\Hid (Below Wr.heap.size Wr wx))
   case first=>
    obtain⟨cn,af,hd,rg,hc,bf⟩:=HBs.out
    obtain⟨TT,ae⟩:∃ TT:List (Nat×Nat×Value),TT=((0,13,.slice (some ⟨ga,oa,none⟩) n cap)::(1,14,.int .i64 (k:Int))::(2,15,.pointer (some ⟨ga,oa+k*2,none⟩))::(3,16,idV x)::(4,17,idV id0)::(5,18,.bool b0)::(6,19,.bool b0)::(7,20,(bif b0 then .pointer (some ⟨q,0,none⟩) else undef))::(8,21,(bif b0 then .slice (some ⟨ga,oa,none⟩) n cap else undef))::(9,22,(bif b0 then .int .i64 (k:Int) else undef))::(10,23,(bif b0 then .pointer (some ⟨ga,oa+k*2,none⟩) else undef))::(11,24,(bif b0 then idV x else undef))::(12,25,(bif b0 then .int .i64 (qE acc x) else undef))::(13,26,(bif b0 then .bool b1 else undef))::(14,27,.bool c)::(15,28,.bool c)::(16,29,(bif c then .pointer (some ⟨q,0,none⟩) else undef))::(17,30,(bif c then .pointer (some ⟨q,0,none⟩) else undef))::(18,31,(bif c then .pointer (some ⟨q,0,none⟩) else undef))::(19,32,(bif c then .slice A1 m ap else undef))::(20,33,(bif c then .int .i64 (m:Nat) else undef))::(21,34,(bif c then .bool b2 else undef))::(22,35,.bool d)::[]):=⟨_,rfl⟩
    have aq:=zh ae;clear ae;refine bI (fun a0=>59<=a0.tmps.size/\a0.eval (.tmp 0)=.slice (some ⟨ga,oa,none⟩) n cap/\a0.eval (.tmp 3)=.pointer (some ⟨q,0,none⟩)/\a0.eval (.tmp 4)=.int .i64 (k:Int)) (13::14::15::16::17::18::19::20::21::22::23::24::25::26::27::28::29::30::31::32::33::34::35::[]) TT [] (fun w'=>Below Wr.heap.size Wr w') (by kernel_rfl) ⟨by simp,rfl,rfl,rfl⟩ (Below.refl _ _) ?_ ?_
    ·rintro a0 ⟨hs,dr,mu,kx⟩ zl a1 w1 zj o bg hI aa ho zd;have ql:Below Wr.heap.size Wr w1:=hI.st;have ae:=aq.out;have hk:okU (TT.map fun e=>(e.1,e.2.1)) (13::14::15::16::17::18::19::20::21::22::23::24::25::26::27::28::29::30::31::32::33::34::35::[]) 59=true:=by rw[ae];rfl
     subst ae;have e0x:=aF ((hI.off.eval (by decide)).trans dr);have e3x:=aF ((hI.off.eval (by decide)).trans mu);have e4x:=aF ((hI.off.eval (by decide)).trans kx);have hj:=Up.of_false aa;have hj12:zj<23:=by rw[bg]at hj;exact hj
     have G:RG _ _ _ _ _ _ _ _ _ _ _:=⟨hk,hI,hs,aa,ho,zd⟩
     (iterate 22 rcases zq hj12 with hj12|rfl);obtain rfl:=cz hj12;all_goals obtain rfl:=oi ho
     ·exact G.nl 0 rfl (by simp[execOp,go_sem,e0x])
     ·exact G.nl 1 rfl (by simp[execOp,go_sem,e4x])
     ·exact G.nl 2 rfl (by simp[execOp,go_sem,G.t 0 rfl,G.t 1 rfl,hkn])
     ·have p2:=G.d 2 rfl;exact G.nl 3 rfl (aW 34 (.tmp 15) rfl ga (oa+k*2) p2 _ _ (fun j v hv=>(ql.cell (p:=⟨ga,oa+k*2+j,none⟩) zx).trans (HRx.out j v hv)) Tryz.underlying34 rfl pU)
     ·exact G.nl 4 rfl (by simp[execOp,go_sem])
     ·exact G.nl 5 rfl (by simp[execOp,go_sem,G.t 3 rfl,G.t 4 rfl,rg])
     ·exact G.nl 6 rfl (by simp[execOp,go_sem,G.t 5 rfl])
     ·refine G.gv 6 7 rfl rfl rfl ?_;rintro rfl;simp[execOp,go_sem,e3x]
     ·refine G.gv 6 8 rfl rfl rfl ?_;rintro rfl;simp[execOp,go_sem,e0x]
     ·refine G.gv 6 9 rfl rfl rfl ?_;rintro rfl;simp[execOp,go_sem,e4x]
     ·refine G.gv 6 10 rfl rfl rfl ?_;rintro rfl;simp[execOp,go_sem,G.t 8 rfl,G.t 9 rfl,hkn]
     ·refine G.gv 6 11 rfl rfl rfl ?_;rintro rfl;have p10:=G.d 10 rfl;exact aW 34 (.tmp 23) rfl ga (oa+k*2) p10 _ _ (fun j v hv=>(ql.cell (p:=⟨ga,oa+k*2+j,none⟩) zx).trans (HRx.out j v hv)) Tryz.underlying34 rfl pU
     ·have pg:=G.g 6 rfl;cases b0
      ·exact G.sk 12 rfl pg rfl
      refine dN (inT 12 rfl) hk hI hs aa ho zd (Eq.trans (aH rfl rfl rfl pg) rfl) rfl 32 #[.pointer (some ⟨q,0,none⟩),idV x] (by simp[go_sem,G.t 7 rfl,G.t 11 rfl]) ?_;refine(uKN q (q+1) acc (List.replicate acc.length true) _ _ x w1 (by rw[HLe.out];exact hM.out.next ql) (by rw[HLe.out];omega)).mono ?_;rintro e w2 ⟨rfl,hb⟩;exact⟨rfl,ql.trans (hb.mono ql.size)⟩
     ·refine G.gv 6 13 rfl rfl rfl ?_;rintro rfl;simp[execOp,go_sem,G.t 12 rfl,af]
     ·cases b0
      all_goals have p6:=G.d 6 rfl
      all_goals have p13:=G.d 13 rfl
      all_goals exact G.nl 14 rfl (by simp[execOp,go_sem,aF p6,aF p13,hc])
     ·exact G.nl 15 rfl (by simp[execOp,go_sem,G.t 14 rfl])
     ·refine G.gv 15 16 rfl rfl rfl ?_;rintro rfl;simp[execOp,go_sem,e3x]
     ·refine G.gv 15 17 rfl rfl rfl ?_;rintro rfl;simp[execOp,go_sem,G.t 16 rfl]
     ·refine G.gv 15 18 rfl rfl rfl ?_;rintro rfl;simp[execOp,go_sem,G.t 17 rfl]
     ·refine G.gv 15 19 rfl rfl rfl ?_;rintro rfl;have xq:w1.cell? ⟨q,0,none⟩=some (.slice A1 m ap):=(hM.out.next ql).ax.cell 0;simp[execOp,go_sem,G.t 18 rfl,xq]
     ·refine G.gv 15 20 rfl rfl rfl ?_;rintro rfl;simp[go_sem,G.t 19 rfl]
     ·refine G.gv 15 21 rfl rfl rfl ?_;rintro rfl;simp[execOp,go_sem,G.t 20 rfl,bf]
     cases c
     all_goals have p15:=G.d 15 rfl
     all_goals have p21:=G.d 21 rfl
     all_goals exact G.nl 22 rfl (by simp[execOp,go_sem,aF p15,aF p21,hd])
    intro zl a1 w1 hI aw;have ql:Below Wr.heap.size Wr w1:=hI.st;have ae:=aq.out;subst ae;have z35:=hI.ptk 22 rfl (aw 22 (by decide));obtain⟨ff,rfl,hf⟩:=hI.off.forms;rw[<- hf 35]at z35;clear hI;simp only[List.foldl,Act.put,yz,List.set];rw[z35];simp only[Exit.then]
    go_step
    go_meet
    exact⟨rfl,zh ql⟩
   case rest=>
    obtain⟨rfl,u7⟩:=hcut;have hM4:=zh (hM.out.next u7.out);have pf:=zh (hB.out.trans (u7.out.mono (by have:=hZ.out;omega)));have hZ4:Hid (q+1<=wc.heap.size):=zh (by have:=u7.out.size;have:=hZ.out;omega);have el:=HD.out;have HRx4:Hid (wc.rangeAt ga (oa+k*2) [.int .i64 x.a,.int .i64 x.n]):=zh (fun j v hv=>(u7.out.cell (p:=⟨ga,oa+k*2+j,none⟩) zx).trans (HRx.out j v hv));have hga4:ga<wc.heap.size:=yu zx u7.out.size;clear hM hB hZ HRx zx HBs HD u7;cases d
    ·rw[if_neg (by decide)]at el;have ij:=zh el;clear el
     go_wp2_with fail
     go_roundw
     case rel=>exact⟨k+1,_,_,by go_num,by omega,by rw[j0.out,ij.out,HLe.out];exact hM4,pf,hZ4⟩
     case measure=>first |(simp[intOf];done) |(simp[intOf];omega)
    rw[if_pos rfl]at el;have ij:=zh el;clear el;obtain⟨W4,i9⟩:∃ W4,W4=wc:=⟨_,rfl⟩
    subst i9;have HX4:=zh hM4.out.ax;have de:Hid (W4.ownsRow (q+1) 34 2 (.slice A1 m ap) m (cT acc)):=zh (by have:=hM4.out.r1;rwa [HLe.out]at this);have ce:Hid (W4.ownsRow (q+1) 4 1 (.slice A2 m cap2) m ((List.replicate m true).map Value.bool)):=zh (by have:=hM4.out.r2;rwa [HLe.out]at this);have HY:Hid (∀ g,(Value.slice A1 m ap).ownBlock=some g->g∈q::(Value.slice A1 m ap).ownBlock.toList):=zh (fun g hg=>by rw[hg];simp);have fa:q<=ga->False:=fun h=>by rw[HQ.out]at m5;omega
    have hbY:Hid (ga∉q::(Value.slice A1 m ap).ownBlock.toList):=zh (fun h=>by
     rcases ym.1 h with h|h
     ·exact fa (by omega)
     have:=(cV de.out ga (by simpa using h)).1;exact fa (by omega))
    go_upto_region 6 with fail
    go_cut [46] (fun v wx=>∃ v1',Hid (Lies wx q 85 #[v1',.slice A2 m cap2])/\Hid (wx.ownsRow (q+1) 34 2 v1' (m+1) (cT acc++[.int .i64 x.a,.int .i64 x.n]))/\Hid (Kp (q::(Value.slice A1 m ap).ownBlock.toList) W4 wx))
    case first=>
     obtain⟨TT,ae⟩:∃ TT:List (Nat×Nat×Value),TT=[(0,36,.pointer (some ⟨q,0,none⟩)),(1,37,.pointer (some ⟨q,0,none⟩)),(2,38,.pointer (some ⟨q,0,none⟩)),(3,39,.pointer (some ⟨q,0,none⟩)),(4,40,.slice A1 m ap),(5,41,.slice (some ⟨ga,oa,none⟩) n cap),(6,42,.int .i64 (k:Int)),(7,43,.pointer (some ⟨ga,oa+k*2,none⟩)),(8,44,.agg #[.int .i64 x.a,.int .i64 x.n]),(11,47,.pointer (some ⟨q,0,none⟩)),(12,48,.pointer (some ⟨q,0,none⟩))]:=⟨_,rfl⟩
     have aq:=zh ae;clear ae;refine gC (by kernel_rfl) (by kernel_rfl) (fun a0=>59<=a0.tmps.size/\a0.eval (.tmp 0)=.slice (some ⟨ga,oa,none⟩) n cap/\a0.eval (.tmp 3)=.pointer (some ⟨q,0,none⟩)/\a0.eval (.tmp 4)=.int .i64 (k:Int)) (GA [36,37,38,39,40,41,42,43,44,45,46,47,48] TT (q::(Value.slice A1 m ap).ownBlock.toList) W4 4 9 45 10 46 13 q 0 34 85 #[.slice A1 m ap,.slice A2 m cap2] (q+1) 2 m (.slice A1 m ap) (cT acc) [.int .i64 x.a,.int .i64 x.n]) ⟨by simp,rfl,rfl,rfl⟩ (GA.start _ _ (Kp.refl _ _).drew de.out HX4.out) ?_ ?_
     ·rintro a0 ⟨hs,dr,mu,kx⟩ zl a1 w1 j o bg hI aa ho zd;have ae:=aq.out;subst ae;have hk:GAk [36,37,38,39,40,41,42,43,44,45,46,47,48] [(0,36,.pointer (some ⟨q,0,none⟩)),(1,37,.pointer (some ⟨q,0,none⟩)),(2,38,.pointer (some ⟨q,0,none⟩)),(3,39,.pointer (some ⟨q,0,none⟩)),(4,40,.slice A1 m ap),(5,41,.slice (some ⟨ga,oa,none⟩) n cap),(6,42,.int .i64 (k:Int)),(7,43,.pointer (some ⟨ga,oa+k*2,none⟩)),(8,44,.agg #[.int .i64 x.a,.int .i64 x.n]),(11,47,.pointer (some ⟨q,0,none⟩)),(12,48,.pointer (some ⟨q,0,none⟩))] (q::(Value.slice A1 m ap).ownBlock.toList) 9 45 10 46 13 q 34 85 (.slice A1 m ap) 59:=⟨rfl,by decide,HY.out,.head _⟩
      have hj:=Up.of_false aa;have hj12:j<14:=by rw[bg]at hj;exact hj
      have e0x:a1.eval (.tmp 0)=.slice (some ⟨ga,oa,none⟩) n cap:=(hI.off.eval (by decide)).trans dr;have e3x:a1.eval (.tmp 3)=.pointer (some ⟨q,0,none⟩):=(hI.off.eval (by decide)).trans mu;have e4x:a1.eval (.tmp 4)=.int .i64 (k:Int):=(hI.off.eval (by decide)).trans kx;rcases(by omega:j=0\/j=1\/j=2\/j=3\/j=4\/j=5\/j=6\/j=7\/j=8\/j=9\/j=10\/j=11\/j=12\/j=13) with rfl|rfl|rfl|rfl|rfl|rfl|rfl|rfl|rfl|rfl|rfl|rfl|rfl|rfl<;>obtain rfl:=oi ho
      ·exact cG hk hI hs (.head _) aa ho rfl rfl (by simp[execOp,go_sem,aF e3x])
      ·exact cG hk hI hs (.tail _ (.head _)) aa ho rfl rfl (by simp[execOp,go_sem,aF e3x])
      ·have d1:=ud zd 1;have p1:=pk hI.pt 1 rfl d1;exact cG hk hI hs (mm 2 rfl) aa ho rfl rfl (by simp[execOp,go_sem,aF p1])
      ·have d2:=ud zd 2;have p2:=pk hI.pt 2 rfl d2;exact cG hk hI hs (mm 3 rfl) aa ho rfl rfl (by simp[execOp,go_sem,aF p2])
      ·have d3:=ud zd 3;have p3:=pk hI.pt 3 rfl d3;have c0:=(hI.unl aa).cell 0;simp only[za,zb]at c0;exact cG hk hI hs (mm 4 rfl) aa ho rfl rfl (by simp[execOp,go_sem,aF p3,c0])
      ·exact cG hk hI hs (mm 5 rfl) aa ho rfl rfl (by simp[execOp,go_sem,aF e0x])
      ·exact cG hk hI hs (mm 6 rfl) aa ho rfl rfl (by simp[execOp,go_sem,aF e4x])
      ·have d5:=ud zd 5;have p5:=pk hI.pt 5 rfl d5;have d6:=ud zd 6;have p6:=pk hI.pt 6 rfl d6;exact cG hk hI hs (mm 7 rfl) aa ho rfl rfl (by simp[execOp,go_sem,aF p5,aF p6,hkn])
      ·have d7:=ud zd 7;have p7:=pk hI.pt 7 rfl d7;exact cG hk hI hs (mm 8 rfl) aa ho rfl rfl (aW 34 (.tmp 43) rfl ga (oa+k*2) p7 [.int .i64 x.a,.int .i64 x.n] _ (fun j v hv=>(hI.kp.cell (g:=ga) (i:=oa+k*2+j) hga4 hbY.out).trans (HRx4.out j v hv)) Tryz.underlying34 rfl pU)
      ·have d8:=ud zd 8;have p8:=pk hI.pt 8 rfl d8;exact uB hk hI hs aa ho rfl rfl (by simp[execOp,go_sem,aF p8])
      ·have d4:=ud zd 4;have p4:=pk hI.pt 4 rfl d4;have d9:=ud zd 9;obtain⟨i1,gi,gz0,gz1,gz2⟩:=info_parts uEV;exact uET hk hI hs aa ho rfl rfl d4 d9 22 40 rfl p4 i1 (.agg #[.int .i64 0,.int .i64 0]) 16 Tryz.underlying22 gi gz0 gz1 gz2 rfl (by decide) rfl (by intro u hu;simp at hu;rcases hu with rfl|rfl <;> rfl) (by unfold maxLen;omega) (by omega) (yv hZ4.out hI.kp.size)
      ·have d0:=ud zd 0;have p0:=pk hI.pt 0 rfl d0;exact cG hk hI hs (mm 9 rfl) aa ho rfl rfl (by simp[execOp,go_sem,aF p0])
      ·have d11:=ud zd 11;have p11:=pk hI.pt 9 rfl d11;exact cG hk hI hs (mm 10 rfl) aa ho rfl rfl (by simp[execOp,go_sem,aF p11])
      have d12:=ud zd 12;have p12:=pk hI.pt 10 rfl d12;have d10:=ud zd 10;exact uC hk hI aa ho rfl rfl d10 (fun hL jx=>by
       obtain⟨gs,cs,jx⟩:=jx;have c0:=hL.cell 0;have k0:=hL.frozen 0;simp at c0;rw[jx];simp[execOp,go_sem,aF p12,aF jx,c0,k0])
     intro zl a1 w1 hI aw;have ae:=aq.out;subst ae;have jn:=hI.kp;have al:=hI.o2 (aw 10 (by decide));have j1:=(hI.b2 (aw 13 (by decide))).2;obtain⟨ff,rfl,hf⟩:=hI.off.forms;rw[<- hf 46]at al j1;clear hI;generalize ff 46=v' at *;simp only[List.foldl,Act.put,yz,List.set];simp only[Exit.then]
     go_step
     go_meet
     exact⟨v',zh j1,zh al,zh jn⟩
    case rest=>
     obtain⟨v1',od,tg,j3⟩:=hcut;obtain⟨A1',qi,rfl⟩:=fE tg.out;have la:=zh (kD ce.out j3.out (fun g hg=>by
      intro hm;rcases ym.1 hm with h|h
      ·subst h;exact gT (by decide) ce.out HX4.out hg.symm
      exact qD (by decide) ce.out de.out g hg (by simpa using h)))
     have di:=zh (pf.out.trans (j3.out.below (B:=q) (fun g hg=>by
      rcases ym.1 hg with h|h
      ·omega
      have:=(cV de.out g (by simpa using h)).1;omega) (by have:=hZ4.out;omega)))
     have zw:Hid (q+1<=wc.heap.size):=zh (yv hZ4.out j3.out.size);clear HX4 de ce j3 pf hZ4 HY hbY hM4 HRx4 hga4;have x1:=od.out.cell 1;have f1:=od.out.frozen 1;simp only[za,zb,zf]at x1;have hqz:q<wc.heap.size:=by have:=zw.out;omega
     obtain⟨i1,gi,gz0,gz1,gz2⟩:=info_parts uAZ
     go_wp2_with (at_builtin;refine wpList_append_own _ rfl _ _ 78 rfl (q+1) 4 i1 (.bool false) 1 1 Tryz.underlying78 gi gz0 gz1 gz2 rfl (by decide) _ _ _ rfl (World.ownsRow.alloc la.out _) ⟨wc.heap.size,0,none⟩ 1 1 [.bool true] rfl rfl ?c1 ?c2 ?c3 ?c4 ?c5 ?_)
     case c1=>
      intro j u hj
      match j,hj with
      |0,hj=>simp at hj;subst hj;simp[Addr.add]
     case c2=>intro u hu;simp at hu;subst hu;rfl
     case c3=>unfold maxLen;omega
     case c4=>omega
     case c5=>have:=zw.out;rw[World.size_alloc];omega
     intro v2' W6 dm cu _;obtain⟨A2',qj,rfl⟩:=fE dm;have m5:wc.grownBy W6 (Value.slice A2 m cap2).ownBlock:=(World.grownBy_alloc wc _ _).trans cu;have tn:=zh (od.out.grownA m5 (gT (by decide) la.out od.out));have HR6:=zh (World.ownsRow.kept tg.out m5 (by
      cases hv:(Value.slice A1' (m+1) qi).ownBlock with
      |none=>exact .inl rfl
      |some g=>exact .inr (fun e=>qD (by decide) tg.out la.out g hv e.symm)))
     have HR62:=zh dm;have HB6:=zh (di.out.grown m5 (by have:=zw.out;omega) (fun g hg=>by have:=(cV la.out g hg).1;omega));have HZ6:Hid (q+1<=W6.heap.size):=zh (yv zw.out m5.size);clear m5 cu dm od tg la di zw x1 f1 hqz;have x1:=tn.out.cell 1;have f1:=tn.out.frozen 1;simp only[za,zb,zf]at x1
     go_wp2_with fail
     go_roundw
     case rel=>
      refine⟨k+1,.slice A1' (m+1) qi,.slice A2' (m+1) qj,by go_num,by omega,zh ⟨tn.out.put 1 _,?_,?_⟩,zh (HB6.out.setCell (p:=⟨q,1,none⟩) (Nat.le_refl q) _),zh (by rw[World.size_setCell];exact HZ6.out)⟩
      ·rw[j0.out,ij.out,mG,yl,HLe.out];exact nY (by decide) HR6.out tn.out 1 _
      rw[j0.out,ij.out,yl,HLe.out];have h:=nY (by decide) HR62.out tn.out 1 (.slice A2' (m+1) qj);rw[show (List.replicate (m+[x].length) true).map Value.bool=(List.replicate m true).map Value.bool++[.bool true] from by rw[List.length_singleton,List.replicate_succ',List.map_append];rfl,List.map_replicate];exact h
     case measure=>first |(simp[intOf];done) |(simp[intOf];omega)
  obtain rfl:k=n:=by omega
  rw[HN.out,HAll.out]at hM
  go_wp2_with fail
  go_ret
  exact⟨v1,v2,by rw[HQ.out];rfl,by rw[HQ.out];exact hM.out,by rw[HQ.out];exact hB.out⟩
theorem eK(c:UInt8)(w:World) :
  Calls Tryz.prog 84 #[.int .u8 (c.toNat:Int)] w fun e w'=>e=.returned (.bool (cD c))/\w=w':=by
 go_enter Tryz.func84,Tryz.ntmps84
 go_wp2
 all_goals go_ret
 all_goals exact⟨aI (by unfold cD;rw[ze];simp;try omega),rfl⟩
theorem eZ(c:UInt8)(w:World) :
  Calls Tryz.prog 85 #[.int .u8 (c.toNat:Int)] w fun e w'=>e=.returned (.bool (aB c))/\w=w':=by
 go_enter Tryz.func85,Tryz.ntmps85
 go_wp2
 all_goals go_ret
 all_goals exact⟨aI (by unfold aB;rw[ze];simp;try omega),rfl⟩
theorem sG(l:Bs)(w:World)(hs:l.length<=maxLen) :
  Calls Tryz.prog 102 #[.string ⟨l.toArray⟩] w fun e w'=>e=.returned (.bool (l.all aB))/\w=w':=by
 unfold maxLen at hs
 go_enter Tryz.func102,Tryz.ntmps102
 go_wp2
 go_loop [3] (fun i=>∃ k:Nat,k<=l.length/\i=.int .i64 k/\(l.take k).all aB=true) (fun i=>l.length-(intOf i).toNat)
 case atStart=>exact⟨0,zm _,rfl,by simp⟩
 case round=>
  obtain⟨k,hk,rfl,hr⟩:=hrel;have HR:=zh hr;clear hr;by_cases hlt:k<l.length
  ·cases hd:aB l[k]
   ·have HQ:=zh (oP hlt hd)
    go_wp2_with (go_at_call 85;refine(eZ _ _).mono ?_;rintro e w' ⟨rfl,rfl⟩)
    go_ret
    exact⟨aI (by rw[HQ.out]),rfl⟩
   have HQ:=zh (kX HR.out hlt hd)
   go_wp2_with (go_at_call 85;refine(eZ _ _).mono ?_;rintro e w' ⟨rfl,rfl⟩)
   go_round
   case rel=>exact⟨k+1,by omega,by go_num,HQ.out⟩
   case measure=>simp[intOf];omega
  have HQ:Hid (l.all aB=true):=zh (by have h:=HR.out;rw[List.take_of_length_le (by omega)]at h;exact h)
  go_wp2
  go_ret
  exact⟨aI (by rw[HQ.out]),rfl⟩
def uY(l:Bs):Bool:=decide (aP l<=3)&&(decide (aP l<l.length)&&(decide (l.length<=7+aP l)&&(!aZ l (aP l) 48&&(l.drop (aP l)).all aB)))
theorem uKK(l:Bs)(w:World)(hs:l.length<=100000) :
  Calls Tryz.prog 86 #[.string ⟨l.toArray⟩] w fun e w'=>e=.returned (.bool (uY l))/\w=w':=by
 have HD:=zh (fun k W=>sG (l.drop k) W (by rw[yk];unfold maxLen;omega));unfold uY aP
 go_enter Tryz.func86,Tryz.ntmps86
 go_wp2
 go_loop [3] (fun i=>∃ k:Nat,k<=l.length/\i=.int .i64 k/\k<=aM cD l) (fun i=>l.length-(intOf i).toNat)
 case atStart=>exact⟨0,zm _,rfl,zm _⟩
 case round=>
  obtain⟨k,hk,rfl,hr⟩:=hrel;have HK:=zh hr;clear hr;by_cases jp:∃ h:k<l.length,cD l[k]=true
  ·obtain⟨hlt,hd⟩:=jp;have HQ:=zh (gI _ _ _ HK.out hlt hd)
   go_wp2_with (go_at_call 84;refine(eK _ _).mono ?_;rintro e w' ⟨rfl,rfl⟩)
   go_round
   case rel=>exact⟨k+1,by omega,by go_num,HQ.out⟩
   case measure=>simp[intOf];omega
  have el:¬ k<l.length\/∃ h:k<l.length,cD l[k]=false:=by
   by_cases hlt:k<l.length
   ·exact .inr ⟨hlt,by cases h:cD l[k];rfl;exact absurd ⟨hlt,h⟩ jp⟩
   exact .inl hlt
  have HQ:Hid (aM cD l=k):=zh (by
   rcases el with h|⟨h,hd⟩
   ·have:=bT cD l;have:=HK.out;omega
   exact kW _ _ _ HK.out h hd)
  clear jp;rcases el with hlt|⟨hlt,hd⟩
  all_goals go_upto_region 4 with(go_at_call 84;refine(eK _ _).mono ?_;rintro e w' ⟨rfl,rfl⟩)
  ·by_cases e1:k<=3
   all_goals
    go_wp2_with fail
    go_ret
    exact⟨aI (by rw[HQ.out];simp[e1,hlt]),rfl⟩
  clear hd;by_cases e1:k<=3
  ·by_cases e3:l.length<=7+k
   ·have e4:(l.length:Int)-(k:Int)<=7:=by omega
    have hq:=mV l k 48 48 rfl hlt;cases h48:aZ l k 48 with
    |true=>
     rw[h48]at hq
     go_wp2_with fail
     go_ret
     exact⟨aI (by rw[HQ.out];simp[h48]),rfl⟩
    |false=>
     rw[h48]at hq;have lz:=zh (HD.out k w)
     go_wp2_with fail
     refine lz.out.mono ?_;rintro e w' ⟨rfl,rfl⟩
     go_wp2_with fail
     go_ret
     exact⟨aI (by rw[HQ.out,decide_eq_true e3];simp[e1,hlt,h48]),rfl⟩
   have e4:¬ (l.length:Int)-(k:Int)<=7:=by omega
   go_wp2_with fail
   go_ret
   exact⟨aI (by rw[HQ.out,decide_eq_false e3];simp),rfl⟩
  go_wp2_with fail
  go_ret
  exact⟨aI (by rw[HQ.out];simp[e1]),rfl⟩
theorem vP{p:UInt8->Bool}{l:Bs}(h:l.all p=true):aM p l=l.length:=by
 induction l with
 |nil=>rfl
 |cons c l ih=>
  rw[List.all_cons,yh]at h;rw[aM,h.1,ih h.2];simp
theorem uAC{l:Bs}(h:bR l=true):uY l=false:=by
 cases hm:uY l with
 |false=>rfl
 |true=>
  unfold uY at hm;simp only[yh,decide_eq_true_eq]at hm;obtain⟨h1,h2,h3,h4,h5⟩:=hm;have h6:aS (l.drop (aP l))=l.length-aP l:=by unfold aS;rw[vP h5,yk]
  unfold bR at h;rw[h6,h4,decide_eq_true h1,decide_eq_true (show l.length-aP l<=7 by omega),decide_eq_true (show 1<=l.length-aP l by omega),decide_eq_true (show aP l+(l.length-aP l)=l.length by omega)]at h;simp at h
theorem uDY{l:Bs}(h:bR l=true):∃ h0:0<l.length,l.length<=32/\cD l[0]=true/\l.all lB=true:=by
 cases l with
 |nil=>cases h
 |cons c t=>
  unfold bR at h;simp only[yh,decide_eq_true_eq]at h;exact⟨h.1.1.1.1,h.1.1.1.2,h.1.1.2,h.1.2⟩
set_option maxRecDepth 100000 in
theorem uCP(l:Bs)(w:World)(h:bR l=true) :
  Calls Tryz.prog 61 #[.string ⟨l.toArray⟩] w fun e w'=>e=.returned (.bool true)/\w=w':=by
 obtain⟨h0,oj,fd,bk⟩:=uDY h;have HM:=zh (uKK l w (by omega));rw[uAC h]at HM;have se:=zh bk;have h1i:¬ (l.length:Int)<1:=by omega
 have xt:¬ (32:Int)<(l.length:Int):=by omega
 clear h bk
 go_enter Tryz.func61,Tryz.ntmps61
 go_wp2_with (go_at_call 84;refine(eK _ _).mono ?_;rintro e w' ⟨rfl,rfl⟩)
 clear fd
 go_loop [3] (fun i=>∃ k:Nat,1<=k/\k<=l.length/\i=.int .i64 k) (fun i=>l.length-(intOf i).toNat)
 case atStart=>exact⟨1,zr,h0,rfl⟩
 case round=>
  obtain⟨k,dc,hk,rfl⟩:=hrel;by_cases hlt:k<l.length
  ·have mp:=mX l[k] 46 46 rfl;have hd:lB l[k]=true:=List.all_eq_true.1 se.out _ (List.getElem_mem hlt);unfold lB at hd;cases d1:cD l[k] with
   |true=>
    clear hd
    go_wp2_with (first |(go_at_call 84;refine(eK _ _).mono ?_;rintro e w' ⟨rfl,rfl⟩) |(go_at_call 85;refine(eZ _ _).mono ?_;rintro e w' ⟨rfl,rfl⟩))
    go_round
    case rel=>exact⟨k+1,by omega,by omega,by go_num⟩
    case measure=>simp[intOf];omega
   |false=>
    cases d2:aB l[k] with
    |true=>
     clear hd
     go_wp2_with (first |(go_at_call 84;refine(eK _ _).mono ?_;rintro e w' ⟨rfl,rfl⟩) |(go_at_call 85;refine(eZ _ _).mono ?_;rintro e w' ⟨rfl,rfl⟩))
     go_round
     case rel=>exact⟨k+1,by omega,by omega,by go_num⟩
     case measure=>simp[intOf];omega
    |false=>
     have d3:(l[k]==46)=true:=by rw[d1,d2]at hd;simpa using hd
     rw[d3]at mp;clear hd
     go_wp2_with (first |(go_at_call 84;refine(eK _ _).mono ?_;rintro e w' ⟨rfl,rfl⟩) |(go_at_call 85;refine(eZ _ _).mono ?_;rintro e w' ⟨rfl,rfl⟩))
     go_round
     case rel=>exact⟨k+1,by omega,by omega,by go_num⟩
     case measure=>simp[intOf];omega
  go_wp2_with fail
  refine HM.out.mono ?_;rintro e w' ⟨rfl,rfl⟩
  go_wp2_with fail
  go_ret
  exact⟨rfl,rfl⟩
def zE(l:Bs):Bool:=(decide (1<=aP l)&&(decide (aP l<=3)&&(decide (aP l<l.length)&&(l.drop (aP l)).all aB)))||gS l
theorem oM{l:Bs}{a k:Nat}(h1:a<=k)(h2:k-a<=aM aB (l.drop a))(hlt:k<l.length)(hd:aB l[k]=true):k+1-a<=aM aB (l.drop a):=by
 have h3:k-a<(l.drop a).length:=by rw[yk];omega
 have h4:(l.drop a)[k-a]=l[k]:=by rw[List.getElem_drop];congr 1;omega
 have:=gI aB (l.drop a) (k-a) h2 h3 (by rw[h4];exact hd);omega
theorem qH{l:Bs}{a k:Nat}(h1:a<=k)(h2:k-a<=aM aB (l.drop a))(hk:k<=l.length)(el:¬ k<l.length\/∃ h:k<l.length,aB l[k]=false):k=a+aM aB (l.drop a):=by
 have h5:=bT aB (l.drop a);rw[yk]at h5;rcases el with h|⟨hlt,hd⟩
 ·omega
 have h3:k-a<(l.drop a).length:=by rw[yk];omega
 have h4:(l.drop a)[k-a]=l[k]:=by rw[List.getElem_drop];congr 1;omega
 have:=kW aB (l.drop a) (k-a) h2 h3 (by rw[h4];exact hd);omega
theorem uBR{l:Bs}(h:bS l=true):zE l=false:=by
 unfold bS at h;simp only[yh,Bool.not_eq_true',decide_eq_true_eq,Bool.or_eq_false_iff]at h;obtain⟨⟨_,h1⟩,h2⟩:=h;unfold zE;rw[h1.2,Bool.or_false];cases hm:(decide (1<=aP l)&&(decide (aP l<=3)&&(decide (aP l<l.length)&&(l.drop (aP l)).all aB))) with
 |false=>rfl
 |true=>
  simp only[yh,decide_eq_true_eq]at hm;obtain⟨g1,g2,g3,g5⟩:=hm;have h6:aS (l.drop (aP l))=l.length-aP l:=by unfold aS;rw[vP g5,yk]
  rw[h6,decide_eq_true g1,decide_eq_true g2,decide_eq_true (show 1<=l.length-aP l by omega),decide_eq_true (show aP l+(l.length-aP l)=l.length by omega)]at h2;simp at h2
theorem uFM{l:Bs}(h:bS l=true):∃ h0:0<l.length,l.length<=32/\(cD l[0]||l[0]==95)=true/\l.all lC=true/\(l==kI)=false/\(l==iQ)=false:=by
 cases l with
 |nil=>cases h
 |cons c t=>
  unfold bS at h;simp only[yh,Bool.not_eq_true',decide_eq_true_eq,Bool.or_eq_false_iff]at h;exact⟨h.1.1.1.1.1,h.1.1.1.1.2,h.1.1.1.2,h.1.1.2,h.1.2.1.1,h.1.2.1.2⟩
set_option maxRecDepth 100000 in
theorem uKJ(l:Bs)(w:World)(hs:l.length<=100000) :
  Calls Tryz.prog 87 #[.string ⟨l.toArray⟩] w fun e w'=>e=.returned (.bool (zE l))/\w=w':=by
 have HD:=zh (fun k W=>sG (l.drop k) W (by rw[yk];unfold maxLen;omega));obtain⟨R,hR⟩:∃ R,zE l=R:=⟨_,rfl⟩
 have HR:=zh hR;rw[hR];clear hR
 go_enter Tryz.func87,Tryz.ntmps87
 go_upto_block 0 with fail
 go_cut [3] (fun v wx=>v=.int .i64 (aP l:Nat)/\Hid (wx=w))
 case first=>
  go_wp2_with fail
  go_loop [3] (fun i=>∃ k:Nat,k<=l.length/\i=.int .i64 k/\k<=aM cD l) (fun i=>l.length-(intOf i).toNat)
  case atStart=>exact⟨0,zm _,rfl,zm _⟩
  case round=>
   obtain⟨k,hk,rfl,hr⟩:=hrel;have HK:=zh hr;clear hr;by_cases jp:∃ h:k<l.length,cD l[k]=true
   ·obtain⟨hlt,hd⟩:=jp;have HQ:=zh (gI _ _ _ HK.out hlt hd)
    go_wp2_with (go_at_call 84;refine(eK _ _).mono ?_;rintro e w' ⟨rfl,rfl⟩)
    go_round
    case rel=>exact⟨k+1,by omega,by go_num,HQ.out⟩
    case measure=>simp[intOf];omega
   have el:¬ k<l.length\/∃ h:k<l.length,cD l[k]=false:=by
    by_cases hlt:k<l.length
    ·exact .inr ⟨hlt,by cases h:cD l[k];rfl;exact absurd ⟨hlt,h⟩ jp⟩
    exact .inl hlt
   have HQ:Hid (aM cD l=k):=zh (by
    rcases el with h|⟨h,hd⟩
    ·have:=bT cD l;have:=HK.out;omega
    exact kW _ _ _ HK.out h hd)
   clear jp;rcases el with hlt|⟨hlt,hd⟩
   all_goals go_wp2_with (go_at_call 84;refine(eK _ _).mono ?_;rintro e w' ⟨rfl,rfl⟩)
   all_goals go_meet
   all_goals exact⟨by unfold aP;rw[HQ.out],zh rfl⟩
 case rest=>
 obtain⟨rfl,hcut⟩:=hcut;have qd:=hcut.out;subst qd;clear hcut;have hkl:aP l<=l.length:=bT cD l;have ce:Hid (((decide (1<=aP l)&&(decide (aP l<=3)&&(decide (aP l<l.length)&&(l.drop (aP l)).all aB)))||gS l)=R):=zh HR.out;have lz:=zh (HD.out (aP l) wc);clear HR HD;generalize (l.drop (aP l)).all aB=ad at *;generalize aP l=k at *
 go_upto_region 4 with fail
 go_cut [34] (fun v wx=>v=.bool (decide (1<=k)&&(decide (k<=3)&&(decide (k<l.length)&&ad)))/\Hid (wx=wc))
 case first=>
  by_cases e1:1<=k
  ·by_cases e2:k<=3
   ·by_cases e3:k<l.length
    ·go_wp2_with fail
     refine lz.out.mono ?_;rintro e w' ⟨rfl,rfl⟩
     go_wp2_with fail
     go_meet
     exact⟨by simp[e1,e2,e3],zh rfl⟩
    go_wp2_with fail
    go_meet
    exact⟨by simp[e3],zh rfl⟩
   go_wp2_with fail
   go_meet
   exact⟨by simp[e2],zh rfl⟩
  go_wp2_with fail
  go_meet
  exact⟨by simp[e1],zh rfl⟩
 case rest=>
 obtain⟨rfl,hcut⟩:=hcut;have qd:=hcut.out;subst qd;clear hcut lz;generalize (decide (1<=k)&&(decide (k<=3)&&(decide (k<l.length)&&ad)))=c at *;cases c with
 |true=>
  have ev:Hid (true=R):=zh ce.out
  go_wp2_with fail
  go_ret
  exact⟨aI ev.out,rfl⟩
 |false=>
 have ev:Hid (gS l=R):=zh ce.out;clear ce
 go_upto_region 7 with fail
 go_cut [44] (fun v wx=>v=.bool (aZ l 0 82)/\Hid (wx=wc))
 case first=>
  by_cases h0:0<l.length
  ·have hq:=iE l 0 82 82 rfl h0
   go_wp2_with fail
   go_meet
   exact⟨rfl,zh rfl⟩
  have hq:=iF l 0 82 (by omega)
  go_wp2_with fail
  go_meet
  exact⟨by rw[hq],zh rfl⟩
 case rest=>
 obtain⟨rfl,hcut⟩:=hcut;have qd:=hcut.out;subst qd;clear hcut;unfold gS at ev;have HAL:Hid ((if aZ l 0 82=true then 1+aS (l.drop 1) else 0)<=l.length):=zh (by
  split
  ·rename_i h
   have h1:=at_lt _ _ _ h;have h2:=bT aB (l.drop 1);rw[yk]at h2;unfold aS;omega
  exact zm _)
 go_upto_if 44 with fail
 go_cut [4] (fun v wx=>v=.int .i64 ((if aZ l 0 82=true then 1+aS (l.drop 1) else 0:Nat):Int)/\Hid (wx=wc))
 case first=>
  cases h82:aZ l 0 82 with
  |true=>
   have hlt0:=at_lt _ _ _ h82
   go_wp2_with fail
   go_loop [4] (fun i=>∃ k:Nat,1<=k/\k<=l.length/\i=.int .i64 k/\k-1<=aM aB (l.drop 1)) (fun i=>l.length-(intOf i).toNat)
   case atStart=>exact⟨1,zr,by omega,by go_num,by omega⟩
   case round=>
    obtain⟨k2,dc,hk,rfl,hr⟩:=hrel;have HK:=zh hr;clear hr;by_cases jp:∃ h:k2<l.length,aB l[k2]=true
    ·obtain⟨hlt,hd⟩:=jp;have HQ:=zh (oM dc HK.out hlt hd)
     go_wp2_with (go_at_call 85;refine(eZ _ _).mono ?_;rintro e w' ⟨rfl,rfl⟩)
     go_round
     case rel=>exact⟨k2+1,by omega,by omega,by go_num,HQ.out⟩
     case measure=>simp[intOf];omega
    have el:¬ k2<l.length\/∃ h:k2<l.length,aB l[k2]=false:=by
     by_cases hlt:k2<l.length
     ·exact .inr ⟨hlt,by cases h:aB l[k2];rfl;exact absurd ⟨hlt,h⟩ jp⟩
     exact .inl hlt
    have HQ:=zh (qH dc HK.out hk el);clear jp;rcases el with hlt|⟨hlt,hd⟩
    all_goals go_wp2_with (go_at_call 85;refine(eZ _ _).mono ?_;rintro e w' ⟨rfl,rfl⟩)
    all_goals go_meet
    all_goals exact⟨by rw[if_pos h82,HQ.out];rfl,zh rfl⟩
  |false=>
   go_wp2_with fail
   go_meet
   exact⟨by rw[if_neg (by rw[h82];decide)];rfl,zh rfl⟩
 case rest=>
 obtain⟨rfl,hcut⟩:=hcut;have qd:=hcut.out;subst qd;clear hcut;generalize (if aZ l 0 82=true then 1+aS (l.drop 1) else 0)=a at *;have hal:=HAL.out;clear HAL
 go_upto_region 11 with fail
 go_cut [68] (fun v wx=>v=.bool (aZ l a 67)/\Hid (wx=wc))
 case first=>
  by_cases h0:a<l.length
  ·have hq:=iE l a 67 67 rfl h0
   go_wp2_with fail
   go_meet
   exact⟨rfl,zh rfl⟩
  have hq:=iF l a 67 (by omega)
  go_wp2_with fail
  go_meet
  exact⟨by rw[hq],zh rfl⟩
 case rest=>
 obtain⟨rfl,hcut⟩:=hcut;have qd:=hcut.out;subst qd;clear hcut
 go_upto_if 68 with fail
 go_cut [4] (fun v wx=>v=.int .i64 ((if aZ l a 67=true then a+1+aS (l.drop (a+1)) else a:Nat):Int)/\Hid (wx=wc))
 case first=>
  cases h67:aZ l a 67 with
  |true=>
   have hlt0:=at_lt _ _ _ h67
   go_wp2_with fail
   go_loop [4] (fun i=>∃ k:Nat,(a+1)<=k/\k<=l.length/\i=.int .i64 k/\k-(a+1)<=aM aB (l.drop (a+1))) (fun i=>l.length-(intOf i).toNat)
   case atStart=>exact⟨(a+1),zr,by omega,by go_num,by omega⟩
   case round=>
    obtain⟨k2,dc,hk,rfl,hr⟩:=hrel;have HK:=zh hr;clear hr;by_cases jp:∃ h:k2<l.length,aB l[k2]=true
    ·obtain⟨hlt,hd⟩:=jp;have HQ:=zh (oM dc HK.out hlt hd)
     go_wp2_with (go_at_call 85;refine(eZ _ _).mono ?_;rintro e w' ⟨rfl,rfl⟩)
     go_round
     case rel=>exact⟨k2+1,by omega,by omega,by go_num,HQ.out⟩
     case measure=>simp[intOf];omega
    have el:¬ k2<l.length\/∃ h:k2<l.length,aB l[k2]=false:=by
     by_cases hlt:k2<l.length
     ·exact .inr ⟨hlt,by cases h:aB l[k2];rfl;exact absurd ⟨hlt,h⟩ jp⟩
     exact .inl hlt
    have HQ:=zh (qH dc HK.out hk el);clear jp;rcases el with hlt|⟨hlt,hd⟩
    all_goals go_wp2_with (go_at_call 85;refine(eZ _ _).mono ?_;rintro e w' ⟨rfl,rfl⟩)
    all_goals go_meet
    all_goals exact⟨by rw[if_pos h67,HQ.out];rfl,zh rfl⟩
  |false=>
   go_wp2_with fail
   go_meet
   exact⟨by rw[if_neg (by rw[h67];decide)],zh rfl⟩
 case rest=>
 obtain⟨rfl,hcut⟩:=hcut;have qd:=hcut.out;subst qd;clear hcut;dsimp only at ev;generalize (if aZ l a 67=true then a+1+aS (l.drop (a+1)) else a)=b at *
 go_wp2_with fail
 go_ret
 exact⟨aI (by rw[<- ev.out,ze];simp;try omega),rfl⟩
set_option maxRecDepth 100000 in
theorem rName_ok(l:Bs)(w:World)(h:bS l=true) :
  Calls Tryz.prog 63 #[.string ⟨l.toArray⟩] w fun e w'=>e=.returned (.bool true)/\w=w':=by
 obtain⟨h0,oj,fd,bk,hT,hF⟩:=uFM h;have HM:=zh (uKJ l w (by omega));rw[uBR h]at HM;have se:=zh bk;have h1i:¬ (l.length:Int)<1:=by omega
 have xt:¬ (32:Int)<(l.length:Int):=by omega
 have e1:(l==([84,82,85,69]:Bs))=false:=hT;have e2:(l==([70,65,76,83,69]:Bs))=false:=hF;have xv:=mX l[0] 95 95 rfl;clear h bk hT hF
 go_enter Tryz.func63,Tryz.ntmps63
 go_upto_region 1 with fail
 go_cut [34] (fun v wx=>v=.bool false/\Hid (wx=w))
 case first=>
  cases eu:cD l[0] with
  |true=>
   clear fd xv
   go_wp2_with (go_at_call 84;refine(eK _ _).mono ?_;rintro e w' ⟨rfl,rfl⟩)
   refine HM.out.mono ?_;rintro e w' ⟨rfl,rfl⟩
   go_wp2_with fail
   go_meet
   exact⟨rfl,zh rfl⟩
  |false=>
   have h2:(l[0]==95)=true:=by rw[eu]at fd;simpa using fd
   rw[h2]at xv;clear fd h2
   go_wp2_with (go_at_call 84;refine(eK _ _).mono ?_;rintro e w' ⟨rfl,rfl⟩)
   refine HM.out.mono ?_;rintro e w' ⟨rfl,rfl⟩
   go_wp2_with fail
   go_meet
   exact⟨rfl,zh rfl⟩
 case rest=>
 obtain⟨rfl,hcut⟩:=hcut;have qd:=hcut.out;subst qd;clear hcut fd xv HM e1 e2
 go_wp2_with fail
 go_loop [3] (fun i=>∃ k:Nat,1<=k/\k<=l.length/\i=.int .i64 k) (fun i=>l.length-(intOf i).toNat)
 case atStart=>exact⟨1,zr,h0,rfl⟩
 case round=>
  obtain⟨k,dc,hk,rfl⟩:=hrel;by_cases hlt:k<l.length
  ·have mp:=mX l[k] 46 46 rfl;have xw:=mX l[k] 95 95 rfl;have hd:lC l[k]=true:=List.all_eq_true.1 se.out _ (List.getElem_mem hlt);unfold lC at hd;cases d1:cD l[k] with
   |true=>
    clear hd
    go_wp2_with (first |(go_at_call 84;refine(eK _ _).mono ?_;rintro e w' ⟨rfl,rfl⟩) |(go_at_call 85;refine(eZ _ _).mono ?_;rintro e w' ⟨rfl,rfl⟩))
    go_round
    case rel=>exact⟨k+1,by omega,by omega,by go_num⟩
    case measure=>simp[intOf];omega
   |false=>
    cases d2:aB l[k] with
    |true=>
     clear hd
     go_wp2_with (first |(go_at_call 84;refine(eK _ _).mono ?_;rintro e w' ⟨rfl,rfl⟩) |(go_at_call 85;refine(eZ _ _).mono ?_;rintro e w' ⟨rfl,rfl⟩))
     go_round
     case rel=>exact⟨k+1,by omega,by omega,by go_num⟩
     case measure=>simp[intOf];omega
    |false=>
     rw[d1,d2]at hd;cases d3:(l[k]==46) with
     |true=>
      rw[d3]at mp;clear hd
      go_wp2_with (first |(go_at_call 84;refine(eK _ _).mono ?_;rintro e w' ⟨rfl,rfl⟩) |(go_at_call 85;refine(eZ _ _).mono ?_;rintro e w' ⟨rfl,rfl⟩))
      go_round
      case rel=>exact⟨k+1,by omega,by omega,by go_num⟩
      case measure=>simp[intOf];omega
     |false=>
      have d4:(l[k]==95)=true:=by rw[d3]at hd;simpa using hd
      rw[d3]at mp;rw[d4]at xw;clear hd
      go_wp2_with (first |(go_at_call 84;refine(eK _ _).mono ?_;rintro e w' ⟨rfl,rfl⟩) |(go_at_call 85;refine(eZ _ _).mono ?_;rintro e w' ⟨rfl,rfl⟩))
      go_round
      case rel=>exact⟨k+1,by omega,by omega,by go_num⟩
      case measure=>simp[intOf];omega
  go_wp2_with fail
  go_ret
  exact⟨rfl,rfl⟩
def TxtAt(w:World)(g:Nat)(xs:List Bs):Prop:=∀ j (h:j<xs.length),w.cell? ⟨g,j,none⟩=some (.string ⟨xs[j].toArray⟩)
theorem rIn_ok(s:Bs)(g cp:Nat)(xs:List Bs)(w:World)(hx:TxtAt w g xs)(hs:s∈xs)(hl:xs.length<=100) :
  Calls Tryz.prog 62 #[.string ⟨s.toArray⟩,.slice (some ⟨g,0,none⟩) xs.length cp] w fun e w'=>e=.returned (.bool true)/\w=w':=by
 have HX:=zh hx;have HS:=zh hs;clear hx hs
 go_enter Tryz.func62,Tryz.ntmps62
 go_wp2
 go_loop [5] (fun i=>∃ k:Nat,k<=xs.length/\i=.int .i64 k/\Hid (s∉xs.take k)) (fun i=>xs.length-(intOf i).toNat)
 case atStart=>exact⟨0,zm _,rfl,zh (by simp)⟩
 case round=>
  obtain⟨k,hk,rfl,HN⟩:=hrel;by_cases hlt:k<xs.length
  ·have x0:=HX.out k hlt;have lh:(k:Int)<(xs.length:Int):=by omega
   cases hd:(xs[k]==s)
   ·have HQ:Hid (s∉xs.take (k+1)):=zh (by
     rw[yw hlt,List.mem_append,yf];rintro(h|h)
     ·exact HN.out h
     rw[h]at hd;simp at hd)
    go_wp2_with fail
    go_round
    case rel=>exact⟨k+1,by omega,by go_num,HQ⟩
    case measure=>simp[intOf];omega
   go_wp2_with fail
   go_ret
   exact⟨rfl,rfl⟩
  exfalso
  exact HN.out (by rw[List.take_of_length_le (by omega)];exact HS.out)
theorem qG(c:Cor)(w:World) :
  Calls Tryz.prog 59 #[jC c] w fun e w'=>e=.returned (.bool (decide (c.row≠id0)&&decide (c.col≠id0)))/\Below w.heap.size w w':=by
 obtain⟨W1,dv⟩:∃ W1,W1=w.alloc (.cells (mT c) 36):=⟨_,rfl⟩
 have cy:=zh dv;have HL:Hid (Lies W1 w.heap.size 36 (mT c)):=zh (by rw[dv];exact Lies.new _ _ _);have HB:Hid (Below w.heap.size w W1):=zh (by rw[dv];exact zp _);clear dv;have x0:=HL.out.cell 0;have x1:=HL.out.cell 1;have x2:=HL.out.cell 2;have x3:=HL.out.cell 3;simp only[za,zb,zf]at x0 x1 x2 x3;have hlt:=HL.out.lt;obtain⟨r1,jq⟩:∃ b,decide (c.row≠id0)=b:=⟨_,rfl⟩
 obtain⟨r2,j7⟩:∃ b,decide (c.col≠id0)=b:=⟨_,rfl⟩
 have N1:∀ w:World,(binOp .neq 34 (idV c.row) (idV id0)).run Tryz.prog w=.ok (.bool r1) w:=fun w=>by rw[iI,jq]
 have N2:∀ w:World,(binOp .neq 34 (idV c.col) (idV id0)).run Tryz.prog w=.ok (.bool r2) w:=fun w=>by rw[iI,j7]
 rw[jq,j7];clear jq j7
 go_enter Tryz.func59,Tryz.ntmps59
 go_upto_region 1 with fail
 rw[<- cy.out];generalize hq:w.heap.size=q at *;cases r1 <;> cases r2
 all_goals go_wp2_with fail
 all_goals go_ret
 all_goals exact⟨rfl,by first|exact HB.out |(rw[hq];exact HB.out)⟩
set_option maxRecDepth 100000 in
theorem rArea_ok(a b:Cor)(w:World)(h:dL a b=true) :
  Calls Tryz.prog 60 #[jC a,jC b] w fun e w'=>e=.returned (.bool true)/\Below w.heap.size w w':=by
 have HOA:=zh (fun W=>qG a W);have HOB:=zh (fun W=>qG b W);obtain⟨W1,dv⟩:∃ W1,W1=w.alloc (.cells (mT a) 36):=⟨_,rfl⟩
 obtain⟨W2,kq⟩:∃ W2,W2=W1.alloc (.cells (mT b) 36):=⟨_,rfl⟩
 have HLa:Hid (Lies W1 w.heap.size 36 (mT a)):=zh (by rw[dv];exact Lies.new _ _ _);have ui:W1.heap.size=w.heap.size+1:=by rw[dv];simp
 have HBa:Hid (Below w.heap.size w W1):=zh (by rw[dv];exact zp _);have ir:Hid (Lies W2 (w.heap.size+1) 36 (mT b)):=zh (by rw[kq,<- ui];exact Lies.new _ _ _);have tc:Hid (Below W1.heap.size W1 W2):=zh (by rw[kq];exact zp _);have mf:=zh (HLa.out.next tc.out);have co:Hid (Below w.heap.size w W2):=zh (HBa.out.trans (tc.out.mono HBa.out.size));have cy:=zh dv;have HW2:=zh kq;clear dv kq ui HLa HBa tc;unfold dL at h;obtain⟨r1,jq⟩:∃ b,decide (a.row≠id0)=b:=⟨_,rfl⟩
 obtain⟨k1,dc⟩:∃ b,decide (a.col≠id0)=b:=⟨_,rfl⟩
 obtain⟨r2,j7⟩:∃ x,decide (b.row≠id0)=x:=⟨_,rfl⟩
 obtain⟨k2,fg⟩:∃ x,decide (b.col≠id0)=x:=⟨_,rfl⟩
 have flip:∀ (x:IdR) (y:Bool),decide (x≠id0)=y->decide (x=id0)=!y:=fun x y e=>by rw[<- e];by_cases hx:x=id0 <;> simp[hx]
 have N1:∀ w:World,(binOp .neq 34 (idV a.row) (idV id0)).run Tryz.prog w=.ok (.bool r1) w:=fun w=>by rw[iI,jq]
 have N2:∀ w:World,(binOp .neq 34 (idV a.col) (idV id0)).run Tryz.prog w=.ok (.bool k1) w:=fun w=>by rw[iI,dc]
 have N3:∀ w:World,(binOp .neq 34 (idV b.row) (idV id0)).run Tryz.prog w=.ok (.bool r2) w:=fun w=>by rw[iI,j7]
 have N4:∀ w:World,(binOp .neq 34 (idV b.col) (idV id0)).run Tryz.prog w=.ok (.bool k2) w:=fun w=>by rw[iI,fg]
 have E1:∀ w:World,(binOp .eql 34 (idV a.row) (idV id0)).run Tryz.prog w=.ok (.bool (!r1)) w:=fun w=>by rw[yO,flip _ _ jq]
 have E2:∀ w:World,(binOp .eql 34 (idV a.col) (idV id0)).run Tryz.prog w=.ok (.bool (!k1)) w:=fun w=>by rw[yO,flip _ _ dc]
 have E3:∀ w:World,(binOp .eql 34 (idV b.row) (idV id0)).run Tryz.prog w=.ok (.bool (!r2)) w:=fun w=>by rw[yO,flip _ _ j7]
 have E4:∀ w:World,(binOp .eql 34 (idV b.col) (idV id0)).run Tryz.prog w=.ok (.bool (!k2)) w:=fun w=>by rw[yO,flip _ _ fg]
 rw[jq,dc]at HOA;rw[j7,fg]at HOB;dsimp only at h;rw[jq,dc,j7,fg]at h;clear jq dc j7 fg flip;obtain⟨ar,ac,afr,afc⟩:=a;obtain⟨br,bc,bfr,bfc⟩:=b;dsimp only at h N1 N2 N3 N4 E1 E2 E3 E4 HOA HOB mf ir ⊢;cases r1 <;> cases k1 <;> cases r2 <;> cases k2 <;> simp at h
 ·obtain⟨rfl,rfl⟩:=h;have x0:=mf.out.cell 0;have x1:=mf.out.cell 1;have x2:=mf.out.cell 2;have x3:=mf.out.cell 3;have x4:=mf.out.cell 4;have x5:=mf.out.cell 5;have y0:=ir.out.cell 0;have y1:=ir.out.cell 1;have y2:=ir.out.cell 2;have y3:=ir.out.cell 3;have y4:=ir.out.cell 4;have y5:=ir.out.cell 5;simp only[za,zb,zf]at x0 x1 x2 x3 x4 x5;simp only[za,zb,zf]at y0 y1 y2 y3 y4 y5
  go_enter Tryz.func60,Tryz.ntmps60
  go_upto_region 1 with fail
  rw[<- cy.out,<- HW2.out];generalize hq:w.heap.size=q at *
  go_wp2_with fail
  refine(HOA.out _).mono ?_;rintro e w3 ⟨rfl,hb⟩;have au:=zh (co.out.trans (hb.mono (by have:=co.out.size;omega)));have gu:=zh (mf.out.next hb);have gw:=zh (ir.out.next hb);clear x0 x1 x2 x3 x4 x5;clear y0 y1 y2 y3 y4 y5;clear hb;have x0:=gu.out.cell 0;have x1:=gu.out.cell 1;have x2:=gu.out.cell 2;have x3:=gu.out.cell 3;have x4:=gu.out.cell 4;have x5:=gu.out.cell 5;have y0:=gw.out.cell 0;have y1:=gw.out.cell 1;have y2:=gw.out.cell 2;have y3:=gw.out.cell 3;have y4:=gw.out.cell 4;have y5:=gw.out.cell 5;simp only[za,zb,zf]at x0 x1 x2 x3 x4 x5;simp only[za,zb,zf]at y0 y1 y2 y3 y4 y5
  go_wp2_with fail
  go_ret
  exact⟨rfl,by first|exact au.out |(rw[hq];exact au.out)⟩
 ·obtain⟨rfl,rfl⟩:=h;have x0:=mf.out.cell 0;have x1:=mf.out.cell 1;have x2:=mf.out.cell 2;have x3:=mf.out.cell 3;have x4:=mf.out.cell 4;have x5:=mf.out.cell 5;have y0:=ir.out.cell 0;have y1:=ir.out.cell 1;have y2:=ir.out.cell 2;have y3:=ir.out.cell 3;have y4:=ir.out.cell 4;have y5:=ir.out.cell 5;simp only[za,zb,zf]at x0 x1 x2 x3 x4 x5;simp only[za,zb,zf]at y0 y1 y2 y3 y4 y5
  go_enter Tryz.func60,Tryz.ntmps60
  go_upto_region 1 with fail
  rw[<- cy.out,<- HW2.out];generalize hq:w.heap.size=q at *
  go_wp2_with fail
  refine(HOA.out _).mono ?_;rintro e w3 ⟨rfl,hb⟩;have au:=zh (co.out.trans (hb.mono (by have:=co.out.size;omega)));have gu:=zh (mf.out.next hb);have gw:=zh (ir.out.next hb);clear x0 x1 x2 x3 x4 x5;clear y0 y1 y2 y3 y4 y5;clear hb;have x0:=gu.out.cell 0;have x1:=gu.out.cell 1;have x2:=gu.out.cell 2;have x3:=gu.out.cell 3;have x4:=gu.out.cell 4;have x5:=gu.out.cell 5;have y0:=gw.out.cell 0;have y1:=gw.out.cell 1;have y2:=gw.out.cell 2;have y3:=gw.out.cell 3;have y4:=gw.out.cell 4;have y5:=gw.out.cell 5;simp only[za,zb,zf]at x0 x1 x2 x3 x4 x5;simp only[za,zb,zf]at y0 y1 y2 y3 y4 y5
  go_wp2_with fail
  go_ret
  exact⟨rfl,by first|exact au.out |(rw[hq];exact au.out)⟩
 have x0:=mf.out.cell 0;have x1:=mf.out.cell 1;have x2:=mf.out.cell 2;have x3:=mf.out.cell 3;have x4:=mf.out.cell 4;have x5:=mf.out.cell 5;have y0:=ir.out.cell 0;have y1:=ir.out.cell 1;have y2:=ir.out.cell 2;have y3:=ir.out.cell 3;have y4:=ir.out.cell 4;have y5:=ir.out.cell 5;simp only[za,zb,zf]at x0 x1 x2 x3 x4 x5;simp only[za,zb,zf]at y0 y1 y2 y3 y4 y5
 go_enter Tryz.func60,Tryz.ntmps60
 go_upto_region 1 with fail
 rw[<- cy.out,<- HW2.out];generalize hq:w.heap.size=q at *
 go_wp2_with fail
 refine(HOA.out _).mono ?_;rintro e w3 ⟨rfl,hb⟩;have au:=zh (co.out.trans (hb.mono (by have:=co.out.size;omega)));have gu:=zh (mf.out.next hb);have gw:=zh (ir.out.next hb);clear x0 x1 x2 x3 x4 x5;clear y0 y1 y2 y3 y4 y5;clear hb;have x0:=gu.out.cell 0;have x1:=gu.out.cell 1;have x2:=gu.out.cell 2;have x3:=gu.out.cell 3;have x4:=gu.out.cell 4;have x5:=gu.out.cell 5;have y0:=gw.out.cell 0;have y1:=gw.out.cell 1;have y2:=gw.out.cell 2;have y3:=gw.out.cell 3;have y4:=gw.out.cell 4;have y5:=gw.out.cell 5;simp only[za,zb,zf]at x0 x1 x2 x3 x4 x5;simp only[za,zb,zf]at y0 y1 y2 y3 y4 y5
 go_wp2_with fail
 refine(HOB.out _).mono ?_;rintro e w4 ⟨rfl,hb⟩;have cg:=zh (au.out.trans (hb.mono (by have:=au.out.size;omega)));clear hb
 go_wp2_with fail
 go_ret
 exact⟨rfl,by first|exact cg.out |(rw[hq];exact cg.out)⟩
theorem rNum_any(m e:Int)(w:World)(h1:-9223372036854775808<=m)(h2:m<=9223372036854775807) :
  Calls Tryz.prog 83 #[sV m e] w fun x w'=>x=.returned (.bool (cO m e))/\Below w.heap.size w w':=by
 have HC:=zh (fun W=>uGE m e W h1 h2);have HB:Hid (Below w.heap.size w (w.alloc (.cells #[.int .i64 m,.int .i64 e] 30))):=zh ((Below.refl _ w).alloc zr _)
 go_enter Tryz.func83,Tryz.ntmps83
 go_wp2_with fail
 refine(HC.out _).mono ?_;rintro x w2 ⟨rfl,hb⟩;have co:=zh (HB.out.trans (hb.mono HB.out.size));clear hb HB
 go_wp2_with fail
 go_ret
 exact⟨rfl,co.out⟩
set_option maxRecDepth 100000 in
theorem rLit_ok1(m e:Int)(w:World)(h1:-9223372036854775808<=m)(h2:m<=9223372036854775807)(hr:cO m e=true) :
  Calls Tryz.prog 58 #[nV ⟨1,m,e,[],false,0⟩] w fun x w'=>x=.returned (.bool true)/\Below w.heap.size w w':=by
 have HC:=zh (fun W=>rNum_any m e W h1 h2);rw[hr]at HC;clear h1 h2 hr;have HB:Hid (∀ W1,W1=w.alloc (.cells (kN ⟨1,m,e,[],false,0⟩) 32)->∀ cs,Below w.heap.size w (W1.alloc (.cells cs 32))):=zh (fun W1 h cs=>by rw[h];exact((Below.refl _ w).alloc zr _).alloc (by simp) _);have E:=gJ 1 m e [] false 0 1 m e [] false 0;rw[show cS ⟨1,m,e,[],false,0⟩ ⟨1,m,e,[],false,0⟩=true from iY _]at E
 go_enter Tryz.func58,Tryz.ntmps58
 go_wp2_with fail
 refine(HC.out _).mono ?_;rintro x w2 ⟨rfl,hb⟩;have co:=zh ((HB.out _ rfl _).trans (hb.mono (by simp;omega)));clear hb HB
 go_wp2_with fail
 go_ret
 exact⟨rfl,co.out⟩
set_option maxRecDepth 100000 in
theorem rLit_ok2(t:Bs)(w:World)(ht:t.length<=255) :
  Calls Tryz.prog 58 #[nV ⟨2,0,0,t,false,0⟩] w fun x w'=>x=.returned (.bool true)/\Below w.heap.size w w':=by
 have hti:(t.length:Int)<=255:=by omega
 have HB:Hid (∀ W1,W1=w.alloc (.cells (kN ⟨2,0,0,t,false,0⟩) 32)->∀ cs,Below w.heap.size w (W1.alloc (.cells cs 32))):=zh (fun W1 h cs=>by rw[h];exact((Below.refl _ w).alloc zr _).alloc (by simp) _);have E:=gJ 2 0 0 t false 0 2 0 0 t false 0;rw[show cS ⟨2,0,0,t,false,0⟩ ⟨2,0,0,t,false,0⟩=true from iY _]at E
 go_enter Tryz.func58,Tryz.ntmps58
 go_wp2_with fail
 go_ret
 exact⟨rfl,HB.out _ rfl _⟩
set_option maxRecDepth 100000 in
theorem rLit_ok3(b:Bool)(w:World) :
  Calls Tryz.prog 58 #[nV ⟨3,0,0,[],b,0⟩] w fun x w'=>x=.returned (.bool true)/\Below w.heap.size w w':=by
 have HB:Hid (∀ W1,W1=w.alloc (.cells (kN ⟨3,0,0,[],b,0⟩) 32)->∀ cs,Below w.heap.size w (W1.alloc (.cells cs 32))):=zh (fun W1 h cs=>by rw[h];exact((Below.refl _ w).alloc zr _).alloc (by simp) _);have E:=gJ 3 0 0 [] b 0 3 0 0 [] b 0;rw[show cS ⟨3,0,0,[],b,0⟩ ⟨3,0,0,[],b,0⟩=true from iY _]at E
 go_enter Tryz.func58,Tryz.ntmps58
 go_wp2_with fail
 go_ret
 exact⟨rfl,HB.out _ rfl _⟩
set_option maxRecDepth 100000 in
theorem rLit_ok4(f:Int)(w:World)(h1:1<=f)(h2:f<=9) :
  Calls Tryz.prog 58 #[nV ⟨4,0,0,[],false,f⟩] w fun x w'=>x=.returned (.bool true)/\Below w.heap.size w w':=by
 have HB:Hid (∀ W1,W1=w.alloc (.cells (kN ⟨4,0,0,[],false,f⟩) 32)->∀ cs,Below w.heap.size w (W1.alloc (.cells cs 32))):=zh (fun W1 h cs=>by rw[h];exact((Below.refl _ w).alloc zr _).alloc (by simp) _);have E:=gJ 4 0 0 [] false f 4 0 0 [] false f;rw[show cS ⟨4,0,0,[],false,f⟩ ⟨4,0,0,[],false,f⟩=true from iY _]at E
 go_enter Tryz.func58,Tryz.ntmps58
 go_wp2_with fail
 go_ret
 exact⟨rfl,HB.out _ rfl _⟩
theorem rLit_ok(v:Val)(w:World)(h0:v.kind≠0)(hr:cC v=true) :
  Calls Tryz.prog 58 #[nV v] w fun x w'=>x=.returned (.bool true)/\Below w.heap.size w w':=by
 have hf:=sQ hr;obtain⟨k,m,e,t,tr,f⟩:=v;unfold cC at hr;simp only[yh,Bool.not_eq_true',Bool.or_eq_false_iff,Bool.and_eq_false_iff,decide_eq_false_iff_not,decide_eq_true_eq,Bool.not_eq_false']at hr;dsimp only at h0 hr hf;obtain⟨⟨⟨⟨a1,a2⟩,a3⟩,a4⟩,hr⟩:=hr;by_cases k1:k=1
 ·subst k1;obtain rfl:t=[]:=Classical.byContradiction fun h=>(a2.elim (fun g=>g (by decide)) (fun g=>g h))
  obtain rfl:tr=false:=a3.elim (fun g=>absurd (by decide) g) id;obtain rfl:f=0:=Classical.byContradiction fun h=>(a4.elim (fun g=>g (by decide)) (fun g=>g h))
  exact rLit_ok1 m e w hf.1 hf.2.1 (by simpa using hr)
 obtain⟨rfl,rfl⟩:m=0/\e=0:=a1.elim (fun g=>absurd k1 g) id;by_cases k2:k=2
 ·subst k2;obtain rfl:tr=false:=a3.elim (fun g=>absurd (by decide) g) id;obtain rfl:f=0:=Classical.byContradiction fun h=>(a4.elim (fun g=>g (by decide)) (fun g=>g h))
  exact rLit_ok2 t w (by simpa using hr)
 obtain rfl:t=[]:=Classical.byContradiction fun h=>(a2.elim (fun g=>g k2) (fun g=>g h))
 rw[if_neg k1,if_neg k2]at hr;by_cases k3:k=3
 ·subst k3;obtain rfl:f=0:=Classical.byContradiction fun h=>(a4.elim (fun g=>g (by decide)) (fun g=>g h))
  exact rLit_ok3 tr w
 obtain rfl:tr=false:=a3.elim (fun g=>absurd k3 g) id;simp[h0,k3]at hr;obtain⟨⟨rfl,h1⟩,h2⟩:=hr;exact rLit_ok4 f w h1 h2
end Go.Proofs.YtmgjidnalpgegaaGreatDoor
