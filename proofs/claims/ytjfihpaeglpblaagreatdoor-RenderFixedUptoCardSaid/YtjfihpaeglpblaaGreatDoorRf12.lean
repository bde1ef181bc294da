/-
  Lemmas, part 12: PaV PaW.
-/
import Derived.Test.YtjfihpaeglpblaaGreatDoorRf10
set_option maxHeartbeats 100000000
set_option maxRecDepth 1000000
namespace Go.Proofs.YtjfihpaeglpblaaGreatDoor
open Go.RowKit
structure RfMk(q base:Nat)(acc:List IdR)(fl:List Bool)(v1 v2:Value)(W:World):Prop where
 ax:Lies W q 156 #[v1,v2]
 r1:W.ownsRow base 27 2 v1 acc.length (aJ acc)
 r2:W.ownsRow base 4 1 v2 acc.length (fl.map Value.bool)
theorem RfMk.next{q base:Nat}{acc:List IdR}{fl:List Bool}{v1 v2:Value}{W W':World}(h:RfMk q base acc fl v1 v2 W)(hb:Below W.heap.size W W'):RfMk q base acc fl v1 v2 W' :=
 ⟨h.ax.next hb,aL hb h.r1,aL hb h.r2⟩
theorem mJ:∀ (l:List IdR) (k:Nat) (h:k<l.length),(aJ l)[k*2]?=some (vI l[k].a)/\(aJ l)[k*2+1]?=some (vI l[k].n)
 | [],_,h=>absurd h (by simp)
 |x::r,0,_=>⟨rfl,rfl⟩
 |x::r,k+1,h=>by
  have:=mJ r k (by simpa using h);have e:aJ (x::r)=[vI x.a,vI x.n]++aJ r:=rfl;rw[e,List.getElem?_append_right (by simp;omega),List.getElem?_append_right (by simp;omega)];simp only[yi,List.length_nil,Nat.zero_add];rw[show (k+1)*2-2=k*2 by omega,show (k+1)*2+1-2=k*2+1 by omega];exact this
theorem mQ{W:World}{base g cap n:Nat}{l:List IdR}(h:W.ownsRow base 27 2 (.slice (some ⟨g,0,none⟩) n cap) n (aJ l))(k:Nat)(hk:k<l.length):W.rangeAt g (k*2) [vI l[k].a,vI l[k].n]:=fun j v hv=>by
 have hc:=h.cells (g:=g) rfl;obtain⟨h1,h2⟩:=mJ l k hk;have k1:=hc _ _ h1;have k2:=hc _ _ h2;rw[Addr.add_mid,Nat.zero_add]at k1 k2
 match j,hv with
 |0,hv=>simp at hv;subst hv;exact k1
 |1,hv=>simp at hv;subst hv;exact k2
theorem id_if{x y:IdR}{b:Bool}(h:decide (y=x)=b)(w:World):(if y.a=x.a then (if y.n=x.n then Result.ok (Next.value (.bool true)) w else Result.ok (Next.value (.bool false)) w) else Result.ok (Next.value (.bool false)) w)=Result.ok (Next.value (.bool b)) w:=by
 subst h;obtain⟨a,n⟩:=x;obtain⟨a2,n2⟩:=y;by_cases h1:a2=a
 ·by_cases h2:n2=n
  ·subst h1 h2;simp
  simp[h2]
 simp[h1]
theorem gW:(Tryz.prog.info? 27).map (·.size)=some 2:=by kernel_rfl
theorem uO(q base:Nat)(l:List IdR)(fl:List Bool)(v1 v2:Value)(x:IdR)(w:World)(hM:RfMk q base l fl v1 v2 w)(hl:l.length<=100000) :
  Calls Tryz.prog 130 #[vP q 0,idV x] w fun e w'=>e=.returned (vI (bC l x))/\Below w.heap.size w w':=by
 obtain⟨W1,am⟩:=zD (w.alloc (.cells #[vI x.a,vI x.n] 27))
 have al:=zh am;have HL:=zL am;have ab:Below w.heap.size w W1:=by rw[am];exact(zp _)
 have HB:=zh ab;have HM:=zh (hM.next ab);obtain⟨A,cap,rfl⟩:=aY hM.r1;have gx:=zh hl;clear am ab hM hl
 go_in
 go_upto_region 1 with fail
 rw[<- al.out];generalize hq:w.heap.size=qb at *;clear al
 go_wp2_with fail
 go_loopw [5] (fun v wr=>∃ k:Nat,k<=l.length/\v=vI (k:Int)/\Hid (x∉l.take k)/\Hid (Below W1.heap.size W1 wr)) (fun v _=>l.length-(intOf v).toNat)
 case atStart=>exact⟨0,zm _,rfl,zh (by simp),zh zB⟩
 case round=>
  obtain⟨k,hk,rfl,lp,od⟩:=hrel;have mz:=zh (HM.out.next od.out);have a0:wr.cell? ⟨q,0,none⟩=some (.slice A l.length cap):=mz.out.ax.cell 0;have rg:(k:Int)<=100000:=by have:=gx.out;omega
  by_cases hlt:k<l.length
  ·have ip:(k:Int)<(l.length:Int):=by omega
   obtain⟨g,o5,hv,mu,hgl⟩:=mz.out.r1.form (by omega);cases hv;have gy:=zh (mQ mz.out.r1 k hlt);obtain⟨y,hy⟩:=zE (l[k])
   rw[hy]at gy;have HY:=zh hy;clear hy;obtain⟨b,hb⟩:=zE (decide (y=x))
   have ig:=zh hb;clear hb;have xr:=zh (HL.out.next od.out);obtain⟨Wr,hWr⟩:=zD wr
   subst hWr
   go_upto_region 4 with fail
   clear a0
   go_cut [23] (fun v wx=>v=.bool b/\Hid (Below Wr.heap.size Wr wx))
   case first=>
    obtain⟨TT,ag⟩:∃ TT:List (Nat×Nat×Value),TT=((0,15,vP q 0)::(1,16,vP q 0)::(2,17,vP q 0)::(3,18,.slice (some ⟨g,0,none⟩) l.length cap)::(4,19,vI (k:Int))::(5,20,vP g (k*2))::(6,21,idV y)::(7,22,idV x)::(8,23,.bool b)::[]):=⟨_,rfl⟩
    have aw:=zh ag;clear ag;refine bK (fun a0=>25<=a0.tmps.size/\a0.eval (.tmp 0)=vP q 0/\a0.eval (.tmp 3)=vP qb 0/\a0.eval (.tmp 5)=vI (k:Int)) (15::16::17::18::19::20::21::22::23::[]) TT [] (fun w'=>Below Wr.heap.size Wr w') (by kernel_rfl) (by kernel_rfl) ⟨by simp,rfl,rfl,rfl⟩ zB.drew ?_ ?_
    ·rintro a0 ⟨hs,dh,kg,pu⟩ zl a1 w1 zj o ap hI ah ho zd;have ab:Below Wr.heap.size Wr w1:=hI.st;have ag:=aw.out
     subst ag;have e0x:=hI.off.q dh;have e3x:=hI.off.q kg;have e5x:=hI.off.q pu;have hj:=Up.of_false ah;have hj12:zj<9:=by rw[ap]at hj;exact hj
     have G:RG _ _ _ _ _ _ _ _ _ _ _:=⟨by rfl,hI,hs,ah,ho,zd⟩
     (iterate 8 rcases zq hj12 with hj12|rfl);obtain rfl:=cz hj12;all_goals obtain rfl:=oi ho
     ·exact G.nl 0 rfl (by simp[execOp,go_sem,e0x])
     ·exact G.nl 1 rfl (by simp[execOp,go_sem,G.t 0])
     ·exact G.nl 2 rfl (by simp[execOp,go_sem,G.t 1])
     ·have xq:w1.cell? ⟨q,0,none⟩=some (.slice (some ⟨g,0,none⟩) l.length cap):=(mz.out.next ab).ax.cell 0;exact G.nl 3 rfl (by simp[execOp,go_sem,G.t 2,xq])
     ·exact G.nl 4 rfl (by simp[execOp,go_sem,e5x])
     ·exact G.nl 5 rfl (by simp[execOp,go_sem,G.t 3,G.t 4,ip])
     ·have p5:=G.d 5;exact G.nl 6 rfl (aO 27 (.tmp 20) rfl g (k*2) p5 _ _ (fun j v hv=>(ab.cell (p:=⟨g,k*2+j,none⟩) hgl).trans (gy.out j v hv)) Tryz.underlying27 rfl gW)
     ·exact G.nl 7 rfl (aO 27 (.tmp 3) rfl qb 0 ((hI.off.eval (by decide)).trans kg) _ _ ((xr.out.next ab).range) Tryz.underlying27 rfl gW)
     exact G.nl 8 rfl (by simp[execOp,go_sem,G.t 6,G.t 7];exact id_if ig.out w1)
    intro zl a1 w1 hI bd;have ab:Below Wr.heap.size Wr w1:=hI.st;have ag:=aw.out;subst ag;have z23:=hI.ptk 8 rfl (bd 8 (by decide));obtain⟨ff,rfl,hf⟩:=hI.off.forms;rw[<- hf 23]at z23;clear hI;simp only[List.foldl,Act.put,yz,List.set];rw[z23];simp only[Exit.then]
    go_step
    go_meet
    exact⟨rfl,zh ab⟩
   case rest=>
    obtain⟨rfl,i8⟩:=hcut;have oe:=zh (zU od.out i8.out);clear i8;cases b
    ·have tq:y≠x:=of_decide_eq_false ig.out
     go_wp2_with fail
     go_roundw
     case rel=>exact⟨k+1,by omega,by go_num,zh (by rw[yw hlt,HY.out,List.mem_append,not_or];exact⟨lp.out,fun h=>tq (yf.1 h).symm⟩),oe⟩
     case measure=>first |(simp[intOf];done) |(simp[intOf];omega)
    have tq:y=x:=of_decide_eq_true ig.out
    go_wp2_with fail
    go_ret
    exact⟨by rw[show bC l x=(k:Int) from(fX x l 0 k lp.out (by rw[List.getElem?_eq_getElem hlt,HY.out,tq])).trans (by rw[Nat.zero_add])];rfl,by first|exact HB.out.trans (oe.out.mono (by have:=HB.out.size;omega)) |(rw[hq];exact HB.out.trans (oe.out.mono (by have:=HB.out.size;omega)))⟩
  obtain rfl:k=l.length:=by omega
  go_wp2_with fail
  go_ret
  exact⟨by rw[show bC l x=-1 from eN x l 0 (by have:=lp.out;rwa [List.take_length]at this)];rfl,by first|exact HB.out.trans (od.out.mono (by have:=HB.out.size;omega)) |(rw[hq];exact HB.out.trans (od.out.mono (by have:=HB.out.size;omega)))⟩
theorem rnew_any(A:Option Addr)(cap:Nat)(ids:List IdR)(w:World)(hA:eA w A ids)(hn:ids.length<=300) :
  Calls Tryz.prog 70 #[.slice A ids.length cap] w fun e w'=>∃ v1 v2,e=.returned (vP w.heap.size 0)/\RfMk w.heap.size (w.heap.size+1) (bD ids) (List.replicate (bD ids).length true) v1 v2 w'/\Below w.heap.size w w':=by
 have HA:=zh hA;have HS:=zh (gL ids);have gx:=zh (nU ids);have lz:Hid (bD (ids.take ids.length)=bD ids):=zh (by rw[List.take_length]);obtain⟨n,fi⟩:=zD ids.length
 have HN:=zh fi;rw[<- fi]at hn ⊢;clear hA fi;obtain⟨W1,am⟩:=zD (w.alloc (.cells #[.slice none 0 0,.slice none 0 0] 156))
 have HM0:Hid (RfMk w.heap.size (w.heap.size+1) [] [] (.slice none 0 0) (.slice none 0 0) W1):=zh (by rw[am];exact⟨Lies.new w _ _,⟨rfl,.inl ⟨rfl,rfl⟩⟩,⟨rfl,.inl ⟨rfl,rfl⟩⟩⟩);have aq:=zA am;have wj:Hid (w.heap.size+1<=W1.heap.size):=zh (by rw[am];simp);have al:=zh am;clear am
 go_in
 go_upto_region 2 with fail
 rw[<- al.out];clear al
 go_wp2_with fail
 go_loopw [4] (fun v wx=>∃ (k:Nat) (v1 v2:Value),v=vI (k:Int)/\k<=n/\Hid (RfMk w.heap.size (w.heap.size+1) (bD (ids.take k)) (List.replicate (bD (ids.take k)).length true) v1 v2 wx)/\Hid (Below w.heap.size w wx)/\Hid (w.heap.size+1<=wx.heap.size)) (fun v _=>n-(intOf v).toNat)
 case atStart=>exact⟨0,_,_,rfl,zm _,HM0,aq,wj⟩
 case round=>
  obtain⟨k,v1,v2,rfl,hk,hM,hB,hZ⟩:=hrel;generalize qc:w.heap.size=q at *;have HQ:=zh qc;clear qc HM0 aq wj;by_cases hlt:k<n
  ·have ip:k<ids.length:=by rw[<- HN.out];exact hlt
   have hkn:(k:Int)<(n:Int):=by omega
   have rg:(k:Int)<=300:=by omega
   obtain⟨ga,oa,rfl,kc,bp⟩:=HA.out (by omega);obtain⟨c0,c1⟩:=bp k ip;have nn:=yv (gx.out k (by omega)) (Nat.le_of_lt ip);have sr:=zh (HS.out k ip);have HRx:Hid (wr.rangeAt ga (oa+k*2) [vI ids[k].a,vI ids[k].n]):=zh (fun j v hv=>by
    match j,hv with
    |0,hv=>simp at hv;subst hv;exact(hB.out.cell (p:=⟨ga,_,none⟩) (by rw[<- HQ.out];exact kc)).trans c0
    |1,hv=>simp at hv;subst hv;exact(hB.out.cell (p:=⟨ga,_,none⟩) (by rw[<- HQ.out];exact kc)).trans c1)
   have t6:ga<wr.heap.size:=by have:=hZ.out;rw[HQ.out]at kc;omega
   rw[<- HN.out]at nn;generalize ids[k]=x at *;generalize bD (ids.take k)=acc at *;generalize np:bD (ids.take (k+1))=acc' at *;have jr:=zh np;clear np c0 c1 bp;obtain⟨A1,b6,rfl⟩:=aY hM.out.r1;obtain⟨A2,cy,rfl⟩:=aY hM.out.r2;generalize hle:acc.length=m at *;have t7:=zh hle;clear hle;obtain⟨b0,ev⟩:∃ b,decide (x≠id0)=b:=⟨_,rfl⟩
   obtain⟨b1,ab⟩:∃ b,decide (bC acc x<0)=b:=⟨_,rfl⟩
   obtain⟨d,hd⟩:∃ d,d=(b0&&b1):=⟨_,rfl⟩
   have hN1:∀ w:World,(binOp .neq 27 (idV x) (idV id0)).run Tryz.prog w=.ok (.bool b0) w:=fun w=>by rw[dP,ev]
   have HBs:=zh (And.intro ev (And.intro ab (And.intro hd hN1)));have HD:Hid (acc'=if d then acc++[x] else acc):=zh (by
    rw[sr.out,iO,hd,<- ev,<- ab];by_cases h1:x=id0
    ·rw[if_pos (.inl h1)];simp[h1]
    by_cases h2:x∈acc
    ·have hn:¬ bC acc x<0:=fun h=>(uF acc x).1 h h2
     rw[if_pos (.inr h2),if_neg (by simp[h1];exact Int.not_lt.1 hn)]
    rw[if_neg (by simp[h1,h2]),if_pos];have:=(uF acc x).2 h2;simp[h1,this])
   clear ev ab hd hN1 sr;obtain⟨Wr,hWr⟩:=zD wr
   subst hWr
   go_upto_region 5 with fail
   go_cut [35] (fun v wx=>v=.bool d/\Hid (Below Wr.heap.size Wr wx))
   case first=>
    obtain⟨ev,ab,hd,hN1⟩:=HBs.out
    obtain⟨TT,ag⟩:∃ TT:List (Nat×Nat×Value),TT=((0,13,.slice (some ⟨ga,oa,none⟩) n cap)::(1,14,vI (k:Int))::(2,15,vP ga (oa+k*2))::(3,16,idV x)::(4,17,idV id0)::(5,18,.bool b0)::(6,19,.bool b0)::(7,20,(bif b0 then vP q 0 else undef))::(8,21,(bif b0 then .slice (some ⟨ga,oa,none⟩) n cap else undef))::(9,22,(bif b0 then vI (k:Int) else undef))::(10,23,(bif b0 then vP ga (oa+k*2) else undef))::(11,24,(bif b0 then idV x else undef))::(12,25,(bif b0 then vI (bC acc x) else undef))::(13,26,(bif b0 then .bool b1 else undef))::(14,27,.bool d)::(15,28,.bool d)::(16,29,(bif d then vP q 0 else undef))::(17,30,(bif d then vP q 0 else undef))::(18,31,(bif d then vP q 0 else undef))::(19,32,(bif d then .slice A1 m b6 else undef))::(20,33,(bif d then vI (m:Nat) else undef))::(21,34,(bif d then .bool true else undef))::(22,35,.bool d)::[]):=⟨_,rfl⟩
    have aw:=zh ag;clear ag;refine aS (fun a0=>59<=a0.tmps.size/\a0.eval (.tmp 0)=.slice (some ⟨ga,oa,none⟩) n cap/\a0.eval (.tmp 3)=vP q 0/\a0.eval (.tmp 4)=vI (k:Int)) (13::14::15::16::17::18::19::20::21::22::23::24::25::26::27::28::29::30::31::32::33::34::35::[]) TT [] (fun w'=>Below Wr.heap.size Wr w') (by kernel_rfl) ⟨by simp,rfl,rfl,rfl⟩ zB ?_ ?_
    ·rintro a0 ⟨hs,dh,kg,vy⟩ zl a1 w1 zj o ap hI ah ho zd;have px:Below Wr.heap.size Wr w1:=hI.st;have ag:=aw.out
     subst ag;have e0x:=hI.off.q dh;have e3x:=hI.off.q kg;have e4x:=hI.off.q vy;have hj:=Up.of_false ah;have hj12:zj<23:=by rw[ap]at hj;exact hj
     have G:RG _ _ _ _ _ _ _ _ _ _ _:=⟨by rfl,hI,hs,ah,ho,zd⟩
     (iterate 22 rcases zq hj12 with hj12|rfl);obtain rfl:=cz hj12;all_goals obtain rfl:=oi ho
     ·exact G.nl 0 rfl (by simp[execOp,go_sem,e0x])
     ·exact G.nl 1 rfl (by simp[execOp,go_sem,e4x])
     ·exact G.nl 2 rfl (by simp[execOp,go_sem,G.t 0,G.t 1,hkn])
     ·have p2:=G.d 2;exact G.nl 3 rfl (aO 27 (.tmp 15) rfl ga (oa+k*2) p2 _ _ (fun j v hv=>(px.cell (p:=⟨ga,oa+k*2+j,none⟩) t6).trans (HRx.out j v hv)) Tryz.underlying27 rfl gW)
     ·exact G.nl 4 rfl (by simp[execOp,go_sem])
     ·exact G.nl 5 rfl (by simp[execOp,go_sem,G.t 3,G.t 4,hN1])
     ·exact G.nl 6 rfl (by simp[execOp,go_sem,G.t 5])
     ·refine G.gv 6 7 ?_;rintro rfl;simp[execOp,go_sem,e3x]
     ·refine G.gv 6 8 ?_;rintro rfl;simp[execOp,go_sem,e0x]
     ·refine G.gv 6 9 ?_;rintro rfl;simp[execOp,go_sem,e4x]
     ·refine G.gv 6 10 ?_;rintro rfl;simp[execOp,go_sem,G.t 8,G.t 9,hkn]
     ·refine G.gv 6 11 ?_;rintro rfl;have p10:=G.d 10;exact aO 27 (.tmp 23) rfl ga (oa+k*2) p10 _ _ (fun j v hv=>(px.cell (p:=⟨ga,oa+k*2+j,none⟩) t6).trans (HRx.out j v hv)) Tryz.underlying27 rfl gW
     ·have pg:=G.g 6;cases b0
      ·exact G.sk 12 pg
      refine G.cw 12 rfl pg 130 #[vP q 0,idV x] (by simp[go_sem,G.t 7,G.t 11]) ?_;refine(uO q (q+1) acc (List.replicate acc.length true) _ _ x w1 (by rw[t7.out];exact hM.out.next px) (by rw[t7.out];omega)).mono ?_;rintro e w2 ⟨rfl,hb⟩;exact⟨rfl,zU px hb⟩
     ·refine G.gv 6 13 ?_;rintro rfl;simp[execOp,go_sem,G.t 12,ab]
     ·cases b0
      all_goals exact G.nl 14 rfl (by simp[execOp,go_sem,G.t 6,G.t 13,hd])
     ·exact G.nl 15 rfl (by simp[execOp,go_sem,G.t 14])
     ·refine G.gv 15 16 ?_;rintro rfl;simp[execOp,go_sem,e3x]
     ·refine G.gv 15 17 ?_;rintro rfl;simp[execOp,go_sem,G.t 16]
     ·refine G.gv 15 18 ?_;rintro rfl;simp[execOp,go_sem,G.t 17]
     ·refine G.gv 15 19 ?_;rintro rfl;have xq:w1.cell? ⟨q,0,none⟩=some (.slice A1 m b6):=(hM.out.next px).ax.cell 0;simp[execOp,go_sem,G.t 18,xq]
     ·refine G.gv 15 20 ?_;rintro rfl;simp[go_sem,G.t 19]
     ·have pg:=G.g 15;cases d
      ·exact G.sk 21 pg
      have sv:(m:Int)<1000:=by omega
      exact G.vl 21 rfl pg (by simp[execOp,go_sem,G.t 20,sv])
     cases d
     all_goals exact G.nl 22 rfl (by simp[execOp,go_sem,G.t 15,G.t 21])
    intro zl a1 w1 hI bd;have px:Below Wr.heap.size Wr w1:=hI.st;have ag:=aw.out;subst ag;have z35:=hI.ptk 22 rfl (bd 22 (by decide));obtain⟨ff,rfl,hf⟩:=hI.off.forms;rw[<- hf 35]at z35;clear hI;simp only[List.foldl,Act.put,yz,List.set];rw[z35];simp only[Exit.then]
    go_step
    go_meet
    exact⟨rfl,zh px⟩
   case rest=>
    obtain⟨rfl,i8⟩:=hcut;have wt:=zh (hM.out.next i8.out);have hB4:=zh (hB.out.trans (i8.out.mono (by have:=hZ.out;omega)));have hZ4:Hid (q+1<=wc.heap.size):=zh (by have:=i8.out.size;have:=hZ.out;omega);have en:=HD.out;have HRx4:Hid (wc.rangeAt ga (oa+k*2) [vI x.a,vI x.n]):=zh (fun j v hv=>(i8.out.cell (p:=⟨ga,oa+k*2+j,none⟩) t6).trans (HRx.out j v hv));have hga4:ga<wc.heap.size:=yu t6 i8.out.size;clear hM hB hZ HRx t6 HBs HD i8;cases d
    ·rw[if_neg (by decide)]at en;have je:=zh en;clear en
     go_wp2_with fail
     go_roundw
     case rel=>exact⟨k+1,_,_,by go_num,by omega,by rw[jr.out,je.out,t7.out];exact wt,hB4,hZ4⟩
     case measure=>first |(simp[intOf];done) |(simp[intOf];omega)
    rw[if_pos rfl]at en;have je:=zh en;clear en;obtain⟨W4,l8⟩:=zD wc
    subst l8;have HX4:=zh wt.out.ax;have kv:Hid (W4.ownsRow (q+1) 27 2 (.slice A1 m b6) m (aJ acc)):=zh (by have:=wt.out.r1;rwa [t7.out]at this);have j3:Hid (W4.ownsRow (q+1) 4 1 (.slice A2 m cy) m ((List.replicate m true).map Value.bool)):=zh (by have:=wt.out.r2;rwa [t7.out]at this);have HY:Hid (∀ g,(Value.slice A1 m b6).ownBlock=some g->g∈q::(Value.slice A1 m b6).ownBlock.toList):=zh (fun g hg=>by rw[hg];simp);have qc:q<=ga->False:=fun h=>by rw[HQ.out]at kc;omega
    have wl:Hid (ga∉q::(Value.slice A1 m b6).ownBlock.toList):=zh (fun h=>by
     rcases ym.1 h with h|h
     ·exact qc (by omega)
     have:=(bP kv.out ga (by simpa using h)).1;exact qc (by omega))
    go_upto_region 6 with fail
    go_cut [46] (fun v wx=>∃ v1',Hid (Lies wx q 156 #[v1',.slice A2 m cy])/\Hid (wx.ownsRow (q+1) 27 2 v1' (m+1) (aJ acc++[vI x.a,vI x.n]))/\Hid (Kp (q::(Value.slice A1 m b6).ownBlock.toList) W4 wx))
    case first=>
     obtain⟨TT,ag⟩:∃ TT:List (Nat×Nat×Value),TT=[(0,36,vP q 0),(1,37,vP q 0),(2,38,vP q 0),(3,39,vP q 0),(4,40,.slice A1 m b6),(5,41,.slice (some ⟨ga,oa,none⟩) n cap),(6,42,vI (k:Int)),(7,43,vP ga (oa+k*2)),(8,44,.agg #[vI x.a,vI x.n]),(11,47,vP q 0),(12,48,vP q 0)]:=⟨_,rfl⟩
     have aw:=zh ag;clear ag;refine eW (by kernel_rfl) (by kernel_rfl) (fun a0=>59<=a0.tmps.size/\a0.eval (.tmp 0)=.slice (some ⟨ga,oa,none⟩) n cap/\a0.eval (.tmp 3)=vP q 0/\a0.eval (.tmp 4)=vI (k:Int)) (GA [36,37,38,39,40,41,42,43,44,45,46,47,48] TT (q::(Value.slice A1 m b6).ownBlock.toList) W4 4 9 45 10 46 13 q 0 27 156 #[.slice A1 m b6,.slice A2 m cy] (q+1) 2 m (.slice A1 m b6) (aJ acc) [vI x.a,vI x.n]) ⟨by simp,rfl,rfl,rfl⟩ (GA.start _ _ (Kp.refl _ _).drew kv.out HX4.out) ?_ ?_
     ·rintro a0 ⟨hs,dh,kg,vy⟩ zl a1 w1 j o ap hI ah ho zd;have ag:=aw.out;subst ag;have hk:GAk [36,37,38,39,40,41,42,43,44,45,46,47,48] [(0,36,vP q 0),(1,37,vP q 0),(2,38,vP q 0),(3,39,vP q 0),(4,40,.slice A1 m b6),(5,41,.slice (some ⟨ga,oa,none⟩) n cap),(6,42,vI (k:Int)),(7,43,vP ga (oa+k*2)),(8,44,.agg #[vI x.a,vI x.n]),(11,47,vP q 0),(12,48,vP q 0)] (q::(Value.slice A1 m b6).ownBlock.toList) 9 45 10 46 13 q 27 156 (.slice A1 m b6) 59:=⟨rfl,by decide,HY.out,.head _⟩
      have hj:=Up.of_false ah;have hj12:j<14:=by rw[ap]at hj;exact hj
      have e0x:a1.eval (.tmp 0)=.slice (some ⟨ga,oa,none⟩) n cap:=(hI.off.eval (by decide)).trans dh;have e3x:a1.eval (.tmp 3)=vP q 0:=(hI.off.eval (by decide)).trans kg;have e4x:a1.eval (.tmp 4)=vI (k:Int):=(hI.off.eval (by decide)).trans vy;rcases(by omega:j=0\/j=1\/j=2\/j=3\/j=4\/j=5\/j=6\/j=7\/j=8\/j=9\/j=10\/j=11\/j=12\/j=13) with rfl|rfl|rfl|rfl|rfl|rfl|rfl|rfl|rfl|rfl|rfl|rfl|rfl|rfl<;>obtain rfl:=oi ho
      ·exact bG hk hI hs (.head _) ah ho rfl rfl (by simp[execOp,go_sem,bR e3x])
      ·exact bG hk hI hs (.tail _ (.head _)) ah ho rfl rfl (by simp[execOp,go_sem,bR e3x])
      ·have d1:=ud zd 1;have p1:=pk hI.pt 1 rfl d1;exact bG hk hI hs (mm 2 rfl) ah ho rfl rfl (by simp[execOp,go_sem,bR p1])
      ·have d2:=ud zd 2;have p2:=pk hI.pt 2 rfl d2;exact bG hk hI hs (mm 3 rfl) ah ho rfl rfl (by simp[execOp,go_sem,bR p2])
      ·have d3:=ud zd 3;have p3:=pk hI.pt 3 rfl d3;have c0:=(hI.unl ah).cell 0;simp only[za,zb]at c0;exact bG hk hI hs (mm 4 rfl) ah ho rfl rfl (by simp[execOp,go_sem,bR p3,c0])
      ·exact bG hk hI hs (mm 5 rfl) ah ho rfl rfl (by simp[execOp,go_sem,bR e0x])
      ·exact bG hk hI hs (mm 6 rfl) ah ho rfl rfl (by simp[execOp,go_sem,bR e4x])
      ·have d5:=ud zd 5;have p5:=pk hI.pt 5 rfl d5;have d6:=ud zd 6;have p6:=pk hI.pt 6 rfl d6;exact bG hk hI hs (mm 7 rfl) ah ho rfl rfl (by simp[execOp,go_sem,bR p5,bR p6,hkn])
      ·have d7:=ud zd 7;have p7:=pk hI.pt 7 rfl d7;exact bG hk hI hs (mm 8 rfl) ah ho rfl rfl (aO 27 (.tmp 43) rfl ga (oa+k*2) p7 [vI x.a,vI x.n] _ (fun j v hv=>(hI.kp.cell (g:=ga) (i:=oa+k*2+j) hga4 wl.out).trans (HRx4.out j v hv)) Tryz.underlying27 rfl gW)
      ·have d8:=ud zd 8;have p8:=pk hI.pt 8 rfl d8;exact qW hk hI hs ah ho rfl rfl (by simp[execOp,go_sem,bR p8])
      ·have d4:=ud zd 4;have p4:=pk hI.pt 4 rfl d4;have d9:=ud zd 9;obtain⟨i1,gi,gz0,gz1,gz2⟩:=info_parts qZ;exact uAC hk hI hs ah ho rfl rfl d4 d9 35 40 rfl p4 i1 (.agg #[vI 0,vI 0]) 16 Tryz.underlying35 gi gz0 gz1 gz2 rfl (by decide) rfl (by intro u hu;simp at hu;rcases hu with rfl|rfl <;> rfl) (by unfold maxLen;omega) (by omega) (yv hZ4.out hI.kp.size)
      ·have d0:=ud zd 0;have p0:=pk hI.pt 0 rfl d0;exact bG hk hI hs (mm 9 rfl) ah ho rfl rfl (by simp[execOp,go_sem,bR p0])
      ·have d11:=ud zd 11;have p11:=pk hI.pt 9 rfl d11;exact bG hk hI hs (mm 10 rfl) ah ho rfl rfl (by simp[execOp,go_sem,bR p11])
      have d12:=ud zd 12;have p12:=pk hI.pt 10 rfl d12;have d10:=ud zd 10;exact qX hk hI ah ho rfl rfl d10 (fun hL j6=>by
       obtain⟨gs,cs,j6⟩:=j6;have c0:=hL.cell 0;have k0:=hL.frozen 0;simp at c0;rw[j6];simp[execOp,go_sem,bR p12,bR j6,c0,k0])
     intro zl a1 w1 hI bd;have ag:=aw.out;subst ag;have gq:=hI.kp;have az:=hI.o2 (bd 10 (by decide));have js:=(hI.b2 (bd 13 (by decide))).2;obtain⟨ff,rfl,hf⟩:=hI.off.forms;rw[<- hf 46]at az js;clear hI;generalize ff 46=v' at *;simp only[List.foldl,Act.put,yz,List.set];simp only[Exit.then]
     go_step
     go_meet
     exact⟨v',zh js,zh az,zh gq⟩
    case rest=>
     obtain⟨v1',ra,lh,kw⟩:=hcut;obtain⟨A1',nr,rfl⟩:=aY lh.out;have kj:=zh (bL j3.out kw.out (fun g hg=>by
      intro hm;rcases ym.1 hm with h|h
      ·subst h;exact aX (by decide) j3.out HX4.out hg.symm
      exact gK (by decide) j3.out kv.out g hg (by simpa using h)))
     have bk:=zh (hB4.out.trans (kw.out.below (B:=q) (fun g hg=>by
      rcases ym.1 hg with h|h
      ·omega
      have:=(bP kv.out g (by simpa using h)).1;omega) (by have:=hZ4.out;omega)))
     have o7:Hid (q+1<=wc.heap.size):=zh (yv hZ4.out kw.out.size);clear HX4 kv j3 kw hB4 hZ4 HY wl wt HRx4 hga4;have x1:=ra.out.cell 1;have f1:=ra.out.frozen 1;simp only[za,zb,zf]at x1;have hqz:q<wc.heap.size:=by have:=o7.out;omega
     obtain⟨i1,gi,gz0,gz1,gz2⟩:=info_parts mK
     go_wp2_with (at_builtin;refine wpList_append_own _ rfl _ _ 148 rfl (q+1) 4 i1 (.bool false) 1 1 Tryz.underlying148 gi gz0 gz1 gz2 rfl (by decide) _ _ _ rfl (World.ownsRow.alloc kj.out _) ⟨wc.heap.size,0,none⟩ 1 1 [.bool true] rfl rfl ?c1 ?c2 ?c3 ?c4 ?c5 ?_)
     case c1=>
      intro j u hj
      match j,hj with
      |0,hj=>simp at hj;subst hj;simp[Addr.add]
     case c2=>intro u hu;simp at hu;subst hu;rfl
     case c3=>unfold maxLen;omega
     case c4=>omega
     case c5=>have:=o7.out;rw[World.size_alloc];omega
     intro v2' W6 ee dg _;obtain⟨A2',ns,rfl⟩:=aY ee;have kc:wc.grownBy W6 (Value.slice A2 m cy).ownBlock:=(World.grownBy_alloc wc _ _).trans dg;have rd:=zh (ra.out.grownA kc (aX (by decide) kj.out ra.out));have HR6:=zh (World.ownsRow.kept lh.out kc (by
      cases hv:(Value.slice A1' (m+1) nr).ownBlock with
      |none=>exact .inl rfl
      |some g=>exact .inr (fun e=>gK (by decide) lh.out kj.out g hv e.symm)))
     have HR62:=zh ee;have qe:=zh (bk.out.grown kc (by have:=o7.out;omega) (fun g hg=>by have:=(bP kj.out g hg).1;omega));have HZ6:Hid (q+1<=W6.heap.size):=zh (yv o7.out kc.size);clear kc dg ee ra lh kj bk o7 x1 f1 hqz;have x1:=rd.out.cell 1;have f1:=rd.out.frozen 1;simp only[za,zb,zf]at x1
     go_wp2_with fail
     go_roundw
     case rel=>
      refine⟨k+1,.slice A1' (m+1) nr,.slice A2' (m+1) ns,by go_num,by omega,zh ⟨rd.out.put 1 _,?_,?_⟩,zh (qe.out.setCell (p:=⟨q,1,none⟩) (Nat.le_refl q) _),zh (by rw[World.size_setCell];exact HZ6.out)⟩
      ·rw[jr.out,je.out,iV,yl,t7.out];exact kM (by decide) HR6.out rd.out 1 _
      rw[jr.out,je.out,yl,t7.out];have h:=kM (by decide) HR62.out rd.out 1 (.slice A2' (m+1) ns);rw[show (List.replicate (m+[x].length) true).map Value.bool=(List.replicate m true).map Value.bool++[.bool true] from by rw[List.length_singleton,List.replicate_succ',List.map_append];rfl,List.map_replicate];exact h
     case measure=>first |(simp[intOf];done) |(simp[intOf];omega)
  obtain rfl:k=n:=by omega
  rw[HN.out,lz.out]at hM
  go_wp2_with fail
  go_ret
  exact⟨v1,v2,by rw[HQ.out];rfl,by rw[HQ.out];exact hM.out,by rw[HQ.out];exact hB.out⟩
end Go.Proofs.YtjfihpaeglpblaaGreatDoor
