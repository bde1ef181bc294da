/-
  Lemmas, part 20: RlA RlB RlC RlD RlE RlF RlG.
-/
import Derived.Test.YtjfihpaeglpblaaGreatDoorRf16
set_option maxHeartbeats 100000000
set_option maxRecDepth 1000000
namespace Go.Proofs.YtjfihpaeglpblaaGreatDoor
open Go.RowKit
theorem uBO(A:Option Addr)(cap base:Nat)(l:List IdR)(x:IdR)(w:World)(hM:w.ownsRow base 27 2 (.slice A l.length cap) l.length (aJ l))(hl:l.length<=100000) :
  Calls Tryz.prog 226 #[.slice A l.length cap,idV x] w fun e w'=>e=.returned (vI (bC l x))/\Below w.heap.size w w':=by
 obtain⟨W1,am⟩:=zD (w.alloc (.cells #[vI x.a,vI x.n] 27))
 have al:=zh am;have HL:=zL am;have ab:Below w.heap.size w W1:=by rw[am];exact(zp _)
 have HB:=zh ab;have HM:=zh (aL ab hM);have gx:=zh hl;obtain⟨n,hn⟩:=zD l.length
 have HN:=zh hn;rw[<- hn];clear am ab hM hl hn
 go_in
 go_upto_region 1 with fail
 rw[<- al.out];generalize hq:w.heap.size=qb at *;clear al
 go_wp2_with fail
 go_loopw [8] (fun v wr=>∃ k:Nat,k<=n/\v=vI (k:Int)/\Hid (x∉l.take k)/\Hid (Below W1.heap.size W1 wr)) (fun v _=>n-(intOf v).toNat)
 case atStart=>exact⟨0,zm _,rfl,zh (by simp),zh zB⟩
 case round=>
  obtain⟨k,hk,rfl,lp,od⟩:=hrel;have mz:=zh (aL od.out HM.out);have rg:(k:Int)<=100000:=by have:=gx.out;have:=HN.out;omega
  by_cases hlt:k<n
  ·have ip:(k:Int)<(n:Int):=by omega
   have kr:k<l.length:=by rw[<- HN.out];exact hlt
   obtain⟨g,o5,hv,mu,hgl⟩:=mz.out.form (by omega);cases hv;have gy:=zh (mQ mz.out k kr);obtain⟨y,hy⟩:=zE (l[k])
   rw[hy]at gy;have HY:=zh hy;clear hy;obtain⟨b,hb⟩:=zE (decide (y=x))
   have ig:=zh hb;clear hb;have xr:=zh (HL.out.next od.out);obtain⟨Wr,hWr⟩:=zD wr
   subst hWr
   go_upto_region 4 with fail
   go_cut [16] (fun v wx=>v=.bool b/\Hid (Below Wr.heap.size Wr wx))
   case first=>
    obtain⟨TT,ag⟩:∃ TT:List (Nat×Nat×Value),TT=((0,11,idV x)::(1,12,.slice (some ⟨g,0,none⟩) n cap)::(2,13,vI (k:Int))::(3,14,vP g (k*2))::(4,15,idV y)::(5,16,.bool b)::[]):=⟨_,rfl⟩
    have aw:=zh ag;clear ag;refine bK (fun a0=>19<=a0.tmps.size/\a0.eval (.tmp 0)=.slice (some ⟨g,0,none⟩) n cap/\a0.eval (.tmp 3)=vP qb 0/\a0.eval (.tmp 5)=vI (k:Int)) (11::12::13::14::15::16::[]) TT [] (fun w'=>Below Wr.heap.size Wr w') (by kernel_rfl) (by kernel_rfl) ⟨by simp,rfl,rfl,rfl⟩ zB.drew ?_ ?_
    ·rintro a0 ⟨hs,dh,kg,pu⟩ zl a1 w1 zj o ap hI ah ho zd;have ab:Below Wr.heap.size Wr w1:=hI.st;have ag:=aw.out
     subst ag;have e0x:=hI.off.q dh;have e3x:=hI.off.q kg;have e5x:=hI.off.q pu;have hj:=Up.of_false ah;have hj12:zj<6:=by rw[ap]at hj;exact hj
     have G:RG _ _ _ _ _ _ _ _ _ _ _:=⟨by rfl,hI,hs,ah,ho,zd⟩
     rcases(by omega:zj=0\/zj=1\/zj=2\/zj=3\/zj=4\/zj=5) with rfl|rfl|rfl|rfl|rfl|rfl<;>obtain rfl:=oi ho
     ·exact G.nl 0 rfl (aO 27 (.tmp 3) rfl qb 0 ((hI.off.eval (by decide)).trans kg) _ _ ((xr.out.next ab).range) Tryz.underlying27 rfl gW)
     ·exact G.nl 1 rfl (by simp[execOp,go_sem,e0x])
     ·exact G.nl 2 rfl (by simp[execOp,go_sem,e5x])
     ·exact G.nl 3 rfl (by simp[execOp,go_sem,G.t 1,G.t 2,ip])
     ·have p3:=G.d 3;exact G.nl 4 rfl (aO 27 (.tmp 14) rfl g (k*2) p3 _ _ (fun j v hv=>(ab.cell (p:=⟨g,k*2+j,none⟩) hgl).trans (gy.out j v hv)) Tryz.underlying27 rfl gW)
     exact G.nl 5 rfl (by simp[execOp,go_sem,G.t 0,G.t 4];exact id_if (x:=y) (y:=x) (by rw[<- ig.out];exact decide_eq_decide.2 eq_comm) w1)
    intro zl a1 w1 hI bd;have ab:Below Wr.heap.size Wr w1:=hI.st;have ag:=aw.out;subst ag;have z23:=hI.ptk 5 rfl (bd 5 (by decide));obtain⟨ff,rfl,hf⟩:=hI.off.forms;rw[<- hf 16]at z23;clear hI;simp only[List.foldl,Act.put,yz,List.set];rw[z23];simp only[Exit.then]
    go_step
    go_meet
    exact⟨rfl,zh ab⟩
   case rest=>
    obtain⟨rfl,i8⟩:=hcut;have oe:=zh (zU od.out i8.out);clear i8;cases b
    ·have tq:y≠x:=of_decide_eq_false ig.out
     go_wp2_with fail
     go_roundw
     case rel=>exact⟨k+1,by omega,by go_num,zh (by rw[yw kr,HY.out,List.mem_append,not_or];exact⟨lp.out,fun h=>tq (yf.1 h).symm⟩),oe⟩
     case measure=>first |(simp[intOf];done) |(simp[intOf];omega)
    have tq:y=x:=of_decide_eq_true ig.out
    go_wp2_with fail
    go_ret
    exact⟨by rw[show bC l x=(k:Int) from(fX x l 0 k lp.out (by rw[List.getElem?_eq_getElem kr,HY.out,tq])).trans (by rw[Nat.zero_add])];rfl,by first|exact HB.out.trans (oe.out.mono (by have:=HB.out.size;omega)) |(rw[hq];exact HB.out.trans (oe.out.mono (by have:=HB.out.size;omega)))⟩
  obtain rfl:k=n:=by omega
  go_wp2_with fail
  go_ret
  exact⟨by rw[show bC l x=-1 from eN x l 0 (by have:=lp.out;rwa [HN.out,List.take_length]at this)];rfl,by first|exact HB.out.trans (od.out.mono (by have:=HB.out.size;omega)) |(rw[hq];exact HB.out.trans (od.out.mono (by have:=HB.out.size;omega)))⟩
theorem AxRaw.next{b base:Nat}{ids:List IdR}{fl:List Bool}{v1 v2:Value}{W W':World}(h:AxRaw b base ids fl v1 v2 W)(hb:Below W.heap.size W W'):AxRaw b base ids fl v1 v2 W' :=
 ⟨h.ax.next hb,aL hb h.r1,aL hb h.r2⟩
theorem eql_nil(w:World):(binOp .eql 149 (.map none) (.map none)).run Tryz.prog w=.ok (.bool true) w:=by kernel_rfl
theorem spot_any(q base:Nat)(l:List IdR)(fl:List Bool)(v1 v2:Value)(x:IdR)(w:World)(hM:AxRaw q base l fl v1 v2 w)(hl:l.length<=100000) :
  Calls Tryz.prog 190 #[vP q 0,idV x] w fun e w'=>e=.returned (vI (bC l x))/\Below w.heap.size w w':=by
 have heq:=eql_nil;obtain⟨W1,am⟩:=zD (w.alloc (.cells #[vI x.a,vI x.n] 27))
 have al:=zh am;have HL:=zL am;have ab:Below w.heap.size w W1:=by rw[am];exact(zp _)
 have HB:=zh ab;obtain⟨A,cap,rfl⟩:=aY hM.r1;have HM:=zh (hM.next ab);have gx:=zh hl;have a2:=HM.out.ax.cell 2;simp only[za,zb,zf]at a2;clear am ab hM hl
 go_in
 go_upto_region 1 with fail
 rw[<- al.out];generalize hq:w.heap.size=qb at *;clear al
 go_upto_region 2 with fail
 go_cut [4] (fun v wx=>v=vI (bC l x)/\Hid (Below W1.heap.size W1 wx))
 case first=>
  obtain⟨TT,ag⟩:∃ TT:List (Nat×Nat×Value),TT=((0,12,vP q 0)::(1,13,vP q 0)::(2,14,vP q 0)::(3,15,.slice A l.length cap)::(4,16,idV x)::(5,17,vI (bC l x))::(6,4,vI (bC l x))::[]):=⟨_,rfl⟩
  have aw:=zh ag;clear ag;refine bK (fun a0=>30<=a0.tmps.size/\a0.eval (.tmp 0)=vP q 0/\a0.eval (.tmp 3)=vP qb 0) (12::13::14::15::16::17::4::[]) TT [] (fun w'=>Below W1.heap.size W1 w') (by kernel_rfl) (by kernel_rfl) ⟨by simp,rfl,rfl⟩ zB.drew ?_ ?_
  ·rintro a0 ⟨hs,dh,kg⟩ zl a1 w1 zj o ap hI ah ho zd;have ab:Below W1.heap.size W1 w1:=hI.st;have ag:=aw.out
   subst ag;have e0x:=hI.off.q dh;have e3x:=hI.off.q kg;have xq:w1.cell? ⟨q,0,none⟩=some (.slice A l.length cap):=(HM.out.next ab).ax.cell 0;have hj:=Up.of_false ah;have hj12:zj<7:=by rw[ap]at hj;exact hj
   have G:RG _ _ _ _ _ _ _ _ _ _ _:=⟨by rfl,hI,hs,ah,ho,zd⟩
   (iterate 6 rcases zq hj12 with hj12|rfl);obtain rfl:=cz hj12;all_goals obtain rfl:=oi ho
   ·exact G.nl 0 rfl (by simp[execOp,go_sem,e0x])
   ·exact G.nl 1 rfl (by simp[execOp,go_sem,G.t 0])
   ·exact G.nl 2 rfl (by simp[execOp,go_sem,G.t 1])
   ·exact G.nl 3 rfl (by simp[execOp,go_sem,G.t 2,xq])
   ·exact G.nl 4 rfl (aO 27 (.tmp 3) rfl qb 0 ((hI.off.eval (by decide)).trans kg) _ _ ((HL.out.next ab).range) Tryz.underlying27 rfl gW)
   ·refine G.cn 5 rfl 226 #[.slice A l.length cap,idV x] (by simp[go_sem,G.t 3,G.t 4]) ?_;refine(uBO A cap base l x w1 (aL ab HM.out.r1) gx.out).mono ?_;rintro e w2 ⟨rfl,hb⟩;exact⟨rfl,zU ab hb⟩
   exact G.nl 6 rfl (by simp[execOp,go_sem,G.t 5])
  intro zl a1 w1 hI bd;have ab:Below W1.heap.size W1 w1:=hI.st;have ag:=aw.out;subst ag;have z23:=hI.ptk 6 rfl (bd 6 (by decide));obtain⟨ff,rfl,hf⟩:=hI.off.forms;rw[<- hf 4]at z23;clear hI;simp only[List.foldl,Act.put,yz,List.set];rw[z23];simp only[Exit.then]
  go_step
  go_meet
  exact⟨rfl,zh ab⟩
 case rest=>
  obtain⟨rfl,i8⟩:=hcut
  go_wp2_with fail
  go_ret
  exact⟨rfl,by first|exact zU HB.out i8.out |(rw[hq];exact HB.out.trans (i8.out.mono (by have:=HB.out.size;omega)))⟩
theorem AxRaw.kp{b base:Nat}{ids:List IdR}{fl:List Bool}{v1 v2:Value}{Y:List Nat}{W W':World}(h:AxRaw b base ids fl v1 v2 W)(hk:Kp Y W W')(hb:b∉Y)(h1:∀ g,v1.ownBlock=some g->g∉Y)(h2:∀ g,v2.ownBlock=some g->g∉Y):AxRaw b base ids fl v1 v2 W' :=
 ⟨hk.lies h.ax hb,bL h.r1 hk h1,bL h.r2 hk h2⟩
theorem AxRaw.nb{b base:Nat}{ids:List IdR}{fl:List Bool}{v1 v2:Value}{W:World}(h:AxRaw b base ids fl v1 v2 W):(∀ g,v1.ownBlock=some g->g≠b/\v2.ownBlock≠some g)/\(∀ g,v2.ownBlock=some g->g≠b) :=
 ⟨fun g hg=>⟨fun e=>aX (by decide) h.r1 h.ax (by rw[hg,e]),fun e=>gK (by decide) h.r1 h.r2 g hg e⟩,fun g hg e=>aX (by decide) h.r2 h.ax (by rw[hg,e])⟩
theorem uAA(q base:Nat)(l:List IdR)(fl:List Bool)(v1 v2:Value)(w:World)(hM:AxRaw q base l fl v1 v2 w) :
  Calls Tryz.prog 191 #[vP q 0] w fun e w'=>e=.returned (.tuple #[])/\AxRaw q base l fl v1 v2 w'/\Kp [q] w w':=by
 have f2:=hM.ax.frozen 2;have f3:=hM.ax.frozen 3;have f4:=hM.ax.frozen 4;have hlt:=hM.ax.lt;have a2:=hM.ax.cell 2;have a3:=hM.ax.cell 3;have a4:=hM.ax.cell 4;simp only[za,zb,zf]at a2 a3 a4;obtain⟨W1,am⟩:∃ W1,W1=((w.setCell ⟨q,2,none⟩ (.map none)).setCell ⟨q,3,none⟩ (.slice none 0 0)).setCell ⟨q,4,none⟩ (.slice none 0 0):=⟨_,rfl⟩
 have HL:Hid (Lies W1 q 152 #[v1,v2,.map none,.slice none 0 0,.slice none 0 0]):=zh (by rw[am];exact((hM.ax.put 2 _).put 3 _).put 4 _);have HK:Hid (Kp [q] w W1):=zh (by rw[am];exact(((Kp.refl _ w).set (.inl (.head _)) 2 _).set (.inl (.head _)) 3 _).set (.inl (.head _)) 4 _);have HM:=zh hM;have al:=zh am;clear hM am
 go_in
 go_wp2_with fail
 refine bodyPost_end (results_none rfl _ _ _) rfl ?_;rw[<- al.out];have h:=HM.out.nb;exact⟨rfl,⟨HL.out,bL HM.out.r1 HK.out (fun g hg hm=>(h.1 g hg).1 (yf.1 hm)),bL HM.out.r2 HK.out (fun g hg hm=>h.2 g hg (yf.1 hm))⟩,HK.out⟩
def gP(l:List IdR)(fl:List Bool)(x:IdR)(b:Bool):List Bool:=if bC l x<0 then fl else fl.set (bC l x).toNat b
theorem uFO(l:List IdR)(fl:List Bool)(x:IdR)(b:Bool):(gP l fl x b).length=fl.length:=by
 unfold gP
 split
 ·rfl
 exact List.length_set
theorem qU(l:List IdR)(x:IdR):bC l x=-1\/∃ k:Nat,bC l x=(k:Int)/\k<l.length:=by
 by_cases h:x∈l
 ·obtain⟨k,h1,h2⟩:=iI x l 0 h;exact .inr ⟨k,by unfold bC;rw[h1,Nat.zero_add],(List.getElem?_eq_some_iff.1 h2).1⟩
 exact .inl (eN x l 0 h)
theorem turn_any(q base:Nat)(l:List IdR)(fl:List Bool)(v1 v2:Value)(x:IdR)(b:Bool)(w:World)(hM:AxRaw q base l fl v1 v2 w)(hl:l.length=fl.length)(hn:l.length<=100000) :
  Calls Tryz.prog 131 #[vP q 0,idV x,.bool b] w fun e w'=>(∃ n,e=.returned (vI n))/\AxRaw q base l (gP l fl x b) v1 v2 w'/\Kp (q::v2.ownBlock.toList) w w':=by
 obtain⟨W1,am⟩:=zD (w.alloc (.cells #[vI x.a,vI x.n] 27))
 have al:=zh am;have tu:=zL am;have ab:Below w.heap.size w W1:=by rw[am];exact(zp _)
 have HB:=zh ab;have HM:=zh (hM.next ab);have HL:=zh hl;have HN:=zh hn;have b0:=tu.out.cell 0;have b1:=tu.out.cell 1;simp only[za,zb,zf]at b0 b1;clear am ab hM hl hn
 go_in
 go_upto_region 1 with fail
 rw[<- al.out];generalize hq:w.heap.size=qb at *;have HQ:=zh hq;clear al hq
 go_wp2_with fail
 refine(spot_any q base l fl v1 v2 x W1 HM.out HN.out).mono ?_;rintro e W2 ⟨rfl,hb2⟩;have kh:=zh (HM.out.next hb2);have ba:=zh hb2;have fj:Hid (Kp (q::v2.ownBlock.toList) w W2):=zh (Kp.of_below (by have h:=HB.out;rw[<- HQ.out]at h;exact zU h hb2));clear hb2 b0 b1;rcases qU l x with hp|⟨k,hp,hk⟩
 ·have HS:Hid (gP l fl x b=fl):=zh (by unfold gP;rw[hp];rfl);rw[hp]
  go_wp2_with fail
  go_ret
  exact⟨⟨_,rfl⟩,by rw[HS.out];exact kh.out,fj.out⟩
 have ft:k<fl.length:=by rw[<- HL.out];exact hk
 have HS:Hid (gP l fl x b=fl.set k b):=zh (by unfold gP;rw[hp,if_neg (by omega)];rfl);have HKL:=zh ft;have rg:(k:Int)<=100000:=by have:=HN.out;omega
 obtain⟨g,cap,rfl,mu,hgl⟩:=kh.out.r2.form (by omega);have ip:(k:Int)<(fl.length:Int):=by omega
 have a1:=kh.out.ax.cell 1;simp only[za,zb,zf]at a1;have hc:W2.cell? ⟨g,k,none⟩=some (.bool fl[k]):=by
  rw[kh.out.r2.cellAt k (by omega)];unfold dF;rw[List.getElem?_map,List.getElem?_eq_getElem ft];rfl
 obtain⟨c,m8⟩:=zE (fl[k])
 have HC:=zh m8;rw[m8]at hc;rw[hp];clear hk;have ep:fl.set k c=fl:=by rw[<- m8];exact List.set_getElem_self ft
 clear m8 HC;by_cases hcb:c=b
 ·subst hcb
  go_wp2_with fail
  go_ret
  exact⟨⟨_,rfl⟩,by rw[HS.out,ep];exact kh.out,fj.out⟩
 have hff:=kh.out.r2.frozenAt k;have hcf:(c==b)=false:=by cases c <;> cases b <;> first|rfl|exact absurd rfl hcb
 obtain⟨W3,jk⟩:=zD (W2.setCell ⟨g,k,none⟩ (.bool b))
 have ux:Hid (AxRaw q base l (fl.set k b) v1 (.slice (some ⟨g,0,none⟩) fl.length cap) W3):=zh (by
  have hn:=kh.out.nb;have gq:Kp [g] W2 W3:=by rw[jk];exact(Kp.refl _ W2).set (.inl (.head _)) k _
  refine⟨gq.lies kh.out.ax (fun h=>hn.2 g rfl (yf.1 h).symm),bL kh.out.r1 gq (fun y hy hm=>(hn.1 y hy).2 (by rw[yf.1 hm];rfl)),?_⟩;have h:=(kh.out.r2.stored k (.bool b)).1;rw[<- jk]at h;rw[List.length_set];unfold dF at h ⊢;rw[List.map_set];exact h)
 have m9:Hid (Kp (q::(Value.slice (some ⟨g,0,none⟩) fl.length cap).ownBlock.toList) w W3):=zh (by rw[jk];exact fj.out.set (.inl (.tail _ (.head _))) k _);clear kh fj
 go_wp2_with fail
 rw[<- jk];refine(uAA q base l (fl.set k b) v1 _ W3 ux.out).mono ?_;rintro e W4 ⟨rfl,h4,h5⟩
 go_wp2_with fail
 go_ret
 exact⟨⟨_,rfl⟩,by rw[HS.out];exact h4,m9.out.trans (h5.mono (fun y hy _=>by rw[yf.1 hy];exact .head _))⟩
theorem zK(q base:Nat)(l:List IdR)(fl:List Bool)(v1 v2:Value)(x:IdR)(w:World)(hM:AxRaw q base l fl v1 v2 w)(hl:l.length=fl.length)(hn:l.length<=100000) :
  Calls Tryz.prog 71 #[vP q 0,idV x] w fun e w'=>(∃ n,e=.returned (vI n))/\AxRaw q base l (gP l fl x false) v1 v2 w'/\Kp (q::v2.ownBlock.toList) w w':=by
 obtain⟨W1,am⟩:=zD (w.alloc (.cells #[vI x.a,vI x.n] 27))
 have al:=zh am;have tu:=zL am;have ab:Below w.heap.size w W1:=by rw[am];exact(zp _)
 have HB:=zh ab;have HM:=zh (hM.next ab);have b0:=tu.out.cell 0;have b1:=tu.out.cell 1;simp only[za,zb,zf]at b0 b1;clear am ab hM
 go_in
 go_upto_region 1 with fail
 rw[<- al.out];generalize hq:w.heap.size=qb at *;have HQ:=zh hq;clear al hq
 go_wp2_with fail
 refine(turn_any q base l fl v1 v2 x false W1 HM.out hl hn).mono ?_;rintro e W2 ⟨⟨n,rfl⟩,h2,h3⟩
 go_wp2_with fail
 go_ret
 exact⟨⟨_,rfl⟩,h2,(Kp.of_below (by have h:=HB.out;rw[<- HQ.out]at h;exact h)).trans h3⟩
theorem RfMk.kp{q base:Nat}{acc:List IdR}{fl:List Bool}{v1 v2:Value}{Y:List Nat}{W W':World}(h:RfMk q base acc fl v1 v2 W)(hk:Kp Y W W')(hb:q∉Y)(h1:∀ g,v1.ownBlock=some g->g∉Y)(h2:∀ g,v2.ownBlock=some g->g∉Y):RfMk q base acc fl v1 v2 W' :=
 ⟨hk.lies h.ax hb,bL h.r1 hk h1,bL h.r2 hk h2⟩
theorem RfMk.nb{q base:Nat}{acc:List IdR}{fl:List Bool}{v1 v2:Value}{W:World}(h:RfMk q base acc fl v1 v2 W):(∀ g,v1.ownBlock=some g->g≠q/\v2.ownBlock≠some g)/\(∀ g,v2.ownBlock=some g->g≠q) :=
 ⟨fun g hg=>⟨fun e=>aX (by decide) h.r1 h.ax (by rw[hg,e]),fun e=>gK (by decide) h.r1 h.r2 g hg e⟩,fun g hg e=>aX (by decide) h.r2 h.ax (by rw[hg,e])⟩
theorem lA{ops:Array Oper}{rest:List Oper}{o:Oper}{a:Act}{w:World}{Q:Exit->Act->World->Prop}(sl:o.guard=none)(s x:Operand)(ho:o.op=.call { callee:=.builtin .append,args:=#[s,x],argTypes:=#[148,148] })
  (base n m:Nat) (v:Value) (xs:List Value) (hs:a.eval s=v) (az:w.ownsRow base 4 1 v n xs) (hn:n+m<=1000000) (fd:base<=w.heap.size)
  (v2:Value) (b2:Nat) (fl:List Bool) (hx:a.eval x=v2) (oh:w.ownsRow b2 4 1 v2 m (fl.map Value.bool)) (hm:0<m)
  (h:∀ A' c' w',w'.ownsRow base 4 1 (.slice A' (n+m) c') (n+m) (xs++fl.map Value.bool)->w.grownBy w' v.ownBlock->wpList Tryz.prog ops Q rest (a.put o.dst (.slice A' (n+m) c')) w'):wpList Tryz.prog ops Q (o::rest) a w:=by
 obtain⟨i1,gi,gz0,gz1,gz2⟩:=info_parts mK;obtain⟨g,cap,hv2,_,_,tz⟩:=fI oh hm;have t5:∀ j u,(fl.map Value.bool)[j]?=some u->w.cell? ((⟨g,0,none⟩:Addr).add j)=some u:=fun j u hj=>by
  have e:(⟨g,0,none⟩:Addr).add j=⟨g,j,none⟩:=by cases j <;> simp[Addr.add]
  rw[e];exact tz j u hj
 refine wpList_append_own (P:=Tryz.prog) w sl s x 148 ho base 4 i1 (.bool false) 1 1 Tryz.underlying148 gi gz0 gz1 gz2 rfl (by decide) v n xs hs az ⟨g,0,none⟩ m cap (fl.map Value.bool) (by rw[hx,hv2]) oh.1 t5 (fun u hu=>by obtain⟨b,_,rfl⟩:=yj.1 hu;rfl) (by unfold maxLen;omega) (by omega) fd (fun v' w' k1 k2 _=>?_);obtain⟨A',c',rfl⟩:=aY k1;exact h A' c' w' k1 k2
theorem wT{W W4:World}{z:Nat}(h:W.grownBy W4 (Value.slice (some ⟨z,0,none⟩) 0 0).ownBlock):Kp [z] W W4 :=
 (Kp.refl _ _).grown h (fun y hy=>.inl (by simp[Value.ownBlock]at hy;subst hy;exact .head _))
theorem uAE{W W4:World}{z q:Nat}{t:TypeId}{cs:Array Value}(h:W.grownBy W4 (Value.slice (some ⟨z,0,none⟩) 0 0).ownBlock)(hl:Lies W q t cs)(hq:q<z):Lies W4 q t cs :=
 (wT h).lies hl (fun hm=>by have:=yf.1 hm;omega)
theorem rset_any(q base:Nat)(l:List IdR)(fl:List Bool)(v1 v2:Value)(x:IdR)(b:Bool)(w:World)(hM:RfMk q base l fl v1 v2 w)(hl:l.length=fl.length)(hn:l.length<=100000)(fd:base<=w.heap.size) :
  Calls Tryz.prog 72 #[vP q 0,idV x,.bool b] w fun e w'=>(∃ n,e=.returned (vI n))/\(∃ v2',RfMk q base l (gP l fl x b) v1 v2' w')/\Kp [q] w w':=by
 obtain⟨W1,am⟩:=zD (w.alloc (.cells #[vI x.a,vI x.n] 27))
 have al:=zh am;have tu:=zL am;have ab:Below w.heap.size w W1:=by rw[am];exact(zp _)
 have HB:=zh ab;have HM:=zh (hM.next ab);have HL:=zh hl;have HN:=zh hn;have b0:=tu.out.cell 0;have b1:=tu.out.cell 1;simp only[za,zb,zf]at b0 b1;clear am ab hM hl hn
 go_in
 go_upto_region 1 with fail
 rw[<- al.out];generalize hq:w.heap.size=qb at *;have HQ:=zh hq;clear al hq
 go_wp2_with fail
 refine(uO q base l fl v1 v2 x W1 HM.out HN.out).mono ?_;rintro e W2 ⟨rfl,hb2⟩;have kh:=zh (HM.out.next hb2);have ba:=zh hb2;have fj:Hid (Kp [q] w W2):=zh (Kp.of_below (by have h:=HB.out;rw[<- HQ.out]at h;exact zU h hb2));have dv:Hid (base<=W2.heap.size):=zh (by have:=HB.out.size;have:=hb2.size;have:=HQ.out;omega);clear hb2 b0 b1;rcases qU l x with hp|⟨k,hp,hk⟩
 ·have HS:Hid (gP l fl x b=fl):=zh (by unfold gP;rw[hp];rfl);rw[hp]
  go_wp2_with fail
  go_ret
  exact⟨⟨_,rfl⟩,⟨_,by rw[HS.out];exact kh.out⟩,fj.out⟩
 have ft:k<fl.length:=by rw[<- HL.out];exact hk
 have HS:Hid (gP l fl x b=fl.set k b):=zh (by unfold gP;rw[hp,if_neg (by omega)];rfl);have rg:(k:Int)<=100000:=by have:=HN.out;omega
 obtain⟨g,cap,rfl,mu,hgl⟩:=kh.out.r2.form (by omega);have ip:(k:Int)<(l.length:Int):=by omega
 have a1:=kh.out.ax.cell 1;simp only[za,zb,zf]at a1;have hc:W2.cell? ⟨g,k,none⟩=some (.bool fl[k]):=by
  rw[kh.out.r2.cellAt k (by omega),List.getElem?_map,List.getElem?_eq_getElem ft];rfl
 obtain⟨c,m8⟩:=zE (fl[k])
 rw[m8]at hc;rw[hp];clear hk;have ep:fl.set k c=fl:=by rw[<- m8];exact List.set_getElem_self ft
 clear m8;by_cases hcb:c=b
 ·subst hcb
  go_wp2_with fail
  go_ret
  exact⟨⟨_,rfl⟩,⟨_,by rw[HS.out,ep];exact kh.out⟩,fj.out⟩
 have hcf:(c==b)=false:=by cases c <;> cases b <;> first|rfl|exact absurd rfl hcb
 have dt:Below W2.heap.size W2 (W2.alloc (.cells #[] 4)):=(zp _);have HE:Hid ((W2.alloc (.cells #[] 4)).ownsRow W2.heap.size 4 1 (.slice (some ⟨W2.heap.size,0,none⟩) 0 0) 0 []):=zh (World.ownsRow_lit W2 #[] 0 zr (by decide) rfl);have ux:=zh (kh.out.next dt);have m9:=zh (fj.out.trans (Kp.of_below dt));have nf:Hid (W2.heap.size<=(W2.alloc (.cells #[] 4)).heap.size):=zh dt.size;have vz:Hid (q<W2.heap.size):=zh kh.out.ax.lt;have c1:=ux.out.ax.cell 1;simp only[za,zb,zf]at c1;clear dt
 go_upto_region 7 with(at_builtin;refine lA rfl _ _ rfl W2.heap.size 0 fl.length _ [] rfl HE.out (by have:=HN.out;have:=HL.out;omega) nf.out _ base fl rfl (by have h:=ux.out.r2;rw[HL.out]at h;rw[HL.out];exact h) (by omega) ?_;intro A4 c4 W4 k4 g4;have K4:=zh k4;have HKG:=zh (wT g4);have X4:=zh (uAE g4 ux.out.ax vz.out);have x1:=X4.out.cell 1;have f1:=X4.out.frozen 1;have hqz:q<W4.heap.size:=X4.out.lt;simp only[za,zb,zf]at x1;clear k4 g4 a1 hc c1)
 have K5:W4.ownsRow W2.heap.size 4 1 (.slice A4 fl.length c4) fl.length (fl.map Value.bool):=by have h:=K4.out;rwa [Nat.zero_add,List.nil_append]at h
 have hqw:Kp [W2.heap.size] W2 W4:=(Kp.of_below (zp _)).trans HKG.out;have i7:W4.ownsRow base 27 2 v1 l.length (aJ l):=bL kh.out.r1 hqw (fun y hy hm=>by have:=(bP kh.out.r1 y hy).2;have:=yf.1 hm;omega);obtain⟨W5,dr⟩:=zD (W4.setCell ⟨q,1,none⟩ (.slice A4 fl.length c4))
 have vu:Kp [q] W4 W5:=by rw[dr];exact(Kp.refl _ W4).set (.inl (.head _)) 1 _
 have di:Hid (Lies W5 q 156 #[v1,.slice A4 fl.length c4]):=zh (by rw[dr];exact X4.out.put 1 _);have kv:=zh (bL i7 vu (fun y hy hm=>(kh.out.nb.1 y hy).1 (yf.1 hm)));have lh:=zh (bL K5 vu (fun y hy hm=>by have h:=(bP K5 y hy).1;have:=yf.1 hm;have:=vz.out;omega));have kw:Hid (Kp [q] w W5):=zh ((fj.out.andThen hqw (fun y hy=>.inr (by rw[yf.1 hy];exact fj.out.size))).trans vu);have o7:Hid (w.heap.size<=W2.heap.size/\base<=W2.heap.size/\q<W2.heap.size):=zh ⟨fj.out.size,dv.out,vz.out⟩
 first|rw[<- dr] |(rw[Nat.zero_add,<- dr])
 clear K5 hqw i7 vu dr x1 f1 hqz kh ux fj m9 HKG X4 K4 HE nf;obtain⟨g4,i6,hv4,hgb4,hgl4⟩:=lh.out.form (by omega);cases hv4;have y1:=di.out.cell 1;simp only[za,zb,zf]at y1;have hc5:W5.cell? ⟨g4,k,none⟩=some (.bool fl[k]):=by
  rw[lh.out.cellAt k (by omega),List.getElem?_map,List.getElem?_eq_getElem ft];rfl
 have ff5:=lh.out.frozenAt k;have hki5:(k:Int)<(fl.length:Int):=by omega
 go_wp2_with fail
 go_ret
 obtain⟨W6,ja⟩:=zD (W5.setCell ⟨g4,k,none⟩ (.bool b))
 rw[<- ja];have hk6:Kp [g4] W5 W6:=by rw[ja];exact(Kp.refl _ W5).set (.inl (.head _)) k _
 have hg4q:g4≠q:=by have:=o7.out;omega
 have en:=(lh.out.stored k (.bool b)).1;rw[<- ja]at en;refine⟨⟨_,rfl⟩,⟨.slice (some ⟨g4,0,none⟩) fl.length c4,?_⟩,kw.out.andThen hk6 (fun y hy=>.inr (by rw[yf.1 hy];have:=o7.out;omega))⟩;rw[HS.out];refine⟨hk6.lies di.out (fun h=>hg4q (yf.1 h).symm),bL kv.out hk6 (fun y hy hm=>gK (by decide) kv.out lh.out y hy (by rw[yf.1 hm];rfl)),?_⟩;rw[HL.out,List.map_set];exact lU en o7.out.2.1
def dK(l dead:List IdR):List Bool:=dead.foldl (fun fl x=>gP l fl x false) (List.replicate l.length true)
theorem oR(l dead:List IdR)(k:Nat)(h:k<dead.length):dK l (dead.take (k+1))=gP l (dK l (dead.take k)) dead[k] false:=by
 unfold dK;rw[yw h,List.foldl_append];rfl
theorem qN(l dead:List IdR):∀ k,k<=dead.length->(dK l (dead.take k)).length=l.length:=by
 intro k
 induction k with
 |zero=>intro _;exact List.length_replicate
 |succ k ih=>intro h;rw[oR l dead k h,uFO,ih (by omega)]
structure TwoAx(w:World)(q m b1 b2:Nat)(acc:List IdR)(fl:List Bool)(v1 v2 u1 u2:Value)(W:World):Prop where
 a:AxRaw q b1 acc fl v1 v2 W
 r:RfMk m b2 acc fl u1 u2 W
 b:Below w.heap.size w W
 q1:w.heap.size<=q
 qm:q<m
 mb:m<=b2
 e1:∀ g,v1.ownBlock=some g->g<m
 e2:∀ g,v2.ownBlock=some g->w.heap.size<=g/\g<m
 bs:b2<=W.heap.size
theorem TwoAx.del{w:World}{q m b1 b2:Nat}{acc:List IdR}{fl fl':List Bool}{v1 v2 u1 u2:Value}{W W':World}(h:TwoAx w q m b1 b2 acc fl v1 v2 u1 u2 W)(hk:Kp (q::v2.ownBlock.toList) W W')(ha:AxRaw q b1 acc fl' v1 v2 W') :
  AxRaw q b1 acc fl' v1 v2 W'/\RfMk m b2 acc fl u1 u2 W'/\Below w.heap.size w W'/\b2<=W'.heap.size:=by
 have hm:∀ g,m<=g->g∉q::v2.ownBlock.toList:=fun g hg hx=>by
  rcases ym.1 hx with hx|hx
  ·have:=h.qm;omega
  have:=(h.e2 g (by simpa using hx)).2;omega
 refine⟨ha,h.r.kp hk (hm m zr) (fun g hg=>hm g (yv h.mb (bP h.r.r1 g hg).1)) (fun g hg=>hm g (yv h.mb (bP h.r.r2 g hg).1)),h.b.trans (hk.below (fun g hg=>?_) h.b.size),yv h.bs hk.size⟩;rcases ym.1 hg with hx|hx
 ·rw[hx];exact h.q1
 exact(h.e2 g (by simpa using hx)).1
theorem TwoAx.set{w:World}{q m b1 b2:Nat}{acc:List IdR}{fl fl':List Bool}{v1 v2 u1 u2 u2':Value}{W0 W W':World}(h:TwoAx w q m b1 b2 acc fl v1 v2 u1 u2 W0)(ha:AxRaw q b1 acc fl' v1 v2 W)(hb:Below w.heap.size w W)(hz:b2<=W.heap.size)(hk:Kp [m] W W')(hr:RfMk m b2 acc fl' u1 u2' W'):TwoAx w q m b1 b2 acc fl' v1 v2 u1 u2' W':=by
 have hm:∀ g,g<m->g∉[m]:=fun g hg hx=>by have:=yf.1 hx;omega
 exact⟨ha.kp hk (hm q h.qm) (fun g hg=>hm g (h.e1 g hg)) (fun g hg=>hm g (h.e2 g hg).2),hr,hb.trans (hk.below (fun g hg=>by rw[yf.1 hg];exact Nat.le_of_lt (Nat.lt_of_le_of_lt h.q1 h.qm)) hb.size),h.q1,h.qm,h.mb,h.e1,h.e2,yv hz hk.size⟩
theorem tN(A D:Option Addr)(cap capd:Nat)(ids dead:List IdR)(w:World)(hA:eA w A ids)(hD:eA w D dead)(hn:ids.length<=300)(hnd:dead.length<=300)(hf:∀ y∈ids,y.fits) :
  Calls Tryz.prog 32 #[.slice A ids.length cap,.slice D dead.length capd] w fun e w'=>∃ m b1 b2 v1 v2 u1 u2,e=.returned (.tuple #[vP w.heap.size 0,vP m 0])/\TwoAx w w.heap.size m b1 b2 (bD ids) (dK (bD ids) dead) v1 v2 u1 u2 w':=by
 have CA:=zh (uDX A cap ids w hA hn hf);have CR:=zh (fun W h=>rnew_any A cap ids W h hn);have HA:=zh hA;have HD:=zh hD;have HND:=zh hnd;obtain⟨k1,k2,k3,k4⟩:=nT ids;have m9:Hid ((bD ids).length<=300):=zh (yv k3 hn);have HSu:=zh (oR (bD ids) dead);have t7:=zh (qN (bD ids) dead);have H0:Hid (dK (bD ids) (dead.take 0)=List.replicate (bD ids).length true):=zh rfl;have lz:Hid (dK (bD ids) (dead.take dead.length)=dK (bD ids) dead):=zh (by rw[List.take_length]);obtain⟨n,fi⟩:=zD dead.length
 have HN:=zh fi;rw[<- fi];generalize bD ids=acc at *;clear hA hD k1 k2 k3 k4 hf hnd fi
 go_in
 go_wp2_with fail
 refine CA.out.mono ?_;rintro e w1 ⟨v1,v2,rfl,h1,ab⟩;have CR1:=zh (CR.out w1 (fun h0=>by obtain⟨g,o,e,hr⟩:=HA.out h0;exact⟨g,o,e,hr.at ab.size (ab.block g hr.1)⟩));have H1:=zh h1;have bf:=zh ab;clear h1 ab CA CR HA
 go_wp2_with fail
 refine CR1.out.mono ?_;rintro e w2 ⟨u1,u2,rfl,h2,hb2⟩;have HT:Hid (TwoAx w w.heap.size w1.heap.size (w.heap.size+2) (w1.heap.size+1) acc (dK acc (dead.take 0)) v1 v2 u1 u2 w2):=zh (by
  rw[H0.out];have ha:=H1.out.next hb2;refine⟨⟨ha.ax,ha.r1,?_⟩,h2,zU bf.out hb2,zr,H1.out.ax.lt,Nat.le_succ _,fun g hg=>(bP H1.out.r1 g hg).2,fun g hg=>⟨by have:=(bP H1.out.r2 g hg).1;omega,(bP H1.out.r2 g hg).2⟩,h2.ax.lt⟩;rw[List.length_replicate];unfold dF;rw[List.map_replicate];exact ha.r2)
 generalize hm:w1.heap.size=m at *;clear h2 hb2 CR1 H1 bf
 go_wp2_with fail
 go_loopw [8] (fun v wr=>∃ (k:Nat) (u2':Value),k<=n/\v=vI (k:Int)/\Hid (TwoAx w w.heap.size m (w.heap.size+2) (m+1) acc (dK acc (dead.take k)) v1 v2 u1 u2' wr)) (fun v _=>n-(intOf v).toNat)
 case atStart=>exact⟨0,_,zm _,rfl,HT⟩
 case round=>
  obtain⟨k,u2',hk,rfl,hT⟩:=hrel;clear HT;generalize qc:w.heap.size=q at *;have HQ:=zh qc;clear qc;have rg:(k:Int)<=300:=by have:=HND.out;have:=HN.out;omega
  by_cases hlt:k<n
  ·have ip:k<dead.length:=by rw[<- HN.out];exact hlt
   have hkn:(k:Int)<(n:Int):=by omega
   obtain⟨ga,oa,rfl,kc,bp⟩:=HD.out (by omega);obtain⟨c0,c1⟩:=bp k ip;have sr:=zh (HSu.out k ip);have HLk:=zh (t7.out k (by omega));have hbw:Below q w wr:=by have h:=hT.out.b;rw[HQ.out]at h;exact h
   have d0:wr.cell? ⟨ga,oa+k*2,none⟩=some (vI dead[k].a):=(hbw.cell (p:=⟨ga,_,none⟩) (by rw[<- HQ.out];exact kc)).trans c0;have d1:wr.cell? ⟨ga,oa+k*2+1,none⟩=some (vI dead[k].n):=(hbw.cell (p:=⟨ga,_,none⟩) (by rw[<- HQ.out];exact kc)).trans c1;have HGa:Hid (ga<q):=zh (by rw[<- HQ.out];exact kc);have qn:Hid (∀ W,Below w.heap.size w W->W.cell? ⟨ga,oa+k*2,none⟩=some (vI dead[k].a)/\W.cell? ⟨ga,oa+k*2+1,none⟩=some (vI dead[k].n)):=zh (fun W hb=>⟨(hb.cell (p:=⟨ga,_,none⟩) kc).trans c0,(hb.cell (p:=⟨ga,_,none⟩) kc).trans c1⟩);clear c0 c1 bp hbw;generalize dead[k]=x at *;obtain⟨xa,xn⟩:=x;dsimp only at d0 d1;generalize dK acc (dead.take k)=fl at *
   go_wp2_with fail
   refine(zK q (q+2) acc fl v1 v2 ⟨xa,xn⟩ wr hT.out.a HLk.out.symm (by have:=m9.out;omega)).mono ?_;rintro e w3 ⟨⟨n3,rfl⟩,h3,k3⟩;have HDl:=zh (hT.out.del k3 h3);obtain⟨e0,e1⟩:=qn.out w3 HDl.out.2.2.1;clear h3 k3 d0 d1
   go_wp2_with fail
   refine(rset_any m (m+1) acc fl u1 u2' ⟨xa,xn⟩ false w3 HDl.out.2.1 HLk.out.symm (by have:=m9.out;omega) HDl.out.2.2.2).mono ?_;rintro e w4 ⟨⟨n4,rfl⟩,⟨u2'',h4⟩,k4⟩;have HT4:=zh (hT.out.set HDl.out.1 HDl.out.2.2.1 HDl.out.2.2.2 k4 h4);clear h4 k4 HDl e0 e1
   go_wp2_with fail
   go_roundw
   case rel=>exact⟨k+1,u2'',by omega,by go_num,zh (by rw[sr.out];exact HT4.out)⟩
   case measure=>first |(simp[intOf];done) |(simp[intOf];omega)
  obtain rfl:k=n:=by omega
  go_wp2_with fail
  (try simp only[Exit.inBlock,Exit.then])
  refine yt (results_tmp2 rfl _ _ _) rfl ?_;exact⟨_,_,_,_,_,_,_,by first|rfl |(rw[HQ.out];rfl),by have h:=hT.out;rw[HN.out,lz.out]at h;first|exact h |(rw[HQ.out];exact h)⟩
theorem jW:∀ (a b:List IdR),aJ (a++b)=aJ a++aJ b
 | [],_=>rfl
 |x::a,b=>by
  show _::_::aJ (a++b)=_;rw[jW a b];rfl
theorem pU{W W4:World}{B n sz:Nat}{e:TypeId}{v:Value}{xs:List Value}(ho:W.ownsRow B e sz v n xs)(h:W.grownBy W4 v.ownBlock)(hB:B<=W.heap.size):Below B W W4 :=
 ((Kp.refl v.ownBlock.toList W).grown h (fun y hy=>.inl (by rw[hy];exact .head _))).below (fun y hy=>(bP ho y (by simpa using hy)).1) hB
theorem oJ{ops:Array Oper}{rest:List Oper}{o:Oper}{a:Act}{w:World}{Q:Exit->Act->World->Prop}(sl:o.guard=none)(s x:Operand)(ho:o.op=.call { callee:=.builtin .append,args:=#[s,x],argTypes:=#[35,35] })
  (base n:Nat) (v:Value) (xs:List Value) (hs:a.eval s=v) (az:w.ownsRow base 27 2 v n xs) (hn:n<=1000000) (fd:base<=w.heap.size)
  (z:Nat) (y:IdR) (hx:a.eval x=.slice (some ⟨z,0,none⟩) 1 1) (hz:Lies w z 27 #[vI y.a,vI y.n])
  (h:∀ A' c' w',w'.ownsRow base 27 2 (.slice A' (n+1) c') (n+1) (xs++aJ [y])->w.grownBy w' v.ownBlock->wpList Tryz.prog ops Q rest (a.put o.dst (.slice A' (n+1) c')) w'):wpList Tryz.prog ops Q (o::rest) a w:=by
 obtain⟨i1,gi,gz0,gz1,gz2⟩:=info_parts qZ;have h0:w.cell? ⟨z,0,none⟩=some (vI y.a):=hz.cell 0;have h1:w.cell? ⟨z,1,none⟩=some (vI y.n):=hz.cell 1;refine wpList_append_own (P:=Tryz.prog) w sl s x 35 ho base 27 i1 (.agg #[vI 0,vI 0]) 2 16 Tryz.underlying35 gi gz0 gz1 gz2 rfl (by decide) v n xs hs az ⟨z,0,none⟩ 1 1 (aJ [y]) hx rfl (fun j u hj=>?_) (fun u hu=>?_) (by unfold maxLen;omega) (by omega) fd (fun v' w' k1 k2 _=>?_)
 ·match j,hj with
  |0,hj=>cases hj;exact h0
  |1,hj=>cases hj;simpa [Addr.add] using h1
 ·rcases ym.1 hu with rfl|hu
  ·rfl
  rw[yf.1 hu];rfl
 obtain⟨A',c',rfl⟩:=aY k1;exact h A' c' w' k1 k2
theorem uBL(q base:Nat)(l:List IdR)(fl:List Bool)(v1 v2:Value)(w:World)(hM:RfMk q base l fl v1 v2 w)(hl:l.length=fl.length)(hn:l.length<=300) :
  Calls Tryz.prog 45 #[vP q 0] w fun e w'=>∃ A c,e=.returned (.slice A (aK l fl).length c)/\w'.ownsRow w.heap.size 27 2 (.slice A (aK l fl).length c) (aK l fl).length (aJ (aK l fl))/\Below w.heap.size w w':=by
 have HM:=zh hM;have HL:=zh hl;have HN:=zh hn;have HSu:Hid (∀ k (hk:k<l.length) (ft:k<fl.length),aK (l.take (k+1)) (fl.take (k+1))=aK (l.take k) (fl.take k)++(if fl[k] then [l[k]] else [])):=zh (fun k hk _=>pA l fl k hl hk);have lz:Hid (aK (l.take l.length) (fl.take l.length)=aK l fl):=zh (by rw[List.take_length,hl,List.take_length]);have t7:Hid (∀ k,(aK (l.take k) (fl.take k)).length<=300):=zh (fun k=>yv (dO _ _) (by rw[zc];omega));clear hM hl hn
 go_in
 go_wp2_with fail
 go_loopw [3,4] (fun v3 v4 wr=>∃ k:Nat,k<=l.length/\v4=vI (k:Int)/\Hid (wr.ownsRow w.heap.size 27 2 v3 (aK (l.take k) (fl.take k)).length (aJ (aK (l.take k) (fl.take k))))/\Hid (Below w.heap.size w wr)) (fun _ v _=>l.length-(intOf v).toNat)
 case atStart=>exact⟨0,zm _,rfl,zh ⟨rfl,.inl ⟨rfl,rfl⟩⟩,zh zB⟩
 case round=>
  obtain⟨k,hk,rfl,hO,hB⟩:=hrel;have mz:=zh (HM.out.next hB.out);obtain⟨A1,b6,rfl⟩:=aY mz.out.r1;obtain⟨A2,cy,rfl⟩:=aY mz.out.r2;have a0:=mz.out.ax.cell 0;have a1:=mz.out.ax.cell 1;simp only[za,zb,zf]at a0 a1;have rg:(k:Int)<=300:=by have:=HN.out;omega
  by_cases hlt:k<l.length
  ·have ip:(k:Int)<(l.length:Int):=by omega
   have ft:k<fl.length:=by rw[<- HL.out];exact hlt
   obtain⟨g1,c1,hv1,_,iy⟩:=mz.out.r1.form (by omega);cases hv1;obtain⟨g2,c2,hv2,_,li⟩:=mz.out.r2.form (by omega);cases hv2;have hc:wr.cell? ⟨g2,k,none⟩=some (.bool fl[k]):=by
    rw[mz.out.r2.cellAt k (by omega),List.getElem?_map,List.getElem?_eq_getElem ft];rfl
   have sr:=zh (HSu.out k hlt ft);have hrg:=mQ mz.out.r1 k hlt;have d0:wr.cell? ⟨g1,k*2,none⟩=some (vI l[k].a):=hrg 0 _ rfl;have d1:wr.cell? ⟨g1,k*2+1,none⟩=some (vI l[k].n):=hrg 1 _ rfl;clear hrg;generalize l[k]=x at *;generalize fl[k]=c at *;obtain⟨xa,xn⟩:=x;dsimp only at d0 d1;have HLk:=zh (t7.out k);generalize nn:aK (l.take k) (fl.take k)=acc at *;clear nn;cases c
   ·go_wp2_with fail
    go_roundw
    case rel=>exact⟨k+1,by omega,by go_num,by rw[sr.out];simp only[Bool.false_eq_true,if_false,List.append_nil];exact hO,hB⟩
    case measure=>first |(simp[intOf];done) |(simp[intOf];omega)
   have HOa:=zh (hO.out.alloc (.cells #[vI xa,vI xn] 27));have cq:Hid (w.heap.size<=(wr.alloc (.cells #[vI xa,vI xn] 27)).heap.size):=zh (by rw[World.size_alloc];exact Nat.le_succ_of_le hB.out.size);have HLz:=zh (Lies.new wr 27 #[vI xa,vI xn])
   go_wp2_with (at_builtin;refine oJ rfl _ _ rfl w.heap.size acc.length _ _ rfl HOa.out (by have:=HLk.out;omega) cq.out wr.heap.size ⟨xa,xn⟩ rfl HLz.out ?_;intro A4 c4 w4 k4 g4;have K4:=zh k4;have G4:=zh g4;clear k4 g4)
   go_roundw
   case rel=>
    refine⟨k+1,by omega,by go_num,?_,zh ?_⟩
    ·rw[sr.out];simp only[if_true];rw[jW,yl];exact K4
    exact(hB.out.alloc hB.out.size _).trans (pU HOa.out G4.out cq.out)
   case measure=>first |(simp[intOf];done) |(simp[intOf];omega)
  obtain rfl:k=l.length:=by omega
  go_wp2_with fail
  go_ret
  rw[lz.out]at hO;obtain⟨A3,c3,rfl⟩:=aY hO.out;exact⟨A3,c3,rfl,hO.out,hB.out⟩
end Go.Proofs.YtjfihpaeglpblaaGreatDoor
