/-
  Lemmas, part 7: Wr7 Wr8 Wr3.
-/
import Derived.Test.YtjfihpaeglpblaaGreatDoorRt6
set_option maxHeartbeats 100000000
set_option maxRecDepth 1000000
namespace Go.Proofs.YtjfihpaeglpblaaGreatDoor
open Go.RowKit
theorem pE{g o N c a b:Nat}(h1:a<b)(h2:b<=N)(h3:N<=c):∀ W,(Instr.slice 32 (.slice (some ⟨g,o,none⟩) N c) (some (vI (a:Int))) (some (vI (b:Int))) none).run Tryz.prog W=.ok (.slice (some ⟨g,o+a*22,none⟩) (b-a) (c-a)) W:=fun W=>by
 have ag:Tryz.prog.underlying 32=some (.slice (Tryz.prog.elem 32)):=by kernel_rfl
 have td:∀ W,(sizeOf (Tryz.prog.elem 32)).run Tryz.prog W=.ok 22 W:=fun W=>by kernel_rfl
 rw[run_slice_lh W 32 (some ⟨g,o,none⟩) N c ag .i64 .i64 a b (by omega) (by omega) (by omega),td];have hc:¬ c=a:=by omega
 simp[Result.andThen,sliced,hc,vO]
theorem sM{g o N c a b:Nat}(h1:a<b)(h2:b<=N)(h3:N<=c):∀ W,(Instr.sliceAt 32 (.slice (some ⟨g,o,none⟩) N c) (some (vI (a:Int))) (some (vI (b:Int))) none).run Tryz.prog W=.ok (.slice (some ⟨g,o+a*22,none⟩) (b-a) (c-a)) W:=fun W=>by
 have ag:Tryz.prog.underlying 32=some (.slice (Tryz.prog.elem 32)):=by kernel_rfl
 rw[run_sliceAt_slice W 32 _ _ _ _ ag];exact pE h1 h2 h3 W
theorem xX{p m:Nat}{rp cp:Option Nat}{R C:AxV}{sf:Value}{ts:List RTok}(h:NodeH)(g o ca r cw:Nat)(Cn:List Value)(TS:List (List RTok))(w:World)(ah:Hid (Cn.toArray=aH h (some ⟨g,o,none⟩) (r*cw) ca))(np:h.rows=(r:Int))(h1:1<=r)(h2:1<=cw)(hc:r*cw<=ca)(hcm:r*cw<=100000)(hw:WrS w p m rp cp R C sf ts)
  (hL:∀ i,i<r->∀ W ts',WrS W p m rp cp R C sf ts'->Kw p (rp.toList++cp.toList) w W->ts'.length<=ts.length+(cA cw TS i).length+1->Calls Tryz.prog 136 #[vP p 0,.slice (some ⟨g,o+i*cw*22,none⟩) cw (ca-i*cw)] W fun e w'=>WrO p m rp cp R C sf (ts'++bO ((TS.drop (i*cw)).take cw)) W e w')
  (hl:∀ i,i<=r->ts.length+(cA cw TS i).length<=700000) :
  Calls Tryz.prog 137 #[vP p 0,.agg Cn.toArray] w fun e w'=>WrO p m rp cp R C sf (ts++(cA cw TS r++[tk 5 [125]])) w e w':=by
 obtain⟨W0,ak⟩:=zD (w.alloc (.cells Cn.toArray 34))
 have ai:=zh ak;have au:=zA ak;have HK:Hid (Kw p (rp.toList++cp.toList) w W0):=zh (Kw.of_below au.out);have HL:=zL ak;obtain⟨N,hN⟩:=zD (r*cw)
 have HN:=zh hN;rw[<- hN]at ah;have HC:Hid (∀ W,Lies W w.heap.size 34 Cn.toArray->W.cell? ⟨w.heap.size,20,none⟩=some (vI (r:Int))/\W.cell? ⟨w.heap.size,21,none⟩=some (.slice (some ⟨g,o,none⟩) N ca)):=zh (fun W hl=>by
  have e20:=hl.cell 20;have e21:=hl.cell 21;rw[ah.out]at e20 e21;rw[<- np];exact⟨e20,e21⟩)
 have HS:Hid (WrS W0 p m rp cp R C sf (ts++cA cw TS 0)):=zh (by rw[cA,List.append_nil];exact hw.next au.out);have CL:=zh hL;have HLl:=zh hl;obtain⟨x,hx⟩:=zD (tk 5 [123])
 obtain⟨y,hy⟩:∃ x,x=tk 5 [59]:=⟨_,rfl⟩
 obtain⟨z,hz⟩:∃ x,x=tk 5 [125]:=⟨_,rfl⟩
 have CX:=zh (bP (p:=p) (m:=m) (rp:=rp) (cp:=cp) (R:=R) (C:=C) (sf:=sf) 5 [123] #[123] rfl x hx);have CY:=zh (bP (p:=p) (m:=m) (rp:=rp) (cp:=cp) (R:=R) (C:=C) (sf:=sf) 5 [59] #[59] rfl y hy);have CZ:=zh (bP (p:=p) (m:=m) (rp:=rp) (cp:=cp) (R:=R) (C:=C) (sf:=sf) 5 [125] #[125] rfl z hz);have sj:Hid (∀ i,cA cw TS (i+1)=cA cw TS i++(if i=0 then x else y)::bO ((TS.drop (i*cw)).take cw)):=zh (fun i=>by
  rw[hx,hy,cA];by_cases h0:i=0
  ·rw[if_pos h0,if_pos h0]
  rw[if_neg h0,if_neg h0])
 rw[<- hz];have hcwN:cw<=N:=by rw[hN];exact Nat.le_mul_of_pos_left cw h1
 have hrN:r<=N:=by rw[hN];exact Nat.le_mul_of_pos_right r h2
 have hNb:N<=100000:=by rw[hN];exact hcm
 have hNc:N<=ca:=by rw[hN];exact hc
 have hq:(N:Int).tdiv (r:Int)=(cw:Int):=by
  rw[hN,Int.natCast_mul];exact Int.mul_tdiv_cancel_left (cw:Int) (by omega)
 have sl:((r:Int)==0)=false:=by rw[beq_eq_false_iff_ne];omega
 have HR:=zh (And.intro h1 (And.intro h2 (And.intro hcwN (And.intro hrN (And.intro hNb hNc)))));have wk:(r:Int)<=100000:=by omega
 have hcwi:(cw:Int)<=100000:=by omega
 have gw:(1:Int)<=(r:Int):=by omega
 have HHC:=zh ah.out;clear ak hw hL hl hx hy hz hN ah np h1 h2 hc hcm hcwN hrN hNb hNc au
 go_in
 go_upto_region 1 with fail
 rw[<- ai.out];clear ai;obtain⟨uy,iz⟩:=HC.out _ HL.out
 go_wp2_with fail
 clear uy iz hq sl
 go_loopw [14] (fun v14 wr=>∃ i:Nat,i<=r/\v14=vI (i:Int)/\Hid (WrS wr p m rp cp R C sf (ts++cA cw TS i))/\Hid (Kw p (rp.toList++cp.toList) w wr)/\Hid (Lies wr w.heap.size 34 Cn.toArray)) (fun v14 _=>r-(intOf v14).toNat)
 case atStart=>exact⟨0,zm _,rfl,HS,HK,HL⟩
 case round=>
  clear HS HK HL;obtain⟨i,hi,rfl,HS,HK,HL⟩:=hrel;by_cases hlt:i<r
  ·have hlti:(i:Int)<(r:Int):=by omega
   obtain⟨q1,q2,q3,q4,q5,q6⟩:=HR.out;have hb1:i*cw+cw<=N:=by
    have:=Nat.mul_le_mul_right cw (by omega:i+1<=r);rw[Nat.succ_mul,<- HN.out]at this;exact this
   obtain⟨a,ha⟩:=zD (i*cw)
   rw[<- ha]at hb1;obtain⟨b,hb⟩:=zD (a+cw)
   have hw1:IntKind.i64.wrap ((i:Int)*(cw:Int))=(a:Int):=by
    rw[ha,<- Int.natCast_mul];exact IntWalk.i64_in _ (by rw[<- ha];omega)
   have hw2:IntKind.i64.wrap (((i:Int)+1)*(cw:Int))=(b:Int):=by
    rw[show ((i:Int)+1)*(cw:Int)=((b:Nat):Int) by rw[hb,ha,Int.add_mul];simp];exact IntWalk.i64_in _ (by omega)
   have f6:=pE (g:=g) (o:=o) (N:=N) (c:=ca) (a:=a) (b:=b) (by omega) (by omega) q6;have ja:=sM (g:=g) (o:=o) (N:=N) (c:=ca) (a:=a) (b:=b) (by omega) (by omega) q6;have CN:=zh (CL.out i hlt);rw[<- ha]at CN;rw[show b-a=cw by omega]at f6 ja;have ct:=zh (HLl.out i (by omega));have HE0:=sj.out i;rw[<- ha]at HE0;have HE1:=zh HE0;generalize bO ((TS.drop a).take cw)=tt at *;obtain⟨uy,iz⟩:=HC.out _ HL.out;clear q1 q2 q3 q4 q5 q6 hb1 ha hb HE0;by_cases v7:i=0
   ·have hi0i:((i:Int)==0)=true:=by rw[v7];rfl
    have wu:Hid (ts++cA cw TS (i+1)=(ts++cA cw TS i)++[x]++tt):=zh (by rw[HE1.out,if_pos v7];simp);clear v7 HE1
    go_wp2_with (first
     |((with_reducible refine(CX.out _ _ HS.out (by have:=ct.out;rw[yl];omega)).mono ?_);rintro e wx ⟨rfl,hs,hk⟩;have qj:=zh (Kw.lies hk HS.out HL.out (by decide) (by decide) (by decide));have ik:=zh hs;have fh:=zh (HK.out.trans hk);clear hs hk uy iz;obtain⟨uy,iz⟩:=HC.out _ qj.out)
     |((with_reducible refine(CN.out _ _ ik.out fh.out (by simp only[yl,yi,List.length_nil];omega)).mono ?_);rintro e wx ⟨rfl,hs,hk⟩;have dg:=zh (Kw.lies hk ik.out qj.out (by decide) (by decide) (by decide));have qo:=zh hs;have j3:=zh (fh.out.trans hk);clear hs hk))
    go_roundw
    case rel=>exact⟨i+1,by omega,by go_num,zh (by rw[wu.out];exact qo.out),j3,dg⟩
    case measure=>first |(simp[intOf];done) |(simp[intOf];omega)
   have hi0i:((i:Int)==0)=false:=by rw[beq_eq_false_iff_ne];omega
   have wu:Hid (ts++cA cw TS (i+1)=(ts++cA cw TS i)++[y]++tt):=zh (by rw[HE1.out,if_neg v7];simp);clear v7 HE1
   go_wp2_with (first
    |((with_reducible refine(CY.out _ _ HS.out (by have:=ct.out;rw[yl];omega)).mono ?_);rintro e wx ⟨rfl,hs,hk⟩;have qj:=zh (Kw.lies hk HS.out HL.out (by decide) (by decide) (by decide));have ik:=zh hs;have fh:=zh (HK.out.trans hk);clear hs hk uy iz;obtain⟨uy,iz⟩:=HC.out _ qj.out)
    |((with_reducible refine(CN.out _ _ ik.out fh.out (by simp only[yl,yi,List.length_nil];omega)).mono ?_);rintro e wx ⟨rfl,hs,hk⟩;have dg:=zh (Kw.lies hk ik.out qj.out (by decide) (by decide) (by decide));have qo:=zh hs;have j3:=zh (fh.out.trans hk);clear hs hk))
   go_roundw
   case rel=>exact⟨i+1,by omega,by go_num,zh (by rw[wu.out];exact qo.out),j3,dg⟩
   case measure=>first |(simp[intOf];done) |(simp[intOf];omega)
  obtain rfl:i=r:=by omega
  have ct:=zh (HLl.out i (by omega))
  go_wp2_with ((with_reducible refine(CZ.out _ _ HS.out (by have:=ct.out;rw[yl];omega)).mono ?_);rintro e wx ⟨rfl,hs,hk⟩;have ik:=zh hs;have fh:=zh (HK.out.trans hk);clear hs hk)
  go_end0
  exact⟨rfl,by rw[<- List.append_assoc];exact ik.out,fh.out⟩
theorem cV{p m:Nat}{rp cp:Option Nat}{R C:AxV}{sf:Value}{ts:List RTok}{k:Int}{vv:Val}{s:Bs}{a b:Cor}{r:Int}{A:Option Addr}{n ca:Nat}{Cn:List Value}{w:World}(hw:WrS w p m rp cp R C sf ts)(ah:Hid (Cn.toArray=aH ⟨k,vv,s,a,b,r⟩ A n ca)):∃ W0,Hid (W0=w.alloc (.cells Cn.toArray 34))/\Hid (Kw p (rp.toList++cp.toList) w W0)/\Hid (Lies W0 w.heap.size 34 Cn.toArray)/\Hid (∀ W,Lies W w.heap.size 34 Cn.toArray->NdC W w.heap.size k vv s a b r A n ca)/\Hid (WrS W0 p m rp cp R C sf ts)/\Hid ((Tryz.prog.info? 34).map (·.size)=some Cn.length):=by
 obtain⟨W0,ak⟩:=zD (w.alloc (.cells Cn.toArray 34))
 have au:Below w.heap.size w W0:=by rw[ak];exact(Below.refl _ w).alloc zr _
 exact⟨W0,zh ak,zh (Kw.of_below au),zh (by rw[ak];exact Lies.new w _ _),zh (fun W hl=>uAB hl ah.out),zh (hw.next au),zh (dE (oP ah.out))⟩
theorem uFO{p m:Nat}{rp cp:Option Nat}{R C:AxV}{sf:Value}{ts:List RTok}(vv:Val)(s:Bs)(a b:Cor)(r:Int)(A:Option Addr)(n ca:Nat)(Cn:List Value)(g:List RTok)(w:World)(ah:Hid (Cn.toArray=aH ⟨0,vv,s,a,b,r⟩ A n ca))(hw:WrS w p m rp cp R C sf ts)(hT:∀ W,WrS W p m rp cp R C sf ts->Calls Tryz.prog 132 #[vP p 0,.agg #[vI vv.kind,vI vv.mant,vI vv.exp,vT vv.text,.bool vv.truth,vI vv.fault]] W fun e w'=>WrO p m rp cp R C sf (ts++g) W e w') :
  Calls Tryz.prog 74 #[vP p 0,.agg Cn.toArray] w fun e w'=>WrO p m rp cp R C sf (ts++g) w e w':=by
 obtain⟨W0,ai,HK,HL,HC,HS,bk⟩:=cV hw ah;have CT:=zh hT;clear hT;clear hw ah
 go_in
 go_upto_region 1 with fail
 rw[<- ai.out];clear ai;obtain⟨c0,c1,c2,c3,c4,c5,c6,-⟩:=HC.out _ HL.out
 go_wp2_with (first
  |((first
  |((with_reducible refine(CT.out _ HS.out).mono ?_);rintro e wx ⟨rfl,hs,hk⟩));replace HL:=zh (Kw.lies hk HS.out HL.out (by decide) (by decide) (by decide));replace HS:=zh hs;replace HK:=zh (HK.out.trans hk);clear hs hk c0 c1 c2 c3 c4 c5 c6;obtain⟨c0,c1,c2,c3,c4,c5,c6,-⟩:=HC.out _ HL.out))
 go_end0
 exact⟨rfl,HS.out,HK.out⟩
theorem uBX{p m:Nat}{rp cp:Option Nat}{R C:AxV}{sf:Value}{ts:List RTok}(vv:Val)(s:Bs)(a b:Cor)(r:Int)(A:Option Addr)(n ca:Nat)(Cn:List Value)(g:List RTok)(w:World)(ah:Hid (Cn.toArray=aH ⟨7,vv,s,a,b,r⟩ A n ca))(hw:WrS w p m rp cp R C sf ts)(hg:g=[tk 3 s])(hn:ts.length<=700000) :
  Calls Tryz.prog 74 #[vP p 0,.agg Cn.toArray] w fun e w'=>WrO p m rp cp R C sf (ts++g) w e w':=by
 obtain⟨W0,ai,HK,HL,HC,HS,bk⟩:=cV hw ah;obtain⟨t1,lz⟩:∃ x,x=tk 3 s:=⟨_,rfl⟩
 have C1:=zh (bP (p:=p) (m:=m) (rp:=rp) (cp:=cp) (R:=R) (C:=C) (sf:=sf) 3 s s.toArray rfl t1 lz);rw[<- lz]at hg;subst hg;have iv:=zh hn;clear lz hn;clear hw ah
 go_in
 go_upto_region 1 with fail
 rw[<- ai.out];clear ai;obtain⟨c0,-,-,-,-,-,-,c7,-⟩:=HC.out _ HL.out
 go_wp2_with (first
  |((first
  |((with_reducible refine(C1.out _ _ HS.out (by have:=iv.out;(try simp only[yl,yi,List.length_nil]);omega)).mono ?_);rintro e wx ⟨rfl,hs,hk⟩));replace HL:=zh (Kw.lies hk HS.out HL.out (by decide) (by decide) (by decide));replace HS:=zh hs;replace HK:=zh (HK.out.trans hk);clear hs hk c0 c7;obtain⟨c0,-,-,-,-,-,-,c7,-⟩:=HC.out _ HL.out))
 go_end0
 exact⟨rfl,HS.out,HK.out⟩
theorem uFP{p m:Nat}{rp cp:Option Nat}{R C:AxV}{sf:Value}{ts:List RTok}(vv:Val)(s:Bs)(a b:Cor)(r:Int)(A:Option Addr)(n ca:Nat)(Cn:List Value)(g:List RTok)(w:World)(ah:Hid (Cn.toArray=aH ⟨8,vv,s,a,b,r⟩ A n ca))(hw:WrS w p m rp cp R C sf ts)(hT:∀ W,WrS W p m rp cp R C sf ts->Kw p (rp.toList++cp.toList) w W->Calls Tryz.prog 137 #[vP p 0,.agg Cn.toArray] W fun e w'=>WrO p m rp cp R C sf (ts++g) W e w') :
  Calls Tryz.prog 74 #[vP p 0,.agg Cn.toArray] w fun e w'=>WrO p m rp cp R C sf (ts++g) w e w':=by
 obtain⟨W0,ai,HK,HL,HC,HS,bk⟩:=cV hw ah;have CT:=zh hT;clear hT;clear hw ah
 go_in
 go_upto_region 1 with fail
 rw[<- ai.out];clear ai;obtain⟨c0,-⟩:=HC.out _ HL.out
 go_wp2_with (first
  |(refine yr rfl 34 (.tmp 3) rfl w.heap.size 0 rfl Cn _ HL.out.rangeM Tryz.underlying34 rfl bk.out ?_)
  |((first
  |((with_reducible refine(CT.out _ HS.out HK.out).mono ?_);rintro e wx ⟨rfl,hs,hk⟩));replace HL:=zh (Kw.lies hk HS.out HL.out (by decide) (by decide) (by decide));replace HS:=zh hs;replace HK:=zh (HK.out.trans hk);clear hs hk c0;obtain⟨c0,-⟩:=HC.out _ HL.out))
 go_end0
 exact⟨rfl,HS.out,HK.out⟩
theorem uFQ{p m:Nat}{rp cp:Option Nat}{R C:AxV}{sf:Value}{ts:List RTok}(vv:Val)(s:Bs)(a b:Cor)(r:Int)(A:Option Addr)(n ca:Nat)(Cn:List Value)(g:List RTok)(w:World)(ah:Hid (Cn.toArray=aH ⟨1,vv,s,a,b,r⟩ A n ca))(hw:WrS w p m rp cp R C sf ts)(hT:∀ W,WrS W p m rp cp R C sf ts->Kw p (rp.toList++cp.toList) w W->Calls Tryz.prog 138 #[vP p 0,.agg Cn.toArray] W fun e w'=>WrO p m rp cp R C sf (ts++g) W e w') :
  Calls Tryz.prog 74 #[vP p 0,.agg Cn.toArray] w fun e w'=>WrO p m rp cp R C sf (ts++g) w e w':=by
 obtain⟨W0,ai,HK,HL,HC,HS,bk⟩:=cV hw ah;have CT:=zh hT;clear hT;clear hw ah
 go_in
 go_upto_region 1 with fail
 rw[<- ai.out];clear ai;obtain⟨c0,-⟩:=HC.out _ HL.out
 go_wp2_with (first
  |(refine yr rfl 34 (.tmp 3) rfl w.heap.size 0 rfl Cn _ HL.out.rangeM Tryz.underlying34 rfl bk.out ?_)
  |((first
  |((with_reducible refine(CT.out _ HS.out HK.out).mono ?_);rintro e wx ⟨rfl,hs,hk⟩));replace HL:=zh (Kw.lies hk HS.out HL.out (by decide) (by decide) (by decide));replace HS:=zh hs;replace HK:=zh (HK.out.trans hk);clear hs hk c0;obtain⟨c0,-⟩:=HC.out _ HL.out))
 go_end0
 exact⟨rfl,HS.out,HK.out⟩
theorem xZ{p m:Nat}{rp cp:Option Nat}{R C:AxV}{sf:Value}{ts:List RTok}(vv:Val)(s:Bs)(a b:Cor)(r:Int)(A:Option Addr)(n ca:Nat)(Cn:List Value)(g:List RTok)(w:World)(ah:Hid (Cn.toArray=aH ⟨3,vv,s,a,b,r⟩ A n ca))(hw:WrS w p m rp cp R C sf ts)(hT:∀ W,WrS W p m rp cp R C sf ts->Kw p (rp.toList++cp.toList) w W->Calls Tryz.prog 138 #[vP p 0,.agg Cn.toArray] W fun e w'=>WrO p m rp cp R C sf (ts++g) W e w') :
  Calls Tryz.prog 74 #[vP p 0,.agg Cn.toArray] w fun e w'=>WrO p m rp cp R C sf (ts++g) w e w':=by
 obtain⟨W0,ai,HK,HL,HC,HS,bk⟩:=cV hw ah;have CT:=zh hT;clear hT;clear hw ah
 go_in
 go_upto_region 1 with fail
 rw[<- ai.out];clear ai;obtain⟨c0,-⟩:=HC.out _ HL.out
 go_wp2_with (first
  |(refine yr rfl 34 (.tmp 3) rfl w.heap.size 0 rfl Cn _ HL.out.rangeM Tryz.underlying34 rfl bk.out ?_)
  |((first
  |((with_reducible refine(CT.out _ HS.out HK.out).mono ?_);rintro e wx ⟨rfl,hs,hk⟩));replace HL:=zh (Kw.lies hk HS.out HL.out (by decide) (by decide) (by decide));replace HS:=zh hs;replace HK:=zh (HK.out.trans hk);clear hs hk c0;obtain⟨c0,-⟩:=HC.out _ HL.out))
 go_end0
 exact⟨rfl,HS.out,HK.out⟩
theorem uBV{p m:Nat}{rp cp:Option Nat}{R C:AxV}{sf:Value}{ts:List RTok}(vv:Val)(s:Bs)(a b:Cor)(r:Int)(A:Option Addr)(n ca:Nat)(Cn:List Value)(g:List RTok)(w:World)(ah:Hid (Cn.toArray=aH ⟨2,vv,s,a,b,r⟩ A n ca))(hw:WrS w p m rp cp R C sf ts)(hT:∀ W,WrS W p m rp cp R C sf ts->Kw p (rp.toList++cp.toList) w W->Calls Tryz.prog 139 #[vP p 0,.agg #[vI a.row.a,vI a.row.n,vI a.col.a,vI a.col.n,.bool a.fr,.bool a.fc,vI b.row.a,vI b.row.n,vI b.col.a,vI b.col.n,.bool b.fr,.bool b.fc]] W fun e w'=>WrO p m rp cp R C sf (ts++g) W e w') :
  Calls Tryz.prog 74 #[vP p 0,.agg Cn.toArray] w fun e w'=>WrO p m rp cp R C sf (ts++g) w e w':=by
 obtain⟨W0,ai,HK,HL,HC,HS,bk⟩:=cV hw ah;have CT:=zh hT;clear hT;clear hw ah
 go_in
 go_upto_region 1 with fail
 rw[<- ai.out];clear ai;obtain⟨c0,-,-,-,-,-,-,-,c8,c9,c10,c11,c12,c13,c14,c15,c16,c17,c18,c19,-⟩:=HC.out _ HL.out
 go_wp2_with (first
  |((first
  |((with_reducible refine(CT.out _ HS.out HK.out).mono ?_);rintro e wx ⟨rfl,hs,hk⟩));replace HL:=zh (Kw.lies hk HS.out HL.out (by decide) (by decide) (by decide));replace HS:=zh hs;replace HK:=zh (HK.out.trans hk);clear hs hk c0 c8 c9 c10 c11 c12 c13 c14 c15 c16 c17 c18 c19;obtain⟨c0,-,-,-,-,-,-,-,c8,c9,c10,c11,c12,c13,c14,c15,c16,c17,c18,c19,-⟩:=HC.out _ HL.out))
 go_end0
 exact⟨rfl,HS.out,HK.out⟩
theorem uBY{p m:Nat}{rp cp:Option Nat}{R C:AxV}{sf:Value}{ts:List RTok}(vv:Val)(s:Bs)(a b:Cor)(r:Int)(A:Option Addr)(n ca:Nat)(Cn:List Value)(g:List RTok)(w:World)(ah:Hid (Cn.toArray=aH ⟨9,vv,s,a,b,r⟩ A n ca))(hw:WrS w p m rp cp R C sf ts)(hg:g=[]) :
  Calls Tryz.prog 74 #[vP p 0,.agg Cn.toArray] w fun e w'=>WrO p m rp cp R C sf (ts++g) w e w':=by
 obtain⟨W0,ai,HK,HL,HC,HS,bk⟩:=cV hw ah;have HG:=zh hg;clear hg;clear hw ah
 go_in
 go_upto_region 1 with fail
 rw[<- ai.out];clear ai;obtain⟨c0,-⟩:=HC.out _ HL.out
 go_wp2_with fail
 go_end0
 exact⟨rfl,by rw[HG.out,List.append_nil];exact HS.out,HK.out⟩
theorem uBW{p m:Nat}{rp cp:Option Nat}{R C:AxV}{sf:Value}{ts:List RTok}(vv:Val)(s:Bs)(a b:Cor)(r:Int)(A:Option Addr)(n ca:Nat)(Cn:List Value)(g:List RTok)(w:World)(ah:Hid (Cn.toArray=aH ⟨4,vv,s,a,b,r⟩ A n ca))(hw:WrS w p m rp cp R C sf ts)(lt:List RTok)(hg:g=[tk 3 s,tk 5 [40]]++lt++[tk 5 [41]])(hn:ts.length+g.length<=700000)(hT:∀ W ts',WrS W p m rp cp R C sf ts'->Kw p (rp.toList++cp.toList) w W->ts'.length<=ts.length+2->Calls Tryz.prog 136 #[vP p 0,.slice A n ca] W fun e w'=>WrO p m rp cp R C sf (ts'++lt) W e w') :
  Calls Tryz.prog 74 #[vP p 0,.agg Cn.toArray] w fun e w'=>WrO p m rp cp R C sf (ts++g) w e w':=by
 obtain⟨W0,ai,HK,HL,HC,HS,bk⟩:=cV hw ah;obtain⟨t1,lz⟩:∃ x,x=tk 3 s:=⟨_,rfl⟩
 have C1:=zh (bP (p:=p) (m:=m) (rp:=rp) (cp:=cp) (R:=R) (C:=C) (sf:=sf) 3 s s.toArray rfl t1 lz);obtain⟨t2,qh⟩:∃ x,x=tk 5 [40]:=⟨_,rfl⟩
 have C2:=zh (bP (p:=p) (m:=m) (rp:=rp) (cp:=cp) (R:=R) (C:=C) (sf:=sf) 5 [40] #[40] rfl t2 qh);obtain⟨t3,ht3⟩:∃ x,x=tk 5 [41]:=⟨_,rfl⟩
 have C3:=zh (bP (p:=p) (m:=m) (rp:=rp) (cp:=cp) (R:=R) (C:=C) (sf:=sf) 5 [41] #[41] rfl t3 ht3);rw[<- lz,<- qh,<- ht3]at hg;have HG:Hid (ts++g=ts++[t1]++[t2]++lt++[t3]):=zh (by rw[hg];simp);have iv:Hid (ts.length+lt.length+3<=700000):=zh (by rw[hg]at hn;simp at hn;omega);have CT:=zh hT;rw[HG.out];clear lz qh ht3 hg hn hT HG;clear hw ah
 go_in
 go_upto_region 1 with fail
 rw[<- ai.out];clear ai;obtain⟨c0,-,-,-,-,-,-,c7,-,-,-,-,-,-,-,-,-,-,-,-,-,iz⟩:=HC.out _ HL.out
 go_wp2_with (first
  |((first
  |((with_reducible refine(C1.out _ _ HS.out (by have:=iv.out;(try simp only[yl,yi,List.length_nil]);omega)).mono ?_);rintro e wx ⟨rfl,hs,hk⟩)
  |((with_reducible refine(C2.out _ _ HS.out (by have:=iv.out;(try simp only[yl,yi,List.length_nil]);omega)).mono ?_);rintro e wx ⟨rfl,hs,hk⟩)
  |((with_reducible refine(CT.out _ _ HS.out HK.out (by simp)).mono ?_);rintro e wx ⟨rfl,hs,hk⟩)
  |((with_reducible refine(C3.out _ _ HS.out (by have:=iv.out;(try simp only[yl,yi,List.length_nil]);omega)).mono ?_);rintro e wx ⟨rfl,hs,hk⟩));replace HL:=zh (Kw.lies hk HS.out HL.out (by decide) (by decide) (by decide));replace HS:=zh hs;replace HK:=zh (HK.out.trans hk);clear hs hk c0 c7 iz;obtain⟨c0,-,-,-,-,-,-,c7,-,-,-,-,-,-,-,-,-,-,-,-,-,iz⟩:=HC.out _ HL.out))
 go_end0
 exact⟨rfl,HS.out,HK.out⟩
theorem xY{p m:Nat}{rp cp:Option Nat}{R C:AxV}{sf:Value}{ts:List RTok}(vv:Val)(s:Bs)(a b:Cor)(r:Int)(A:Option Addr)(n ca:Nat)(Cn:List Value)(g:List RTok)(w:World)(ah:Hid (Cn.toArray=aH ⟨5,vv,s,a,b,r⟩ A n ca))(hw:WrS w p m rp cp R C sf ts)(gb ob:Nat)(ci:List Value)(eh:ci.length=22)(hA:A=some ⟨gb,ob,none⟩)(hs5:s=[37])(ba:n=1)(tw:List RTok)(hg:g=tw++[tk 5 [37]])(hn:ts.length+g.length<=700000)(hR:∀ W ts',WrS W p m rp cp R C sf ts'->Kw p (rp.toList++cp.toList) w W->W.rangeAt gb ob ci)(hT:∀ W ts',WrS W p m rp cp R C sf ts'->Kw p (rp.toList++cp.toList) w W->ts'.length<=ts.length->Calls Tryz.prog 134 #[vP p 0,.agg ci.toArray,vI 7] W fun e w'=>WrO p m rp cp R C sf (ts'++tw) W e w') :
  Calls Tryz.prog 74 #[vP p 0,.agg Cn.toArray] w fun e w'=>WrO p m rp cp R C sf (ts++g) w e w':=by
 obtain⟨W0,ai,HK,HL,HC,HS,bk⟩:=cV hw ah;obtain⟨t1,lz⟩:∃ x,x=tk 5 [37]:=⟨_,rfl⟩
 have C1:=zh (bP (p:=p) (m:=m) (rp:=rp) (cp:=cp) (R:=R) (C:=C) (sf:=sf) 5 [37] #[37] rfl t1 lz);rw[<- lz]at hg;have HG:Hid (ts++g=ts++tw++[t1]):=zh (by rw[hg];simp);have iv:Hid (ts.length+tw.length+1<=700000):=zh (by rw[hg]at hn;simp at hn;omega);have CT:=zh hT;have jv:=zh hR;have HIk:=zh (dE eh);rw[HG.out];subst hA ba hs5;clear lz hg hn hT HG hR eh;clear hw ah
 go_in
 go_upto_region 1 with fail
 rw[<- ai.out];clear ai;obtain⟨c0,-,-,-,-,-,-,c7,-,-,-,-,-,-,-,-,-,-,-,-,-,iz⟩:=HC.out _ HL.out
 go_wp2_with (first
  |(refine yr rfl 34 (.tmp 45) rfl gb ob rfl ci _ (jv.out _ _ HS.out HK.out) Tryz.underlying34 rfl HIk.out ?_)
  |((first
  |((with_reducible refine(CT.out _ _ HS.out HK.out (by simp)).mono ?_);rintro e wx ⟨rfl,hs,hk⟩)
  |((with_reducible refine(C1.out _ _ HS.out (by have:=iv.out;(try simp only[yl,yi,List.length_nil]);omega)).mono ?_);rintro e wx ⟨rfl,hs,hk⟩));replace HL:=zh (Kw.lies hk HS.out HL.out (by decide) (by decide) (by decide));replace HS:=zh hs;replace HK:=zh (HK.out.trans hk);clear hs hk c0 c7 iz;obtain⟨c0,-,-,-,-,-,-,c7,-,-,-,-,-,-,-,-,-,-,-,-,-,iz⟩:=HC.out _ HL.out))
 go_end0
 exact⟨rfl,HS.out,HK.out⟩
theorem uBZ{p m:Nat}{rp cp:Option Nat}{R C:AxV}{sf:Value}{ts:List RTok}(vv:Val)(s:Bs)(a b:Cor)(r:Int)(A:Option Addr)(n ca:Nat)(Cn:List Value)(g:List RTok)(w:World)(ah:Hid (Cn.toArray=aH ⟨5,vv,s,a,b,r⟩ A n ca))(hw:WrS w p m rp cp R C sf ts)(gb ob:Nat)(ci:List Value)(eh:ci.length=22)(hA:A=some ⟨gb,ob,none⟩)(hs5:(s==[37])=false)(ba:n=1)(tw:List RTok)(hg:g=tk 5 s::tw)(hn:ts.length+g.length<=700000)(hR:∀ W ts',WrS W p m rp cp R C sf ts'->Kw p (rp.toList++cp.toList) w W->W.rangeAt gb ob ci)(hT:∀ W ts',WrS W p m rp cp R C sf ts'->Kw p (rp.toList++cp.toList) w W->ts'.length<=ts.length+1->Calls Tryz.prog 134 #[vP p 0,.agg ci.toArray,vI 6] W fun e w'=>WrO p m rp cp R C sf (ts'++tw) W e w') :
  Calls Tryz.prog 74 #[vP p 0,.agg Cn.toArray] w fun e w'=>WrO p m rp cp R C sf (ts++g) w e w':=by
 obtain⟨W0,ai,HK,HL,HC,HS,bk⟩:=cV hw ah;obtain⟨t1,lz⟩:∃ x,x=tk 5 s:=⟨_,rfl⟩
 have C1:=zh (bP (p:=p) (m:=m) (rp:=rp) (cp:=cp) (R:=R) (C:=C) (sf:=sf) 5 s s.toArray rfl t1 lz);rw[<- lz]at hg;have HG:Hid (ts++g=ts++[t1]++tw):=zh (by rw[hg];simp);have iv:Hid (ts.length+tw.length+1<=700000):=zh (by rw[hg]at hn;simp at hn;omega);have CT:=zh hT;have jv:=zh hR;have HIk:=zh (dE eh);rw[HG.out];subst hA ba;clear lz hg hn hT HG hR eh;clear hw ah
 go_in
 go_upto_region 1 with fail
 rw[<- ai.out];clear ai;obtain⟨c0,-,-,-,-,-,-,c7,-,-,-,-,-,-,-,-,-,-,-,-,-,iz⟩:=HC.out _ HL.out
 go_wp2_with (first
  |(refine yr rfl 34 (.tmp 59) rfl gb ob rfl ci _ (jv.out _ _ HS.out HK.out) Tryz.underlying34 rfl HIk.out ?_)
  |((first
  |((with_reducible refine(C1.out _ _ HS.out (by have:=iv.out;(try simp only[yl,yi,List.length_nil]);omega)).mono ?_);rintro e wx ⟨rfl,hs,hk⟩)
  |((with_reducible refine(CT.out _ _ HS.out HK.out (by simp)).mono ?_);rintro e wx ⟨rfl,hs,hk⟩));replace HL:=zh (Kw.lies hk HS.out HL.out (by decide) (by decide) (by decide));replace HS:=zh hs;replace HK:=zh (HK.out.trans hk);clear hs hk c0 c7 iz;obtain⟨c0,-,-,-,-,-,-,c7,-,-,-,-,-,-,-,-,-,-,-,-,-,iz⟩:=HC.out _ HL.out))
 go_end0
 exact⟨rfl,HS.out,HK.out⟩
theorem uFR{p m:Nat}{rp cp:Option Nat}{R C:AxV}{sf:Value}{ts:List RTok}(vv:Val)(s:Bs)(a b:Cor)(r:Int)(A:Option Addr)(n ca:Nat)(Cn:List Value)(g:List RTok)(w:World)(ah:Hid (Cn.toArray=aH ⟨6,vv,s,a,b,r⟩ A n ca))(hw:WrS w p m rp cp R C sf ts)(gb ob:Nat)(ci:List Value)(eh:ci.length=22)(hA:A=some ⟨gb,ob,none⟩)(cj:List Value)(hj22:cj.length=22)(lev:Int)(xz:0<=lev)(wi:lev<=8)(hn2:n=2)(t1 t2:List RTok)(hg:g=t1++tk 5 s::t2)(hn:ts.length+g.length<=700000)(hR:∀ W ts',WrS W p m rp cp R C sf ts'->Kw p (rp.toList++cp.toList) w W->W.rangeAt gb ob ci/\W.rangeAt gb (ob+22) cj)(hV:∀ W,WrS W p m rp cp R C sf ts->Calls Tryz.prog 133 #[vP p 0,.agg Cn.toArray] W fun e w'=>e=.returned (vI lev)/\Below W.heap.size W w')(hT:∀ W ts',WrS W p m rp cp R C sf ts'->Kw p (rp.toList++cp.toList) w W->ts'.length<=ts.length->Calls Tryz.prog 134 #[vP p 0,.agg ci.toArray,vI lev] W fun e w'=>WrO p m rp cp R C sf (ts'++t1) W e w')(hU:∀ W ts',WrS W p m rp cp R C sf ts'->Kw p (rp.toList++cp.toList) w W->ts'.length<=ts.length+t1.length+1->Calls Tryz.prog 134 #[vP p 0,.agg cj.toArray,vI (lev+1)] W fun e w'=>WrO p m rp cp R C sf (ts'++t2) W e w') :
  Calls Tryz.prog 74 #[vP p 0,.agg Cn.toArray] w fun e w'=>WrO p m rp cp R C sf (ts++g) w e w':=by
 obtain⟨W0,ai,HK,HL,HC,HS,bk⟩:=cV hw ah;obtain⟨y1,uz⟩:∃ x,x=tk 5 s:=⟨_,rfl⟩
 have C1:=zh (bP (p:=p) (m:=m) (rp:=rp) (cp:=cp) (R:=R) (C:=C) (sf:=sf) 5 s s.toArray rfl y1 uz);rw[<- uz]at hg;have HG:Hid (ts++g=ts++t1++[y1]++t2):=zh (by rw[hg];simp);have iv:Hid (ts.length+t1.length+t2.length+1<=700000):=zh (by rw[hg]at hn;simp at hn;omega);have CT:=zh hT;have CU:=zh hU;have CV:=zh hV;have jv:=zh hR;have HIk:=zh (dE eh);have HIj:=zh (dE hj22);rw[HG.out];subst hA hn2;clear uz hg hn hT hU hV HG hR eh hj22;clear hw ah
 go_in
 go_upto_region 1 with fail
 rw[<- ai.out];clear ai;obtain⟨c0,-,-,-,-,-,-,c7,-,-,-,-,-,-,-,-,-,-,-,-,-,iz⟩:=HC.out _ HL.out
 go_wp2_with (first
  |(refine yr rfl 34 (.tmp 3) rfl w.heap.size 0 rfl Cn _ HL.out.rangeM Tryz.underlying34 rfl bk.out ?_)
  |((with_reducible refine(CV.out _ HS.out).mono ?_);rintro e wx ⟨rfl,hb⟩;replace HL:=zh (HL.out.next hb);replace HS:=zh (HS.out.next hb);replace HK:=zh (HK.out.trans (Kw.of_below hb));clear hb c0 c7 iz CV;obtain⟨c0,c7,iz⟩:=HC.out _ HL.out)
  |(refine yr rfl 34 (.tmp 21) rfl gb ob rfl ci _ (jv.out _ _ HS.out HK.out).1 Tryz.underlying34 rfl HIk.out ?_)
  |(refine yr rfl 34 (.tmp 32) rfl gb (ob+22) rfl cj _ (jv.out _ _ HS.out HK.out).2 Tryz.underlying34 rfl HIj.out ?_)
  |((first
  |((with_reducible refine(CT.out _ _ HS.out HK.out (by simp)).mono ?_);rintro e wx ⟨rfl,hs,hk⟩)
  |((with_reducible refine(C1.out _ _ HS.out (by have:=iv.out;(try simp only[yl,yi,List.length_nil]);omega)).mono ?_);rintro e wx ⟨rfl,hs,hk⟩)
  |((with_reducible refine(CU.out _ _ HS.out HK.out (by simp;omega)).mono ?_);rintro e wx ⟨rfl,hs,hk⟩));replace HL:=zh (Kw.lies hk HS.out HL.out (by decide) (by decide) (by decide));replace HS:=zh hs;replace HK:=zh (HK.out.trans hk);clear hs hk c0 c7 iz;obtain⟨c0,-,-,-,-,-,-,c7,-,-,-,-,-,-,-,-,-,-,-,-,-,iz⟩:=HC.out _ HL.out))
 go_end0
 exact⟨rfl,HS.out,HK.out⟩
abbrev gJ(t:RTok):Value:=.agg #[vI t.kind,vT t.text,vI t.place]
theorem rP(row col:Nat)(fr fc:Bool)(w:World)(hp:PowTab w)(hr:row<=400)(hc:col<=400) :
  Calls Tryz.prog 34 #[.agg #[vI (row:Int),vI (col:Int),.bool fr,.bool fc],vI 0] w fun e w'=>e=.returned (gJ (eJ .plain row col fr fc))/\Below w.heap.size w w':=by
 have wk:(row:Int)<=400:=by omega
 have dv:(col:Int)<=400:=by omega
 obtain⟨W0,ak⟩:∃ W0,W0=(w.alloc (.cells #[vI (row:Int),vI (col:Int),.bool fr,.bool fc] 90)).alloc (.cells #[vI 0,vS #[],vI 0] 64):=⟨_,rfl⟩
 have ai:=zh ak;have au:Hid (Below w.heap.size w W0):=zh (by rw[ak];exact((Below.refl _ w).alloc zr _).alloc (by rw[World.size_alloc];omega) _);have L0:Hid (Lies W0 w.heap.size 90 #[vI (row:Int),vI (col:Int),.bool fr,.bool fc]):=zh (by rw[ak];exact(Lies.new w _ _).alloc _);have L1:Hid (Lies W0 (w.heap.size+1) 64 #[vI 0,vS #[],vI 0]):=zh (by
  rw[ak];have h:=Lies.new (w.alloc (.cells #[vI (row:Int),vI (col:Int),.bool fr,.bool fc] 90)) 64 #[vI 0,vS #[],vI 0];rw[World.size_alloc]at h;exact h)
 have ly:Hid (PowTab W0):=zh (hp.next au.out);have co:Hid (∀ W,Below W0.heap.size W0 W->W.cell? ⟨w.heap.size,0,none⟩=some (vI (row:Int))/\W.cell? ⟨w.heap.size,1,none⟩=some (vI (col:Int))/\W.cell? ⟨w.heap.size,2,none⟩=some (.bool fr)/\W.cell? ⟨w.heap.size,3,none⟩=some (.bool fc)/\W.cell? ⟨w.heap.size+1,0,none⟩=some (vI 0)/\W.cell? ⟨w.heap.size+1,1,none⟩=some (vS #[])/\W.cell? ⟨w.heap.size+1,2,none⟩=some (vI 0)/\W.frozen? ⟨w.heap.size+1,0,none⟩=false/\W.frozen? ⟨w.heap.size+1,1,none⟩=false/\W.frozen? ⟨w.heap.size+1,2,none⟩=false/\w.heap.size+1<W.heap.size/\Below W0.heap.size W0 W):=zh (fun W h=>⟨(L0.out.next h).cell 0,(L0.out.next h).cell 1,(L0.out.next h).cell 2,(L0.out.next h).cell 3,(L1.out.next h).cell 0,(L1.out.next h).cell 1,(L1.out.next h).cell 2,(L1.out.next h).frozen 0,(L1.out.next h).frozen 1,(L1.out.next h).frozen 2,(L1.out.next h).lt,h⟩)
 have CT:=zh (fun W (h:PowTab W)=>uD row col fr fc W h (by omega) (by omega));have tz:Hid (gJ (eJ .plain row col fr fc)=.agg #[vI 4,vT (mJ row col fr fc),vI 0]):=zh rfl;generalize mJ row col fr fc=M at *;obtain⟨tv,lp⟩:=zD (gJ (eJ .plain row col fr fc))
 have t5:=zh lp;rw[<- lp];clear ak hp lp L0 L1
 go_in
 go_upto_region 1 with fail
 rw[<- ai.out];clear ai;obtain⟨m0,m1,m2,m3,t0,t1,t2,f0,f1,f2,z0,dm⟩:=co.out _ zB
 go_wp2_with ((with_reducible refine(CT.out _ ly.out).mono ?_);rintro e wx ⟨rfl,hb⟩;have HB:=zh hb;clear m0 m1 m2 m3 t0 t1 t2 f0 f1 f2 z0 dm;obtain⟨m0,m1,m2,m3,t0,t1,t2,f0,f1,f2,z0,dm⟩:=co.out _ hb;clear hb)
 all_goals (try clear m0 m1 m2 m3 t0 t1 t2 f0 f1 f2 z0 dm)
 all_goals obtain⟨m0,m1,m2,m3,t0,t1,t2,f0,f1,f2,z0,dm⟩:=co.out _ HB.out
 all_goals refine yt (v:=.agg #[vI 4,vT (M),vI 0]) (by simp[results,Tryz.results34,go_sem,t0,t1,t2]) rfl ?_
 all_goals refine⟨by rw[t5.out,tz.out],?_⟩
 all_goals exact(((zU au.out HB.out).setCell (p:=⟨_,_,none⟩) (Nat.le_succ _) _).setCell (p:=⟨_,_,none⟩) (Nat.le_succ _) _).setCell (p:=⟨_,_,none⟩) (Nat.le_succ _) _
theorem xI(row col:Nat)(fc:Bool)(w:World)(hp:PowTab w)(hr:row<=400)(hc:col<=400) :
  Calls Tryz.prog 34 #[.agg #[vI (row:Int),vI (col:Int),.bool true,.bool fc],vI 1] w fun e w'=>e=.returned (gJ (gI .plain row true))/\Below w.heap.size w w':=by
 have wk:(row:Int)<=400:=by omega
 have dv:(col:Int)<=400:=by omega
 obtain⟨W0,ak⟩:∃ W0,W0=(w.alloc (.cells #[vI (row:Int),vI (col:Int),.bool true,.bool fc] 90)).alloc (.cells #[vI 0,vS #[],vI 0] 64):=⟨_,rfl⟩
 have ai:=zh ak;have au:Hid (Below w.heap.size w W0):=zh (by rw[ak];exact((Below.refl _ w).alloc zr _).alloc (by rw[World.size_alloc];omega) _);have L0:Hid (Lies W0 w.heap.size 90 #[vI (row:Int),vI (col:Int),.bool true,.bool fc]):=zh (by rw[ak];exact(Lies.new w _ _).alloc _);have L1:Hid (Lies W0 (w.heap.size+1) 64 #[vI 0,vS #[],vI 0]):=zh (by
  rw[ak];have h:=Lies.new (w.alloc (.cells #[vI (row:Int),vI (col:Int),.bool true,.bool fc] 90)) 64 #[vI 0,vS #[],vI 0];rw[World.size_alloc]at h;exact h)
 have ly:Hid (PowTab W0):=zh (hp.next au.out);have co:Hid (∀ W,Below W0.heap.size W0 W->W.cell? ⟨w.heap.size,0,none⟩=some (vI (row:Int))/\W.cell? ⟨w.heap.size,1,none⟩=some (vI (col:Int))/\W.cell? ⟨w.heap.size,2,none⟩=some (.bool true)/\W.cell? ⟨w.heap.size,3,none⟩=some (.bool fc)/\W.cell? ⟨w.heap.size+1,0,none⟩=some (vI 0)/\W.cell? ⟨w.heap.size+1,1,none⟩=some (vS #[])/\W.cell? ⟨w.heap.size+1,2,none⟩=some (vI 0)/\W.frozen? ⟨w.heap.size+1,0,none⟩=false/\W.frozen? ⟨w.heap.size+1,1,none⟩=false/\W.frozen? ⟨w.heap.size+1,2,none⟩=false/\w.heap.size+1<W.heap.size/\Below W0.heap.size W0 W):=zh (fun W h=>⟨(L0.out.next h).cell 0,(L0.out.next h).cell 1,(L0.out.next h).cell 2,(L0.out.next h).cell 3,(L1.out.next h).cell 0,(L1.out.next h).cell 1,(L1.out.next h).cell 2,(L1.out.next h).frozen 0,(L1.out.next h).frozen 1,(L1.out.next h).frozen 2,(L1.out.next h).lt,h⟩)
 have CI:Hid (∀ W,PowTab W->Calls Tryz.prog 75 #[vI ((row:Int)+1)] W fun e w'=>e=.returned (vT (Lib.decDigits (row+1)))/\Below W.heap.size W w'):=zh (fun W h=>qT (row+1) W h (by omega));have CI:Hid (∀ W,PowTab W->Calls Tryz.prog 75 #[vI (IntKind.i64.wrap ((row:Int)+1))] W fun e w'=>e=.returned (vT (Lib.decDigits (row+1)))/\Below W.heap.size W w'):=zh (by rw[IntWalk.i64_in ((row:Int)+1) (by omega)];exact CI.out);have hln:(Lib.decDigits (row+1)).length<=4:=eC (row+1) 3 (by have:(10:Nat) ^ (3+1)=10000:=rfl;omega);have tz:Hid (gJ (gI .plain row true)=.agg #[vI 4,vT (36::Lib.decDigits (row+1)),vI 0]):=zh rfl;generalize Lib.decDigits (row+1)=M at *;have k1:¬ 9223372036854775807<M.length+1:=by omega
 have k2:¬ 9223372036854775807<1+M.length:=by omega
 obtain⟨tv,lp⟩:=zD (gJ (gI .plain row true))
 have t5:=zh lp;rw[<- lp];clear ak hp lp L0 L1
 go_in
 go_upto_region 1 with fail
 rw[<- ai.out];clear ai;obtain⟨m0,m1,m2,m3,t0,t1,t2,f0,f1,f2,z0,dm⟩:=co.out _ zB;have vc:Hid (PowTab W0.drew):=ly
 go_upto_region 5 with fail
 go_region_held3 (fun w'=>w'.cell? ⟨w.heap.size,0,none⟩=some (vI (row:Int))/\w'.cell? ⟨w.heap.size,1,none⟩=some (vI (col:Int))/\w'.cell? ⟨w.heap.size,2,none⟩=some (.bool true)/\w'.cell? ⟨w.heap.size,3,none⟩=some (.bool fc)/\w'.cell? ⟨w.heap.size+1,0,none⟩=some (vI 0)/\w'.cell? ⟨w.heap.size+1,1,none⟩=some (vS #[])/\w'.cell? ⟨w.heap.size+1,2,none⟩=some (vI 0)/\w'.frozen? ⟨w.heap.size+1,0,none⟩=false/\w'.frozen? ⟨w.heap.size+1,1,none⟩=false/\w'.frozen? ⟨w.heap.size+1,2,none⟩=false/\w.heap.size+1<w'.heap.size/\Below W0.heap.size W0 w')
  (first|exact co.out _ dm|exact co.out _ dm.drew |(go_split_ands;exact co.out _ (Below.trans (by assumption) (Below.mono hb (Below.size (by assumption)))))|assumption)
  (first
   |(go_at_call 75;(with_reducible refine(CI.out _ vc.out).mono ?_);rintro e wx ⟨rfl,hb⟩;have HB:=zh (Below.trans (Below.refl _ W0).drew (Below.mono hb zr))))
 all_goals (try go_split_ands)
 all_goals go_wp2_with fail
 all_goals (try clear m0 m1 m2 m3 t0 t1 t2 f0 f1 f2 z0 dm)
 all_goals obtain⟨m0,m1,m2,m3,t0,t1,t2,f0,f1,f2,z0,dm⟩:=co.out _ HB.out
 all_goals refine yt (v:=.agg #[vI 4,vT (36::M),vI 0]) (by simp[results,Tryz.results34,go_sem,t0,t1,t2]) rfl ?_
 all_goals refine⟨by rw[t5.out,tz.out],?_⟩
 all_goals exact(((zU au.out HB.out).setCell (p:=⟨_,_,none⟩) (Nat.le_succ _) _).setCell (p:=⟨_,_,none⟩) (Nat.le_succ _) _).setCell (p:=⟨_,_,none⟩) (Nat.le_succ _) _
theorem xJ(row col:Nat)(fc:Bool)(w:World)(hp:PowTab w)(hr:row<=400)(hc:col<=400) :
  Calls Tryz.prog 34 #[.agg #[vI (row:Int),vI (col:Int),.bool false,.bool fc],vI 1] w fun e w'=>e=.returned (gJ (gI .plain row false))/\Below w.heap.size w w':=by
 have wk:(row:Int)<=400:=by omega
 have dv:(col:Int)<=400:=by omega
 obtain⟨W0,ak⟩:∃ W0,W0=(w.alloc (.cells #[vI (row:Int),vI (col:Int),.bool false,.bool fc] 90)).alloc (.cells #[vI 0,vS #[],vI 0] 64):=⟨_,rfl⟩
 have ai:=zh ak;have au:Hid (Below w.heap.size w W0):=zh (by rw[ak];exact((Below.refl _ w).alloc zr _).alloc (by rw[World.size_alloc];omega) _);have L0:Hid (Lies W0 w.heap.size 90 #[vI (row:Int),vI (col:Int),.bool false,.bool fc]):=zh (by rw[ak];exact(Lies.new w _ _).alloc _);have L1:Hid (Lies W0 (w.heap.size+1) 64 #[vI 0,vS #[],vI 0]):=zh (by
  rw[ak];have h:=Lies.new (w.alloc (.cells #[vI (row:Int),vI (col:Int),.bool false,.bool fc] 90)) 64 #[vI 0,vS #[],vI 0];rw[World.size_alloc]at h;exact h)
 have ly:Hid (PowTab W0):=zh (hp.next au.out);have co:Hid (∀ W,Below W0.heap.size W0 W->W.cell? ⟨w.heap.size,0,none⟩=some (vI (row:Int))/\W.cell? ⟨w.heap.size,1,none⟩=some (vI (col:Int))/\W.cell? ⟨w.heap.size,2,none⟩=some (.bool false)/\W.cell? ⟨w.heap.size,3,none⟩=some (.bool fc)/\W.cell? ⟨w.heap.size+1,0,none⟩=some (vI 0)/\W.cell? ⟨w.heap.size+1,1,none⟩=some (vS #[])/\W.cell? ⟨w.heap.size+1,2,none⟩=some (vI 0)/\W.frozen? ⟨w.heap.size+1,0,none⟩=false/\W.frozen? ⟨w.heap.size+1,1,none⟩=false/\W.frozen? ⟨w.heap.size+1,2,none⟩=false/\w.heap.size+1<W.heap.size/\Below W0.heap.size W0 W):=zh (fun W h=>⟨(L0.out.next h).cell 0,(L0.out.next h).cell 1,(L0.out.next h).cell 2,(L0.out.next h).cell 3,(L1.out.next h).cell 0,(L1.out.next h).cell 1,(L1.out.next h).cell 2,(L1.out.next h).frozen 0,(L1.out.next h).frozen 1,(L1.out.next h).frozen 2,(L1.out.next h).lt,h⟩)
 have CI:Hid (∀ W,PowTab W->Calls Tryz.prog 75 #[vI ((row:Int)+1)] W fun e w'=>e=.returned (vT (Lib.decDigits (row+1)))/\Below W.heap.size W w'):=zh (fun W h=>qT (row+1) W h (by omega));have CI:Hid (∀ W,PowTab W->Calls Tryz.prog 75 #[vI (IntKind.i64.wrap ((row:Int)+1))] W fun e w'=>e=.returned (vT (Lib.decDigits (row+1)))/\Below W.heap.size W w'):=zh (by rw[IntWalk.i64_in ((row:Int)+1) (by omega)];exact CI.out);have hln:(Lib.decDigits (row+1)).length<=4:=eC (row+1) 3 (by have:(10:Nat) ^ (3+1)=10000:=rfl;omega);have tz:Hid (gJ (gI .plain row false)=.agg #[vI 1,vT (Lib.decDigits (row+1)),vI 0]):=zh rfl;generalize Lib.decDigits (row+1)=M at *;have k1:¬ 9223372036854775807<M.length+1:=by omega
 have k2:¬ 9223372036854775807<1+M.length:=by omega
 obtain⟨tv,lp⟩:=zD (gJ (gI .plain row false))
 have t5:=zh lp;rw[<- lp];clear ak hp lp L0 L1
 go_in
 go_upto_region 1 with fail
 rw[<- ai.out];clear ai;obtain⟨m0,m1,m2,m3,t0,t1,t2,f0,f1,f2,z0,dm⟩:=co.out _ zB;have vc:Hid (PowTab W0.drew):=ly
 go_upto_region 5 with fail
 go_region_held3 (fun w'=>w'.cell? ⟨w.heap.size,0,none⟩=some (vI (row:Int))/\w'.cell? ⟨w.heap.size,1,none⟩=some (vI (col:Int))/\w'.cell? ⟨w.heap.size,2,none⟩=some (.bool false)/\w'.cell? ⟨w.heap.size,3,none⟩=some (.bool fc)/\w'.cell? ⟨w.heap.size+1,0,none⟩=some (vI 0)/\w'.cell? ⟨w.heap.size+1,1,none⟩=some (vS #[])/\w'.cell? ⟨w.heap.size+1,2,none⟩=some (vI 0)/\w'.frozen? ⟨w.heap.size+1,0,none⟩=false/\w'.frozen? ⟨w.heap.size+1,1,none⟩=false/\w'.frozen? ⟨w.heap.size+1,2,none⟩=false/\w.heap.size+1<w'.heap.size/\Below W0.heap.size W0 w')
  (first|exact co.out _ dm|exact co.out _ dm.drew |(go_split_ands;exact co.out _ (Below.trans (by assumption) (Below.mono hb (Below.size (by assumption)))))|assumption)
  (first
   |(go_at_call 75;(with_reducible refine(CI.out _ vc.out).mono ?_);rintro e wx ⟨rfl,hb⟩;have HB:=zh (Below.trans (Below.refl _ W0).drew (Below.mono hb zr))))
 all_goals (try go_split_ands)
 all_goals go_wp2_with fail
 all_goals (try clear m0 m1 m2 m3 t0 t1 t2 f0 f1 f2 z0 dm)
 all_goals obtain⟨m0,m1,m2,m3,t0,t1,t2,f0,f1,f2,z0,dm⟩:=co.out _ HB.out
 all_goals refine yt (v:=.agg #[vI 1,vT (M),vI 0]) (by simp[results,Tryz.results34,go_sem,t0,t1,t2]) rfl ?_
 all_goals refine⟨by rw[t5.out,tz.out],?_⟩
 all_goals exact(((zU au.out HB.out).setCell (p:=⟨_,_,none⟩) (Nat.le_succ _) _).setCell (p:=⟨_,_,none⟩) (Nat.le_succ _) _).setCell (p:=⟨_,_,none⟩) (Nat.le_succ _) _
theorem xG(row col:Nat)(fr:Bool)(w:World)(hp:PowTab w)(hr:row<=400)(hc:col<=400) :
  Calls Tryz.prog 34 #[.agg #[vI (row:Int),vI (col:Int),.bool fr,.bool true],vI 2] w fun e w'=>e=.returned (gJ (gH .plain col true))/\Below w.heap.size w w':=by
 have wk:(row:Int)<=400:=by omega
 have dv:(col:Int)<=400:=by omega
 obtain⟨W0,ak⟩:∃ W0,W0=(w.alloc (.cells #[vI (row:Int),vI (col:Int),.bool fr,.bool true] 90)).alloc (.cells #[vI 0,vS #[],vI 0] 64):=⟨_,rfl⟩
 have ai:=zh ak;have au:Hid (Below w.heap.size w W0):=zh (by rw[ak];exact((Below.refl _ w).alloc zr _).alloc (by rw[World.size_alloc];omega) _);have L0:Hid (Lies W0 w.heap.size 90 #[vI (row:Int),vI (col:Int),.bool fr,.bool true]):=zh (by rw[ak];exact(Lies.new w _ _).alloc _);have L1:Hid (Lies W0 (w.heap.size+1) 64 #[vI 0,vS #[],vI 0]):=zh (by
  rw[ak];have h:=Lies.new (w.alloc (.cells #[vI (row:Int),vI (col:Int),.bool fr,.bool true] 90)) 64 #[vI 0,vS #[],vI 0];rw[World.size_alloc]at h;exact h)
 have ly:Hid (PowTab W0):=zh (hp.next au.out);have co:Hid (∀ W,Below W0.heap.size W0 W->W.cell? ⟨w.heap.size,0,none⟩=some (vI (row:Int))/\W.cell? ⟨w.heap.size,1,none⟩=some (vI (col:Int))/\W.cell? ⟨w.heap.size,2,none⟩=some (.bool fr)/\W.cell? ⟨w.heap.size,3,none⟩=some (.bool true)/\W.cell? ⟨w.heap.size+1,0,none⟩=some (vI 0)/\W.cell? ⟨w.heap.size+1,1,none⟩=some (vS #[])/\W.cell? ⟨w.heap.size+1,2,none⟩=some (vI 0)/\W.frozen? ⟨w.heap.size+1,0,none⟩=false/\W.frozen? ⟨w.heap.size+1,1,none⟩=false/\W.frozen? ⟨w.heap.size+1,2,none⟩=false/\w.heap.size+1<W.heap.size/\Below W0.heap.size W0 W):=zh (fun W h=>⟨(L0.out.next h).cell 0,(L0.out.next h).cell 1,(L0.out.next h).cell 2,(L0.out.next h).cell 3,(L1.out.next h).cell 0,(L1.out.next h).cell 1,(L1.out.next h).cell 2,(L1.out.next h).frozen 0,(L1.out.next h).frozen 1,(L1.out.next h).frozen 2,(L1.out.next h).lt,h⟩)
 have CI:=zh (fun W=>jR col W (by omega));have hln:(dY (col+1)).length<=3:=hG (col+1) (by omega);have tz:Hid (gJ (gH .plain col true)=.agg #[vI 4,vT (36::dY (col+1)),vI 0]):=zh rfl;generalize dY (col+1)=M at *;have k1:¬ 9223372036854775807<M.length+1:=by omega
 have k2:¬ 9223372036854775807<1+M.length:=by omega
 obtain⟨tv,lp⟩:=zD (gJ (gH .plain col true))
 have t5:=zh lp;rw[<- lp];clear ak hp lp L0 L1
 go_in
 go_upto_region 1 with fail
 rw[<- ai.out];clear ai;obtain⟨m0,m1,m2,m3,t0,t1,t2,f0,f1,f2,z0,dm⟩:=co.out _ zB;have vc:Hid (PowTab W0.drew):=ly
 go_upto_region 7 with fail
 go_region_held3 (fun w'=>w'.cell? ⟨w.heap.size,0,none⟩=some (vI (row:Int))/\w'.cell? ⟨w.heap.size,1,none⟩=some (vI (col:Int))/\w'.cell? ⟨w.heap.size,2,none⟩=some (.bool fr)/\w'.cell? ⟨w.heap.size,3,none⟩=some (.bool true)/\w'.cell? ⟨w.heap.size+1,0,none⟩=some (vI 0)/\w'.cell? ⟨w.heap.size+1,1,none⟩=some (vS #[])/\w'.cell? ⟨w.heap.size+1,2,none⟩=some (vI 0)/\w'.frozen? ⟨w.heap.size+1,0,none⟩=false/\w'.frozen? ⟨w.heap.size+1,1,none⟩=false/\w'.frozen? ⟨w.heap.size+1,2,none⟩=false/\w.heap.size+1<w'.heap.size/\Below W0.heap.size W0 w')
  (first|exact co.out _ dm|exact co.out _ dm.drew |(go_split_ands;exact co.out _ (Below.trans (by assumption) (Below.mono hb (Below.size (by assumption)))))|assumption)
  (first
   |(go_at_call 76;(with_reducible refine(CI.out _).mono ?_);rintro e wx ⟨rfl,hb⟩;have HB:=zh (Below.trans (Below.refl _ W0).drew (Below.mono hb zr))))
 all_goals (try go_split_ands)
 all_goals go_wp2_with fail
 all_goals (try clear m0 m1 m2 m3 t0 t1 t2 f0 f1 f2 z0 dm)
 all_goals obtain⟨m0,m1,m2,m3,t0,t1,t2,f0,f1,f2,z0,dm⟩:=co.out _ HB.out
 all_goals refine yt (v:=.agg #[vI 4,vT (36::M),vI 0]) (by simp[results,Tryz.results34,go_sem,t0,t1,t2]) rfl ?_
 all_goals refine⟨by rw[t5.out,tz.out],?_⟩
 all_goals exact(((zU au.out HB.out).setCell (p:=⟨_,_,none⟩) (Nat.le_succ _) _).setCell (p:=⟨_,_,none⟩) (Nat.le_succ _) _).setCell (p:=⟨_,_,none⟩) (Nat.le_succ _) _
theorem xH(row col:Nat)(fr:Bool)(w:World)(hp:PowTab w)(hr:row<=400)(hc:col<=400) :
  Calls Tryz.prog 34 #[.agg #[vI (row:Int),vI (col:Int),.bool fr,.bool false],vI 2] w fun e w'=>e=.returned (gJ (gH .plain col false))/\Below w.heap.size w w':=by
 have wk:(row:Int)<=400:=by omega
 have dv:(col:Int)<=400:=by omega
 obtain⟨W0,ak⟩:∃ W0,W0=(w.alloc (.cells #[vI (row:Int),vI (col:Int),.bool fr,.bool false] 90)).alloc (.cells #[vI 0,vS #[],vI 0] 64):=⟨_,rfl⟩
 have ai:=zh ak;have au:Hid (Below w.heap.size w W0):=zh (by rw[ak];exact((Below.refl _ w).alloc zr _).alloc (by rw[World.size_alloc];omega) _);have L0:Hid (Lies W0 w.heap.size 90 #[vI (row:Int),vI (col:Int),.bool fr,.bool false]):=zh (by rw[ak];exact(Lies.new w _ _).alloc _);have L1:Hid (Lies W0 (w.heap.size+1) 64 #[vI 0,vS #[],vI 0]):=zh (by
  rw[ak];have h:=Lies.new (w.alloc (.cells #[vI (row:Int),vI (col:Int),.bool fr,.bool false] 90)) 64 #[vI 0,vS #[],vI 0];rw[World.size_alloc]at h;exact h)
 have ly:Hid (PowTab W0):=zh (hp.next au.out);have co:Hid (∀ W,Below W0.heap.size W0 W->W.cell? ⟨w.heap.size,0,none⟩=some (vI (row:Int))/\W.cell? ⟨w.heap.size,1,none⟩=some (vI (col:Int))/\W.cell? ⟨w.heap.size,2,none⟩=some (.bool fr)/\W.cell? ⟨w.heap.size,3,none⟩=some (.bool false)/\W.cell? ⟨w.heap.size+1,0,none⟩=some (vI 0)/\W.cell? ⟨w.heap.size+1,1,none⟩=some (vS #[])/\W.cell? ⟨w.heap.size+1,2,none⟩=some (vI 0)/\W.frozen? ⟨w.heap.size+1,0,none⟩=false/\W.frozen? ⟨w.heap.size+1,1,none⟩=false/\W.frozen? ⟨w.heap.size+1,2,none⟩=false/\w.heap.size+1<W.heap.size/\Below W0.heap.size W0 W):=zh (fun W h=>⟨(L0.out.next h).cell 0,(L0.out.next h).cell 1,(L0.out.next h).cell 2,(L0.out.next h).cell 3,(L1.out.next h).cell 0,(L1.out.next h).cell 1,(L1.out.next h).cell 2,(L1.out.next h).frozen 0,(L1.out.next h).frozen 1,(L1.out.next h).frozen 2,(L1.out.next h).lt,h⟩)
 have CI:=zh (fun W=>jR col W (by omega));have hln:(dY (col+1)).length<=3:=hG (col+1) (by omega);have tz:Hid (gJ (gH .plain col false)=.agg #[vI 3,vT (dY (col+1)),vI 0]):=zh rfl;generalize dY (col+1)=M at *;have k1:¬ 9223372036854775807<M.length+1:=by omega
 have k2:¬ 9223372036854775807<1+M.length:=by omega
 obtain⟨tv,lp⟩:=zD (gJ (gH .plain col false))
 have t5:=zh lp;rw[<- lp];clear ak hp lp L0 L1
 go_in
 go_upto_region 1 with fail
 rw[<- ai.out];clear ai;obtain⟨m0,m1,m2,m3,t0,t1,t2,f0,f1,f2,z0,dm⟩:=co.out _ zB;have vc:Hid (PowTab W0.drew):=ly
 go_upto_region 7 with fail
 go_region_held3 (fun w'=>w'.cell? ⟨w.heap.size,0,none⟩=some (vI (row:Int))/\w'.cell? ⟨w.heap.size,1,none⟩=some (vI (col:Int))/\w'.cell? ⟨w.heap.size,2,none⟩=some (.bool fr)/\w'.cell? ⟨w.heap.size,3,none⟩=some (.bool false)/\w'.cell? ⟨w.heap.size+1,0,none⟩=some (vI 0)/\w'.cell? ⟨w.heap.size+1,1,none⟩=some (vS #[])/\w'.cell? ⟨w.heap.size+1,2,none⟩=some (vI 0)/\w'.frozen? ⟨w.heap.size+1,0,none⟩=false/\w'.frozen? ⟨w.heap.size+1,1,none⟩=false/\w'.frozen? ⟨w.heap.size+1,2,none⟩=false/\w.heap.size+1<w'.heap.size/\Below W0.heap.size W0 w')
  (first|exact co.out _ dm|exact co.out _ dm.drew |(go_split_ands;exact co.out _ (Below.trans (by assumption) (Below.mono hb (Below.size (by assumption)))))|assumption)
  (first
   |(go_at_call 76;(with_reducible refine(CI.out _).mono ?_);rintro e wx ⟨rfl,hb⟩;have HB:=zh (Below.trans (Below.refl _ W0).drew (Below.mono hb zr))))
 all_goals (try go_split_ands)
 all_goals go_wp2_with fail
 all_goals (try clear m0 m1 m2 m3 t0 t1 t2 f0 f1 f2 z0 dm)
 all_goals obtain⟨m0,m1,m2,m3,t0,t1,t2,f0,f1,f2,z0,dm⟩:=co.out _ HB.out
 all_goals refine yt (v:=.agg #[vI 3,vT (M),vI 0]) (by simp[results,Tryz.results34,go_sem,t0,t1,t2]) rfl ?_
 all_goals refine⟨by rw[t5.out,tz.out],?_⟩
 all_goals exact(((zU au.out HB.out).setCell (p:=⟨_,_,none⟩) (Nat.le_succ _) _).setCell (p:=⟨_,_,none⟩) (Nat.le_succ _) _).setCell (p:=⟨_,_,none⟩) (Nat.le_succ _) _
end Go.Proofs.YtjfihpaeglpblaaGreatDoor
