/-
  Lemmas, part 7: Wr5 Wr6 Wr7 Wr8 Wr3.
-/
import Derived.Test.YtjfihpaeglpblaaGreatDoorRs6
set_option maxHeartbeats 100000000
set_option maxRecDepth 1000000
namespace Go.Proofs.YtjfihpaeglpblaaGreatDoor
open Go.RowKit
theorem Lies.rangeM{w:World}{b:Nat}{t:TypeId}{C:List Value}(h:Lies w b t C.toArray):w.rangeAt b 0 C:=by
 have:=h.range
 rwa [List.toList_toArray]at this
theorem dD{C:List Value}(h2:C.length=22):(Tryz.prog.info? 34).map (·.size)=some C.length:=by
 rw[h2];exact bY
theorem mE{C:List Value}{h:NodeH}{A:Option Addr}{n cp:Nat}(e:C.toArray=aJ h A n cp):C.length=22:=by
 rw[<- yd,e];rfl
theorem uAG{p m:Nat}{rp cp:Option Nat}{R C:AxV}{sf:Value}{ts:List RTok}(h:NodeH)(A:Option Addr)(n c:Nat)(Cn:List Value)(lev:Int)(na:List RTok)(w:World)(af:Hid (Cn.toArray=aJ h A n c))(hw:WrS w p m rp cp R C sf ts)(h6:h.kind=6->mR h.name=true)(hn:ts.length+na.length<=700000)
  (hT:∀ W ts',WrS W p m rp cp R C sf ts'->Kw p (rp.toList++cp.toList) w W->ts'.length<=ts.length+1->Calls Tryz.prog 74 #[vP p 0,.agg Cn.toArray] W fun e w'=>WrO p m rp cp R C sf (ts'++na) W e w') :
  Calls Tryz.prog 134 #[vP p 0,.agg Cn.toArray,vI lev] w fun e w'=>WrO p m rp cp R C sf (ts++dU (sR h) lev na) w e w':=by
 obtain⟨W0,ak⟩:=zD (w.alloc (.cells Cn.toArray 34))
 have ai:=zh ak;have ag:=zA ak;have HK:Hid (Kw p (rp.toList++cp.toList) w W0):=zh (Kw.of_below ag.out);have HL:=zL ak;have HS:=zh (hw.next ag.out);have bg:=zh (dD (mE af.out));have CV:=zh (fun W (hs:WrS W p m rp cp R C sf ts)=>tP h A n c Cn W af hs h6);have CT:=zh hT;have i6:=zh hn;obtain⟨lv,m8⟩:=zD (sR h)
 rw[<- m8]at CV ⊢;clear ak hw hT h6 m8 af hn;by_cases hle:lev<=lv
 ·have e1:dU lv lev na=na:=by unfold dU;rw[if_pos hle]
  rw[e1];clear e1
  go_in
  go_upto_region 1 with fail
  rw[<- ai.out];clear ai
  go_wp2_with (first
   |(refine yr rfl 34 (.tmp 4) rfl w.heap.size 0 rfl Cn _ HL.out.rangeM Tryz.underlying34 rfl bg.out ?_)
   |((with_reducible refine(CV.out _ HS.out).mono ?_);rintro e wx ⟨rfl,hb⟩;replace HK:=zh (HK.out.trans (Kw.of_below hb));replace HL:=zh (HL.out.next hb);replace HS:=zh (HS.out.next hb);clear hb)
   |((with_reducible refine(CT.out _ _ HS.out HK.out (Nat.le_succ _)).mono ?_);rintro e wx ⟨rfl,hs,hk⟩;replace HK:=zh (HK.out.trans hk);replace HS:=zh hs;clear hs hk))
  go_end0
  exact⟨rfl,HS.out,HK.out⟩
 have e1:ts++dU lv lev na=ts++[tk 5 [40]]++na++[tk 5 [41]]:=by unfold dU;rw[if_neg hle];simp
 rw[e1];obtain⟨x,hx⟩:=zD (tk 5 [40])
 obtain⟨y,hy⟩:∃ x,x=tk 5 [41]:=⟨_,rfl⟩
 have CP:=zh (cB (p:=p) (m:=m) (rp:=rp) (cp:=cp) (R:=R) (C:=C) (sf:=sf) 5 [40] #[40] rfl x hx);have CQ:=zh (cB (p:=p) (m:=m) (rp:=rp) (cp:=cp) (R:=R) (C:=C) (sf:=sf) 5 [41] #[41] rfl y hy);rw[<- hx,<- hy];clear e1 hx hy
 go_in
 go_upto_region 1 with fail
 rw[<- ai.out];clear ai
 go_wp2_with (first
  |(refine yr rfl 34 (.tmp 4) rfl w.heap.size 0 rfl Cn _ HL.out.rangeM Tryz.underlying34 rfl bg.out ?_)
  |((with_reducible refine(CV.out _ HS.out).mono ?_);rintro e wx ⟨rfl,hb⟩;replace HK:=zh (HK.out.trans (Kw.of_below hb));replace HL:=zh (HL.out.next hb);replace HS:=zh (HS.out.next hb);clear hb)
  |((with_reducible refine(CP.out _ _ HS.out (by have:=i6.out;omega)).mono ?_);rintro e wx ⟨rfl,hs,hk⟩;replace HL:=zh (Kw.lies hk HS.out HL.out (by decide) (by decide) (by decide));replace HK:=zh (HK.out.trans hk);have jf:=zh hs;clear hs hk CP)
  |((with_reducible refine(CT.out _ _ jf.out HK.out (by simp)).mono ?_);rintro e wx ⟨rfl,hs,hk⟩;replace HK:=zh (HK.out.trans hk);have rj:=zh hs;clear hs hk)
  |((with_reducible refine(CQ.out _ _ rj.out (by have:=i6.out;simp only[yl,yi,List.length_nil];omega)).mono ?_);rintro e wx ⟨rfl,hs,hk⟩;replace HK:=zh (HK.out.trans hk);have jo:=zh hs;clear hs hk))
 go_end0
 exact⟨rfl,jo.out,HK.out⟩
theorem uEX{W W':World}(h:Kp [] W W'):Below W.heap.size W W':=h.below (fun k hk=>by cases hk) zr
theorem pY(y:List RTok):∀ (xs:List (List RTok)),bF (xs++[y])=if xs=[] then y else bF xs++([tk 5 [44]]++y)
 | []=>by simp[bF]
 | [a]=>by simp[bF]
 |a::b::r=>by
  have ih:=pY y (b::r);rw[if_neg (by simp)]at ih;rw[if_neg (by simp)];show a++tk 5 [44]::bF (b::(r++[y]))=_;rw[show b::(r++[y])=(b::r)++[y] from rfl,ih];simp[bF]
theorem uGW{p m:Nat}{rp cp:Option Nat}{R C:AxV}{sf:Value}{ts:List RTok}(A:Option Addr)(ca:Nat)(TS:List (List RTok))(w:World)(hw:WrS w p m rp cp R C sf ts)
  (hK:∀ k (hk:k<TS.length),∃ g o ci,A=some ⟨g,o,none⟩/\(ci:List Value).length=22/\ci.toArray.all (·.oneCell')=true/\∀ W ts',WrS W p m rp cp R C sf ts'->Kw p (rp.toList++cp.toList) w W->W.rangeAt g (o+k*22) ci/\(ts'.length<=ts.length+(bF (TS.take k)).length+1->Calls Tryz.prog 74 #[vP p 0,.agg ci.toArray] W fun e w'=>WrO p m rp cp R C sf (ts'++TS[k]) W e w'))
  (hn:TS.length<=100000) (hl:∀ k,ts.length+(bF (TS.take k)).length<=700000) :
  Calls Tryz.prog 136 #[vP p 0,.slice A TS.length ca] w fun e w'=>WrO p m rp cp R C sf (ts++bF TS) w e w':=by
 obtain⟨tc,f6⟩:∃ x,x=tk 5 [44]:=⟨_,rfl⟩
 have CP:=zh (cB (p:=p) (m:=m) (rp:=rp) (cp:=cp) (R:=R) (C:=C) (sf:=sf) 5 [44] #[44] rfl tc f6);have HSn:Hid (∀ k (hk:k<TS.length),bF (TS.take (k+1))=if k=0 then TS[k] else bF (TS.take k)++([tc]++TS[k])):=zh (fun k hk=>by
  rw[yw hk,pY,f6];by_cases h0:k=0
  ·subst h0;simp
  rw[if_neg h0,if_neg (by
   intro h;rcases List.take_eq_nil_iff.1 h with h|h
   ·exact h0 h
   rw[h]at hk;exact absurd hk (Nat.not_lt_zero _))])
 have HKs:=zh hK;have HLl:=zh hl;have tq:Hid (WrS w p m rp cp R C sf (ts++bF (TS.take 0))):=zh (by rw[List.take_zero];simpa [bF] using hw);have HTn:Hid (TS.take TS.length=TS):=zh (List.take_length);obtain⟨n,dw⟩:=zD TS.length
 have HN:=zh dw;rw[<- dw]at hn ⊢;clear hw hK hl f6 dw
 go_in
 go_wp2_with fail
 go_loopw [8] (fun v8 wr=>∃ k:Nat,k<=n/\v8=vI (k:Int)/\Hid (WrS wr p m rp cp R C sf (ts++bF (TS.take k)))/\Hid (Kw p (rp.toList++cp.toList) w wr)) (fun v8 _=>n-(intOf v8).toNat)
 case atStart=>exact⟨0,zm _,rfl,tq,zh (Kw.refl _ _ _)⟩
 case round=>
  obtain⟨k,hk,rfl,HS,HK⟩:=hrel;have rv:(k:Int)<=100000:=by omega
  clear tq;by_cases hlt:k<n
  ·have iu:(k:Int)<(n:Int):=by omega
   have ec:k<TS.length:=by rw[<- HN.out];exact hlt
   have HE:=zh (HSn.out k ec);obtain⟨g,o,ci,rfl,ed,hone,cv⟩:=HKs.out k ec;have bg:=zh (dD ed);have HInz:Hid ((Tryz.prog.info? 34).map (·.size)=some ci.toArray.size):=zh (by rw[yd,ed];exact bY);have HOne:=zh hone;have jh:=zh (cv wr _ HS.out HK.out).1;have CN:=zh (fun W ts' h1 h2=>(cv W ts' h1 h2).2);have cr:=zh (HLl.out k);have HBz:Hid (Below wr.heap.size wr (World.setCells (wr.alloc (.cells fH.toArray 34)) wr.heap.size 0 ci)):=zh (uEX (nS (.inr zr) ci 0 ((Kp.refl _ _).alloc _)));have HZ:Hid (Lies (World.setCells (wr.alloc (.cells fH.toArray 34)) wr.heap.size 0 ci) wr.heap.size 34 ci.toArray):=zh ((Lies.new wr 34 fH.toArray).putAll (by rw[ed];rfl))
   have HT:Hid (World.there (wr.alloc (.cells fH.toArray 34)) wr.heap.size 0 ci.toArray.size):=zh (by have h:=(Lies.new wr 34 fH.toArray).thereA;have h0:ci.toArray.size=22:=(by rw[yd,ed]);rw[h0];exact h);simp only[fH]at HBz HZ;obtain⟨q,hq⟩:=zD wr.heap.size
   have HQ:=zh hq;obtain⟨tt,htt⟩:∃ t,TS[k]=t:=⟨_,rfl⟩
   rw[htt]at HE CN;clear cv hone ed HKs HSn HTn htt hq;by_cases gu:k=0
   ·have tu:(k:Int)<=0:=by omega
    have HE2:Hid (ts++bF (TS.take (k+1))=(ts++bF (TS.take k))++tt):=zh (by rw[HE.out,if_pos gu,gu];simp[bF]);clear HE gu
    go_wp2_with (first
     |(refine yr rfl 34 (.tmp 11) rfl g (o+k*22) rfl ci _ jh.out Tryz.underlying34 rfl bg.out ?_)
     |(refine yq rfl 34 (.tmp 5) (.tmp 12) rfl wr.heap.size 0 ci.toArray rfl rfl HT.out HInz.out HOne.out ?_;change wpList _ _ _ _ _ (World.setCells _ wr.heap.size 0 ci);generalize World.setCells _ _ _ _=wz at HBz HZ ⊢;have jf:=zh (HS.out.next HBz.out);have fp:=zh (HK.out.trans (Kw.of_below HBz.out)))
     |(refine yr rfl 34 (.tmp 5) rfl wr.heap.size 0 rfl ci _ HZ.out.rangeM Tryz.underlying34 rfl bg.out ?_)
     |((with_reducible refine(CN.out _ _ jf.out fp.out (by simp only[yl];omega)).mono ?_);rintro e wx ⟨rfl,hs,fs⟩;have rj:=zh hs;have qi:=zh (fp.out.trans fs);clear hs fs))
    go_roundw
    case rel=>exact⟨k+1,by omega,by go_num,zh (by rw[HE2.out];exact rj.out),qi⟩
    case measure=>first |(simp[intOf];done) |(simp[intOf];omega)
   have tu:(0:Int)<(k:Int):=by omega
   have HE2:Hid (ts++bF (TS.take (k+1))=(ts++bF (TS.take k))++[tc]++tt):=zh (by rw[HE.out,if_neg gu];simp);clear HE gu
   go_wp2_with (first
    |(refine yr rfl 34 (.tmp 11) rfl g (o+k*22) rfl ci _ jh.out Tryz.underlying34 rfl bg.out ?_)
    |(refine yq rfl 34 (.tmp 5) (.tmp 12) rfl wr.heap.size 0 ci.toArray rfl rfl HT.out HInz.out HOne.out ?_;change wpList _ _ _ _ _ (World.setCells _ wr.heap.size 0 ci);generalize World.setCells _ _ _ _=wz at HBz HZ ⊢;have jf:=zh (HS.out.next HBz.out);have fp:=zh (HK.out.trans (Kw.of_below HBz.out)))
    |((with_reducible refine(CP.out _ _ jf.out (by have:=cr.out;rw[yl];omega)).mono ?_);rintro e wx ⟨rfl,hs,fs⟩;have uy:=zh (Kw.lies fs jf.out HZ.out (by decide) (by decide) (by decide));have jo:=zh hs;have f8:=zh (fp.out.trans fs);clear hs fs)
    |(refine yr rfl 34 (.tmp 5) rfl wr.heap.size 0 rfl ci _ uy.out.rangeM Tryz.underlying34 rfl bg.out ?_)
    |((with_reducible refine(CN.out _ _ jo.out f8.out (by simp only[yl,yi,List.length_nil];omega)).mono ?_);rintro e wx ⟨rfl,hs,fs⟩;have rj:=zh hs;have qi:=zh (f8.out.trans fs);clear hs fs))
   go_roundw
   case rel=>exact⟨k+1,by omega,by go_num,zh (by rw[HE2.out];exact rj.out),qi⟩
   case measure=>first |(simp[intOf];done) |(simp[intOf];omega)
  obtain rfl:k=n:=by omega
  go_wp2_with fail
  go_end0
  have h1:TS.take k=TS:=by rw[HN.out];exact HTn.out
  rw[h1]at HS;exact⟨rfl,HS.out,HK.out⟩
theorem lI{g o N c a b:Nat}(h1:a<b)(h2:b<=N)(h3:N<=c):∀ W,(Instr.slice 32 (.slice (some ⟨g,o,none⟩) N c) (some (vI (a:Int))) (some (vI (b:Int))) none).run Tryz.prog W=.ok (.slice (some ⟨g,o+a*22,none⟩) (b-a) (c-a)) W:=fun W=>by
 have aj:Tryz.prog.underlying 32=some (.slice (Tryz.prog.elem 32)):=by kernel_rfl
 have vm:∀ W,(sizeOf (Tryz.prog.elem 32)).run Tryz.prog W=.ok 22 W:=fun W=>by kernel_rfl
 rw[run_slice_lh W 32 (some ⟨g,o,none⟩) N c aj .i64 .i64 a b (by omega) (by omega) (by omega),vm];have hc:¬ c=a:=by omega
 simp[Result.andThen,sliced,hc,rA]
theorem uB{g o N c a b:Nat}(h1:a<b)(h2:b<=N)(h3:N<=c):∀ W,(Instr.sliceAt 32 (.slice (some ⟨g,o,none⟩) N c) (some (vI (a:Int))) (some (vI (b:Int))) none).run Tryz.prog W=.ok (.slice (some ⟨g,o+a*22,none⟩) (b-a) (c-a)) W:=fun W=>by
 have aj:Tryz.prog.underlying 32=some (.slice (Tryz.prog.elem 32)):=by kernel_rfl
 rw[run_sliceAt_slice W 32 _ _ _ _ aj];exact lI h1 h2 h3 W
theorem zX{p m:Nat}{rp cp:Option Nat}{R C:AxV}{sf:Value}{ts:List RTok}(h:NodeH)(g o ca r cw:Nat)(Cn:List Value)(TS:List (List RTok))(w:World)(af:Hid (Cn.toArray=aJ h (some ⟨g,o,none⟩) (r*cw) ca))(np:h.rows=(r:Int))(h1:1<=r)(h2:1<=cw)(hc:r*cw<=ca)(vk:r*cw<=100000)(hw:WrS w p m rp cp R C sf ts)
  (hL:∀ i,i<r->∀ W ts',WrS W p m rp cp R C sf ts'->Kw p (rp.toList++cp.toList) w W->ts'.length<=ts.length+(cS cw TS i).length+1->Calls Tryz.prog 136 #[vP p 0,.slice (some ⟨g,o+i*cw*22,none⟩) cw (ca-i*cw)] W fun e w'=>WrO p m rp cp R C sf (ts'++bF ((TS.drop (i*cw)).take cw)) W e w')
  (hl:∀ i,i<=r->ts.length+(cS cw TS i).length<=700000) :
  Calls Tryz.prog 137 #[vP p 0,.agg Cn.toArray] w fun e w'=>WrO p m rp cp R C sf (ts++(cS cw TS r++[tk 5 [125]])) w e w':=by
 obtain⟨W0,ak⟩:=zD (w.alloc (.cells Cn.toArray 34))
 have ai:=zh ak;have ag:=zA ak;have HK:Hid (Kw p (rp.toList++cp.toList) w W0):=zh (Kw.of_below ag.out);have HL:=zL ak;obtain⟨N,hN⟩:=zD (r*cw)
 have HN:=zh hN;rw[<- hN]at af;have HC:Hid (∀ W,Lies W w.heap.size 34 Cn.toArray->W.cell? ⟨w.heap.size,20,none⟩=some (vI (r:Int))/\W.cell? ⟨w.heap.size,21,none⟩=some (.slice (some ⟨g,o,none⟩) N ca)):=zh (fun W hl=>by
  have e20:=hl.cell 20;have e21:=hl.cell 21;rw[af.out]at e20 e21;rw[<- np];exact⟨e20,e21⟩)
 have HS:Hid (WrS W0 p m rp cp R C sf (ts++cS cw TS 0)):=zh (by rw[cS,List.append_nil];exact hw.next ag.out);have CL:=zh hL;have HLl:=zh hl;obtain⟨x,hx⟩:=zD (tk 5 [123])
 obtain⟨y,hy⟩:∃ x,x=tk 5 [59]:=⟨_,rfl⟩
 obtain⟨z,hz⟩:∃ x,x=tk 5 [125]:=⟨_,rfl⟩
 have CX:=zh (cB (p:=p) (m:=m) (rp:=rp) (cp:=cp) (R:=R) (C:=C) (sf:=sf) 5 [123] #[123] rfl x hx);have CY:=zh (cB (p:=p) (m:=m) (rp:=rp) (cp:=cp) (R:=R) (C:=C) (sf:=sf) 5 [59] #[59] rfl y hy);have CZ:=zh (cB (p:=p) (m:=m) (rp:=rp) (cp:=cp) (R:=R) (C:=C) (sf:=sf) 5 [125] #[125] rfl z hz);have HSn:Hid (∀ i,cS cw TS (i+1)=cS cw TS i++(if i=0 then x else y)::bF ((TS.drop (i*cw)).take cw)):=zh (fun i=>by
  rw[hx,hy,cS];by_cases h0:i=0
  ·rw[if_pos h0,if_pos h0]
  rw[if_neg h0,if_neg h0])
 rw[<- hz];have tz:cw<=N:=by rw[hN];exact Nat.le_mul_of_pos_left cw h1
 have hrN:r<=N:=by rw[hN];exact Nat.le_mul_of_pos_right r h2
 have hNb:N<=100000:=by rw[hN];exact vk
 have kr:N<=ca:=by rw[hN];exact hc
 have hq:(N:Int).tdiv (r:Int)=(cw:Int):=by
  rw[hN,Int.natCast_mul];exact Int.mul_tdiv_cancel_left (cw:Int) (by omega)
 have jw:((r:Int)==0)=false:=by rw[beq_eq_false_iff_ne];omega
 have HR:=zh (And.intro h1 (And.intro h2 (And.intro tz (And.intro hrN (And.intro hNb kr)))));have xc:(r:Int)<=100000:=by omega
 have hcwi:(cw:Int)<=100000:=by omega
 have fj:(1:Int)<=(r:Int):=by omega
 have HHC:=zh af.out;clear ak hw hL hl hx hy hz hN af np h1 h2 hc vk tz hrN hNb kr ag
 go_in
 go_upto_region 1 with fail
 rw[<- ai.out];clear ai;obtain⟨xm,jp⟩:=HC.out _ HL.out
 go_wp2_with fail
 clear xm jp hq jw
 go_loopw [14] (fun v14 wr=>∃ i:Nat,i<=r/\v14=vI (i:Int)/\Hid (WrS wr p m rp cp R C sf (ts++cS cw TS i))/\Hid (Kw p (rp.toList++cp.toList) w wr)/\Hid (Lies wr w.heap.size 34 Cn.toArray)) (fun v14 _=>r-(intOf v14).toNat)
 case atStart=>exact⟨0,zm _,rfl,HS,HK,HL⟩
 case round=>
  clear HS HK HL;obtain⟨i,hi,rfl,HS,HK,HL⟩:=hrel;by_cases hlt:i<r
  ·have hlti:(i:Int)<(r:Int):=by omega
   obtain⟨q1,q2,q3,q4,q5,q6⟩:=HR.out;have hb1:i*cw+cw<=N:=by
    have:=Nat.mul_le_mul_right cw (by omega:i+1<=r);rw[Nat.succ_mul,<- HN.out]at this;exact this
   obtain⟨a,ha⟩:=zD (i*cw)
   rw[<- ha]at hb1;obtain⟨b,hb⟩:=zD (a+cw)
   have u4q:IntKind.i64.wrap ((i:Int)*(cw:Int))=(a:Int):=by
    rw[ha,<- Int.natCast_mul];exact IntWalk.i64_in _ (by rw[<- ha];omega)
   have hw2:IntKind.i64.wrap (((i:Int)+1)*(cw:Int))=(b:Int):=by
    rw[show ((i:Int)+1)*(cw:Int)=((b:Nat):Int) by rw[hb,ha,Int.add_mul];simp];exact IntWalk.i64_in _ (by omega)
   have fi:=lI (g:=g) (o:=o) (N:=N) (c:=ca) (a:=a) (b:=b) (by omega) (by omega) q6;have jv:=uB (g:=g) (o:=o) (N:=N) (c:=ca) (a:=a) (b:=b) (by omega) (by omega) q6;have CN:=zh (CL.out i hlt);rw[<- ha]at CN;rw[show b-a=cw by omega]at fi jv;have cr:=zh (HLl.out i (by omega));have HE0:=HSn.out i;rw[<- ha]at HE0;have HE1:=zh HE0;generalize bF ((TS.drop a).take cw)=tt at *;obtain⟨xm,jp⟩:=HC.out _ HL.out;clear q1 q2 q3 q4 q5 q6 hb1 ha hb HE0;by_cases hi0:i=0
   ·have hi0i:((i:Int)==0)=true:=by rw[hi0];rfl
    have HE2:Hid (ts++cS cw TS (i+1)=(ts++cS cw TS i)++[x]++tt):=zh (by rw[HE1.out,if_pos hi0];simp);clear hi0 HE1
    go_wp2_with (first
     |((with_reducible refine(CX.out _ _ HS.out (by have:=cr.out;rw[yl];omega)).mono ?_);rintro e wx ⟨rfl,hs,hk⟩;have sv:=zh (Kw.lies hk HS.out HL.out (by decide) (by decide) (by decide));have jo:=zh hs;have f8:=zh (HK.out.trans hk);clear hs hk xm jp;obtain⟨xm,jp⟩:=HC.out _ sv.out)
     |((with_reducible refine(CN.out _ _ jo.out f8.out (by simp only[yl,yi,List.length_nil];omega)).mono ?_);rintro e wx ⟨rfl,hs,hk⟩;have dx:=zh (Kw.lies hk jo.out sv.out (by decide) (by decide) (by decide));have xl:=zh hs;have ln:=zh (f8.out.trans hk);clear hs hk))
    go_roundw
    case rel=>exact⟨i+1,by omega,by go_num,zh (by rw[HE2.out];exact xl.out),ln,dx⟩
    case measure=>first |(simp[intOf];done) |(simp[intOf];omega)
   have hi0i:((i:Int)==0)=false:=by rw[beq_eq_false_iff_ne];omega
   have HE2:Hid (ts++cS cw TS (i+1)=(ts++cS cw TS i)++[y]++tt):=zh (by rw[HE1.out,if_neg hi0];simp);clear hi0 HE1
   go_wp2_with (first
    |((with_reducible refine(CY.out _ _ HS.out (by have:=cr.out;rw[yl];omega)).mono ?_);rintro e wx ⟨rfl,hs,hk⟩;have sv:=zh (Kw.lies hk HS.out HL.out (by decide) (by decide) (by decide));have jo:=zh hs;have f8:=zh (HK.out.trans hk);clear hs hk xm jp;obtain⟨xm,jp⟩:=HC.out _ sv.out)
    |((with_reducible refine(CN.out _ _ jo.out f8.out (by simp only[yl,yi,List.length_nil];omega)).mono ?_);rintro e wx ⟨rfl,hs,hk⟩;have dx:=zh (Kw.lies hk jo.out sv.out (by decide) (by decide) (by decide));have xl:=zh hs;have ln:=zh (f8.out.trans hk);clear hs hk))
   go_roundw
   case rel=>exact⟨i+1,by omega,by go_num,zh (by rw[HE2.out];exact xl.out),ln,dx⟩
   case measure=>first |(simp[intOf];done) |(simp[intOf];omega)
  obtain rfl:i=r:=by omega
  have cr:=zh (HLl.out i (by omega))
  go_wp2_with ((with_reducible refine(CZ.out _ _ HS.out (by have:=cr.out;rw[yl];omega)).mono ?_);rintro e wx ⟨rfl,hs,hk⟩;have jo:=zh hs;have f8:=zh (HK.out.trans hk);clear hs hk)
  go_end0
  exact⟨rfl,by rw[<- List.append_assoc];exact jo.out,f8.out⟩
theorem dK{p m:Nat}{rp cp:Option Nat}{R C:AxV}{sf:Value}{ts:List RTok}{k:Int}{vv:Val}{s:Bs}{a b:Cor}{r:Int}{A:Option Addr}{n ca:Nat}{Cn:List Value}{w:World}(hw:WrS w p m rp cp R C sf ts)(af:Hid (Cn.toArray=aJ ⟨k,vv,s,a,b,r⟩ A n ca)):∃ W0,Hid (W0=w.alloc (.cells Cn.toArray 34))/\Hid (Kw p (rp.toList++cp.toList) w W0)/\Hid (Lies W0 w.heap.size 34 Cn.toArray)/\Hid (∀ W,Lies W w.heap.size 34 Cn.toArray->NdC W w.heap.size k vv s a b r A n ca)/\Hid (WrS W0 p m rp cp R C sf ts)/\Hid ((Tryz.prog.info? 34).map (·.size)=some Cn.length):=by
 obtain⟨W0,ak⟩:=zD (w.alloc (.cells Cn.toArray 34))
 have ag:Below w.heap.size w W0:=by rw[ak];exact(Below.refl _ w).alloc zr _
 exact⟨W0,zh ak,zh (Kw.of_below ag),zh (by rw[ak];exact Lies.new w _ _),zh (fun W hl=>cI hl af.out),zh (hw.next ag),zh (dD (mE af.out))⟩
theorem uGZ{p m:Nat}{rp cp:Option Nat}{R C:AxV}{sf:Value}{ts:List RTok}(vv:Val)(s:Bs)(a b:Cor)(r:Int)(A:Option Addr)(n ca:Nat)(Cn:List Value)(g:List RTok)(w:World)(af:Hid (Cn.toArray=aJ ⟨0,vv,s,a,b,r⟩ A n ca))(hw:WrS w p m rp cp R C sf ts)(hT:∀ W,WrS W p m rp cp R C sf ts->Calls Tryz.prog 132 #[vP p 0,.agg #[vI vv.kind,vI vv.mant,vI vv.exp,vT vv.text,.bool vv.truth,vI vv.fault]] W fun e w'=>WrO p m rp cp R C sf (ts++g) W e w') :
  Calls Tryz.prog 74 #[vP p 0,.agg Cn.toArray] w fun e w'=>WrO p m rp cp R C sf (ts++g) w e w':=by
 obtain⟨W0,ai,HK,HL,HC,HS,bg⟩:=dK hw af;have CT:=zh hT;clear hT;clear hw af
 go_in
 go_upto_region 1 with fail
 rw[<- ai.out];clear ai;obtain⟨c0,c1,c2,c3,c4,c5,c6,-⟩:=HC.out _ HL.out
 go_wp2_with (first
  |((first
  |((with_reducible refine(CT.out _ HS.out).mono ?_);rintro e wx ⟨rfl,hs,hk⟩));replace HL:=zh (Kw.lies hk HS.out HL.out (by decide) (by decide) (by decide));replace HS:=zh hs;replace HK:=zh (HK.out.trans hk);clear hs hk c0 c1 c2 c3 c4 c5 c6;obtain⟨c0,c1,c2,c3,c4,c5,c6,-⟩:=HC.out _ HL.out))
 go_end0
 exact⟨rfl,HS.out,HK.out⟩
theorem uDA{p m:Nat}{rp cp:Option Nat}{R C:AxV}{sf:Value}{ts:List RTok}(vv:Val)(s:Bs)(a b:Cor)(r:Int)(A:Option Addr)(n ca:Nat)(Cn:List Value)(g:List RTok)(w:World)(af:Hid (Cn.toArray=aJ ⟨7,vv,s,a,b,r⟩ A n ca))(hw:WrS w p m rp cp R C sf ts)(hg:g=[tk 3 s])(hn:ts.length<=700000) :
  Calls Tryz.prog 74 #[vP p 0,.agg Cn.toArray] w fun e w'=>WrO p m rp cp R C sf (ts++g) w e w':=by
 obtain⟨W0,ai,HK,HL,HC,HS,bg⟩:=dK hw af;obtain⟨t1,l6⟩:∃ x,x=tk 3 s:=⟨_,rfl⟩
 have C1:=zh (cB (p:=p) (m:=m) (rp:=rp) (cp:=cp) (R:=R) (C:=C) (sf:=sf) 3 s s.toArray rfl t1 l6);rw[<- l6]at hg;subst hg;have i6:=zh hn;clear l6 hn;clear hw af
 go_in
 go_upto_region 1 with fail
 rw[<- ai.out];clear ai;obtain⟨c0,-,-,-,-,-,-,c7,-⟩:=HC.out _ HL.out
 go_wp2_with (first
  |((first
  |((with_reducible refine(C1.out _ _ HS.out (by have:=i6.out;(try simp only[yl,yi,List.length_nil]);omega)).mono ?_);rintro e wx ⟨rfl,hs,hk⟩));replace HL:=zh (Kw.lies hk HS.out HL.out (by decide) (by decide) (by decide));replace HS:=zh hs;replace HK:=zh (HK.out.trans hk);clear hs hk c0 c7;obtain⟨c0,-,-,-,-,-,-,c7,-⟩:=HC.out _ HL.out))
 go_end0
 exact⟨rfl,HS.out,HK.out⟩
theorem uHA{p m:Nat}{rp cp:Option Nat}{R C:AxV}{sf:Value}{ts:List RTok}(vv:Val)(s:Bs)(a b:Cor)(r:Int)(A:Option Addr)(n ca:Nat)(Cn:List Value)(g:List RTok)(w:World)(af:Hid (Cn.toArray=aJ ⟨8,vv,s,a,b,r⟩ A n ca))(hw:WrS w p m rp cp R C sf ts)(hT:∀ W,WrS W p m rp cp R C sf ts->Kw p (rp.toList++cp.toList) w W->Calls Tryz.prog 137 #[vP p 0,.agg Cn.toArray] W fun e w'=>WrO p m rp cp R C sf (ts++g) W e w') :
  Calls Tryz.prog 74 #[vP p 0,.agg Cn.toArray] w fun e w'=>WrO p m rp cp R C sf (ts++g) w e w':=by
 obtain⟨W0,ai,HK,HL,HC,HS,bg⟩:=dK hw af;have CT:=zh hT;clear hT;clear hw af
 go_in
 go_upto_region 1 with fail
 rw[<- ai.out];clear ai;obtain⟨c0,-⟩:=HC.out _ HL.out
 go_wp2_with (first
  |(refine yr rfl 34 (.tmp 3) rfl w.heap.size 0 rfl Cn _ HL.out.rangeM Tryz.underlying34 rfl bg.out ?_)
  |((first
  |((with_reducible refine(CT.out _ HS.out HK.out).mono ?_);rintro e wx ⟨rfl,hs,hk⟩));replace HL:=zh (Kw.lies hk HS.out HL.out (by decide) (by decide) (by decide));replace HS:=zh hs;replace HK:=zh (HK.out.trans hk);clear hs hk c0;obtain⟨c0,-⟩:=HC.out _ HL.out))
 go_end0
 exact⟨rfl,HS.out,HK.out⟩
theorem uHB{p m:Nat}{rp cp:Option Nat}{R C:AxV}{sf:Value}{ts:List RTok}(vv:Val)(s:Bs)(a b:Cor)(r:Int)(A:Option Addr)(n ca:Nat)(Cn:List Value)(g:List RTok)(w:World)(af:Hid (Cn.toArray=aJ ⟨1,vv,s,a,b,r⟩ A n ca))(hw:WrS w p m rp cp R C sf ts)(hT:∀ W,WrS W p m rp cp R C sf ts->Kw p (rp.toList++cp.toList) w W->Calls Tryz.prog 138 #[vP p 0,.agg Cn.toArray] W fun e w'=>WrO p m rp cp R C sf (ts++g) W e w') :
  Calls Tryz.prog 74 #[vP p 0,.agg Cn.toArray] w fun e w'=>WrO p m rp cp R C sf (ts++g) w e w':=by
 obtain⟨W0,ai,HK,HL,HC,HS,bg⟩:=dK hw af;have CT:=zh hT;clear hT;clear hw af
 go_in
 go_upto_region 1 with fail
 rw[<- ai.out];clear ai;obtain⟨c0,-⟩:=HC.out _ HL.out
 go_wp2_with (first
  |(refine yr rfl 34 (.tmp 3) rfl w.heap.size 0 rfl Cn _ HL.out.rangeM Tryz.underlying34 rfl bg.out ?_)
  |((first
  |((with_reducible refine(CT.out _ HS.out HK.out).mono ?_);rintro e wx ⟨rfl,hs,hk⟩));replace HL:=zh (Kw.lies hk HS.out HL.out (by decide) (by decide) (by decide));replace HS:=zh hs;replace HK:=zh (HK.out.trans hk);clear hs hk c0;obtain⟨c0,-⟩:=HC.out _ HL.out))
 go_end0
 exact⟨rfl,HS.out,HK.out⟩
theorem zZ{p m:Nat}{rp cp:Option Nat}{R C:AxV}{sf:Value}{ts:List RTok}(vv:Val)(s:Bs)(a b:Cor)(r:Int)(A:Option Addr)(n ca:Nat)(Cn:List Value)(g:List RTok)(w:World)(af:Hid (Cn.toArray=aJ ⟨3,vv,s,a,b,r⟩ A n ca))(hw:WrS w p m rp cp R C sf ts)(hT:∀ W,WrS W p m rp cp R C sf ts->Kw p (rp.toList++cp.toList) w W->Calls Tryz.prog 138 #[vP p 0,.agg Cn.toArray] W fun e w'=>WrO p m rp cp R C sf (ts++g) W e w') :
  Calls Tryz.prog 74 #[vP p 0,.agg Cn.toArray] w fun e w'=>WrO p m rp cp R C sf (ts++g) w e w':=by
 obtain⟨W0,ai,HK,HL,HC,HS,bg⟩:=dK hw af;have CT:=zh hT;clear hT;clear hw af
 go_in
 go_upto_region 1 with fail
 rw[<- ai.out];clear ai;obtain⟨c0,-⟩:=HC.out _ HL.out
 go_wp2_with (first
  |(refine yr rfl 34 (.tmp 3) rfl w.heap.size 0 rfl Cn _ HL.out.rangeM Tryz.underlying34 rfl bg.out ?_)
  |((first
  |((with_reducible refine(CT.out _ HS.out HK.out).mono ?_);rintro e wx ⟨rfl,hs,hk⟩));replace HL:=zh (Kw.lies hk HS.out HL.out (by decide) (by decide) (by decide));replace HS:=zh hs;replace HK:=zh (HK.out.trans hk);clear hs hk c0;obtain⟨c0,-⟩:=HC.out _ HL.out))
 go_end0
 exact⟨rfl,HS.out,HK.out⟩
theorem uCY{p m:Nat}{rp cp:Option Nat}{R C:AxV}{sf:Value}{ts:List RTok}(vv:Val)(s:Bs)(a b:Cor)(r:Int)(A:Option Addr)(n ca:Nat)(Cn:List Value)(g:List RTok)(w:World)(af:Hid (Cn.toArray=aJ ⟨2,vv,s,a,b,r⟩ A n ca))(hw:WrS w p m rp cp R C sf ts)(hT:∀ W,WrS W p m rp cp R C sf ts->Kw p (rp.toList++cp.toList) w W->Calls Tryz.prog 139 #[vP p 0,.agg #[vI a.row.a,vI a.row.n,vI a.col.a,vI a.col.n,.bool a.fr,.bool a.fc,vI b.row.a,vI b.row.n,vI b.col.a,vI b.col.n,.bool b.fr,.bool b.fc]] W fun e w'=>WrO p m rp cp R C sf (ts++g) W e w') :
  Calls Tryz.prog 74 #[vP p 0,.agg Cn.toArray] w fun e w'=>WrO p m rp cp R C sf (ts++g) w e w':=by
 obtain⟨W0,ai,HK,HL,HC,HS,bg⟩:=dK hw af;have CT:=zh hT;clear hT;clear hw af
 go_in
 go_upto_region 1 with fail
 rw[<- ai.out];clear ai;obtain⟨c0,-,-,-,-,-,-,-,c8,c9,ku,kv,kw,c13,kz,la,c16,c17,c18,c19,-⟩:=HC.out _ HL.out
 go_wp2_with (first
  |((first
  |((with_reducible refine(CT.out _ HS.out HK.out).mono ?_);rintro e wx ⟨rfl,hs,hk⟩));replace HL:=zh (Kw.lies hk HS.out HL.out (by decide) (by decide) (by decide));replace HS:=zh hs;replace HK:=zh (HK.out.trans hk);clear hs hk c0 c8 c9 ku kv kw c13 kz la c16 c17 c18 c19;obtain⟨c0,-,-,-,-,-,-,-,c8,c9,ku,kv,kw,c13,kz,la,c16,c17,c18,c19,-⟩:=HC.out _ HL.out))
 go_end0
 exact⟨rfl,HS.out,HK.out⟩
theorem uDB{p m:Nat}{rp cp:Option Nat}{R C:AxV}{sf:Value}{ts:List RTok}(vv:Val)(s:Bs)(a b:Cor)(r:Int)(A:Option Addr)(n ca:Nat)(Cn:List Value)(g:List RTok)(w:World)(af:Hid (Cn.toArray=aJ ⟨9,vv,s,a,b,r⟩ A n ca))(hw:WrS w p m rp cp R C sf ts)(hg:g=[]) :
  Calls Tryz.prog 74 #[vP p 0,.agg Cn.toArray] w fun e w'=>WrO p m rp cp R C sf (ts++g) w e w':=by
 obtain⟨W0,ai,HK,HL,HC,HS,bg⟩:=dK hw af;have HG:=zh hg;clear hg;clear hw af
 go_in
 go_upto_region 1 with fail
 rw[<- ai.out];clear ai;obtain⟨c0,-⟩:=HC.out _ HL.out
 go_wp2_with fail
 go_end0
 exact⟨rfl,by rw[HG.out,List.append_nil];exact HS.out,HK.out⟩
theorem uCZ{p m:Nat}{rp cp:Option Nat}{R C:AxV}{sf:Value}{ts:List RTok}(vv:Val)(s:Bs)(a b:Cor)(r:Int)(A:Option Addr)(n ca:Nat)(Cn:List Value)(g:List RTok)(w:World)(af:Hid (Cn.toArray=aJ ⟨4,vv,s,a,b,r⟩ A n ca))(hw:WrS w p m rp cp R C sf ts)(lt:List RTok)(hg:g=[tk 3 s,tk 5 [40]]++lt++[tk 5 [41]])(hn:ts.length+g.length<=700000)(hT:∀ W ts',WrS W p m rp cp R C sf ts'->Kw p (rp.toList++cp.toList) w W->ts'.length<=ts.length+2->Calls Tryz.prog 136 #[vP p 0,.slice A n ca] W fun e w'=>WrO p m rp cp R C sf (ts'++lt) W e w') :
  Calls Tryz.prog 74 #[vP p 0,.agg Cn.toArray] w fun e w'=>WrO p m rp cp R C sf (ts++g) w e w':=by
 obtain⟨W0,ai,HK,HL,HC,HS,bg⟩:=dK hw af;obtain⟨t1,l6⟩:∃ x,x=tk 3 s:=⟨_,rfl⟩
 have C1:=zh (cB (p:=p) (m:=m) (rp:=rp) (cp:=cp) (R:=R) (C:=C) (sf:=sf) 3 s s.toArray rfl t1 l6);obtain⟨t2,om⟩:∃ x,x=tk 5 [40]:=⟨_,rfl⟩
 have C2:=zh (cB (p:=p) (m:=m) (rp:=rp) (cp:=cp) (R:=R) (C:=C) (sf:=sf) 5 [40] #[40] rfl t2 om);obtain⟨t3,ht3⟩:∃ x,x=tk 5 [41]:=⟨_,rfl⟩
 have C3:=zh (cB (p:=p) (m:=m) (rp:=rp) (cp:=cp) (R:=R) (C:=C) (sf:=sf) 5 [41] #[41] rfl t3 ht3);rw[<- l6,<- om,<- ht3]at hg;have HG:Hid (ts++g=ts++[t1]++[t2]++lt++[t3]):=zh (by rw[hg];simp);have i6:Hid (ts.length+lt.length+3<=700000):=zh (by rw[hg]at hn;simp at hn;omega);have CT:=zh hT;rw[HG.out];clear l6 om ht3 hg hn hT HG;clear hw af
 go_in
 go_upto_region 1 with fail
 rw[<- ai.out];clear ai;obtain⟨c0,-,-,-,-,-,-,c7,-,-,-,-,-,-,-,-,-,-,-,-,-,jp⟩:=HC.out _ HL.out
 go_wp2_with (first
  |((first
  |((with_reducible refine(C1.out _ _ HS.out (by have:=i6.out;(try simp only[yl,yi,List.length_nil]);omega)).mono ?_);rintro e wx ⟨rfl,hs,hk⟩)
  |((with_reducible refine(C2.out _ _ HS.out (by have:=i6.out;(try simp only[yl,yi,List.length_nil]);omega)).mono ?_);rintro e wx ⟨rfl,hs,hk⟩)
  |((with_reducible refine(CT.out _ _ HS.out HK.out (by simp)).mono ?_);rintro e wx ⟨rfl,hs,hk⟩)
  |((with_reducible refine(C3.out _ _ HS.out (by have:=i6.out;(try simp only[yl,yi,List.length_nil]);omega)).mono ?_);rintro e wx ⟨rfl,hs,hk⟩));replace HL:=zh (Kw.lies hk HS.out HL.out (by decide) (by decide) (by decide));replace HS:=zh hs;replace HK:=zh (HK.out.trans hk);clear hs hk c0 c7 jp;obtain⟨c0,-,-,-,-,-,-,c7,-,-,-,-,-,-,-,-,-,-,-,-,-,jp⟩:=HC.out _ HL.out))
 go_end0
 exact⟨rfl,HS.out,HK.out⟩
theorem zY{p m:Nat}{rp cp:Option Nat}{R C:AxV}{sf:Value}{ts:List RTok}(vv:Val)(s:Bs)(a b:Cor)(r:Int)(A:Option Addr)(n ca:Nat)(Cn:List Value)(g:List RTok)(w:World)(af:Hid (Cn.toArray=aJ ⟨5,vv,s,a,b,r⟩ A n ca))(hw:WrS w p m rp cp R C sf ts)(gb ob:Nat)(ci:List Value)(ed:ci.length=22)(hA:A=some ⟨gb,ob,none⟩)(hs5:s=[37])(bj:n=1)(tw:List RTok)(hg:g=tw++[tk 5 [37]])(hn:ts.length+g.length<=700000)(hR:∀ W ts',WrS W p m rp cp R C sf ts'->Kw p (rp.toList++cp.toList) w W->W.rangeAt gb ob ci)(hT:∀ W ts',WrS W p m rp cp R C sf ts'->Kw p (rp.toList++cp.toList) w W->ts'.length<=ts.length->Calls Tryz.prog 134 #[vP p 0,.agg ci.toArray,vI 7] W fun e w'=>WrO p m rp cp R C sf (ts'++tw) W e w') :
  Calls Tryz.prog 74 #[vP p 0,.agg Cn.toArray] w fun e w'=>WrO p m rp cp R C sf (ts++g) w e w':=by
 obtain⟨W0,ai,HK,HL,HC,HS,bg⟩:=dK hw af;obtain⟨t1,l6⟩:∃ x,x=tk 5 [37]:=⟨_,rfl⟩
 have C1:=zh (cB (p:=p) (m:=m) (rp:=rp) (cp:=cp) (R:=R) (C:=C) (sf:=sf) 5 [37] #[37] rfl t1 l6);rw[<- l6]at hg;have HG:Hid (ts++g=ts++tw++[t1]):=zh (by rw[hg];simp);have i6:Hid (ts.length+tw.length+1<=700000):=zh (by rw[hg]at hn;simp at hn;omega);have CT:=zh hT;have jh:=zh hR;have HIk:=zh (dD ed);rw[HG.out];subst hA bj hs5;clear l6 hg hn hT HG hR ed;clear hw af
 go_in
 go_upto_region 1 with fail
 rw[<- ai.out];clear ai;obtain⟨c0,-,-,-,-,-,-,c7,-,-,-,-,-,-,-,-,-,-,-,-,-,jp⟩:=HC.out _ HL.out
 go_wp2_with (first
  |(refine yr rfl 34 (.tmp 45) rfl gb ob rfl ci _ (jh.out _ _ HS.out HK.out) Tryz.underlying34 rfl HIk.out ?_)
  |((first
  |((with_reducible refine(CT.out _ _ HS.out HK.out (by simp)).mono ?_);rintro e wx ⟨rfl,hs,hk⟩)
  |((with_reducible refine(C1.out _ _ HS.out (by have:=i6.out;(try simp only[yl,yi,List.length_nil]);omega)).mono ?_);rintro e wx ⟨rfl,hs,hk⟩));replace HL:=zh (Kw.lies hk HS.out HL.out (by decide) (by decide) (by decide));replace HS:=zh hs;replace HK:=zh (HK.out.trans hk);clear hs hk c0 c7 jp;obtain⟨c0,-,-,-,-,-,-,c7,-,-,-,-,-,-,-,-,-,-,-,-,-,jp⟩:=HC.out _ HL.out))
 go_end0
 exact⟨rfl,HS.out,HK.out⟩
theorem uDC{p m:Nat}{rp cp:Option Nat}{R C:AxV}{sf:Value}{ts:List RTok}(vv:Val)(s:Bs)(a b:Cor)(r:Int)(A:Option Addr)(n ca:Nat)(Cn:List Value)(g:List RTok)(w:World)(af:Hid (Cn.toArray=aJ ⟨5,vv,s,a,b,r⟩ A n ca))(hw:WrS w p m rp cp R C sf ts)(gb ob:Nat)(ci:List Value)(ed:ci.length=22)(hA:A=some ⟨gb,ob,none⟩)(hs5:(s==[37])=false)(bj:n=1)(tw:List RTok)(hg:g=tk 5 s::tw)(hn:ts.length+g.length<=700000)(hR:∀ W ts',WrS W p m rp cp R C sf ts'->Kw p (rp.toList++cp.toList) w W->W.rangeAt gb ob ci)(hT:∀ W ts',WrS W p m rp cp R C sf ts'->Kw p (rp.toList++cp.toList) w W->ts'.length<=ts.length+1->Calls Tryz.prog 134 #[vP p 0,.agg ci.toArray,vI 6] W fun e w'=>WrO p m rp cp R C sf (ts'++tw) W e w') :
  Calls Tryz.prog 74 #[vP p 0,.agg Cn.toArray] w fun e w'=>WrO p m rp cp R C sf (ts++g) w e w':=by
 obtain⟨W0,ai,HK,HL,HC,HS,bg⟩:=dK hw af;obtain⟨t1,l6⟩:∃ x,x=tk 5 s:=⟨_,rfl⟩
 have C1:=zh (cB (p:=p) (m:=m) (rp:=rp) (cp:=cp) (R:=R) (C:=C) (sf:=sf) 5 s s.toArray rfl t1 l6);rw[<- l6]at hg;have HG:Hid (ts++g=ts++[t1]++tw):=zh (by rw[hg];simp);have i6:Hid (ts.length+tw.length+1<=700000):=zh (by rw[hg]at hn;simp at hn;omega);have CT:=zh hT;have jh:=zh hR;have HIk:=zh (dD ed);rw[HG.out];subst hA bj;clear l6 hg hn hT HG hR ed;clear hw af
 go_in
 go_upto_region 1 with fail
 rw[<- ai.out];clear ai;obtain⟨c0,-,-,-,-,-,-,c7,-,-,-,-,-,-,-,-,-,-,-,-,-,jp⟩:=HC.out _ HL.out
 go_wp2_with (first
  |(refine yr rfl 34 (.tmp 59) rfl gb ob rfl ci _ (jh.out _ _ HS.out HK.out) Tryz.underlying34 rfl HIk.out ?_)
  |((first
  |((with_reducible refine(C1.out _ _ HS.out (by have:=i6.out;(try simp only[yl,yi,List.length_nil]);omega)).mono ?_);rintro e wx ⟨rfl,hs,hk⟩)
  |((with_reducible refine(CT.out _ _ HS.out HK.out (by simp)).mono ?_);rintro e wx ⟨rfl,hs,hk⟩));replace HL:=zh (Kw.lies hk HS.out HL.out (by decide) (by decide) (by decide));replace HS:=zh hs;replace HK:=zh (HK.out.trans hk);clear hs hk c0 c7 jp;obtain⟨c0,-,-,-,-,-,-,c7,-,-,-,-,-,-,-,-,-,-,-,-,-,jp⟩:=HC.out _ HL.out))
 go_end0
 exact⟨rfl,HS.out,HK.out⟩
theorem uHC{p m:Nat}{rp cp:Option Nat}{R C:AxV}{sf:Value}{ts:List RTok}(vv:Val)(s:Bs)(a b:Cor)(r:Int)(A:Option Addr)(n ca:Nat)(Cn:List Value)(g:List RTok)(w:World)(af:Hid (Cn.toArray=aJ ⟨6,vv,s,a,b,r⟩ A n ca))(hw:WrS w p m rp cp R C sf ts)(gb ob:Nat)(ci:List Value)(ed:ci.length=22)(hA:A=some ⟨gb,ob,none⟩)(cj:List Value)(hj22:cj.length=22)(lev:Int)(wo:0<=lev)(ru:lev<=8)(u5q:n=2)(t1 t2:List RTok)(hg:g=t1++tk 5 s::t2)(hn:ts.length+g.length<=700000)(hR:∀ W ts',WrS W p m rp cp R C sf ts'->Kw p (rp.toList++cp.toList) w W->W.rangeAt gb ob ci/\W.rangeAt gb (ob+22) cj)(hV:∀ W,WrS W p m rp cp R C sf ts->Calls Tryz.prog 133 #[vP p 0,.agg Cn.toArray] W fun e w'=>e=.returned (vI lev)/\Below W.heap.size W w')(hT:∀ W ts',WrS W p m rp cp R C sf ts'->Kw p (rp.toList++cp.toList) w W->ts'.length<=ts.length->Calls Tryz.prog 134 #[vP p 0,.agg ci.toArray,vI lev] W fun e w'=>WrO p m rp cp R C sf (ts'++t1) W e w')(hU:∀ W ts',WrS W p m rp cp R C sf ts'->Kw p (rp.toList++cp.toList) w W->ts'.length<=ts.length+t1.length+1->Calls Tryz.prog 134 #[vP p 0,.agg cj.toArray,vI (lev+1)] W fun e w'=>WrO p m rp cp R C sf (ts'++t2) W e w') :
  Calls Tryz.prog 74 #[vP p 0,.agg Cn.toArray] w fun e w'=>WrO p m rp cp R C sf (ts++g) w e w':=by
 obtain⟨W0,ai,HK,HL,HC,HS,bg⟩:=dK hw af;obtain⟨y1,xp⟩:∃ x,x=tk 5 s:=⟨_,rfl⟩
 have C1:=zh (cB (p:=p) (m:=m) (rp:=rp) (cp:=cp) (R:=R) (C:=C) (sf:=sf) 5 s s.toArray rfl y1 xp);rw[<- xp]at hg;have HG:Hid (ts++g=ts++t1++[y1]++t2):=zh (by rw[hg];simp);have i6:Hid (ts.length+t1.length+t2.length+1<=700000):=zh (by rw[hg]at hn;simp at hn;omega);have CT:=zh hT;have CU:=zh hU;have CV:=zh hV;have jh:=zh hR;have HIk:=zh (dD ed);have HIj:=zh (dD hj22);rw[HG.out];subst hA u5q;clear xp hg hn hT hU hV HG hR ed hj22;clear hw af
 go_in
 go_upto_region 1 with fail
 rw[<- ai.out];clear ai;obtain⟨c0,-,-,-,-,-,-,c7,-,-,-,-,-,-,-,-,-,-,-,-,-,jp⟩:=HC.out _ HL.out
 go_wp2_with (first
  |(refine yr rfl 34 (.tmp 3) rfl w.heap.size 0 rfl Cn _ HL.out.rangeM Tryz.underlying34 rfl bg.out ?_)
  |((with_reducible refine(CV.out _ HS.out).mono ?_);rintro e wx ⟨rfl,hb⟩;replace HL:=zh (HL.out.next hb);replace HS:=zh (HS.out.next hb);replace HK:=zh (HK.out.trans (Kw.of_below hb));clear hb c0 c7 jp CV;obtain⟨c0,c7,jp⟩:=HC.out _ HL.out)
  |(refine yr rfl 34 (.tmp 21) rfl gb ob rfl ci _ (jh.out _ _ HS.out HK.out).1 Tryz.underlying34 rfl HIk.out ?_)
  |(refine yr rfl 34 (.tmp 32) rfl gb (ob+22) rfl cj _ (jh.out _ _ HS.out HK.out).2 Tryz.underlying34 rfl HIj.out ?_)
  |((first
  |((with_reducible refine(CT.out _ _ HS.out HK.out (by simp)).mono ?_);rintro e wx ⟨rfl,hs,hk⟩)
  |((with_reducible refine(C1.out _ _ HS.out (by have:=i6.out;(try simp only[yl,yi,List.length_nil]);omega)).mono ?_);rintro e wx ⟨rfl,hs,hk⟩)
  |((with_reducible refine(CU.out _ _ HS.out HK.out (by simp;omega)).mono ?_);rintro e wx ⟨rfl,hs,hk⟩));replace HL:=zh (Kw.lies hk HS.out HL.out (by decide) (by decide) (by decide));replace HS:=zh hs;replace HK:=zh (HK.out.trans hk);clear hs hk c0 c7 jp;obtain⟨c0,-,-,-,-,-,-,c7,-,-,-,-,-,-,-,-,-,-,-,-,-,jp⟩:=HC.out _ HL.out))
 go_end0
 exact⟨rfl,HS.out,HK.out⟩
abbrev iE(t:RTok):Value:=.agg #[vI t.kind,vT t.text,vI t.place]
theorem tC(row col:Nat)(fr fc:Bool)(w:World)(hp:PowTab w)(hr:row<=400)(hc:col<=400) :
  Calls Tryz.prog 34 #[.agg #[vI (row:Int),vI (col:Int),.bool fr,.bool fc],vI 0] w fun e w'=>e=.returned (iE (cY .plain row col fr fc))/\Below w.heap.size w w':=by
 have xc:(row:Int)<=400:=by omega
 have cv:(col:Int)<=400:=by omega
 obtain⟨W0,ak⟩:∃ W0,W0=(w.alloc (.cells #[vI (row:Int),vI (col:Int),.bool fr,.bool fc] 90)).alloc (.cells #[vI 0,vS #[],vI 0] 64):=⟨_,rfl⟩
 have ai:=zh ak;have ag:Hid (Below w.heap.size w W0):=zh (by rw[ak];exact((Below.refl _ w).alloc zr _).alloc (by rw[World.size_alloc];omega) _);have L0:Hid (Lies W0 w.heap.size 90 #[vI (row:Int),vI (col:Int),.bool fr,.bool fc]):=zh (by rw[ak];exact(Lies.new w _ _).alloc _);have L1:Hid (Lies W0 (w.heap.size+1) 64 #[vI 0,vS #[],vI 0]):=zh (by
  rw[ak];have h:=Lies.new (w.alloc (.cells #[vI (row:Int),vI (col:Int),.bool fr,.bool fc] 90)) 64 #[vI 0,vS #[],vI 0];rw[World.size_alloc]at h;exact h)
 have od:Hid (PowTab W0):=zh (hp.next ag.out);have ap:Hid (∀ W,Below W0.heap.size W0 W->W.cell? ⟨w.heap.size,0,none⟩=some (vI (row:Int))/\W.cell? ⟨w.heap.size,1,none⟩=some (vI (col:Int))/\W.cell? ⟨w.heap.size,2,none⟩=some (.bool fr)/\W.cell? ⟨w.heap.size,3,none⟩=some (.bool fc)/\W.cell? ⟨w.heap.size+1,0,none⟩=some (vI 0)/\W.cell? ⟨w.heap.size+1,1,none⟩=some (vS #[])/\W.cell? ⟨w.heap.size+1,2,none⟩=some (vI 0)/\W.frozen? ⟨w.heap.size+1,0,none⟩=false/\W.frozen? ⟨w.heap.size+1,1,none⟩=false/\W.frozen? ⟨w.heap.size+1,2,none⟩=false/\w.heap.size+1<W.heap.size/\Below W0.heap.size W0 W):=zh (fun W h=>⟨(L0.out.next h).cell 0,(L0.out.next h).cell 1,(L0.out.next h).cell 2,(L0.out.next h).cell 3,(L1.out.next h).cell 0,(L1.out.next h).cell 1,(L1.out.next h).cell 2,(L1.out.next h).frozen 0,(L1.out.next h).frozen 1,(L1.out.next h).frozen 2,(L1.out.next h).lt,h⟩)
 have CT:=zh (fun W (h:PowTab W)=>vX row col fr fc W h (by omega) (by omega));have vy:Hid (iE (cY .plain row col fr fc)=.agg #[vI 4,vT (iY row col fr fc),vI 0]):=zh rfl;generalize iY row col fr fc=M at *;obtain⟨tv,nr⟩:=zD (iE (cY .plain row col fr fc))
 have vz:=zh nr;rw[<- nr];clear ak hp nr L0 L1
 go_in
 go_upto_region 1 with fail
 rw[<- ai.out];clear ai;obtain⟨m0,m1,m2,m3,t0,t1,t2,f0,f1,f2,z0,dc⟩:=ap.out _ zB
 go_wp2_with ((with_reducible refine(CT.out _ od.out).mono ?_);rintro e wx ⟨rfl,hb⟩;have HB:=zh hb;clear m0 m1 m2 m3 t0 t1 t2 f0 f1 f2 z0 dc;obtain⟨m0,m1,m2,m3,t0,t1,t2,f0,f1,f2,z0,dc⟩:=ap.out _ hb;clear hb)
 all_goals (try clear m0 m1 m2 m3 t0 t1 t2 f0 f1 f2 z0 dc)
 all_goals obtain⟨m0,m1,m2,m3,t0,t1,t2,f0,f1,f2,z0,dc⟩:=ap.out _ HB.out
 all_goals refine yt (v:=.agg #[vI 4,vT (M),vI 0]) (by simp[results,Tryz.results34,go_sem,t0,t1,t2]) rfl ?_
 all_goals refine⟨by rw[vz.out,vy.out],?_⟩
 all_goals exact(((zU ag.out HB.out).setCell (p:=⟨_,_,none⟩) (Nat.le_succ _) _).setCell (p:=⟨_,_,none⟩) (Nat.le_succ _) _).setCell (p:=⟨_,_,none⟩) (Nat.le_succ _) _
theorem yY(row col:Nat)(fc:Bool)(w:World)(hp:PowTab w)(hr:row<=400)(hc:col<=400) :
  Calls Tryz.prog 34 #[.agg #[vI (row:Int),vI (col:Int),.bool true,.bool fc],vI 1] w fun e w'=>e=.returned (iE (dW .plain row true))/\Below w.heap.size w w':=by
 have xc:(row:Int)<=400:=by omega
 have cv:(col:Int)<=400:=by omega
 obtain⟨W0,ak⟩:∃ W0,W0=(w.alloc (.cells #[vI (row:Int),vI (col:Int),.bool true,.bool fc] 90)).alloc (.cells #[vI 0,vS #[],vI 0] 64):=⟨_,rfl⟩
 have ai:=zh ak;have ag:Hid (Below w.heap.size w W0):=zh (by rw[ak];exact((Below.refl _ w).alloc zr _).alloc (by rw[World.size_alloc];omega) _);have L0:Hid (Lies W0 w.heap.size 90 #[vI (row:Int),vI (col:Int),.bool true,.bool fc]):=zh (by rw[ak];exact(Lies.new w _ _).alloc _);have L1:Hid (Lies W0 (w.heap.size+1) 64 #[vI 0,vS #[],vI 0]):=zh (by
  rw[ak];have h:=Lies.new (w.alloc (.cells #[vI (row:Int),vI (col:Int),.bool true,.bool fc] 90)) 64 #[vI 0,vS #[],vI 0];rw[World.size_alloc]at h;exact h)
 have od:Hid (PowTab W0):=zh (hp.next ag.out);have ap:Hid (∀ W,Below W0.heap.size W0 W->W.cell? ⟨w.heap.size,0,none⟩=some (vI (row:Int))/\W.cell? ⟨w.heap.size,1,none⟩=some (vI (col:Int))/\W.cell? ⟨w.heap.size,2,none⟩=some (.bool true)/\W.cell? ⟨w.heap.size,3,none⟩=some (.bool fc)/\W.cell? ⟨w.heap.size+1,0,none⟩=some (vI 0)/\W.cell? ⟨w.heap.size+1,1,none⟩=some (vS #[])/\W.cell? ⟨w.heap.size+1,2,none⟩=some (vI 0)/\W.frozen? ⟨w.heap.size+1,0,none⟩=false/\W.frozen? ⟨w.heap.size+1,1,none⟩=false/\W.frozen? ⟨w.heap.size+1,2,none⟩=false/\w.heap.size+1<W.heap.size/\Below W0.heap.size W0 W):=zh (fun W h=>⟨(L0.out.next h).cell 0,(L0.out.next h).cell 1,(L0.out.next h).cell 2,(L0.out.next h).cell 3,(L1.out.next h).cell 0,(L1.out.next h).cell 1,(L1.out.next h).cell 2,(L1.out.next h).frozen 0,(L1.out.next h).frozen 1,(L1.out.next h).frozen 2,(L1.out.next h).lt,h⟩)
 have CI:Hid (∀ W,PowTab W->Calls Tryz.prog 75 #[vI ((row:Int)+1)] W fun e w'=>e=.returned (vT (Lib.decDigits (row+1)))/\Below W.heap.size W w'):=zh (fun W h=>rZ (row+1) W h (by omega));have CI:Hid (∀ W,PowTab W->Calls Tryz.prog 75 #[vI (IntKind.i64.wrap ((row:Int)+1))] W fun e w'=>e=.returned (vT (Lib.decDigits (row+1)))/\Below W.heap.size W w'):=zh (by rw[IntWalk.i64_in ((row:Int)+1) (by omega)];exact CI.out);have hln:(Lib.decDigits (row+1)).length<=4:=bW (row+1) 3 (by have:(10:Nat) ^ (3+1)=10000:=rfl;omega);have vy:Hid (iE (dW .plain row true)=.agg #[vI 4,vT (36::Lib.decDigits (row+1)),vI 0]):=zh rfl;generalize Lib.decDigits (row+1)=M at *;have k1:¬ 9223372036854775807<M.length+1:=by omega
 have k2:¬ 9223372036854775807<1+M.length:=by omega
 obtain⟨tv,nr⟩:=zD (iE (dW .plain row true))
 have vz:=zh nr;rw[<- nr];clear ak hp nr L0 L1
 go_in
 go_upto_region 1 with fail
 rw[<- ai.out];clear ai;obtain⟨m0,m1,m2,m3,t0,t1,t2,f0,f1,f2,z0,dc⟩:=ap.out _ zB;have xr:Hid (PowTab W0.drew):=od
 go_upto_region 5 with fail
 go_region_held3 (fun w'=>w'.cell? ⟨w.heap.size,0,none⟩=some (vI (row:Int))/\w'.cell? ⟨w.heap.size,1,none⟩=some (vI (col:Int))/\w'.cell? ⟨w.heap.size,2,none⟩=some (.bool true)/\w'.cell? ⟨w.heap.size,3,none⟩=some (.bool fc)/\w'.cell? ⟨w.heap.size+1,0,none⟩=some (vI 0)/\w'.cell? ⟨w.heap.size+1,1,none⟩=some (vS #[])/\w'.cell? ⟨w.heap.size+1,2,none⟩=some (vI 0)/\w'.frozen? ⟨w.heap.size+1,0,none⟩=false/\w'.frozen? ⟨w.heap.size+1,1,none⟩=false/\w'.frozen? ⟨w.heap.size+1,2,none⟩=false/\w.heap.size+1<w'.heap.size/\Below W0.heap.size W0 w')
  (first|exact ap.out _ dc|exact ap.out _ dc.drew |(go_split_ands;exact ap.out _ (Below.trans (by assumption) (Below.mono hb (Below.size (by assumption)))))|assumption)
  (first
   |(go_at_call 75;(with_reducible refine(CI.out _ xr.out).mono ?_);rintro e wx ⟨rfl,hb⟩;have HB:=zh (Below.trans (Below.refl _ W0).drew (Below.mono hb zr))))
 all_goals (try go_split_ands)
 all_goals go_wp2_with fail
 all_goals (try clear m0 m1 m2 m3 t0 t1 t2 f0 f1 f2 z0 dc)
 all_goals obtain⟨m0,m1,m2,m3,t0,t1,t2,f0,f1,f2,z0,dc⟩:=ap.out _ HB.out
 all_goals refine yt (v:=.agg #[vI 4,vT (36::M),vI 0]) (by simp[results,Tryz.results34,go_sem,t0,t1,t2]) rfl ?_
 all_goals refine⟨by rw[vz.out,vy.out],?_⟩
 all_goals exact(((zU ag.out HB.out).setCell (p:=⟨_,_,none⟩) (Nat.le_succ _) _).setCell (p:=⟨_,_,none⟩) (Nat.le_succ _) _).setCell (p:=⟨_,_,none⟩) (Nat.le_succ _) _
theorem yZ(row col:Nat)(fc:Bool)(w:World)(hp:PowTab w)(hr:row<=400)(hc:col<=400) :
  Calls Tryz.prog 34 #[.agg #[vI (row:Int),vI (col:Int),.bool false,.bool fc],vI 1] w fun e w'=>e=.returned (iE (dW .plain row false))/\Below w.heap.size w w':=by
 have xc:(row:Int)<=400:=by omega
 have cv:(col:Int)<=400:=by omega
 obtain⟨W0,ak⟩:∃ W0,W0=(w.alloc (.cells #[vI (row:Int),vI (col:Int),.bool false,.bool fc] 90)).alloc (.cells #[vI 0,vS #[],vI 0] 64):=⟨_,rfl⟩
 have ai:=zh ak;have ag:Hid (Below w.heap.size w W0):=zh (by rw[ak];exact((Below.refl _ w).alloc zr _).alloc (by rw[World.size_alloc];omega) _);have L0:Hid (Lies W0 w.heap.size 90 #[vI (row:Int),vI (col:Int),.bool false,.bool fc]):=zh (by rw[ak];exact(Lies.new w _ _).alloc _);have L1:Hid (Lies W0 (w.heap.size+1) 64 #[vI 0,vS #[],vI 0]):=zh (by
  rw[ak];have h:=Lies.new (w.alloc (.cells #[vI (row:Int),vI (col:Int),.bool false,.bool fc] 90)) 64 #[vI 0,vS #[],vI 0];rw[World.size_alloc]at h;exact h)
 have od:Hid (PowTab W0):=zh (hp.next ag.out);have ap:Hid (∀ W,Below W0.heap.size W0 W->W.cell? ⟨w.heap.size,0,none⟩=some (vI (row:Int))/\W.cell? ⟨w.heap.size,1,none⟩=some (vI (col:Int))/\W.cell? ⟨w.heap.size,2,none⟩=some (.bool false)/\W.cell? ⟨w.heap.size,3,none⟩=some (.bool fc)/\W.cell? ⟨w.heap.size+1,0,none⟩=some (vI 0)/\W.cell? ⟨w.heap.size+1,1,none⟩=some (vS #[])/\W.cell? ⟨w.heap.size+1,2,none⟩=some (vI 0)/\W.frozen? ⟨w.heap.size+1,0,none⟩=false/\W.frozen? ⟨w.heap.size+1,1,none⟩=false/\W.frozen? ⟨w.heap.size+1,2,none⟩=false/\w.heap.size+1<W.heap.size/\Below W0.heap.size W0 W):=zh (fun W h=>⟨(L0.out.next h).cell 0,(L0.out.next h).cell 1,(L0.out.next h).cell 2,(L0.out.next h).cell 3,(L1.out.next h).cell 0,(L1.out.next h).cell 1,(L1.out.next h).cell 2,(L1.out.next h).frozen 0,(L1.out.next h).frozen 1,(L1.out.next h).frozen 2,(L1.out.next h).lt,h⟩)
 have CI:Hid (∀ W,PowTab W->Calls Tryz.prog 75 #[vI ((row:Int)+1)] W fun e w'=>e=.returned (vT (Lib.decDigits (row+1)))/\Below W.heap.size W w'):=zh (fun W h=>rZ (row+1) W h (by omega));have CI:Hid (∀ W,PowTab W->Calls Tryz.prog 75 #[vI (IntKind.i64.wrap ((row:Int)+1))] W fun e w'=>e=.returned (vT (Lib.decDigits (row+1)))/\Below W.heap.size W w'):=zh (by rw[IntWalk.i64_in ((row:Int)+1) (by omega)];exact CI.out);have hln:(Lib.decDigits (row+1)).length<=4:=bW (row+1) 3 (by have:(10:Nat) ^ (3+1)=10000:=rfl;omega);have vy:Hid (iE (dW .plain row false)=.agg #[vI 1,vT (Lib.decDigits (row+1)),vI 0]):=zh rfl;generalize Lib.decDigits (row+1)=M at *;have k1:¬ 9223372036854775807<M.length+1:=by omega
 have k2:¬ 9223372036854775807<1+M.length:=by omega
 obtain⟨tv,nr⟩:=zD (iE (dW .plain row false))
 have vz:=zh nr;rw[<- nr];clear ak hp nr L0 L1
 go_in
 go_upto_region 1 with fail
 rw[<- ai.out];clear ai;obtain⟨m0,m1,m2,m3,t0,t1,t2,f0,f1,f2,z0,dc⟩:=ap.out _ zB;have xr:Hid (PowTab W0.drew):=od
 go_upto_region 5 with fail
 go_region_held3 (fun w'=>w'.cell? ⟨w.heap.size,0,none⟩=some (vI (row:Int))/\w'.cell? ⟨w.heap.size,1,none⟩=some (vI (col:Int))/\w'.cell? ⟨w.heap.size,2,none⟩=some (.bool false)/\w'.cell? ⟨w.heap.size,3,none⟩=some (.bool fc)/\w'.cell? ⟨w.heap.size+1,0,none⟩=some (vI 0)/\w'.cell? ⟨w.heap.size+1,1,none⟩=some (vS #[])/\w'.cell? ⟨w.heap.size+1,2,none⟩=some (vI 0)/\w'.frozen? ⟨w.heap.size+1,0,none⟩=false/\w'.frozen? ⟨w.heap.size+1,1,none⟩=false/\w'.frozen? ⟨w.heap.size+1,2,none⟩=false/\w.heap.size+1<w'.heap.size/\Below W0.heap.size W0 w')
  (first|exact ap.out _ dc|exact ap.out _ dc.drew |(go_split_ands;exact ap.out _ (Below.trans (by assumption) (Below.mono hb (Below.size (by assumption)))))|assumption)
  (first
   |(go_at_call 75;(with_reducible refine(CI.out _ xr.out).mono ?_);rintro e wx ⟨rfl,hb⟩;have HB:=zh (Below.trans (Below.refl _ W0).drew (Below.mono hb zr))))
 all_goals (try go_split_ands)
 all_goals go_wp2_with fail
 all_goals (try clear m0 m1 m2 m3 t0 t1 t2 f0 f1 f2 z0 dc)
 all_goals obtain⟨m0,m1,m2,m3,t0,t1,t2,f0,f1,f2,z0,dc⟩:=ap.out _ HB.out
 all_goals refine yt (v:=.agg #[vI 1,vT (M),vI 0]) (by simp[results,Tryz.results34,go_sem,t0,t1,t2]) rfl ?_
 all_goals refine⟨by rw[vz.out,vy.out],?_⟩
 all_goals exact(((zU ag.out HB.out).setCell (p:=⟨_,_,none⟩) (Nat.le_succ _) _).setCell (p:=⟨_,_,none⟩) (Nat.le_succ _) _).setCell (p:=⟨_,_,none⟩) (Nat.le_succ _) _
theorem yW(row col:Nat)(fr:Bool)(w:World)(hp:PowTab w)(hr:row<=400)(hc:col<=400) :
  Calls Tryz.prog 34 #[.agg #[vI (row:Int),vI (col:Int),.bool fr,.bool true],vI 2] w fun e w'=>e=.returned (iE (dV .plain col true))/\Below w.heap.size w w':=by
 have xc:(row:Int)<=400:=by omega
 have cv:(col:Int)<=400:=by omega
 obtain⟨W0,ak⟩:∃ W0,W0=(w.alloc (.cells #[vI (row:Int),vI (col:Int),.bool fr,.bool true] 90)).alloc (.cells #[vI 0,vS #[],vI 0] 64):=⟨_,rfl⟩
 have ai:=zh ak;have ag:Hid (Below w.heap.size w W0):=zh (by rw[ak];exact((Below.refl _ w).alloc zr _).alloc (by rw[World.size_alloc];omega) _);have L0:Hid (Lies W0 w.heap.size 90 #[vI (row:Int),vI (col:Int),.bool fr,.bool true]):=zh (by rw[ak];exact(Lies.new w _ _).alloc _);have L1:Hid (Lies W0 (w.heap.size+1) 64 #[vI 0,vS #[],vI 0]):=zh (by
  rw[ak];have h:=Lies.new (w.alloc (.cells #[vI (row:Int),vI (col:Int),.bool fr,.bool true] 90)) 64 #[vI 0,vS #[],vI 0];rw[World.size_alloc]at h;exact h)
 have od:Hid (PowTab W0):=zh (hp.next ag.out);have ap:Hid (∀ W,Below W0.heap.size W0 W->W.cell? ⟨w.heap.size,0,none⟩=some (vI (row:Int))/\W.cell? ⟨w.heap.size,1,none⟩=some (vI (col:Int))/\W.cell? ⟨w.heap.size,2,none⟩=some (.bool fr)/\W.cell? ⟨w.heap.size,3,none⟩=some (.bool true)/\W.cell? ⟨w.heap.size+1,0,none⟩=some (vI 0)/\W.cell? ⟨w.heap.size+1,1,none⟩=some (vS #[])/\W.cell? ⟨w.heap.size+1,2,none⟩=some (vI 0)/\W.frozen? ⟨w.heap.size+1,0,none⟩=false/\W.frozen? ⟨w.heap.size+1,1,none⟩=false/\W.frozen? ⟨w.heap.size+1,2,none⟩=false/\w.heap.size+1<W.heap.size/\Below W0.heap.size W0 W):=zh (fun W h=>⟨(L0.out.next h).cell 0,(L0.out.next h).cell 1,(L0.out.next h).cell 2,(L0.out.next h).cell 3,(L1.out.next h).cell 0,(L1.out.next h).cell 1,(L1.out.next h).cell 2,(L1.out.next h).frozen 0,(L1.out.next h).frozen 1,(L1.out.next h).frozen 2,(L1.out.next h).lt,h⟩)
 have CI:=zh (fun W=>kW col W (by omega));have hln:(dS (col+1)).length<=3:=fY (col+1) (by omega);have vy:Hid (iE (dV .plain col true)=.agg #[vI 4,vT (36::dS (col+1)),vI 0]):=zh rfl;generalize dS (col+1)=M at *;have k1:¬ 9223372036854775807<M.length+1:=by omega
 have k2:¬ 9223372036854775807<1+M.length:=by omega
 obtain⟨tv,nr⟩:=zD (iE (dV .plain col true))
 have vz:=zh nr;rw[<- nr];clear ak hp nr L0 L1
 go_in
 go_upto_region 1 with fail
 rw[<- ai.out];clear ai;obtain⟨m0,m1,m2,m3,t0,t1,t2,f0,f1,f2,z0,dc⟩:=ap.out _ zB;have xr:Hid (PowTab W0.drew):=od
 go_upto_region 7 with fail
 go_region_held3 (fun w'=>w'.cell? ⟨w.heap.size,0,none⟩=some (vI (row:Int))/\w'.cell? ⟨w.heap.size,1,none⟩=some (vI (col:Int))/\w'.cell? ⟨w.heap.size,2,none⟩=some (.bool fr)/\w'.cell? ⟨w.heap.size,3,none⟩=some (.bool true)/\w'.cell? ⟨w.heap.size+1,0,none⟩=some (vI 0)/\w'.cell? ⟨w.heap.size+1,1,none⟩=some (vS #[])/\w'.cell? ⟨w.heap.size+1,2,none⟩=some (vI 0)/\w'.frozen? ⟨w.heap.size+1,0,none⟩=false/\w'.frozen? ⟨w.heap.size+1,1,none⟩=false/\w'.frozen? ⟨w.heap.size+1,2,none⟩=false/\w.heap.size+1<w'.heap.size/\Below W0.heap.size W0 w')
  (first|exact ap.out _ dc|exact ap.out _ dc.drew |(go_split_ands;exact ap.out _ (Below.trans (by assumption) (Below.mono hb (Below.size (by assumption)))))|assumption)
  (first
   |(go_at_call 76;(with_reducible refine(CI.out _).mono ?_);rintro e wx ⟨rfl,hb⟩;have HB:=zh (Below.trans (Below.refl _ W0).drew (Below.mono hb zr))))
 all_goals (try go_split_ands)
 all_goals go_wp2_with fail
 all_goals (try clear m0 m1 m2 m3 t0 t1 t2 f0 f1 f2 z0 dc)
 all_goals obtain⟨m0,m1,m2,m3,t0,t1,t2,f0,f1,f2,z0,dc⟩:=ap.out _ HB.out
 all_goals refine yt (v:=.agg #[vI 4,vT (36::M),vI 0]) (by simp[results,Tryz.results34,go_sem,t0,t1,t2]) rfl ?_
 all_goals refine⟨by rw[vz.out,vy.out],?_⟩
 all_goals exact(((zU ag.out HB.out).setCell (p:=⟨_,_,none⟩) (Nat.le_succ _) _).setCell (p:=⟨_,_,none⟩) (Nat.le_succ _) _).setCell (p:=⟨_,_,none⟩) (Nat.le_succ _) _
theorem yX(row col:Nat)(fr:Bool)(w:World)(hp:PowTab w)(hr:row<=400)(hc:col<=400) :
  Calls Tryz.prog 34 #[.agg #[vI (row:Int),vI (col:Int),.bool fr,.bool false],vI 2] w fun e w'=>e=.returned (iE (dV .plain col false))/\Below w.heap.size w w':=by
 have xc:(row:Int)<=400:=by omega
 have cv:(col:Int)<=400:=by omega
 obtain⟨W0,ak⟩:∃ W0,W0=(w.alloc (.cells #[vI (row:Int),vI (col:Int),.bool fr,.bool false] 90)).alloc (.cells #[vI 0,vS #[],vI 0] 64):=⟨_,rfl⟩
 have ai:=zh ak;have ag:Hid (Below w.heap.size w W0):=zh (by rw[ak];exact((Below.refl _ w).alloc zr _).alloc (by rw[World.size_alloc];omega) _);have L0:Hid (Lies W0 w.heap.size 90 #[vI (row:Int),vI (col:Int),.bool fr,.bool false]):=zh (by rw[ak];exact(Lies.new w _ _).alloc _);have L1:Hid (Lies W0 (w.heap.size+1) 64 #[vI 0,vS #[],vI 0]):=zh (by
  rw[ak];have h:=Lies.new (w.alloc (.cells #[vI (row:Int),vI (col:Int),.bool fr,.bool false] 90)) 64 #[vI 0,vS #[],vI 0];rw[World.size_alloc]at h;exact h)
 have od:Hid (PowTab W0):=zh (hp.next ag.out);have ap:Hid (∀ W,Below W0.heap.size W0 W->W.cell? ⟨w.heap.size,0,none⟩=some (vI (row:Int))/\W.cell? ⟨w.heap.size,1,none⟩=some (vI (col:Int))/\W.cell? ⟨w.heap.size,2,none⟩=some (.bool fr)/\W.cell? ⟨w.heap.size,3,none⟩=some (.bool false)/\W.cell? ⟨w.heap.size+1,0,none⟩=some (vI 0)/\W.cell? ⟨w.heap.size+1,1,none⟩=some (vS #[])/\W.cell? ⟨w.heap.size+1,2,none⟩=some (vI 0)/\W.frozen? ⟨w.heap.size+1,0,none⟩=false/\W.frozen? ⟨w.heap.size+1,1,none⟩=false/\W.frozen? ⟨w.heap.size+1,2,none⟩=false/\w.heap.size+1<W.heap.size/\Below W0.heap.size W0 W):=zh (fun W h=>⟨(L0.out.next h).cell 0,(L0.out.next h).cell 1,(L0.out.next h).cell 2,(L0.out.next h).cell 3,(L1.out.next h).cell 0,(L1.out.next h).cell 1,(L1.out.next h).cell 2,(L1.out.next h).frozen 0,(L1.out.next h).frozen 1,(L1.out.next h).frozen 2,(L1.out.next h).lt,h⟩)
 have CI:=zh (fun W=>kW col W (by omega));have hln:(dS (col+1)).length<=3:=fY (col+1) (by omega);have vy:Hid (iE (dV .plain col false)=.agg #[vI 3,vT (dS (col+1)),vI 0]):=zh rfl;generalize dS (col+1)=M at *;have k1:¬ 9223372036854775807<M.length+1:=by omega
 have k2:¬ 9223372036854775807<1+M.length:=by omega
 obtain⟨tv,nr⟩:=zD (iE (dV .plain col false))
 have vz:=zh nr;rw[<- nr];clear ak hp nr L0 L1
 go_in
 go_upto_region 1 with fail
 rw[<- ai.out];clear ai;obtain⟨m0,m1,m2,m3,t0,t1,t2,f0,f1,f2,z0,dc⟩:=ap.out _ zB;have xr:Hid (PowTab W0.drew):=od
 go_upto_region 7 with fail
 go_region_held3 (fun w'=>w'.cell? ⟨w.heap.size,0,none⟩=some (vI (row:Int))/\w'.cell? ⟨w.heap.size,1,none⟩=some (vI (col:Int))/\w'.cell? ⟨w.heap.size,2,none⟩=some (.bool fr)/\w'.cell? ⟨w.heap.size,3,none⟩=some (.bool false)/\w'.cell? ⟨w.heap.size+1,0,none⟩=some (vI 0)/\w'.cell? ⟨w.heap.size+1,1,none⟩=some (vS #[])/\w'.cell? ⟨w.heap.size+1,2,none⟩=some (vI 0)/\w'.frozen? ⟨w.heap.size+1,0,none⟩=false/\w'.frozen? ⟨w.heap.size+1,1,none⟩=false/\w'.frozen? ⟨w.heap.size+1,2,none⟩=false/\w.heap.size+1<w'.heap.size/\Below W0.heap.size W0 w')
  (first|exact ap.out _ dc|exact ap.out _ dc.drew |(go_split_ands;exact ap.out _ (Below.trans (by assumption) (Below.mono hb (Below.size (by assumption)))))|assumption)
  (first
   |(go_at_call 76;(with_reducible refine(CI.out _).mono ?_);rintro e wx ⟨rfl,hb⟩;have HB:=zh (Below.trans (Below.refl _ W0).drew (Below.mono hb zr))))
 all_goals (try go_split_ands)
 all_goals go_wp2_with fail
 all_goals (try clear m0 m1 m2 m3 t0 t1 t2 f0 f1 f2 z0 dc)
 all_goals obtain⟨m0,m1,m2,m3,t0,t1,t2,f0,f1,f2,z0,dc⟩:=ap.out _ HB.out
 all_goals refine yt (v:=.agg #[vI 3,vT (M),vI 0]) (by simp[results,Tryz.results34,go_sem,t0,t1,t2]) rfl ?_
 all_goals refine⟨by rw[vz.out,vy.out],?_⟩
 all_goals exact(((zU ag.out HB.out).setCell (p:=⟨_,_,none⟩) (Nat.le_succ _) _).setCell (p:=⟨_,_,none⟩) (Nat.le_succ _) _).setCell (p:=⟨_,_,none⟩) (Nat.le_succ _) _
end Go.Proofs.YtjfihpaeglpblaaGreatDoor
