/-
  Lemmas, part 25: Wr6 Wr7 Wr8.
-/
import Derived.Test.YtjfihpaeglpblaaGreatDoorRf22
import Derived.Test.YtjfihpaeglpblaaGreatDoorRf24
set_option maxHeartbeats 100000000
set_option maxRecDepth 1000000
namespace Go.Proofs.YtjfihpaeglpblaaGreatDoor
open Go.RowKit
theorem uEM{W W':World}(h:Kp [] W W'):Below W.heap.size W W':=h.below (fun k hk=>by cases hk) zr
theorem oY(y:List RTok):∀ (xs:List (List RTok)),bX (xs++[y])=if xs=[] then y else bX xs++([tk 5 [44]]++y)
 | []=>by simp[bX]
 | [a]=>by simp[bX]
 |a::b::r=>by
  have ih:=oY y (b::r);rw[if_neg (by simp)]at ih;rw[if_neg (by simp)];show a++tk 5 [44]::bX (b::(r++[y]))=_;rw[show b::(r++[y])=(b::r)++[y] from rfl,ih];simp[bX]
theorem uFY{p m:Nat}{rp cp:Option Nat}{R C:AxV}{sf:Value}{ts:List RTok}(A:Option Addr)(ca:Nat)(TS:List (List RTok))(w:World)(hw:WrS w p m rp cp R C sf ts)
  (hK:∀ k (hk:k<TS.length),∃ g o ci,A=some ⟨g,o,none⟩/\(ci:List Value).length=22/\ci.toArray.all (·.oneCell')=true/\∀ W ts',WrS W p m rp cp R C sf ts'->Kw p (rp.toList++cp.toList) w W->W.rangeAt g (o+k*22) ci/\(ts'.length<=ts.length+(bX (TS.take k)).length+1->Calls Tryz.prog 74 #[vP p 0,.agg ci.toArray] W fun e w'=>WrO p m rp cp R C sf (ts'++TS[k]) W e w'))
  (hn:TS.length<=100000) (hl:∀ k,ts.length+(bX (TS.take k)).length<=700000) :
  Calls Tryz.prog 136 #[vP p 0,.slice A TS.length ca] w fun e w'=>WrO p m rp cp R C sf (ts++bX TS) w e w':=by
 obtain⟨tc,pd⟩:∃ x,x=tk 5 [44]:=⟨_,rfl⟩
 have CP:=zh (bQ (p:=p) (m:=m) (rp:=rp) (cp:=cp) (R:=R) (C:=C) (sf:=sf) 5 [44] #[44] rfl tc pd);have lk:Hid (∀ k (hk:k<TS.length),bX (TS.take (k+1))=if k=0 then TS[k] else bX (TS.take k)++([tc]++TS[k])):=zh (fun k hk=>by
  rw[yw hk,oY,pd];by_cases h0:k=0
  ·subst h0;simp
  rw[if_neg h0,if_neg (by
   intro h;rcases List.take_eq_nil_iff.1 h with h|h
   ·exact h0 h
   rw[h]at hk;exact absurd hk (Nat.not_lt_zero _))])
 have HKs:=zh hK;have HLl:=zh hl;have pf:Hid (WrS w p m rp cp R C sf (ts++bX (TS.take 0))):=zh (by rw[List.take_zero];simpa [bX] using hw);have HTn:Hid (TS.take TS.length=TS):=zh (List.take_length);obtain⟨n,fi⟩:=zD TS.length
 have HN:=zh fi;rw[<- fi]at hn ⊢;clear hw hK hl pd fi
 go_in
 go_wp2_with fail
 go_loopw [8] (fun v8 wr=>∃ k:Nat,k<=n/\v8=vI (k:Int)/\Hid (WrS wr p m rp cp R C sf (ts++bX (TS.take k)))/\Hid (Kw p (rp.toList++cp.toList) w wr)) (fun v8 _=>n-(intOf v8).toNat)
 case atStart=>exact⟨0,zm _,rfl,pf,zh (Kw.refl _ _ _)⟩
 case round=>
  obtain⟨k,hk,rfl,HS,HK⟩:=hrel;have rg:(k:Int)<=100000:=by omega
  clear pf;by_cases hlt:k<n
  ·have ip:(k:Int)<(n:Int):=by omega
   have fw:k<TS.length:=by rw[<- HN.out];exact hlt
   have HE:=zh (lk.out k fw);obtain⟨g,o,ci,rfl,dw,hone,dy⟩:=HKs.out k fw;have bj:=zh (cN dw);have HInz:Hid ((Tryz.prog.info? 34).map (·.size)=some ci.toArray.size):=zh (by rw[yd,dw];exact bO)
   have HOne:=zh hone;have gy:=zh (dy wr _ HS.out HK.out).1;have CN:=zh (fun W ts' h1 h2=>(dy W ts' h1 h2).2);have bu:=zh (HLl.out k);have HBz:Hid (Below wr.heap.size wr (World.setCells (wr.alloc (.cells bT.toArray 34)) wr.heap.size 0 ci)):=zh (uEM (mM (.inr zr) ci 0 ((Kp.refl _ _).alloc _)));have HZ:Hid (Lies (World.setCells (wr.alloc (.cells bT.toArray 34)) wr.heap.size 0 ci) wr.heap.size 34 ci.toArray):=zh ((Lies.new wr 34 bT.toArray).putAll (by rw[dw];rfl));have HT:Hid (World.there (wr.alloc (.cells bT.toArray 34)) wr.heap.size 0 ci.toArray.size):=zh (by have h:=(Lies.new wr 34 bT.toArray).thereA;have h0:ci.toArray.size=22:=(by rw[yd,dw]);rw[h0];exact h);simp only[bT]at HBz HZ;obtain⟨q,hq⟩:=zD wr.heap.size
   have HQ:=zh hq;obtain⟨tt,htt⟩:∃ t,TS[k]=t:=⟨_,rfl⟩
   rw[htt]at HE CN;clear dy hone dw HKs lk HTn htt hq;by_cases oq:k=0
   ·have hk0i:(k:Int)<=0:=by omega
    have HE2:Hid (ts++bX (TS.take (k+1))=(ts++bX (TS.take k))++tt):=zh (by rw[HE.out,if_pos oq,oq];simp[bX]);clear HE oq
    go_wp2_with (first
     |(refine yr rfl 34 (.tmp 11) rfl g (o+k*22) rfl ci _ gy.out Tryz.underlying34 rfl bj.out ?_)
     |(refine yq rfl 34 (.tmp 5) (.tmp 12) rfl wr.heap.size 0 ci.toArray rfl rfl HT.out HInz.out HOne.out ?_;change wpList _ _ _ _ _ (World.setCells _ wr.heap.size 0 ci);generalize World.setCells _ _ _ _=wz at HBz HZ ⊢;have lj:=zh (HS.out.next HBz.out);have fj:=zh (HK.out.trans (Kw.of_below HBz.out)))
     |(refine yr rfl 34 (.tmp 5) rfl wr.heap.size 0 rfl ci _ HZ.out.rangeM Tryz.underlying34 rfl bj.out ?_)
     |((with_reducible refine(CN.out _ _ lj.out fj.out (by simp only[yl];omega)).mono ?_);rintro e wx ⟨rfl,hs,ft⟩;have ou:=zh hs;have m9:=zh (fj.out.trans ft);clear hs ft))
    go_roundw
    case rel=>exact⟨k+1,by omega,by go_num,zh (by rw[HE2.out];exact ou.out),m9⟩
    case measure=>first |(simp[intOf];done) |(simp[intOf];omega)
   have hk0i:(0:Int)<(k:Int):=by omega
   have HE2:Hid (ts++bX (TS.take (k+1))=(ts++bX (TS.take k))++[tc]++tt):=zh (by rw[HE.out,if_neg oq];simp);clear HE oq
   go_wp2_with (first
    |(refine yr rfl 34 (.tmp 11) rfl g (o+k*22) rfl ci _ gy.out Tryz.underlying34 rfl bj.out ?_)
    |(refine yq rfl 34 (.tmp 5) (.tmp 12) rfl wr.heap.size 0 ci.toArray rfl rfl HT.out HInz.out HOne.out ?_;change wpList _ _ _ _ _ (World.setCells _ wr.heap.size 0 ci);generalize World.setCells _ _ _ _=wz at HBz HZ ⊢;have lj:=zh (HS.out.next HBz.out);have fj:=zh (HK.out.trans (Kw.of_below HBz.out)))
    |((with_reducible refine(CP.out _ _ lj.out (by have:=bu.out;rw[yl];omega)).mono ?_);rintro e wx ⟨rfl,hs,ft⟩;have uk:=zh (Kw.lies ft lj.out HZ.out (by decide) (by decide) (by decide));have jl:=zh hs;have fv:=zh (fj.out.trans ft);clear hs ft)
    |(refine yr rfl 34 (.tmp 5) rfl wr.heap.size 0 rfl ci _ uk.out.rangeM Tryz.underlying34 rfl bj.out ?_)
    |((with_reducible refine(CN.out _ _ jl.out fv.out (by simp only[yl,yi,List.length_nil];omega)).mono ?_);rintro e wx ⟨rfl,hs,ft⟩;have ou:=zh hs;have m9:=zh (fv.out.trans ft);clear hs ft))
   go_roundw
   case rel=>exact⟨k+1,by omega,by go_num,zh (by rw[HE2.out];exact ou.out),m9⟩
   case measure=>first |(simp[intOf];done) |(simp[intOf];omega)
  obtain rfl:k=n:=by omega
  go_wp2_with fail
  go_end0
  have h1:TS.take k=TS:=by rw[HN.out];exact HTn.out
  rw[h1]at HS;exact⟨rfl,HS.out,HK.out⟩
theorem pN{g o N c a b:Nat}(h1:a<b)(h2:b<=N)(h3:N<=c):∀ W,(Instr.slice 32 (.slice (some ⟨g,o,none⟩) N c) (some (vI (a:Int))) (some (vI (b:Int))) none).run Tryz.prog W=.ok (.slice (some ⟨g,o+a*22,none⟩) (b-a) (c-a)) W:=fun W=>by
 have ah:Tryz.prog.underlying 32=some (.slice (Tryz.prog.elem 32)):=by kernel_rfl
 have ve:∀ W,(sizeOf (Tryz.prog.elem 32)).run Tryz.prog W=.ok 22 W:=fun W=>by kernel_rfl
 rw[run_slice_lh W 32 (some ⟨g,o,none⟩) N c ah .i64 .i64 a b (by omega) (by omega) (by omega),ve];have hc:¬ c=a:=by omega
 simp[Result.andThen,sliced,hc,wI]
theorem tE{g o N c a b:Nat}(h1:a<b)(h2:b<=N)(h3:N<=c):∀ W,(Instr.sliceAt 32 (.slice (some ⟨g,o,none⟩) N c) (some (vI (a:Int))) (some (vI (b:Int))) none).run Tryz.prog W=.ok (.slice (some ⟨g,o+a*22,none⟩) (b-a) (c-a)) W:=fun W=>by
 have ah:Tryz.prog.underlying 32=some (.slice (Tryz.prog.elem 32)):=by kernel_rfl
 rw[run_sliceAt_slice W 32 _ _ _ _ ah];exact pN h1 h2 h3 W
theorem yG{p m:Nat}{rp cp:Option Nat}{R C:AxV}{sf:Value}{ts:List RTok}(h:NodeH)(g o ca r cw:Nat)(Cn:List Value)(TS:List (List RTok))(w:World)(ai:Hid (Cn.toArray=aH h (some ⟨g,o,none⟩) (r*cw) ca))(qi:h.rows=(r:Int))(h1:1<=r)(h2:1<=cw)(hc:r*cw<=ca)(hcm:r*cw<=100000)(hw:WrS w p m rp cp R C sf ts)
  (hL:∀ i,i<r->∀ W ts',WrS W p m rp cp R C sf ts'->Kw p (rp.toList++cp.toList) w W->ts'.length<=ts.length+(dI cw TS i).length+1->Calls Tryz.prog 136 #[vP p 0,.slice (some ⟨g,o+i*cw*22,none⟩) cw (ca-i*cw)] W fun e w'=>WrO p m rp cp R C sf (ts'++bX ((TS.drop (i*cw)).take cw)) W e w')
  (hl:∀ i,i<=r->ts.length+(dI cw TS i).length<=700000) :
  Calls Tryz.prog 137 #[vP p 0,.agg Cn.toArray] w fun e w'=>WrO p m rp cp R C sf (ts++(dI cw TS r++[tk 5 [125]])) w e w':=by
 obtain⟨W0,aj⟩:=zD (w.alloc (.cells Cn.toArray 34))
 have ak:=zh aj;have aq:=zA aj;have HK:Hid (Kw p (rp.toList++cp.toList) w W0):=zh (Kw.of_below aq.out);have HL:=zL aj;obtain⟨N,hN⟩:=zD (r*cw)
 have HN:=zh hN;rw[<- hN]at ai;have HC:Hid (∀ W,Lies W w.heap.size 34 Cn.toArray->W.cell? ⟨w.heap.size,20,none⟩=some (vI (r:Int))/\W.cell? ⟨w.heap.size,21,none⟩=some (.slice (some ⟨g,o,none⟩) N ca)):=zh (fun W hl=>by
  have e20:=hl.cell 20;have e21:=hl.cell 21;rw[ai.out]at e20 e21;rw[<- qi];exact⟨e20,e21⟩)
 have HS:Hid (WrS W0 p m rp cp R C sf (ts++dI cw TS 0)):=zh (by rw[dI,List.append_nil];exact hw.next aq.out);have CL:=zh hL;have HLl:=zh hl;obtain⟨x,hx⟩:=zD (tk 5 [123])
 obtain⟨y,hy⟩:∃ x,x=tk 5 [59]:=⟨_,rfl⟩
 obtain⟨z,hz⟩:∃ x,x=tk 5 [125]:=⟨_,rfl⟩
 have CX:=zh (bQ (p:=p) (m:=m) (rp:=rp) (cp:=cp) (R:=R) (C:=C) (sf:=sf) 5 [123] #[123] rfl x hx);have CY:=zh (bQ (p:=p) (m:=m) (rp:=rp) (cp:=cp) (R:=R) (C:=C) (sf:=sf) 5 [59] #[59] rfl y hy);have CZ:=zh (bQ (p:=p) (m:=m) (rp:=rp) (cp:=cp) (R:=R) (C:=C) (sf:=sf) 5 [125] #[125] rfl z hz);have lk:Hid (∀ i,dI cw TS (i+1)=dI cw TS i++(if i=0 then x else y)::bX ((TS.drop (i*cw)).take cw)):=zh (fun i=>by
  rw[hx,hy,dI];by_cases h0:i=0
  ·rw[if_pos h0,if_pos h0]
  rw[if_neg h0,if_neg h0])
 rw[<- hz];have hcwN:cw<=N:=by rw[hN];exact Nat.le_mul_of_pos_left cw h1
 have hrN:r<=N:=by rw[hN];exact Nat.le_mul_of_pos_right r h2
 have hNb:N<=100000:=by rw[hN];exact hcm
 have hNc:N<=ca:=by rw[hN];exact hc
 have hq:(N:Int).tdiv (r:Int)=(cw:Int):=by
  rw[hN,Int.natCast_mul];exact Int.mul_tdiv_cancel_left (cw:Int) (by omega)
 have kn:((r:Int)==0)=false:=by rw[beq_eq_false_iff_ne];omega
 have HR:=zh (And.intro h1 (And.intro h2 (And.intro hcwN (And.intro hrN (And.intro hNb hNc)))));have hri:(r:Int)<=100000:=by omega
 have hcwi:(cw:Int)<=100000:=by omega
 have i7:(1:Int)<=(r:Int):=by omega
 have HHC:=zh ai.out;clear aj hw hL hl hx hy hz hN ai qi h1 h2 hc hcm hcwN hrN hNb hNc aq
 go_in
 go_upto_region 1 with fail
 rw[<- ak.out];clear ak;obtain⟨xc,jm⟩:=HC.out _ HL.out
 go_wp2_with fail
 clear xc jm hq kn
 go_loopw [14] (fun v14 wr=>∃ i:Nat,i<=r/\v14=vI (i:Int)/\Hid (WrS wr p m rp cp R C sf (ts++dI cw TS i))/\Hid (Kw p (rp.toList++cp.toList) w wr)/\Hid (Lies wr w.heap.size 34 Cn.toArray)) (fun v14 _=>r-(intOf v14).toNat)
 case atStart=>exact⟨0,zm _,rfl,HS,HK,HL⟩
 case round=>
  clear HS HK HL;obtain⟨i,hi,rfl,HS,HK,HL⟩:=hrel;by_cases hlt:i<r
  ·have hlti:(i:Int)<(r:Int):=by omega
   obtain⟨q1,q2,q3,q4,q5,q6⟩:=HR.out;have ab:i*cw+cw<=N:=by
    have:=Nat.mul_le_mul_right cw (by omega:i+1<=r);rw[Nat.succ_mul,<- HN.out]at this;exact this
   obtain⟨a,ha⟩:=zD (i*cw)
   rw[<- ha]at ab;obtain⟨b,hb⟩:=zD (a+cw)
   have hw1:IntKind.i64.wrap ((i:Int)*(cw:Int))=(a:Int):=by
    rw[ha,<- Int.natCast_mul];exact IntWalk.i64_in _ (by rw[<- ha];omega)
   have hw2:IntKind.i64.wrap (((i:Int)+1)*(cw:Int))=(b:Int):=by
    rw[show ((i:Int)+1)*(cw:Int)=((b:Nat):Int) by rw[hb,ha,Int.add_mul];simp];exact IntWalk.i64_in _ (by omega)
   have fe:=pN (g:=g) (o:=o) (N:=N) (c:=ca) (a:=a) (b:=b) (by omega) (by omega) q6;have iz:=tE (g:=g) (o:=o) (N:=N) (c:=ca) (a:=a) (b:=b) (by omega) (by omega) q6;have CN:=zh (CL.out i hlt);rw[<- ha]at CN;rw[show b-a=cw by omega]at fe iz;have bu:=zh (HLl.out i (by omega));have HE0:=lk.out i;rw[<- ha]at HE0;have HE1:=zh HE0;generalize bX ((TS.drop a).take cw)=tt at *;obtain⟨xc,jm⟩:=HC.out _ HL.out;clear q1 q2 q3 q4 q5 q6 ab ha hb HE0;by_cases zw:i=0
   ·have hi0i:((i:Int)==0)=true:=by rw[zw];rfl
    have HE2:Hid (ts++dI cw TS (i+1)=(ts++dI cw TS i)++[x]++tt):=zh (by rw[HE1.out,if_pos zw];simp);clear zw HE1
    go_wp2_with (first
     |((with_reducible refine(CX.out _ _ HS.out (by have:=bu.out;rw[yl];omega)).mono ?_);rintro e wx ⟨rfl,hs,hk⟩;have o6:=zh (Kw.lies hk HS.out HL.out (by decide) (by decide) (by decide));have jl:=zh hs;have fv:=zh (HK.out.trans hk);clear hs hk xc jm;obtain⟨xc,jm⟩:=HC.out _ o6.out)
     |((with_reducible refine(CN.out _ _ jl.out fv.out (by simp only[yl,yi,List.length_nil];omega)).mono ?_);rintro e wx ⟨rfl,hs,hk⟩;have di:=zh (Kw.lies hk jl.out o6.out (by decide) (by decide) (by decide));have lx:=zh hs;have kw:=zh (fv.out.trans hk);clear hs hk))
    go_roundw
    case rel=>exact⟨i+1,by omega,by go_num,zh (by rw[HE2.out];exact lx.out),kw,di⟩
    case measure=>first |(simp[intOf];done) |(simp[intOf];omega)
   have hi0i:((i:Int)==0)=false:=by rw[beq_eq_false_iff_ne];omega
   have HE2:Hid (ts++dI cw TS (i+1)=(ts++dI cw TS i)++[y]++tt):=zh (by rw[HE1.out,if_neg zw];simp);clear zw HE1
   go_wp2_with (first
    |((with_reducible refine(CY.out _ _ HS.out (by have:=bu.out;rw[yl];omega)).mono ?_);rintro e wx ⟨rfl,hs,hk⟩;have o6:=zh (Kw.lies hk HS.out HL.out (by decide) (by decide) (by decide));have jl:=zh hs;have fv:=zh (HK.out.trans hk);clear hs hk xc jm;obtain⟨xc,jm⟩:=HC.out _ o6.out)
    |((with_reducible refine(CN.out _ _ jl.out fv.out (by simp only[yl,yi,List.length_nil];omega)).mono ?_);rintro e wx ⟨rfl,hs,hk⟩;have di:=zh (Kw.lies hk jl.out o6.out (by decide) (by decide) (by decide));have lx:=zh hs;have kw:=zh (fv.out.trans hk);clear hs hk))
   go_roundw
   case rel=>exact⟨i+1,by omega,by go_num,zh (by rw[HE2.out];exact lx.out),kw,di⟩
   case measure=>first |(simp[intOf];done) |(simp[intOf];omega)
  obtain rfl:i=r:=by omega
  have bu:=zh (HLl.out i (by omega))
  go_wp2_with ((with_reducible refine(CZ.out _ _ HS.out (by have:=bu.out;rw[yl];omega)).mono ?_);rintro e wx ⟨rfl,hs,hk⟩;have jl:=zh hs;have fv:=zh (HK.out.trans hk);clear hs hk)
  go_end0
  exact⟨rfl,by rw[<- List.append_assoc];exact jl.out,fv.out⟩
theorem cW{p m:Nat}{rp cp:Option Nat}{R C:AxV}{sf:Value}{ts:List RTok}{k:Int}{vv:Val}{s:Bs}{a b:Cor}{r:Int}{A:Option Addr}{n ca:Nat}{Cn:List Value}{w:World}(hw:WrS w p m rp cp R C sf ts)(ai:Hid (Cn.toArray=aH ⟨k,vv,s,a,b,r⟩ A n ca)):∃ W0,Hid (W0=w.alloc (.cells Cn.toArray 34))/\Hid (Kw p (rp.toList++cp.toList) w W0)/\Hid (Lies W0 w.heap.size 34 Cn.toArray)/\Hid (∀ W,Lies W w.heap.size 34 Cn.toArray->NdC W w.heap.size k vv s a b r A n ca)/\Hid (WrS W0 p m rp cp R C sf ts)/\Hid ((Tryz.prog.info? 34).map (·.size)=some Cn.length):=by
 obtain⟨W0,aj⟩:=zD (w.alloc (.cells Cn.toArray 34))
 have aq:Below w.heap.size w W0:=by rw[aj];exact(Below.refl _ w).alloc zr _
 exact⟨W0,zh aj,zh (Kw.of_below aq),zh (by rw[aj];exact Lies.new w _ _),zh (fun W hl=>uAM hl ai.out),zh (hw.next aq),zh (cN (jI ai.out))⟩
theorem uGA{p m:Nat}{rp cp:Option Nat}{R C:AxV}{sf:Value}{ts:List RTok}(vv:Val)(s:Bs)(a b:Cor)(r:Int)(A:Option Addr)(n ca:Nat)(Cn:List Value)(g:List RTok)(w:World)(ai:Hid (Cn.toArray=aH ⟨0,vv,s,a,b,r⟩ A n ca))(hw:WrS w p m rp cp R C sf ts)(hT:∀ W,WrS W p m rp cp R C sf ts->Calls Tryz.prog 132 #[vP p 0,.agg #[vI vv.kind,vI vv.mant,vI vv.exp,vT vv.text,.bool vv.truth,vI vv.fault]] W fun e w'=>WrO p m rp cp R C sf (ts++g) W e w') :
  Calls Tryz.prog 74 #[vP p 0,.agg Cn.toArray] w fun e w'=>WrO p m rp cp R C sf (ts++g) w e w':=by
 obtain⟨W0,ak,HK,HL,HC,HS,bj⟩:=cW hw ai;have CT:=zh hT;clear hT;clear hw ai
 go_in
 go_upto_region 1 with fail
 rw[<- ak.out];clear ak;obtain⟨c0,c1,c2,c3,c4,c5,c6,-⟩:=HC.out _ HL.out
 go_wp2_with (first
  |((first
  |((with_reducible refine(CT.out _ HS.out).mono ?_);rintro e wx ⟨rfl,hs,hk⟩));replace HL:=zh (Kw.lies hk HS.out HL.out (by decide) (by decide) (by decide));replace HS:=zh hs;replace HK:=zh (HK.out.trans hk);clear hs hk c0 c1 c2 c3 c4 c5 c6;obtain⟨c0,c1,c2,c3,c4,c5,c6,-⟩:=HC.out _ HL.out))
 go_end0
 exact⟨rfl,HS.out,HK.out⟩
theorem uCH{p m:Nat}{rp cp:Option Nat}{R C:AxV}{sf:Value}{ts:List RTok}(vv:Val)(s:Bs)(a b:Cor)(r:Int)(A:Option Addr)(n ca:Nat)(Cn:List Value)(g:List RTok)(w:World)(ai:Hid (Cn.toArray=aH ⟨7,vv,s,a,b,r⟩ A n ca))(hw:WrS w p m rp cp R C sf ts)(hg:g=[tk 3 s])(hn:ts.length<=700000) :
  Calls Tryz.prog 74 #[vP p 0,.agg Cn.toArray] w fun e w'=>WrO p m rp cp R C sf (ts++g) w e w':=by
 obtain⟨W0,ak,HK,HL,HC,HS,bj⟩:=cW hw ai;obtain⟨t1,na⟩:∃ x,x=tk 3 s:=⟨_,rfl⟩
 have C1:=zh (bQ (p:=p) (m:=m) (rp:=rp) (cp:=cp) (R:=R) (C:=C) (sf:=sf) 3 s s.toArray rfl t1 na);rw[<- na]at hg;subst hg;have gx:=zh hn;clear na hn;clear hw ai
 go_in
 go_upto_region 1 with fail
 rw[<- ak.out];clear ak;obtain⟨c0,-,-,-,-,-,-,c7,-⟩:=HC.out _ HL.out
 go_wp2_with (first
  |((first
  |((with_reducible refine(C1.out _ _ HS.out (by have:=gx.out;(try simp only[yl,yi,List.length_nil]);omega)).mono ?_);rintro e wx ⟨rfl,hs,hk⟩));replace HL:=zh (Kw.lies hk HS.out HL.out (by decide) (by decide) (by decide));replace HS:=zh hs;replace HK:=zh (HK.out.trans hk);clear hs hk c0 c7;obtain⟨c0,-,-,-,-,-,-,c7,-⟩:=HC.out _ HL.out))
 go_end0
 exact⟨rfl,HS.out,HK.out⟩
theorem uGB{p m:Nat}{rp cp:Option Nat}{R C:AxV}{sf:Value}{ts:List RTok}(vv:Val)(s:Bs)(a b:Cor)(r:Int)(A:Option Addr)(n ca:Nat)(Cn:List Value)(g:List RTok)(w:World)(ai:Hid (Cn.toArray=aH ⟨8,vv,s,a,b,r⟩ A n ca))(hw:WrS w p m rp cp R C sf ts)(hT:∀ W,WrS W p m rp cp R C sf ts->Kw p (rp.toList++cp.toList) w W->Calls Tryz.prog 137 #[vP p 0,.agg Cn.toArray] W fun e w'=>WrO p m rp cp R C sf (ts++g) W e w') :
  Calls Tryz.prog 74 #[vP p 0,.agg Cn.toArray] w fun e w'=>WrO p m rp cp R C sf (ts++g) w e w':=by
 obtain⟨W0,ak,HK,HL,HC,HS,bj⟩:=cW hw ai;have CT:=zh hT;clear hT;clear hw ai
 go_in
 go_upto_region 1 with fail
 rw[<- ak.out];clear ak;obtain⟨c0,-⟩:=HC.out _ HL.out
 go_wp2_with (first
  |(refine yr rfl 34 (.tmp 3) rfl w.heap.size 0 rfl Cn _ HL.out.rangeM Tryz.underlying34 rfl bj.out ?_)
  |((first
  |((with_reducible refine(CT.out _ HS.out HK.out).mono ?_);rintro e wx ⟨rfl,hs,hk⟩));replace HL:=zh (Kw.lies hk HS.out HL.out (by decide) (by decide) (by decide));replace HS:=zh hs;replace HK:=zh (HK.out.trans hk);clear hs hk c0;obtain⟨c0,-⟩:=HC.out _ HL.out))
 go_end0
 exact⟨rfl,HS.out,HK.out⟩
theorem uGC{p m:Nat}{rp cp:Option Nat}{R C:AxV}{sf:Value}{ts:List RTok}(vv:Val)(s:Bs)(a b:Cor)(r:Int)(A:Option Addr)(n ca:Nat)(Cn:List Value)(g:List RTok)(w:World)(ai:Hid (Cn.toArray=aH ⟨1,vv,s,a,b,r⟩ A n ca))(hw:WrS w p m rp cp R C sf ts)(hT:∀ W,WrS W p m rp cp R C sf ts->Kw p (rp.toList++cp.toList) w W->Calls Tryz.prog 138 #[vP p 0,.agg Cn.toArray] W fun e w'=>WrO p m rp cp R C sf (ts++g) W e w') :
  Calls Tryz.prog 74 #[vP p 0,.agg Cn.toArray] w fun e w'=>WrO p m rp cp R C sf (ts++g) w e w':=by
 obtain⟨W0,ak,HK,HL,HC,HS,bj⟩:=cW hw ai;have CT:=zh hT;clear hT;clear hw ai
 go_in
 go_upto_region 1 with fail
 rw[<- ak.out];clear ak;obtain⟨c0,-⟩:=HC.out _ HL.out
 go_wp2_with (first
  |(refine yr rfl 34 (.tmp 3) rfl w.heap.size 0 rfl Cn _ HL.out.rangeM Tryz.underlying34 rfl bj.out ?_)
  |((first
  |((with_reducible refine(CT.out _ HS.out HK.out).mono ?_);rintro e wx ⟨rfl,hs,hk⟩));replace HL:=zh (Kw.lies hk HS.out HL.out (by decide) (by decide) (by decide));replace HS:=zh hs;replace HK:=zh (HK.out.trans hk);clear hs hk c0;obtain⟨c0,-⟩:=HC.out _ HL.out))
 go_end0
 exact⟨rfl,HS.out,HK.out⟩
theorem yI{p m:Nat}{rp cp:Option Nat}{R C:AxV}{sf:Value}{ts:List RTok}(vv:Val)(s:Bs)(a b:Cor)(r:Int)(A:Option Addr)(n ca:Nat)(Cn:List Value)(g:List RTok)(w:World)(ai:Hid (Cn.toArray=aH ⟨3,vv,s,a,b,r⟩ A n ca))(hw:WrS w p m rp cp R C sf ts)(hT:∀ W,WrS W p m rp cp R C sf ts->Kw p (rp.toList++cp.toList) w W->Calls Tryz.prog 138 #[vP p 0,.agg Cn.toArray] W fun e w'=>WrO p m rp cp R C sf (ts++g) W e w') :
  Calls Tryz.prog 74 #[vP p 0,.agg Cn.toArray] w fun e w'=>WrO p m rp cp R C sf (ts++g) w e w':=by
 obtain⟨W0,ak,HK,HL,HC,HS,bj⟩:=cW hw ai;have CT:=zh hT;clear hT;clear hw ai
 go_in
 go_upto_region 1 with fail
 rw[<- ak.out];clear ak;obtain⟨c0,-⟩:=HC.out _ HL.out
 go_wp2_with (first
  |(refine yr rfl 34 (.tmp 3) rfl w.heap.size 0 rfl Cn _ HL.out.rangeM Tryz.underlying34 rfl bj.out ?_)
  |((first
  |((with_reducible refine(CT.out _ HS.out HK.out).mono ?_);rintro e wx ⟨rfl,hs,hk⟩));replace HL:=zh (Kw.lies hk HS.out HL.out (by decide) (by decide) (by decide));replace HS:=zh hs;replace HK:=zh (HK.out.trans hk);clear hs hk c0;obtain⟨c0,-⟩:=HC.out _ HL.out))
 go_end0
 exact⟨rfl,HS.out,HK.out⟩
theorem uCF{p m:Nat}{rp cp:Option Nat}{R C:AxV}{sf:Value}{ts:List RTok}(vv:Val)(s:Bs)(a b:Cor)(r:Int)(A:Option Addr)(n ca:Nat)(Cn:List Value)(g:List RTok)(w:World)(ai:Hid (Cn.toArray=aH ⟨2,vv,s,a,b,r⟩ A n ca))(hw:WrS w p m rp cp R C sf ts)(hT:∀ W,WrS W p m rp cp R C sf ts->Kw p (rp.toList++cp.toList) w W->Calls Tryz.prog 139 #[vP p 0,.agg #[vI a.row.a,vI a.row.n,vI a.col.a,vI a.col.n,.bool a.fr,.bool a.fc,vI b.row.a,vI b.row.n,vI b.col.a,vI b.col.n,.bool b.fr,.bool b.fc]] W fun e w'=>WrO p m rp cp R C sf (ts++g) W e w') :
  Calls Tryz.prog 74 #[vP p 0,.agg Cn.toArray] w fun e w'=>WrO p m rp cp R C sf (ts++g) w e w':=by
 obtain⟨W0,ak,HK,HL,HC,HS,bj⟩:=cW hw ai;have CT:=zh hT;clear hT;clear hw ai
 go_in
 go_upto_region 1 with fail
 rw[<- ak.out];clear ak;obtain⟨c0,-,-,-,-,-,-,-,c8,c9,c10,c11,c12,c13,c14,c15,c16,c17,c18,c19,-⟩:=HC.out _ HL.out
 go_wp2_with (first
  |((first
  |((with_reducible refine(CT.out _ HS.out HK.out).mono ?_);rintro e wx ⟨rfl,hs,hk⟩));replace HL:=zh (Kw.lies hk HS.out HL.out (by decide) (by decide) (by decide));replace HS:=zh hs;replace HK:=zh (HK.out.trans hk);clear hs hk c0 c8 c9 c10 c11 c12 c13 c14 c15 c16 c17 c18 c19;obtain⟨c0,-,-,-,-,-,-,-,c8,c9,c10,c11,c12,c13,c14,c15,c16,c17,c18,c19,-⟩:=HC.out _ HL.out))
 go_end0
 exact⟨rfl,HS.out,HK.out⟩
theorem uCI{p m:Nat}{rp cp:Option Nat}{R C:AxV}{sf:Value}{ts:List RTok}(vv:Val)(s:Bs)(a b:Cor)(r:Int)(A:Option Addr)(n ca:Nat)(Cn:List Value)(g:List RTok)(w:World)(ai:Hid (Cn.toArray=aH ⟨9,vv,s,a,b,r⟩ A n ca))(hw:WrS w p m rp cp R C sf ts)(hg:g=[]) :
  Calls Tryz.prog 74 #[vP p 0,.agg Cn.toArray] w fun e w'=>WrO p m rp cp R C sf (ts++g) w e w':=by
 obtain⟨W0,ak,HK,HL,HC,HS,bj⟩:=cW hw ai;have HG:=zh hg;clear hg;clear hw ai
 go_in
 go_upto_region 1 with fail
 rw[<- ak.out];clear ak;obtain⟨c0,-⟩:=HC.out _ HL.out
 go_wp2_with fail
 go_end0
 exact⟨rfl,by rw[HG.out,List.append_nil];exact HS.out,HK.out⟩
theorem uCG{p m:Nat}{rp cp:Option Nat}{R C:AxV}{sf:Value}{ts:List RTok}(vv:Val)(s:Bs)(a b:Cor)(r:Int)(A:Option Addr)(n ca:Nat)(Cn:List Value)(g:List RTok)(w:World)(ai:Hid (Cn.toArray=aH ⟨4,vv,s,a,b,r⟩ A n ca))(hw:WrS w p m rp cp R C sf ts)(lt:List RTok)(hg:g=[tk 3 s,tk 5 [40]]++lt++[tk 5 [41]])(hn:ts.length+g.length<=700000)(hT:∀ W ts',WrS W p m rp cp R C sf ts'->Kw p (rp.toList++cp.toList) w W->ts'.length<=ts.length+2->Calls Tryz.prog 136 #[vP p 0,.slice A n ca] W fun e w'=>WrO p m rp cp R C sf (ts'++lt) W e w') :
  Calls Tryz.prog 74 #[vP p 0,.agg Cn.toArray] w fun e w'=>WrO p m rp cp R C sf (ts++g) w e w':=by
 obtain⟨W0,ak,HK,HL,HC,HS,bj⟩:=cW hw ai;obtain⟨t1,na⟩:∃ x,x=tk 3 s:=⟨_,rfl⟩
 have C1:=zh (bQ (p:=p) (m:=m) (rp:=rp) (cp:=cp) (R:=R) (C:=C) (sf:=sf) 3 s s.toArray rfl t1 na);obtain⟨t2,r9⟩:∃ x,x=tk 5 [40]:=⟨_,rfl⟩
 have C2:=zh (bQ (p:=p) (m:=m) (rp:=rp) (cp:=cp) (R:=R) (C:=C) (sf:=sf) 5 [40] #[40] rfl t2 r9);obtain⟨t3,ht3⟩:∃ x,x=tk 5 [41]:=⟨_,rfl⟩
 have C3:=zh (bQ (p:=p) (m:=m) (rp:=rp) (cp:=cp) (R:=R) (C:=C) (sf:=sf) 5 [41] #[41] rfl t3 ht3);rw[<- na,<- r9,<- ht3]at hg;have HG:Hid (ts++g=ts++[t1]++[t2]++lt++[t3]):=zh (by rw[hg];simp);have gx:Hid (ts.length+lt.length+3<=700000):=zh (by rw[hg]at hn;simp at hn;omega);have CT:=zh hT;rw[HG.out];clear na r9 ht3 hg hn hT HG;clear hw ai
 go_in
 go_upto_region 1 with fail
 rw[<- ak.out];clear ak;obtain⟨c0,-,-,-,-,-,-,c7,-,-,-,-,-,-,-,-,-,-,-,-,-,jm⟩:=HC.out _ HL.out
 go_wp2_with (first
  |((first
  |((with_reducible refine(C1.out _ _ HS.out (by have:=gx.out;(try simp only[yl,yi,List.length_nil]);omega)).mono ?_);rintro e wx ⟨rfl,hs,hk⟩)
  |((with_reducible refine(C2.out _ _ HS.out (by have:=gx.out;(try simp only[yl,yi,List.length_nil]);omega)).mono ?_);rintro e wx ⟨rfl,hs,hk⟩)
  |((with_reducible refine(CT.out _ _ HS.out HK.out (by simp)).mono ?_);rintro e wx ⟨rfl,hs,hk⟩)
  |((with_reducible refine(C3.out _ _ HS.out (by have:=gx.out;(try simp only[yl,yi,List.length_nil]);omega)).mono ?_);rintro e wx ⟨rfl,hs,hk⟩));replace HL:=zh (Kw.lies hk HS.out HL.out (by decide) (by decide) (by decide));replace HS:=zh hs;replace HK:=zh (HK.out.trans hk);clear hs hk c0 c7 jm;obtain⟨c0,-,-,-,-,-,-,c7,-,-,-,-,-,-,-,-,-,-,-,-,-,jm⟩:=HC.out _ HL.out))
 go_end0
 exact⟨rfl,HS.out,HK.out⟩
theorem yH{p m:Nat}{rp cp:Option Nat}{R C:AxV}{sf:Value}{ts:List RTok}(vv:Val)(s:Bs)(a b:Cor)(r:Int)(A:Option Addr)(n ca:Nat)(Cn:List Value)(g:List RTok)(w:World)(ai:Hid (Cn.toArray=aH ⟨5,vv,s,a,b,r⟩ A n ca))(hw:WrS w p m rp cp R C sf ts)(gb ob:Nat)(ci:List Value)(dw:ci.length=22)(hA:A=some ⟨gb,ob,none⟩)(hs5:s=[37])(bg:n=1)(tw:List RTok)(hg:g=tw++[tk 5 [37]])(hn:ts.length+g.length<=700000)(hR:∀ W ts',WrS W p m rp cp R C sf ts'->Kw p (rp.toList++cp.toList) w W->W.rangeAt gb ob ci)(hT:∀ W ts',WrS W p m rp cp R C sf ts'->Kw p (rp.toList++cp.toList) w W->ts'.length<=ts.length->Calls Tryz.prog 134 #[vP p 0,.agg ci.toArray,vI 7] W fun e w'=>WrO p m rp cp R C sf (ts'++tw) W e w') :
  Calls Tryz.prog 74 #[vP p 0,.agg Cn.toArray] w fun e w'=>WrO p m rp cp R C sf (ts++g) w e w':=by
 obtain⟨W0,ak,HK,HL,HC,HS,bj⟩:=cW hw ai;obtain⟨t1,na⟩:∃ x,x=tk 5 [37]:=⟨_,rfl⟩
 have C1:=zh (bQ (p:=p) (m:=m) (rp:=rp) (cp:=cp) (R:=R) (C:=C) (sf:=sf) 5 [37] #[37] rfl t1 na);rw[<- na]at hg;have HG:Hid (ts++g=ts++tw++[t1]):=zh (by rw[hg];simp);have gx:Hid (ts.length+tw.length+1<=700000):=zh (by rw[hg]at hn;simp at hn;omega);have CT:=zh hT;have gy:=zh hR;have HIk:=zh (cN dw);rw[HG.out];subst hA bg hs5;clear na hg hn hT HG hR dw;clear hw ai
 go_in
 go_upto_region 1 with fail
 rw[<- ak.out];clear ak;obtain⟨c0,-,-,-,-,-,-,c7,-,-,-,-,-,-,-,-,-,-,-,-,-,jm⟩:=HC.out _ HL.out
 go_wp2_with (first
  |(refine yr rfl 34 (.tmp 45) rfl gb ob rfl ci _ (gy.out _ _ HS.out HK.out) Tryz.underlying34 rfl HIk.out ?_)
  |((first
  |((with_reducible refine(CT.out _ _ HS.out HK.out (by simp)).mono ?_);rintro e wx ⟨rfl,hs,hk⟩)
  |((with_reducible refine(C1.out _ _ HS.out (by have:=gx.out;(try simp only[yl,yi,List.length_nil]);omega)).mono ?_);rintro e wx ⟨rfl,hs,hk⟩));replace HL:=zh (Kw.lies hk HS.out HL.out (by decide) (by decide) (by decide));replace HS:=zh hs;replace HK:=zh (HK.out.trans hk);clear hs hk c0 c7 jm;obtain⟨c0,-,-,-,-,-,-,c7,-,-,-,-,-,-,-,-,-,-,-,-,-,jm⟩:=HC.out _ HL.out))
 go_end0
 exact⟨rfl,HS.out,HK.out⟩
theorem uCJ{p m:Nat}{rp cp:Option Nat}{R C:AxV}{sf:Value}{ts:List RTok}(vv:Val)(s:Bs)(a b:Cor)(r:Int)(A:Option Addr)(n ca:Nat)(Cn:List Value)(g:List RTok)(w:World)(ai:Hid (Cn.toArray=aH ⟨5,vv,s,a,b,r⟩ A n ca))(hw:WrS w p m rp cp R C sf ts)(gb ob:Nat)(ci:List Value)(dw:ci.length=22)(hA:A=some ⟨gb,ob,none⟩)(hs5:(s==[37])=false)(bg:n=1)(tw:List RTok)(hg:g=tk 5 s::tw)(hn:ts.length+g.length<=700000)(hR:∀ W ts',WrS W p m rp cp R C sf ts'->Kw p (rp.toList++cp.toList) w W->W.rangeAt gb ob ci)(hT:∀ W ts',WrS W p m rp cp R C sf ts'->Kw p (rp.toList++cp.toList) w W->ts'.length<=ts.length+1->Calls Tryz.prog 134 #[vP p 0,.agg ci.toArray,vI 6] W fun e w'=>WrO p m rp cp R C sf (ts'++tw) W e w') :
  Calls Tryz.prog 74 #[vP p 0,.agg Cn.toArray] w fun e w'=>WrO p m rp cp R C sf (ts++g) w e w':=by
 obtain⟨W0,ak,HK,HL,HC,HS,bj⟩:=cW hw ai;obtain⟨t1,na⟩:∃ x,x=tk 5 s:=⟨_,rfl⟩
 have C1:=zh (bQ (p:=p) (m:=m) (rp:=rp) (cp:=cp) (R:=R) (C:=C) (sf:=sf) 5 s s.toArray rfl t1 na);rw[<- na]at hg;have HG:Hid (ts++g=ts++[t1]++tw):=zh (by rw[hg];simp);have gx:Hid (ts.length+tw.length+1<=700000):=zh (by rw[hg]at hn;simp at hn;omega);have CT:=zh hT;have gy:=zh hR;have HIk:=zh (cN dw);rw[HG.out];subst hA bg;clear na hg hn hT HG hR dw;clear hw ai
 go_in
 go_upto_region 1 with fail
 rw[<- ak.out];clear ak;obtain⟨c0,-,-,-,-,-,-,c7,-,-,-,-,-,-,-,-,-,-,-,-,-,jm⟩:=HC.out _ HL.out
 go_wp2_with (first
  |(refine yr rfl 34 (.tmp 59) rfl gb ob rfl ci _ (gy.out _ _ HS.out HK.out) Tryz.underlying34 rfl HIk.out ?_)
  |((first
  |((with_reducible refine(C1.out _ _ HS.out (by have:=gx.out;(try simp only[yl,yi,List.length_nil]);omega)).mono ?_);rintro e wx ⟨rfl,hs,hk⟩)
  |((with_reducible refine(CT.out _ _ HS.out HK.out (by simp)).mono ?_);rintro e wx ⟨rfl,hs,hk⟩));replace HL:=zh (Kw.lies hk HS.out HL.out (by decide) (by decide) (by decide));replace HS:=zh hs;replace HK:=zh (HK.out.trans hk);clear hs hk c0 c7 jm;obtain⟨c0,-,-,-,-,-,-,c7,-,-,-,-,-,-,-,-,-,-,-,-,-,jm⟩:=HC.out _ HL.out))
 go_end0
 exact⟨rfl,HS.out,HK.out⟩
theorem uGD{p m:Nat}{rp cp:Option Nat}{R C:AxV}{sf:Value}{ts:List RTok}(vv:Val)(s:Bs)(a b:Cor)(r:Int)(A:Option Addr)(n ca:Nat)(Cn:List Value)(g:List RTok)(w:World)(ai:Hid (Cn.toArray=aH ⟨6,vv,s,a,b,r⟩ A n ca))(hw:WrS w p m rp cp R C sf ts)(gb ob:Nat)(ci:List Value)(dw:ci.length=22)(hA:A=some ⟨gb,ob,none⟩)(cj:List Value)(hj22:cj.length=22)(lev:Int)(hl1:0<=lev)(hl2:lev<=8)(hn2:n=2)(t1 t2:List RTok)(hg:g=t1++tk 5 s::t2)(hn:ts.length+g.length<=700000)(hR:∀ W ts',WrS W p m rp cp R C sf ts'->Kw p (rp.toList++cp.toList) w W->W.rangeAt gb ob ci/\W.rangeAt gb (ob+22) cj)(hV:∀ W,WrS W p m rp cp R C sf ts->Calls Tryz.prog 133 #[vP p 0,.agg Cn.toArray] W fun e w'=>e=.returned (vI lev)/\Below W.heap.size W w')(hT:∀ W ts',WrS W p m rp cp R C sf ts'->Kw p (rp.toList++cp.toList) w W->ts'.length<=ts.length->Calls Tryz.prog 134 #[vP p 0,.agg ci.toArray,vI lev] W fun e w'=>WrO p m rp cp R C sf (ts'++t1) W e w')(hU:∀ W ts',WrS W p m rp cp R C sf ts'->Kw p (rp.toList++cp.toList) w W->ts'.length<=ts.length+t1.length+1->Calls Tryz.prog 134 #[vP p 0,.agg cj.toArray,vI (lev+1)] W fun e w'=>WrO p m rp cp R C sf (ts'++t2) W e w') :
  Calls Tryz.prog 74 #[vP p 0,.agg Cn.toArray] w fun e w'=>WrO p m rp cp R C sf (ts++g) w e w':=by
 obtain⟨W0,ak,HK,HL,HC,HS,bj⟩:=cW hw ai;obtain⟨y1,xe⟩:∃ x,x=tk 5 s:=⟨_,rfl⟩
 have C1:=zh (bQ (p:=p) (m:=m) (rp:=rp) (cp:=cp) (R:=R) (C:=C) (sf:=sf) 5 s s.toArray rfl y1 xe);rw[<- xe]at hg;have HG:Hid (ts++g=ts++t1++[y1]++t2):=zh (by rw[hg];simp);have gx:Hid (ts.length+t1.length+t2.length+1<=700000):=zh (by rw[hg]at hn;simp at hn;omega);have CT:=zh hT;have CU:=zh hU;have CV:=zh hV;have gy:=zh hR;have HIk:=zh (cN dw);have HIj:=zh (cN hj22);rw[HG.out];subst hA hn2;clear xe hg hn hT hU hV HG hR dw hj22;clear hw ai
 go_in
 go_upto_region 1 with fail
 rw[<- ak.out];clear ak;obtain⟨c0,-,-,-,-,-,-,c7,-,-,-,-,-,-,-,-,-,-,-,-,-,jm⟩:=HC.out _ HL.out
 go_wp2_with (first
  |(refine yr rfl 34 (.tmp 3) rfl w.heap.size 0 rfl Cn _ HL.out.rangeM Tryz.underlying34 rfl bj.out ?_)
  |((with_reducible refine(CV.out _ HS.out).mono ?_);rintro e wx ⟨rfl,hb⟩;replace HL:=zh (HL.out.next hb);replace HS:=zh (HS.out.next hb);replace HK:=zh (HK.out.trans (Kw.of_below hb));clear hb c0 c7 jm CV;obtain⟨c0,c7,jm⟩:=HC.out _ HL.out)
  |(refine yr rfl 34 (.tmp 21) rfl gb ob rfl ci _ (gy.out _ _ HS.out HK.out).1 Tryz.underlying34 rfl HIk.out ?_)
  |(refine yr rfl 34 (.tmp 32) rfl gb (ob+22) rfl cj _ (gy.out _ _ HS.out HK.out).2 Tryz.underlying34 rfl HIj.out ?_)
  |((first
  |((with_reducible refine(CT.out _ _ HS.out HK.out (by simp)).mono ?_);rintro e wx ⟨rfl,hs,hk⟩)
  |((with_reducible refine(C1.out _ _ HS.out (by have:=gx.out;(try simp only[yl,yi,List.length_nil]);omega)).mono ?_);rintro e wx ⟨rfl,hs,hk⟩)
  |((with_reducible refine(CU.out _ _ HS.out HK.out (by simp;omega)).mono ?_);rintro e wx ⟨rfl,hs,hk⟩));replace HL:=zh (Kw.lies hk HS.out HL.out (by decide) (by decide) (by decide));replace HS:=zh hs;replace HK:=zh (HK.out.trans hk);clear hs hk c0 c7 jm;obtain⟨c0,-,-,-,-,-,-,c7,-,-,-,-,-,-,-,-,-,-,-,-,-,jm⟩:=HC.out _ HL.out))
 go_end0
 exact⟨rfl,HS.out,HK.out⟩
end Go.Proofs.YtjfihpaeglpblaaGreatDoor
