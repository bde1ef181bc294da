/-
  Lemmas, part 26: RrF RrG RrH RrI RrJ RrK RrL.
-/
import Derived.Test.YtjfihpaeglpblaaGreatDoorRv20
import Derived.Test.YtjfihpaeglpblaaGreatDoorRv21
set_option maxHeartbeats 100000000
set_option maxRecDepth 1000000
namespace Go.Proofs.YtjfihpaeglpblaaGreatDoor
open Go.RowKit
theorem sL(y:List RTok):∀ (xs:List (List RTok)),bG (xs++[y])=if xs=[] then y else bG xs++([tk 5 [44]]++y)
 | []=>by simp[bG]
 | [a]=>by simp[bG]
 |a::b::r=>by
  have ih:=sL y (b::r);rw[if_neg (by simp)]at ih;rw[if_neg (by simp)];show a++tk 5 [44]::bG (b::(r++[y]))=_;rw[show b::(r++[y])=(b::r)++[y] from rfl,ih];simp[bG]
theorem uGA(P Q:Option Addr)(v:Say)(A:Option Addr)(cp:Nat)(TS:List (List RTok))(w:World)
  (hK:∀ k (hk:k<TS.length),∃ g o ci,A=some ⟨g,o,none⟩/\(ci:List Value).length=22/\∀ W,Below w.heap.size w W->W.rangeAt g (o+k*22) ci/\Calls Tryz.prog 36 #[.agg #[.pointer P,.pointer Q,vI v.r,vI v.c],.agg ci.toArray] W fun e w'=>TkO W w' e TS[k])
  (hn:TS.length<=100000) (hl:∀ k,(bG (TS.take k)).length<=400000) (se:∀ k (hk:k<TS.length),(TS[k]).length<=400000) :
  Calls Tryz.prog 84 #[.agg #[.pointer P,.pointer Q,vI v.r,vI v.c],.slice A TS.length cp,vS #[44]] w fun e w'=>TkO w w' e (bG TS):=by
 obtain⟨W0,ak⟩:=zD (w.alloc (.cells #[.pointer P,.pointer Q,vI v.r,vI v.c] 84))
 have aj:=zh ak;have af:=zA ak;have L0:Hid (Lies W0 w.heap.size 84 #[.pointer P,.pointer Q,vI v.r,vI v.c]):=zh (by rw[ak];exact Lies.new w _ _);obtain⟨ts,pz⟩:∃ t,t=tk 5 [44]:=⟨_,rfl⟩
 have CS:Hid (∀ W,Calls Tryz.prog 82 #[vI 5,vS #[44]] W fun x w'=>TkO W w' x [ts]):=zh (fun W=>by rw[pz];exact aS 5 [44] W);have ue:Hid (∀ k (hk:k<TS.length),bG (TS.take (k+1))=if k=0 then TS[k] else bG (TS.take k)++([ts]++TS[k])):=zh (fun k hk=>by
  rw[yw hk,sL,pz];by_cases h0:k=0
  ·subst h0;simp
  rw[if_neg h0,if_neg (by
   intro h;rcases List.take_eq_nil_iff.1 h with h|h
   ·exact h0 h
   rw[h]at hk;exact absurd hk (Nat.not_lt_zero _))])
 have HK:Hid (∀ k (hk:k<TS.length),∃ g o ci,A=some ⟨g,o,none⟩/\(ci:List Value).length=22/\∀ W,Below W0.heap.size W0 W->W.rangeAt g (o+k*22) ci/\Calls Tryz.prog 36 #[.agg #[.pointer P,.pointer Q,vI v.r,vI v.c],.agg ci.toArray] W fun e w'=>TkO W w' e TS[k]):=zh (fun k hk=>by
  obtain⟨g,o,ci,h1,h2,h3⟩:=hK k hk;exact⟨g,o,ci,h1,h2,fun W h=>h3 W (zU af.out h)⟩)
 have HLl:=zh hl;have gu:=zh se;have om:Hid (TS.take 0=[]):=zh rfl;have HTn:Hid (TS.take TS.length=TS):=zh (List.take_length);obtain⟨n,dx⟩:=zD TS.length
 have HN:=zh dx;rw[<- dx]at hn ⊢;clear ak hK hl se pz dx
 go_in
 go_upto_region 1 with fail
 rw[<- aj.out];clear aj
 go_wp2_with fail
 go_loopw [7,8] (fun v7 v8 wr=>∃ k:Nat,k<=n/\v8=vI (k:Int)/\Hid (wr.ownsRow W0.heap.size 85 3 v7 (bG (TS.take k)).length (cN (bG (TS.take k))))/\Hid (Below W0.heap.size W0 wr)) (fun _ v8 _=>n-(intOf v8).toNat)
 case atStart=>exact⟨0,zm _,rfl,zh (by rw[om.out];exact⟨rfl,.inl ⟨rfl,rfl⟩⟩),zh zB⟩
 case round=>
  obtain⟨k,hk,rfl,hO,hB⟩:=hrel;have si:(k:Int)<=100000:=by omega
  by_cases hlt:k<n
  ·have ix:(k:Int)<(n:Int):=by omega
   have eh:k<TS.length:=by rw[<- HN.out];exact hlt
   have HS:=zh (ue.out k eh);obtain⟨g,o,ci,rfl,ei,da⟩:=HK.out k eh;have zi:(Tryz.prog.info? 34).map (·.size)=some ci.length:=by rw[ei];exact bZ
   have bg:=zh zi;have pq:=zh da;have cr:=zh (HLl.out k);have nj:=zh (gu.out k eh);obtain⟨tk',htk'⟩:∃ t,TS[k]=t:=⟨_,rfl⟩
   rw[htk']at HS pq nj;have CT:Hid (∀ W,Below W0.heap.size W0 W->Calls Tryz.prog 36 #[.agg #[.pointer P,.pointer Q,vI v.r,vI v.c],.agg ci.toArray] W fun e w'=>TkO W w' e tk'):=zh (fun W h=>(pq.out W h).2);have ap:Hid (∀ W,Below W0.heap.size W0 W->W.rangeAt w.heap.size 0 [.pointer P,.pointer Q,vI v.r,vI v.c]/\W.rangeAt g (o+k*22) ci/\Below W0.heap.size W0 W):=zh (fun W h=>⟨Lies.rangeN (C:=[.pointer P,.pointer Q,vI v.r,vI v.c]) (L0.out.next h),(pq.out W h).1,h⟩);have lp:Hid (k=0->bG (TS.take k)=[]):=zh (fun h=>by rw[h];rfl);generalize jy:bG (TS.take k)=acc at *;clear da htk' ei jy zi;obtain⟨A1,ly,rfl⟩:=aV hO.out
   go_upto_if 16 with fail
   go_cut [7] (fun v7 wx=>∃ A ac c,v7=.slice A ac.length c/\Hid (wx.ownsRow W0.heap.size 85 3 (.slice A ac.length c) ac.length (cN ac))/\Hid (Below W0.heap.size W0 wx)/\Hid (bG (TS.take (k+1))=ac++tk')/\Hid (ac.length<=400001))
   case first=>
    clear ap CT;by_cases gy:k=0
    ·have uf:(k:Int)<=0:=by omega
     have HQ:Hid (bG (TS.take (k+1))=acc++tk'):=zh (by rw[HS.out,if_pos gy,lp.out gy,List.nil_append]);clear gy
     go_wp2_with fail
     go_meet
     exact⟨A1,acc,ly,rfl,hO,hB,HQ,zh (by have:=cr.out;omega)⟩
    have uf:(0:Int)<(k:Int):=by omega
    have HQ:Hid (bG (TS.take (k+1))=(acc++[ts])++tk'):=zh (by rw[HS.out,if_neg gy,List.append_assoc]);clear gy
    go_wp2_with (first
     |((with_reducible refine(CS.out _).mono ?_);rintro e wx ⟨A2,ot,rfl,ho,hb⟩;have ej:=zh (aM ho hB.out.size);replace hO:=zh (aD hb hO.out);clear ho;replace hB:=zT hB hb;clear hb)
     |(at_builtin;refine aU rfl _ _ rfl W0.heap.size W0.heap.size _ _ acc [ts] rfl hO.out rfl ej.out (by have:=cr.out;simp;omega) hB.out.size ?_;intro A4 ql w4 k4 g4;have jh:=zh k4;have hb:=aO hO.out g4 hB.out.size;clear k4 g4;replace hB:=zh (hB.out.trans hb);clear hb))
    go_meet
    exact⟨A4,acc++[ts],ql,congrArg (fun k=>Value.slice A4 k ql) (by simp),jh,hB,HQ,zh (by have:=cr.out;simp;omega)⟩
   case rest=>
   obtain⟨A4,ac,ql,rfl,jh,bt,ig,iq⟩:=hcut;clear hO hB HS lp cr pq CS HK ue HLl gu L0;have hkn:(k:Int)<(n:Int):=ix
   go_upto_region 7 with fail
   refine wp_region_held_drew (S:=fun w'=>w'.rangeAt w.heap.size 0 [.pointer P,.pointer Q,vI v.r,vI v.c]/\w'.rangeAt g (o+k*22) ci/\Below W0.heap.size W0 w') (by kernel_rfl) (ap.out _ bt.out.drew) (fun ag=>?_);refine TkA 0 (.slice A4 ac.length ql) ?_;refine TkC 1 (.agg #[.pointer P,.pointer Q,vI v.r,vI v.c]) rfl (yieldsIf_load_mid (by rfl) 84 (.tmp 3) rfl w.heap.size 0 rfl [.pointer P,.pointer Q,vI v.r,vI v.c] _ (fun w2 h=>h.1) Tryz.underlying84 rfl (by kernel_rfl)) ?_;refine TkA 2 (.slice (some ⟨g,o,none⟩) n cp) ?_;refine TkA 3 (vI (k:Int)) ?_;refine TkC 4 (vP g (o+k*22)) rfl (Or.inl ⟨by rfl,fun w2 hS=>by simp[execOp,go_sem,hkn,rJ]⟩) ?_;refine TkC 5 (.agg ci.toArray) rfl (yieldsIf_load_mid (by rfl) 34 (.tmp 25) rfl g (o+k*22) rfl ci _ (fun w2 h=>h.2.1) Tryz.underlying34 rfl bg.out) ?_
   refine TkR 6 (fun K hK=>?_)
   go_simp
   go_at_call 36
   refine(CT.out _ ag.2.2).mono ?_;rintro x wx ⟨A2,ot,rfl,ho,hb⟩;have ej:=zh (aM ho ag.2.2.size);have fg:=zh (aD hb (aD (Below.drew zB) jh.out));have nu:=zh (ag.2.2.trans (hb.mono ag.2.2.size));clear ho hb
   go_wp2_with fail
   refine hK.out _ _ (ap.out _ nu.out) (fun hS1=>?_);clear hK K ag;refine TkR 7 (fun K hK=>?_);refine dJ rfl _ _ rfl W0.heap.size W0.heap.size _ _ ac tk' rfl fg.out rfl ej.out (by have:=nj.out;have:=iq.out;omega) nu.out.size ?_;intro A5 gx w5 k5 g5;have HO7:=zh k5;have nd:=zh (nu.out.trans (aO fg.out g5 nu.out.size));clear k5 g5;refine hK.out _ _ (ap.out _ nd.out) (fun hS2=>?_);clear hK K hS1;refine TkA 8 (.slice A5 (ac++tk').length gx) ?_;simp only[Act.put,yz];refine TkD ?_
   go_wp2_with fail
   go_roundw
   case rel=>exact⟨k+1,by omega,by go_num,zh (by rw[ig.out];first|exact HO7.out |(have h:=HO7.out;simp only[yl]at h ⊢;exact h)),nd⟩
   case measure=>first |(simp[intOf];done) |(simp[intOf];omega)
  obtain rfl:k=n:=by omega
  go_wp2_with fail
  go_ret
  have h1:TS.take k=TS:=by rw[HN.out];exact HTn.out
  rw[h1]at hO;obtain⟨A1,ly,rfl⟩:=aV hO.out;exact⟨A1,ly,rfl,aM hO.out af.out.size,zU af.out hB.out⟩
abbrev VwC(q:Nat)(P Q:Option Addr)(v:Say)(W:World):Prop:=W.cell? ⟨q,0,none⟩=some (.pointer P)/\W.cell? ⟨q,1,none⟩=some (.pointer Q)/\W.cell? ⟨q,2,none⟩=some (vI v.r)/\W.cell? ⟨q,3,none⟩=some (vI v.c)
theorem cV{W:World}{q:Nat}{P Q:Option Addr}{v:Say}(h:Lies W q 84 #[.pointer P,.pointer Q,vI v.r,vI v.c]):VwC q P Q v W:=⟨h.cell 0,h.cell 1,h.cell 2,h.cell 3⟩
theorem fH(P Q:Option Addr)(v:Say)(Cn:List Value)(w:World):∃ W0,Hid (W0=(w.alloc (.cells #[.pointer P,.pointer Q,vI v.r,vI v.c] 84)).alloc (.cells Cn.toArray 34))/\Hid (Below w.heap.size w W0)/\Hid (Lies W0 w.heap.size 84 #[.pointer P,.pointer Q,vI v.r,vI v.c])/\Hid (Lies W0 (w.heap.size+1) 34 Cn.toArray):=by
 obtain⟨W0,ak⟩:∃ W0,W0=(w.alloc (.cells #[.pointer P,.pointer Q,vI v.r,vI v.c] 84)).alloc (.cells Cn.toArray 34):=⟨_,rfl⟩
 refine⟨W0,zh ak,zh (by rw[ak];exact((Below.refl _ w).alloc zr _).alloc (by rw[World.size_alloc];omega) _),zh (by rw[ak];exact(Lies.new w _ _).alloc _),zh ?_⟩;rw[ak];have h:=Lies.new (w.alloc (.cells #[.pointer P,.pointer Q,vI v.r,vI v.c] 84)) 34 Cn.toArray;rw[World.size_alloc]at h;exact h
theorem rtok_lit(P Q:Option Addr)(v:Say)(vv:Val)(s:Bs)(a b:Cor)(r:Int)(A:Option Addr)(n cp:Nat)(Cn:List Value)(ah:Cn.toArray=aK ⟨0,vv,s,a,b,r⟩ A n cp)(g:List RTok)(w:World)(hT:∀ W,Calls Tryz.prog 79 #[.agg #[vI vv.kind,vI vv.mant,vI vv.exp,vT vv.text,.bool vv.truth,vI vv.fault]] W fun x w'=>TkO W w' x g) :
  Calls Tryz.prog 36 #[.agg #[.pointer P,.pointer Q,vI v.r,vI v.c],.agg Cn.toArray] w fun e w'=>TkO w w' e g:=by
 obtain⟨W0,aj,af,L0,HL⟩:=fH P Q v Cn w;have ap:=zh (fun W (h:Below W0.heap.size W0 W)=>And.intro (cV (L0.out.next h)) (cJ (HL.out.next h) ah));have HB:Hid (Below W0.heap.size W0 W0):=zh zB;have CK:=zh hT;clear ah hT
 go_in
 go_upto_region 1 with fail
 rw[<- aj.out];clear aj;obtain⟨⟨w0,w1,w2,w3⟩,e0,e1,e2,e3,e4,e5,e6,-⟩:=ap.out _ HB.out
 go_wp2_with ((with_reducible refine(CK.out _).mono ?_);rintro e wx ⟨A5,gx,rfl,ho,hb⟩;have dg:=zh (aM ho HB.out.size);clear ho;replace HB:=zT HB hb;clear hb)
 go_ret
 exact⟨A5,gx,rfl,aM dg.out af.out.size,zU af.out HB.out⟩
theorem uGJ(P Q:Option Addr)(v:Say)(vv:Val)(s:Bs)(a b:Cor)(r:Int)(A:Option Addr)(n cp:Nat)(Cn:List Value)(ah:Cn.toArray=aK ⟨7,vv,s,a,b,r⟩ A n cp)(g:List RTok)(w:World)(hT:∀ W,Calls Tryz.prog 82 #[vI 3,vT s] W fun x w'=>TkO W w' x g) :
  Calls Tryz.prog 36 #[.agg #[.pointer P,.pointer Q,vI v.r,vI v.c],.agg Cn.toArray] w fun e w'=>TkO w w' e g:=by
 obtain⟨W0,aj,af,L0,HL⟩:=fH P Q v Cn w;have ap:=zh (fun W (h:Below W0.heap.size W0 W)=>And.intro (cV (L0.out.next h)) (cJ (HL.out.next h) ah));have HB:Hid (Below W0.heap.size W0 W0):=zh zB;have CK:=zh hT;clear ah hT
 go_in
 go_upto_region 1 with fail
 rw[<- aj.out];clear aj;obtain⟨⟨w0,w1,w2,w3⟩,e0,-,-,-,-,-,-,e7,-⟩:=ap.out _ HB.out
 go_wp2_with ((with_reducible refine(CK.out _).mono ?_);rintro e wx ⟨A5,gx,rfl,ho,hb⟩;have dg:=zh (aM ho HB.out.size);clear ho;replace HB:=zT HB hb;clear hb)
 go_ret
 exact⟨A5,gx,rfl,aM dg.out af.out.size,zU af.out HB.out⟩
theorem uGM(P Q:Option Addr)(v:Say)(vv:Val)(s:Bs)(a b:Cor)(r:Int)(A:Option Addr)(n cp:Nat)(Cn:List Value)(ah:Cn.toArray=aK ⟨2,vv,s,a,b,r⟩ A n cp)(g:List RTok)(w:World)(hT:∀ W,Below w.heap.size w W->Calls Tryz.prog 83 #[.agg #[.pointer P,.pointer Q,vI v.r,vI v.c],.agg #[vI a.row.a,vI a.row.n,vI a.col.a,vI a.col.n,.bool a.fr,.bool a.fc],.agg #[vI b.row.a,vI b.row.n,vI b.col.a,vI b.col.n,.bool b.fr,.bool b.fc]] W fun x w'=>TkO W w' x g) :
  Calls Tryz.prog 36 #[.agg #[.pointer P,.pointer Q,vI v.r,vI v.c],.agg Cn.toArray] w fun e w'=>TkO w w' e g:=by
 obtain⟨W0,aj,af,L0,HL⟩:=fH P Q v Cn w;have ap:=zh (fun W (h:Below W0.heap.size W0 W)=>And.intro (cV (L0.out.next h)) (cJ (HL.out.next h) ah));have HB:Hid (Below W0.heap.size W0 W0):=zh zB;have CK:=zh (fun W (h:Below W0.heap.size W0 W)=>hT W (zU af.out h));clear ah hT
 go_in
 go_upto_region 1 with fail
 rw[<- aj.out];clear aj;obtain⟨⟨w0,w1,w2,w3⟩,e0,-,-,-,-,-,-,-,e8,e9,e10,e11,e12,e13,e14,e15,e16,e17,e18,e19,-⟩:=ap.out _ HB.out
 go_wp2_with ((with_reducible refine(CK.out _ HB.out).mono ?_);rintro e wx ⟨A5,gx,rfl,ho,hb⟩;have dg:=zh (aM ho HB.out.size);clear ho;replace HB:=zT HB hb;clear hb)
 go_ret
 exact⟨A5,gx,rfl,aM dg.out af.out.size,zU af.out HB.out⟩
theorem uGK(P Q:Option Addr)(v:Say)(vv:Val)(s:Bs)(a b:Cor)(r:Int)(A:Option Addr)(n cp:Nat)(Cn:List Value)(ah:Cn.toArray=aK ⟨9,vv,s,a,b,r⟩ A n cp)(g:List RTok)(w:World)(hg:g=[]) :
  Calls Tryz.prog 36 #[.agg #[.pointer P,.pointer Q,vI v.r,vI v.c],.agg Cn.toArray] w fun e w'=>TkO w w' e g:=by
 obtain⟨W0,aj,af,L0,HL⟩:=fH P Q v Cn w;have ap:=zh (fun W (h:Below W0.heap.size W0 W)=>And.intro (cV (L0.out.next h)) (cJ (HL.out.next h) ah));have HB:Hid (Below W0.heap.size W0 W0):=zh zB;have HG:=zh hg;clear ah hg
 go_in
 go_upto_region 1 with fail
 rw[<- aj.out];clear aj;obtain⟨⟨w0,w1,w2,w3⟩,e0,-⟩:=ap.out _ HB.out
 go_wp2_with fail
 go_ret
 exact⟨none,0,by(rw[HG.out]) <;> rfl,by rw[HG.out];exact⟨rfl,.inl ⟨rfl,rfl⟩⟩,af.out⟩
theorem nD(P Q:Option Addr)(v:Say)(vv:Val)(s:Bs)(a b:Cor)(r:Int)(A:Option Addr)(n cp:Nat)(Cn:List Value)(ah:Cn.toArray=aK ⟨1,vv,s,a,b,r⟩ A n cp)(g:List RTok)(w:World)(x y:Int)(t1:RTok)(hG:((x<0\/(0<=x/\y<0))/\g=dC)\/(0<=x/\0<=y/\g=[t1]/\∀ W,Calls Tryz.prog 81 #[.agg #[.pointer P,.pointer Q,vI v.r,vI v.c],.agg #[vI x,vI y,.bool a.fr,.bool a.fc]] W fun e w'=>TkO W w' e [t1]))(hP:∀ W,Below w.heap.size w W->Calls Tryz.prog 20 #[.pointer P,.agg #[vI a.row.a,vI a.row.n]] W fun e w'=>e=.returned (vI x)/\Below W.heap.size W w')(hQ:∀ W,Below w.heap.size w W->Calls Tryz.prog 20 #[.pointer Q,.agg #[vI a.col.a,vI a.col.n]] W fun e w'=>e=.returned (vI y)/\Below W.heap.size W w') :
  Calls Tryz.prog 36 #[.agg #[.pointer P,.pointer Q,vI v.r,vI v.c],.agg Cn.toArray] w fun e w'=>TkO w w' e g:=by
 obtain⟨W0,aj,af,L0,HL⟩:=fH P Q v Cn w;have ap:=zh (fun W (h:Below W0.heap.size W0 W)=>And.intro (cV (L0.out.next h)) (cJ (HL.out.next h) ah));have HB:Hid (Below W0.heap.size W0 W0):=zh zB;have CP:=zh hP;have CQ:=zh hQ;have HG:=zh hG;clear hG;clear hP hQ ah
 go_in
 go_upto_region 1 with fail
 rw[<- aj.out];clear aj;obtain⟨⟨w0,w1,w2,w3⟩,e0,-,-,-,-,-,-,-,e8,e9,e10,e11,e12,e13,-⟩:=ap.out _ HB.out;obtain⟨W1,an⟩:=zD (W0.alloc (.cells #[vI a.row.a,vI a.row.n,vI a.col.a,vI a.col.n,.bool a.fr,.bool a.fc] 29))
 have am:=zh an;have bi:=zA an;have aw:Hid (Below w.heap.size w W1):=zh (zU af.out bi.out);have L3:Hid (Lies W1 W0.heap.size 29 #[vI a.row.a,vI a.row.n,vI a.col.a,vI a.col.n,.bool a.fr,.bool a.fc]):=zh (by rw[an];exact Lies.new _ _ _)
 have HD:Hid (∀ W,Below W1.heap.size W1 W->W.cell? ⟨w.heap.size,0,none⟩=some (.pointer P)/\W.cell? ⟨w.heap.size,1,none⟩=some (.pointer Q)/\W.cell? ⟨w.heap.size,2,none⟩=some (vI v.r)/\W.cell? ⟨w.heap.size,3,none⟩=some (vI v.c)/\W.cell? ⟨w.heap.size+1,0,none⟩=some (vI 1)/\W.cell? ⟨W0.heap.size,0,none⟩=some (vI a.row.a)/\W.cell? ⟨W0.heap.size,1,none⟩=some (vI a.row.n)/\W.cell? ⟨W0.heap.size,2,none⟩=some (vI a.col.a)/\W.cell? ⟨W0.heap.size,3,none⟩=some (vI a.col.n)/\W.cell? ⟨W0.heap.size,4,none⟩=some (.bool a.fr)/\W.cell? ⟨W0.heap.size,5,none⟩=some (.bool a.fc)/\Below W1.heap.size W1 W):=zh (fun W h=>by
  obtain⟨⟨w0,w1,w2,w3⟩,e0,-,-,-,-,-,-,-,e8,e9,e10,e11,e12,e13,-⟩:=ap.out W (zU bi.out h);exact⟨w0,w1,w2,w3,e0,(L3.out.next h).cell 0,(L3.out.next h).cell 1,(L3.out.next h).cell 2,(L3.out.next h).cell 3,(L3.out.next h).cell 4,(L3.out.next h).cell 5,h⟩)
 clear an
 go_upto_region 8 with fail
 rw[<- am.out];clear am ap HL L0 L3;clear w0 w1 w2 w3 e0 e8 e9 e10 e11 e12 e13;obtain⟨v0,v1,v2,v3,k0,q0,q1,q2,q3,q4,q5,cg⟩:=HD.out _ zB
 go_cut [7,8] (fun va vb wx=>va=vI x/\vb=vI y/\Hid (Below W1.heap.size W1 wx))
 case first=>
  go_region_held3 (fun w'=>w'.cell? ⟨w.heap.size,0,none⟩=some (.pointer P)/\w'.cell? ⟨w.heap.size,1,none⟩=some (.pointer Q)/\w'.cell? ⟨w.heap.size,2,none⟩=some (vI v.r)/\w'.cell? ⟨w.heap.size,3,none⟩=some (vI v.c)/\w'.cell? ⟨w.heap.size+1,0,none⟩=some (vI 1)/\w'.cell? ⟨W0.heap.size,0,none⟩=some (vI a.row.a)/\w'.cell? ⟨W0.heap.size,1,none⟩=some (vI a.row.n)/\w'.cell? ⟨W0.heap.size,2,none⟩=some (vI a.col.a)/\w'.cell? ⟨W0.heap.size,3,none⟩=some (vI a.col.n)/\w'.cell? ⟨W0.heap.size,4,none⟩=some (.bool a.fr)/\w'.cell? ⟨W0.heap.size,5,none⟩=some (.bool a.fc)/\Below W1.heap.size W1 w')
   (first|exact HD.out _ cg|exact HD.out _ cg.drew |(go_split_ands;exact HD.out _ (Below.trans (by assumption) (Below.mono hb (Below.size (by assumption)))))|assumption)
   (first
    |(go_at_call 20;(with_reducible refine(CP.out _ (Below.trans aw.out (Below.mono ?hbw (Below.size aw.out)))).mono ?_);(case hbw=>(first|assumption |(go_split_ands;assumption)));rintro e wx ⟨rfl,hb⟩)
    |(go_at_call 20;(with_reducible refine(CQ.out _ (Below.trans aw.out (Below.mono ?hbw (Below.size aw.out)))).mono ?_);(case hbw=>(first|assumption |(go_split_ands;assumption)));rintro e wx ⟨rfl,hb⟩))
  all_goals go_wp2_with fail
  all_goals go_meet
  all_goals refine⟨rfl,rfl,zh ?_⟩
  all_goals first|assumption |(go_split_ands;assumption)
 case rest=>
 obtain⟨rfl,rfl,xl⟩:=hcut;clear v0 v1 v2 v3 k0 q0 q1 q2 q3 q4 q5 cg CP CQ;obtain⟨v0,v1,v2,v3,k0,q0,q1,q2,q3,q4,q5,cg⟩:=HD.out _ xl.out;clear cg;replace HB:=xl;clear xl;rcases HG.out with⟨hx|⟨hx,hy⟩,hg⟩|⟨hx,hy,hg,hM⟩
 ·have CG:Hid (∀ W,Calls Tryz.prog 80 #[] W fun e w'=>TkO W w' e g):=zh (fun W=>by rw[hg];exact gE W);clear hg
  go_wp2_with (first
   |((with_reducible refine(CG.out _).mono ?_);rintro e wx ⟨A5,gx,rfl,ho,hb⟩;have dg:=zh (aM ho HB.out.size);clear ho;replace HB:=zT HB hb;clear hb;clear v0 v1 v2 v3 k0 q0 q1 q2 q3 q4 q5;obtain⟨v0,v1,v2,v3,k0,q0,q1,q2,q3,q4,q5,-⟩:=HD.out _ HB.out))
  go_ret
  exact⟨A5,gx,rfl,aM dg.out aw.out.size,zU aw.out HB.out⟩
 ·have CG:Hid (∀ W,Calls Tryz.prog 80 #[] W fun e w'=>TkO W w' e g):=zh (fun W=>by rw[hg];exact gE W);clear hg
  go_wp2_with (first
   |((with_reducible refine(CG.out _).mono ?_);rintro e wx ⟨A5,gx,rfl,ho,hb⟩;have dg:=zh (aM ho HB.out.size);clear ho;replace HB:=zT HB hb;clear hb;clear v0 v1 v2 v3 k0 q0 q1 q2 q3 q4 q5;obtain⟨v0,v1,v2,v3,k0,q0,q1,q2,q3,q4,q5,-⟩:=HD.out _ HB.out))
  go_ret
  exact⟨A5,gx,rfl,aM dg.out aw.out.size,zU aw.out HB.out⟩
 have CM:=zh hM;subst hg;clear hM HG
 go_wp2_with (first
  |((with_reducible refine(CM.out _).mono ?_);rintro e wx ⟨A5,gx,rfl,ho,hb⟩;have dg:=zh (aM ho HB.out.size);clear ho;replace HB:=zT HB hb;clear hb;clear v0 v1 v2 v3 k0 q0 q1 q2 q3 q4 q5;obtain⟨v0,v1,v2,v3,k0,q0,q1,q2,q3,q4,q5,-⟩:=HD.out _ HB.out))
 go_ret
 exact⟨A5,gx,rfl,aM dg.out aw.out.size,zU aw.out HB.out⟩
theorem nE(P Q:Option Addr)(v:Say)(vv:Val)(s:Bs)(a b:Cor)(r:Int)(A:Option Addr)(n cp:Nat)(Cn:List Value)(ah:Cn.toArray=aK ⟨3,vv,s,a,b,r⟩ A n cp)(g:List RTok)(w:World)(x y:Int)(t1 tc:RTok)(f8:tc=tk 5 [35])(hG:((x<0\/(0<=x/\y<0))/\g=dC)\/(0<=x/\0<=y/\g=[t1]++[tc]/\∀ W,Calls Tryz.prog 81 #[.agg #[.pointer P,.pointer Q,vI v.r,vI v.c],.agg #[vI x,vI y,.bool a.fr,.bool a.fc]] W fun e w'=>TkO W w' e [t1]))(hP:∀ W,Below w.heap.size w W->Calls Tryz.prog 20 #[.pointer P,.agg #[vI a.row.a,vI a.row.n]] W fun e w'=>e=.returned (vI x)/\Below W.heap.size W w')(hQ:∀ W,Below w.heap.size w W->Calls Tryz.prog 20 #[.pointer Q,.agg #[vI a.col.a,vI a.col.n]] W fun e w'=>e=.returned (vI y)/\Below W.heap.size W w') :
  Calls Tryz.prog 36 #[.agg #[.pointer P,.pointer Q,vI v.r,vI v.c],.agg Cn.toArray] w fun e w'=>TkO w w' e g:=by
 obtain⟨W0,aj,af,L0,HL⟩:=fH P Q v Cn w;have ap:=zh (fun W (h:Below W0.heap.size W0 W)=>And.intro (cV (L0.out.next h)) (cJ (HL.out.next h) ah));have HB:Hid (Below W0.heap.size W0 W0):=zh zB;have CP:=zh hP;have CQ:=zh hQ;have HG:=zh hG;have HT:=zh f8;clear hG f8;clear hP hQ ah
 go_in
 go_upto_region 1 with fail
 rw[<- aj.out];clear aj;obtain⟨⟨w0,w1,w2,w3⟩,e0,-,-,-,-,-,-,-,e8,e9,e10,e11,e12,e13,-⟩:=ap.out _ HB.out;obtain⟨W1,an⟩:=zD (W0.alloc (.cells #[vI a.row.a,vI a.row.n,vI a.col.a,vI a.col.n,.bool a.fr,.bool a.fc] 29))
 have am:=zh an;have bi:=zA an;have aw:Hid (Below w.heap.size w W1):=zh (zU af.out bi.out);have L3:Hid (Lies W1 W0.heap.size 29 #[vI a.row.a,vI a.row.n,vI a.col.a,vI a.col.n,.bool a.fr,.bool a.fc]):=zh (by rw[an];exact Lies.new _ _ _)
 have HD:Hid (∀ W,Below W1.heap.size W1 W->W.cell? ⟨w.heap.size,0,none⟩=some (.pointer P)/\W.cell? ⟨w.heap.size,1,none⟩=some (.pointer Q)/\W.cell? ⟨w.heap.size,2,none⟩=some (vI v.r)/\W.cell? ⟨w.heap.size,3,none⟩=some (vI v.c)/\W.cell? ⟨w.heap.size+1,0,none⟩=some (vI 3)/\W.cell? ⟨W0.heap.size,0,none⟩=some (vI a.row.a)/\W.cell? ⟨W0.heap.size,1,none⟩=some (vI a.row.n)/\W.cell? ⟨W0.heap.size,2,none⟩=some (vI a.col.a)/\W.cell? ⟨W0.heap.size,3,none⟩=some (vI a.col.n)/\W.cell? ⟨W0.heap.size,4,none⟩=some (.bool a.fr)/\W.cell? ⟨W0.heap.size,5,none⟩=some (.bool a.fc)/\Below W1.heap.size W1 W):=zh (fun W h=>by
  obtain⟨⟨w0,w1,w2,w3⟩,e0,-,-,-,-,-,-,-,e8,e9,e10,e11,e12,e13,-⟩:=ap.out W (zU bi.out h);exact⟨w0,w1,w2,w3,e0,(L3.out.next h).cell 0,(L3.out.next h).cell 1,(L3.out.next h).cell 2,(L3.out.next h).cell 3,(L3.out.next h).cell 4,(L3.out.next h).cell 5,h⟩)
 clear an
 go_upto_region 8 with fail
 rw[<- am.out];clear am ap HL L0 L3;clear w0 w1 w2 w3 e0 e8 e9 e10 e11 e12 e13;obtain⟨v0,v1,v2,v3,k0,q0,q1,q2,q3,q4,q5,cg⟩:=HD.out _ zB
 go_cut [7,8] (fun va vb wx=>va=vI x/\vb=vI y/\Hid (Below W1.heap.size W1 wx))
 case first=>
  go_region_held3 (fun w'=>w'.cell? ⟨w.heap.size,0,none⟩=some (.pointer P)/\w'.cell? ⟨w.heap.size,1,none⟩=some (.pointer Q)/\w'.cell? ⟨w.heap.size,2,none⟩=some (vI v.r)/\w'.cell? ⟨w.heap.size,3,none⟩=some (vI v.c)/\w'.cell? ⟨w.heap.size+1,0,none⟩=some (vI 3)/\w'.cell? ⟨W0.heap.size,0,none⟩=some (vI a.row.a)/\w'.cell? ⟨W0.heap.size,1,none⟩=some (vI a.row.n)/\w'.cell? ⟨W0.heap.size,2,none⟩=some (vI a.col.a)/\w'.cell? ⟨W0.heap.size,3,none⟩=some (vI a.col.n)/\w'.cell? ⟨W0.heap.size,4,none⟩=some (.bool a.fr)/\w'.cell? ⟨W0.heap.size,5,none⟩=some (.bool a.fc)/\Below W1.heap.size W1 w')
   (first|exact HD.out _ cg|exact HD.out _ cg.drew |(go_split_ands;exact HD.out _ (Below.trans (by assumption) (Below.mono hb (Below.size (by assumption)))))|assumption)
   (first
    |(go_at_call 20;(with_reducible refine(CP.out _ (Below.trans aw.out (Below.mono ?hbw (Below.size aw.out)))).mono ?_);(case hbw=>(first|assumption |(go_split_ands;assumption)));rintro e wx ⟨rfl,hb⟩)
    |(go_at_call 20;(with_reducible refine(CQ.out _ (Below.trans aw.out (Below.mono ?hbw (Below.size aw.out)))).mono ?_);(case hbw=>(first|assumption |(go_split_ands;assumption)));rintro e wx ⟨rfl,hb⟩))
  all_goals go_wp2_with fail
  all_goals go_meet
  all_goals refine⟨rfl,rfl,zh ?_⟩
  all_goals first|assumption |(go_split_ands;assumption)
 case rest=>
 obtain⟨rfl,rfl,xl⟩:=hcut;clear v0 v1 v2 v3 k0 q0 q1 q2 q3 q4 q5 cg CP CQ;obtain⟨v0,v1,v2,v3,k0,q0,q1,q2,q3,q4,q5,cg⟩:=HD.out _ xl.out;clear cg;replace HB:=xl;clear xl;rcases HG.out with⟨hx|⟨hx,hy⟩,hg⟩|⟨hx,hy,hg,hM⟩
 ·have CG:Hid (∀ W,Calls Tryz.prog 80 #[] W fun e w'=>TkO W w' e g):=zh (fun W=>by rw[hg];exact gE W);clear hg
  go_wp2_with (first
   |((with_reducible refine(CG.out _).mono ?_);rintro e wx ⟨A5,gx,rfl,ho,hb⟩;have dg:=zh (aM ho HB.out.size);clear ho;replace HB:=zT HB hb;clear hb;clear v0 v1 v2 v3 k0 q0 q1 q2 q3 q4 q5;obtain⟨v0,v1,v2,v3,k0,q0,q1,q2,q3,q4,q5,-⟩:=HD.out _ HB.out))
  go_ret
  exact⟨A5,gx,rfl,aM dg.out aw.out.size,zU aw.out HB.out⟩
 ·have CG:Hid (∀ W,Calls Tryz.prog 80 #[] W fun e w'=>TkO W w' e g):=zh (fun W=>by rw[hg];exact gE W);clear hg
  go_wp2_with (first
   |((with_reducible refine(CG.out _).mono ?_);rintro e wx ⟨A5,gx,rfl,ho,hb⟩;have dg:=zh (aM ho HB.out.size);clear ho;replace HB:=zT HB hb;clear hb;clear v0 v1 v2 v3 k0 q0 q1 q2 q3 q4 q5;obtain⟨v0,v1,v2,v3,k0,q0,q1,q2,q3,q4,q5,-⟩:=HD.out _ HB.out))
  go_ret
  exact⟨A5,gx,rfl,aM dg.out aw.out.size,zU aw.out HB.out⟩
 have CM:=zh hM;have CKc:Hid (∀ W,Calls Tryz.prog 82 #[vI 5,vS #[35]] W fun e w'=>TkO W w' e [tc]):=zh (fun W=>by rw[HT.out];exact aS 5 [35] W);subst hg;clear hM HG HT
 go_wp2_with (first
  |((with_reducible refine(CM.out _).mono ?_);rintro e wx ⟨A1,ly,rfl,ho,hb⟩;have b7:=zh (aM ho HB.out.size);clear ho;replace HB:=zT HB hb;clear hb;clear v0 v1 v2 v3 k0 q0 q1 q2 q3 q4 q5;obtain⟨v0,v1,v2,v3,k0,q0,q1,q2,q3,q4,q5,-⟩:=HD.out _ HB.out)
  |((with_reducible refine(CKc.out _).mono ?_);rintro e wx ⟨A3,cc3,rfl,ho,hb⟩;have jf:=zh (aM ho HB.out.size);replace b7:=zh (aD hb b7.out);clear ho;replace HB:=zT HB hb;clear hb;clear v0 v1 v2 v3 k0 q0 q1 q2 q3 q4 q5;obtain⟨v0,v1,v2,v3,k0,q0,q1,q2,q3,q4,q5,-⟩:=HD.out _ HB.out)
  |(at_builtin;refine aU rfl _ _ rfl W1.heap.size W1.heap.size _ _ [t1] [tc] rfl b7.out rfl jf.out (by simp) HB.out.size ?_;intro A5 gx w5 k5 g5;have dg:=zh k5;have hb:=aO b7.out g5 HB.out.size;clear k5 g5;replace HB:=zh (HB.out.trans hb);clear hb;clear v0 v1 v2 v3 k0 q0 q1 q2 q3 q4 q5;obtain⟨v0,v1,v2,v3,k0,q0,q1,q2,q3,q4,q5,-⟩:=HD.out _ HB.out))
 go_ret
 exact⟨A5,gx,rfl,aM dg.out aw.out.size,zU aw.out HB.out⟩
theorem uGI(P Q:Option Addr)(v:Say)(vv:Val)(s:Bs)(a b:Cor)(r:Int)(A:Option Addr)(n cp:Nat)(Cn:List Value)(ah:Cn.toArray=aK ⟨4,vv,s,a,b,r⟩ A n cp)(g:List RTok)(w:World)(t1 t2 t3:RTok)(lt:List RTok)(h1:t1=tk 3 s)(h2:t2=tk 5 [40])(h3:t3=tk 5 [41])(hg:g=[t1]++[t2]++lt++[t3])(hlt:lt.length<=400000)(hLs:∀ W,Below w.heap.size w W->Calls Tryz.prog 84 #[.agg #[.pointer P,.pointer Q,vI v.r,vI v.c],.slice A n cp,vS #[44]] W fun x w'=>TkO W w' x lt) :
  Calls Tryz.prog 36 #[.agg #[.pointer P,.pointer Q,vI v.r,vI v.c],.agg Cn.toArray] w fun e w'=>TkO w w' e g:=by
 obtain⟨W0,aj,af,L0,HL⟩:=fH P Q v Cn w;have ap:=zh (fun W (h:Below W0.heap.size W0 W)=>And.intro (cV (L0.out.next h)) (cJ (HL.out.next h) ah));have HB:Hid (Below W0.heap.size W0 W0):=zh zB;have CL:=zh (fun W (h:Below W0.heap.size W0 W)=>hLs W (zU af.out h));have C1:Hid (∀ W,Calls Tryz.prog 82 #[vI 3,vT s] W fun x w'=>TkO W w' x [t1]):=zh (fun W=>by rw[h1];exact aS 3 s W);have C2:Hid (∀ W,Calls Tryz.prog 82 #[vI 5,vS #[40]] W fun x w'=>TkO W w' x [t2]):=zh (fun W=>by rw[h2];exact aS 5 [40] W);have C3:Hid (∀ W,Calls Tryz.prog 82 #[vI 5,vS #[41]] W fun x w'=>TkO W w' x [t3]):=zh (fun W=>by rw[h3];exact aS 5 [41] W);have rx:=zh hlt;subst hg;clear ah hLs h1 h2 h3 hlt
 go_in
 go_upto_region 1 with fail
 rw[<- aj.out];clear aj;obtain⟨⟨w0,w1,w2,w3⟩,e0,-,-,-,-,-,-,e7,-,-,-,-,-,-,-,-,-,-,-,-,-,e21⟩:=ap.out _ HB.out
 go_wp2_with (first
  |((with_reducible refine(C1.out _).mono ?_);rintro e wx ⟨B1,cB1,rfl,ho,hb⟩;have b7:=zh (aM ho HB.out.size);clear ho;replace HB:=zT HB hb;clear hb;clear w0 w1 w2 w3 e0 e7 e21;obtain⟨⟨w0,w1,w2,w3⟩,e0,-,-,-,-,-,-,e7,-,-,-,-,-,-,-,-,-,-,-,-,-,e21⟩:=ap.out _ HB.out)
  |((with_reducible refine(C2.out _).mono ?_);rintro e wx ⟨B2,cB2,rfl,ho,hb⟩;have ej:=zh (aM ho HB.out.size);replace b7:=zh (aD hb b7.out);clear ho;replace HB:=zT HB hb;clear hb;clear w0 w1 w2 w3 e0 e7 e21;obtain⟨⟨w0,w1,w2,w3⟩,e0,-,-,-,-,-,-,e7,-,-,-,-,-,-,-,-,-,-,-,-,-,e21⟩:=ap.out _ HB.out)
  |(at_builtin;refine aU rfl _ _ rfl W0.heap.size W0.heap.size _ _ [t1] [t2] rfl b7.out rfl ej.out (by simp) HB.out.size ?_;intro B3 vf w4 k4 g4;have jf:=zh k4;have hb:=aO b7.out g4 HB.out.size;clear k4 g4;replace HB:=zh (HB.out.trans hb);clear hb;clear w0 w1 w2 w3 e0 e7 e21;obtain⟨⟨w0,w1,w2,w3⟩,e0,-,-,-,-,-,-,e7,-,-,-,-,-,-,-,-,-,-,-,-,-,e21⟩:=ap.out _ HB.out)
  |((with_reducible refine(CL.out _ HB.out).mono ?_);rintro e wx ⟨B4,cB4,rfl,ho,hb⟩;have jh:=zh (aM ho HB.out.size);replace jf:=zh (aD hb jf.out);clear ho;replace HB:=zT HB hb;clear hb;clear w0 w1 w2 w3 e0 e7 e21;obtain⟨⟨w0,w1,w2,w3⟩,e0,-,-,-,-,-,-,e7,-,-,-,-,-,-,-,-,-,-,-,-,-,e21⟩:=ap.out _ HB.out)
  |(at_builtin;refine aU rfl _ _ rfl W0.heap.size W0.heap.size _ _ ([t1]++[t2]) lt rfl jf.out rfl jh.out (by have:=rx.out;simp;omega) HB.out.size ?_;intro B5 cB5 w4 k4 g4;have dg:=zh k4;have hb:=aO jf.out g4 HB.out.size;clear k4 g4;replace HB:=zh (HB.out.trans hb);clear hb;clear w0 w1 w2 w3 e0 e7 e21;obtain⟨⟨w0,w1,w2,w3⟩,e0,-,-,-,-,-,-,e7,-,-,-,-,-,-,-,-,-,-,-,-,-,e21⟩:=ap.out _ HB.out)
  |((with_reducible refine(C3.out _).mono ?_);rintro e wx ⟨B6,cB6,rfl,ho,hb⟩;have fg:=zh (aM ho HB.out.size);replace dg:=zh (aD hb dg.out);clear ho;replace HB:=zT HB hb;clear hb;clear w0 w1 w2 w3 e0 e7 e21;obtain⟨⟨w0,w1,w2,w3⟩,e0,-,-,-,-,-,-,e7,-,-,-,-,-,-,-,-,-,-,-,-,-,e21⟩:=ap.out _ HB.out)
  |(at_builtin;refine aU rfl _ _ rfl W0.heap.size W0.heap.size _ _ ([t1]++[t2]++lt) [t3] rfl dg.out rfl fg.out (by have:=rx.out;simp;omega) HB.out.size ?_;intro B7 cB7 w4 k4 g4;have HO7:=zh k4;have hb:=aO dg.out g4 HB.out.size;clear k4 g4;replace HB:=zh (HB.out.trans hb);clear hb;clear w0 w1 w2 w3 e0 e7 e21;obtain⟨⟨w0,w1,w2,w3⟩,e0,-,-,-,-,-,-,e7,-,-,-,-,-,-,-,-,-,-,-,-,-,e21⟩:=ap.out _ HB.out))
 go_ret
 exact⟨B7,cB7,by first|rfl|exact congrArg (fun k=>Ending.returned (.slice B7 k cB7)) (by simp),aM HO7.out af.out.size,zU af.out HB.out⟩
theorem uCK(P Q:Option Addr)(v:Say)(vv:Val)(s:Bs)(a b:Cor)(r:Int)(A:Option Addr)(n cp:Nat)(Cn:List Value)(ah:Cn.toArray=aK ⟨5,vv,s,a,b,r⟩ A n cp)(g:List RTok)(w:World)(gb ob:Nat)(ci:List Value)(lv:Int)(tw:List RTok)(tc:RTok)(hs:s=[37])(hA:A=some ⟨gb,ob,none⟩)(hn:n=1)(f8:tc=tk 5 [37])(hg:g=tw++[tc])(hlt:tw.length<=400000)(zi:(Tryz.prog.info? 34).map (·.size)=some ci.length)(hR:∀ W,Below w.heap.size w W->W.rangeAt gb ob ci)(hV:∀ W,Calls Tryz.prog 86 #[.agg ci.toArray] W fun e w'=>e=.returned (vI lv)/\Below W.heap.size W w')(hT:∀ W,Below w.heap.size w W->Calls Tryz.prog 85 #[.agg #[.pointer P,.pointer Q,vI v.r,vI v.c],.agg ci.toArray,.bool (decide (lv<7))] W fun e w'=>TkO W w' e tw) :
  Calls Tryz.prog 36 #[.agg #[.pointer P,.pointer Q,vI v.r,vI v.c],.agg Cn.toArray] w fun e w'=>TkO w w' e g:=by
 obtain⟨W0,aj,af,L0,HL⟩:=fH P Q v Cn w;have ap:=zh (fun W (h:Below W0.heap.size W0 W)=>And.intro (cV (L0.out.next h)) (cJ (HL.out.next h) ah));have HB:Hid (Below W0.heap.size W0 W0):=zh zB;subst hs hA hn;have CT:=zh (fun W (h:Below W0.heap.size W0 W)=>hT W (zU af.out h));have CV:=zh hV;have CK:Hid (∀ W,Calls Tryz.prog 82 #[vI 5,vS #[37]] W fun x w'=>TkO W w' x [tc]):=zh (fun W=>by rw[f8];exact aS 5 [37] W);have rx:=zh hlt
 have bp:Hid (∀ W,Below W0.heap.size W0 W->W.rangeAt w.heap.size 0 [.pointer P,.pointer Q,vI v.r,vI v.c]/\W.cell? ⟨w.heap.size+1,21,none⟩=some (.slice (some ⟨gb,ob,none⟩) 1 cp)/\W.rangeAt gb ob ci/\Below W0.heap.size W0 W):=zh (fun W h=>⟨Lies.rangeN (C:=[.pointer P,.pointer Q,vI v.r,vI v.c]) (L0.out.next h),by have q:=(HL.out.next h).cell 21;rw[ah]at q;exact q,hR W (zU af.out h),h⟩);have bg:=zh zi;subst hg;clear ah hT hV f8 hlt hR zi
 go_in
 go_upto_region 1 with fail
 rw[<- aj.out];clear aj;obtain⟨⟨w0,w1,w2,w3⟩,e0,-,-,-,-,-,-,e7,-,-,-,-,-,-,-,-,-,-,-,-,-,e21⟩:=ap.out _ HB.out
 go_upto_region 22 with fail
 clear w0 w1 w2 w3 e0 e7 e21;refine wp_region_held_drew (S:=fun w'=>w'.rangeAt w.heap.size 0 [.pointer P,.pointer Q,vI v.r,vI v.c]/\w'.cell? ⟨w.heap.size+1,21,none⟩=some (.slice (some ⟨gb,ob,none⟩) 1 cp)/\w'.rangeAt gb ob ci/\Below W0.heap.size W0 w') (by kernel_rfl) (bp.out _ HB.out.drew) (fun ag=>?_);replace HB:=zh HB.out.drew;refine TkC 0 (.agg #[.pointer P,.pointer Q,vI v.r,vI v.c]) rfl (yieldsIf_load_mid (by rfl) 84 (.tmp 2) rfl w.heap.size 0 rfl [.pointer P,.pointer Q,vI v.r,vI v.c] _ (fun w2 h=>h.1) Tryz.underlying84 rfl (by kernel_rfl)) ?_;refine TkA 1 (vP (w.heap.size+1) 21) ?_;refine TkB 2 (.slice (some ⟨gb,ob,none⟩) 1 cp) ?_;refine TkA 3 (vP gb ob) ?_
 refine TkC 4 (.agg ci.toArray) rfl (yieldsIf_load_mid (by rfl) 34 (.tmp 91) rfl gb ob (by kernel_rfl) ci _ (fun w2 h=>h.2.2.1) Tryz.underlying34 rfl bg.out) ?_;refine TkA 5 (vP (w.heap.size+1) 21) ?_;refine TkB 6 (.slice (some ⟨gb,ob,none⟩) 1 cp) ?_;refine TkA 7 (vP gb ob) ?_;refine TkC 8 (.agg ci.toArray) rfl (yieldsIf_load_mid (by rfl) 34 (.tmp 95) rfl gb ob (by kernel_rfl) ci _ (fun w2 h=>h.2.2.1) Tryz.underlying34 rfl bg.out) ?_;refine TkR 9 (fun K hK=>?_)
 go_simp
 go_at_call 86
 refine(CV.out _).mono ?_;rintro x wx ⟨rfl,hb⟩;replace HB:=zT HB hb;clear hb
 go_wp2_with fail
 refine hK.out _ _ (bp.out _ HB.out) (fun aa=>?_);clear hK K ag;have ag:=aa;clear aa;refine TkA 10 (.bool (decide (lv<7))) ?_;refine TkR 11 (fun K hK=>?_)
 go_simp
 go_at_call 85
 refine(CT.out _ HB.out).mono ?_;rintro x wx ⟨B1,cB1,rfl,ho,hb⟩;have b7:=zh (aM ho HB.out.size);replace HB:=zT HB hb;clear ho hb
 go_wp2_with fail
 refine hK.out _ _ (bp.out _ HB.out) (fun aa=>?_);clear hK K ag;have ag:=aa;clear aa;refine TkR 12 (fun K hK=>?_)
 go_simp
 go_at_call 82
 refine(CK.out _).mono ?_;rintro x wx ⟨B2,cB2,rfl,ho,hb⟩;have ej:=zh (aM ho HB.out.size);replace b7:=zh (aD hb b7.out);replace HB:=zT HB hb;clear ho hb
 go_wp2_with fail
 refine hK.out _ _ (bp.out _ HB.out) (fun aa=>?_);clear hK K ag;have ag:=aa;clear aa;refine TkR 13 (fun K hK=>?_);refine dJ rfl _ _ rfl W0.heap.size W0.heap.size _ _ tw [tc] rfl b7.out rfl ej.out (by have:=rx.out;(try simp only[yi,List.length_nil]);omega) HB.out.size ?_;intro B3 vf w5 k5 g5;have jf:=zh k5;replace HB:=zh (HB.out.trans (aO b7.out g5 HB.out.size));clear k5 g5
 (try simp only[List.getElem_toArray,List.getElem_cons_succ,List.getElem_cons_zero])
 refine hK.out _ _ (bp.out _ HB.out) (fun aa=>?_);clear hK K ag;have ag:=aa;clear aa;refine TkA 14 (.slice B3 (tw++[tc]).length vf) ?_
 (try simp only[List.getElem_toArray,List.getElem_cons_succ,List.getElem_cons_zero])
 refine TkD ?_
 (try simp only[Act.put,yz])
 go_wp2_with fail
 go_ret
 exact⟨B3,vf,by first|rfl|exact congrArg (fun k:Nat=>Ending.returned (.slice B3 k vf)) (by simp),aM jf.out af.out.size,zU af.out HB.out⟩
theorem uGL(P Q:Option Addr)(v:Say)(vv:Val)(s:Bs)(a b:Cor)(r:Int)(A:Option Addr)(n cp:Nat)(Cn:List Value)(ah:Cn.toArray=aK ⟨5,vv,s,a,b,r⟩ A n cp)(g:List RTok)(w:World)(gb ob:Nat)(ci:List Value)(lv:Int)(tw:List RTok)(tc:RTok)(hs:(s==[37])=false)(hA:A=some ⟨gb,ob,none⟩)(hn:n=1)(f8:tc=tk 5 s)(hg:g=[tc]++tw)(hlt:tw.length<=400000)(zi:(Tryz.prog.info? 34).map (·.size)=some ci.length)(hR:∀ W,Below w.heap.size w W->W.rangeAt gb ob ci)(hV:∀ W,Calls Tryz.prog 86 #[.agg ci.toArray] W fun e w'=>e=.returned (vI lv)/\Below W.heap.size W w')(hT:∀ W,Below w.heap.size w W->Calls Tryz.prog 85 #[.agg #[.pointer P,.pointer Q,vI v.r,vI v.c],.agg ci.toArray,.bool (decide (lv<6))] W fun e w'=>TkO W w' e tw) :
  Calls Tryz.prog 36 #[.agg #[.pointer P,.pointer Q,vI v.r,vI v.c],.agg Cn.toArray] w fun e w'=>TkO w w' e g:=by
 obtain⟨W0,aj,af,L0,HL⟩:=fH P Q v Cn w;have ap:=zh (fun W (h:Below W0.heap.size W0 W)=>And.intro (cV (L0.out.next h)) (cJ (HL.out.next h) ah));have HB:Hid (Below W0.heap.size W0 W0):=zh zB;subst hA hn;have CT:=zh (fun W (h:Below W0.heap.size W0 W)=>hT W (zU af.out h));have CV:=zh hV;have CK:Hid (∀ W,Calls Tryz.prog 82 #[vI 5,vT s] W fun x w'=>TkO W w' x [tc]):=zh (fun W=>by rw[f8];exact aS 5 s W);have rx:=zh hlt
 have bp:Hid (∀ W,Below W0.heap.size W0 W->W.rangeAt w.heap.size 0 [.pointer P,.pointer Q,vI v.r,vI v.c]/\W.cell? ⟨w.heap.size+1,7,none⟩=some (vT s)/\W.cell? ⟨w.heap.size+1,21,none⟩=some (.slice (some ⟨gb,ob,none⟩) 1 cp)/\W.rangeAt gb ob ci/\Below W0.heap.size W0 W):=zh (fun W h=>⟨Lies.rangeN (C:=[.pointer P,.pointer Q,vI v.r,vI v.c]) (L0.out.next h),by have q:=(HL.out.next h).cell 7;rw[ah]at q;exact q,by have q:=(HL.out.next h).cell 21;rw[ah]at q;exact q,hR W (zU af.out h),h⟩);have bg:=zh zi;subst hg;clear ah hT hV f8 hlt hR zi
 go_in
 go_upto_region 1 with fail
 rw[<- aj.out];clear aj;obtain⟨⟨w0,w1,w2,w3⟩,e0,-,-,-,-,-,-,e7,-,-,-,-,-,-,-,-,-,-,-,-,-,e21⟩:=ap.out _ HB.out
 go_upto_region 23 with fail
 clear w0 w1 w2 w3 e0 e7 e21;refine wp_region_held_drew (S:=fun w'=>w'.rangeAt w.heap.size 0 [.pointer P,.pointer Q,vI v.r,vI v.c]/\w'.cell? ⟨w.heap.size+1,7,none⟩=some (vT s)/\w'.cell? ⟨w.heap.size+1,21,none⟩=some (.slice (some ⟨gb,ob,none⟩) 1 cp)/\w'.rangeAt gb ob ci/\Below W0.heap.size W0 w') (by kernel_rfl) (bp.out _ HB.out.drew) (fun ag=>?_);replace HB:=zh HB.out.drew;refine TkA 0 (vP (w.heap.size+1) 7) ?_;refine TkB 1 (vT s) ?_;refine TkC 3 (.agg #[.pointer P,.pointer Q,vI v.r,vI v.c]) rfl (yieldsIf_load_mid (by rfl) 84 (.tmp 2) rfl w.heap.size 0 rfl [.pointer P,.pointer Q,vI v.r,vI v.c] _ (fun w2 h=>h.1) Tryz.underlying84 rfl (by kernel_rfl)) ?_;refine TkA 4 (vP (w.heap.size+1) 21) ?_;refine TkB 5 (.slice (some ⟨gb,ob,none⟩) 1 cp) ?_
 refine TkA 6 (vP gb ob) ?_;refine TkC 7 (.agg ci.toArray) rfl (yieldsIf_load_mid (by rfl) 34 (.tmp 108) rfl gb ob (by kernel_rfl) ci _ (fun w2 h=>h.2.2.2.1) Tryz.underlying34 rfl bg.out) ?_;refine TkA 8 (vP (w.heap.size+1) 21) ?_;refine TkB 9 (.slice (some ⟨gb,ob,none⟩) 1 cp) ?_;refine TkA 10 (vP gb ob) ?_;refine TkC 11 (.agg ci.toArray) rfl (yieldsIf_load_mid (by rfl) 34 (.tmp 112) rfl gb ob (by kernel_rfl) ci _ (fun w2 h=>h.2.2.2.1) Tryz.underlying34 rfl bg.out) ?_;refine TkR 2 (fun K hK=>?_)
 go_simp
 go_at_call 82
 refine(CK.out _).mono ?_;rintro x wx ⟨B1,cB1,rfl,ho,hb⟩;have b7:=zh (aM ho HB.out.size);replace HB:=zT HB hb;clear ho hb
 go_wp2_with fail
 refine hK.out _ _ (bp.out _ HB.out) (fun aa=>?_);clear hK K ag;have ag:=aa;clear aa;refine TkR 12 (fun K hK=>?_)
 go_simp
 go_at_call 86
 refine(CV.out _).mono ?_;rintro x wx ⟨rfl,hb⟩;replace b7:=zh (aD hb b7.out);replace HB:=zT HB hb;clear hb
 go_wp2_with fail
 refine hK.out _ _ (bp.out _ HB.out) (fun aa=>?_);clear hK K ag;have ag:=aa;clear aa;refine TkA 13 (.bool (decide (lv<6))) ?_;refine TkR 14 (fun K hK=>?_)
 go_simp
 go_at_call 85
 refine(CT.out _ HB.out).mono ?_;rintro x wx ⟨B2,cB2,rfl,ho,hb⟩;have ej:=zh (aM ho HB.out.size);replace b7:=zh (aD hb b7.out);replace HB:=zT HB hb;clear ho hb
 go_wp2_with fail
 refine hK.out _ _ (bp.out _ HB.out) (fun aa=>?_);clear hK K ag;have ag:=aa;clear aa;refine TkR 15 (fun K hK=>?_);refine dJ rfl _ _ rfl W0.heap.size W0.heap.size _ _ [tc] tw rfl b7.out rfl ej.out (by have:=rx.out;(try simp only[yi,List.length_nil]);omega) HB.out.size ?_;intro B3 vf w5 k5 g5;have jf:=zh k5;replace HB:=zh (HB.out.trans (aO b7.out g5 HB.out.size));clear k5 g5
 (try simp only[List.getElem_toArray,List.getElem_cons_succ,List.getElem_cons_zero])
 refine hK.out _ _ (bp.out _ HB.out) (fun aa=>?_);clear hK K ag;have ag:=aa;clear aa;refine TkA 16 (.slice B3 ([tc]++tw).length vf) ?_
 (try simp only[List.getElem_toArray,List.getElem_cons_succ,List.getElem_cons_zero])
 refine TkD ?_
 (try simp only[Act.put,yz])
 go_wp2_with fail
 go_ret
 exact⟨B3,vf,by first|rfl|exact congrArg (fun k:Nat=>Ending.returned (.slice B3 k vf)) (by simp),aM jf.out af.out.size,zU af.out HB.out⟩
theorem rtok_two(P Q:Option Addr)(v:Say)(vv:Val)(s:Bs)(a b:Cor)(r:Int)(A:Option Addr)(n cp:Nat)(Cn:List Value)(ah:Cn.toArray=aK ⟨6,vv,s,a,b,r⟩ A n cp)(g:List RTok)(w:World)(gb ob:Nat)(ci cj:List Value)(lev lv1 lv2:Int)(t1 t2:List RTok)(tc:RTok)(hA:A=some ⟨gb,ob,none⟩)(hn:n=2)(f8:tc=tk 5 s)(hg:g=t1++[tc]++t2)(hlt:t1.length+t2.length<=400000)(hii:(Tryz.prog.info? 34).map (·.size)=some ci.length)(hij:(Tryz.prog.info? 34).map (·.size)=some cj.length)(hR:∀ W,Below w.heap.size w W->W.rangeAt gb ob ci/\W.rangeAt gb (ob+22) cj)(hV0:∀ W,Calls Tryz.prog 86 #[.agg Cn.toArray] W fun e w'=>e=.returned (vI lev)/\Below W.heap.size W w')(hV1:∀ W,Calls Tryz.prog 86 #[.agg ci.toArray] W fun e w'=>e=.returned (vI lv1)/\Below W.heap.size W w')(hV2:∀ W,Calls Tryz.prog 86 #[.agg cj.toArray] W fun e w'=>e=.returned (vI lv2)/\Below W.heap.size W w')(hT1:∀ W,Below w.heap.size w W->Calls Tryz.prog 85 #[.agg #[.pointer P,.pointer Q,vI v.r,vI v.c],.agg ci.toArray,.bool (decide (lv1<lev))] W fun e w'=>TkO W w' e t1)(hT2:∀ W,Below w.heap.size w W->Calls Tryz.prog 85 #[.agg #[.pointer P,.pointer Q,vI v.r,vI v.c],.agg cj.toArray,.bool (decide (lv2<=lev))] W fun e w'=>TkO W w' e t2) :
  Calls Tryz.prog 36 #[.agg #[.pointer P,.pointer Q,vI v.r,vI v.c],.agg Cn.toArray] w fun e w'=>TkO w w' e g:=by
 obtain⟨W0,aj,af,L0,HL⟩:=fH P Q v Cn w;have ap:=zh (fun W (h:Below W0.heap.size W0 W)=>And.intro (cV (L0.out.next h)) (cJ (HL.out.next h) ah));have HB:Hid (Below W0.heap.size W0 W0):=zh zB;subst hA hn;have C1:=zh (fun W (h:Below W0.heap.size W0 W)=>hT1 W (zU af.out h));have C2:=zh (fun W (h:Below W0.heap.size W0 W)=>hT2 W (zU af.out h));have CV0:=zh hV0;have CV1:=zh hV1;have CV2:=zh hV2;have CK:Hid (∀ W,Calls Tryz.prog 82 #[vI 5,vT s] W fun x w'=>TkO W w' x [tc]):=zh (fun W=>by rw[f8];exact aS 5 s W);have rx:=zh hlt
 have ee:Hid (∀ W,Below W0.heap.size W0 W->W.rangeAt w.heap.size 0 [.pointer P,.pointer Q,vI v.r,vI v.c]/\W.cell? ⟨w.heap.size+1,21,none⟩=some (.slice (some ⟨gb,ob,none⟩) 2 cp)/\W.rangeAt gb ob ci/\Below W0.heap.size W0 W):=zh (fun W h=>⟨Lies.rangeN (C:=[.pointer P,.pointer Q,vI v.r,vI v.c]) (L0.out.next h),by have q:=(HL.out.next h).cell 21;rw[ah]at q;exact q,(hR W (zU af.out h)).1,h⟩);have ig:Hid (∀ W,Below W0.heap.size W0 W->W.rangeAt w.heap.size 0 [.pointer P,.pointer Q,vI v.r,vI v.c]/\W.cell? ⟨w.heap.size+1,21,none⟩=some (.slice (some ⟨gb,ob,none⟩) 2 cp)/\W.rangeAt gb (ob+22) cj/\Below W0.heap.size W0 W):=zh (fun W h=>⟨Lies.rangeN (C:=[.pointer P,.pointer Q,vI v.r,vI v.c]) (L0.out.next h),by have q:=(HL.out.next h).cell 21;rw[ah]at q;exact q,(hR W (zU af.out h)).2,h⟩)
 have HRn:Hid (∀ W,Below W0.heap.size W0 W->W.rangeAt (w.heap.size+1) 0 Cn):=zh (fun W h=>Lies.rangeN (C:=Cn) (HL.out.next h));have HI0:=zh (uEC ah);have HIi:=zh hii;have HIj:=zh hij;subst hg;clear ah hT1 hT2 hV0 hV1 hV2 f8 hlt hR hii hij
 go_in
 go_upto_region 1 with fail
 rw[<- aj.out];clear aj;obtain⟨⟨w0,w1,w2,w3⟩,e0,-,-,-,-,-,-,e7,-,-,-,-,-,-,-,-,-,-,-,-,-,e21⟩:=ap.out _ HB.out
 go_upto_region 26 with(first
  |(refine yr rfl 34 (.tmp 3) rfl (w.heap.size+1) 0 rfl Cn _ (HRn.out _ HB.out) Tryz.underlying34 rfl HI0.out ?_)
  |((with_reducible refine(CV0.out _).mono ?_);rintro e wx ⟨rfl,hb⟩;replace HB:=zT HB hb;clear hb;clear w0 w1 w2 w3 e0 e7 e21;obtain⟨⟨w0,w1,w2,w3⟩,e0,-,-,-,-,-,-,e7,-,-,-,-,-,-,-,-,-,-,-,-,-,e21⟩:=ap.out _ HB.out))
 clear w0 w1 w2 w3 e0 e7 e21
 go_cut [5] (fun v5 wx=>∃ A c,v5=.slice A t1.length c/\Hid (wx.ownsRow W0.heap.size 85 3 (.slice A t1.length c) t1.length (cN t1))/\Hid (Below W0.heap.size W0 wx))
 case first=>
  refine wp_region_held_drew (S:=fun w'=>w'.rangeAt w.heap.size 0 [.pointer P,.pointer Q,vI v.r,vI v.c]/\w'.cell? ⟨w.heap.size+1,21,none⟩=some (.slice (some ⟨gb,ob,none⟩) 2 cp)/\w'.rangeAt gb ob ci/\Below W0.heap.size W0 w') (by kernel_rfl) (ee.out _ HB.out.drew) (fun ag=>?_);replace HB:=zh HB.out.drew;refine TkC 0 (.agg #[.pointer P,.pointer Q,vI v.r,vI v.c]) rfl (yieldsIf_load_mid (by rfl) 84 (.tmp 2) rfl w.heap.size 0 rfl [.pointer P,.pointer Q,vI v.r,vI v.c] _ (fun w2 h=>h.1) Tryz.underlying84 rfl (by kernel_rfl)) ?_;refine TkA 1 (vP (w.heap.size+1) 21) ?_;refine TkB 2 (.slice (some ⟨gb,ob,none⟩) 2 cp) ?_;refine TkA 3 (vP gb ob) ?_;refine TkC 4 (.agg ci.toArray) rfl (yieldsIf_load_mid (by rfl) 34 (.tmp 125) rfl gb ob (by kernel_rfl) ci _ (fun w2 h=>h.2.2.1) Tryz.underlying34 rfl HIi.out) ?_
  refine TkA 5 (vP (w.heap.size+1) 21) ?_;refine TkB 6 (.slice (some ⟨gb,ob,none⟩) 2 cp) ?_;refine TkA 7 (vP gb ob) ?_;refine TkC 8 (.agg ci.toArray) rfl (yieldsIf_load_mid (by rfl) 34 (.tmp 129) rfl gb ob (by kernel_rfl) ci _ (fun w2 h=>h.2.2.1) Tryz.underlying34 rfl HIi.out) ?_;refine TkA 10 (vI lev) ?_;refine TkR 9 (fun K hK=>?_)
  go_simp
  go_at_call 86
  refine(CV1.out _).mono ?_;rintro x wx ⟨rfl,hb⟩;replace HB:=zT HB hb;clear hb
  go_wp2_with fail
  refine hK.out _ _ (ee.out _ HB.out) (fun aa=>?_);clear hK K ag;have ag:=aa;clear aa;refine TkA 11 (.bool (decide (lv1<lev))) ?_;refine TkR 12 (fun K hK=>?_)
  go_simp
  go_at_call 85
  refine(C1.out _ HB.out).mono ?_;rintro x wx ⟨B1,cB1,rfl,ho,hb⟩;have b7:=zh (aM ho HB.out.size);replace HB:=zT HB hb;clear ho hb
  go_wp2_with fail
  refine hK.out _ _ (ee.out _ HB.out) (fun aa=>?_);clear hK K ag;have ag:=aa;clear aa;refine TkA 13 (.slice B1 t1.length cB1) ?_
  (try simp only[List.getElem_toArray,List.getElem_cons_succ,List.getElem_cons_zero])
  refine TkD ?_
  (try simp only[Act.put,yz])
  go_wp2_with fail
  go_meet
  exact⟨B1,cB1,rfl,b7,HB⟩
 case rest=>
 obtain⟨B1,cB1,rfl,b7,bi⟩:=hcut;replace HB:=bi;clear bi C1 CV1 ee;obtain⟨⟨w0,w1,w2,w3⟩,e0,-,-,-,-,-,-,e7,-,-,-,-,-,-,-,-,-,-,-,-,-,e21⟩:=ap.out _ HB.out
 go_upto_region 28 with(first
  |((with_reducible refine(CK.out _).mono ?_);rintro e wx ⟨B2,cB2,rfl,ho,hb⟩;have ej:=zh (aM ho HB.out.size);replace b7:=zh (aD hb b7.out);clear ho;replace HB:=zT HB hb;clear hb;clear w0 w1 w2 w3 e0 e7 e21;obtain⟨⟨w0,w1,w2,w3⟩,e0,-,-,-,-,-,-,e7,-,-,-,-,-,-,-,-,-,-,-,-,-,e21⟩:=ap.out _ HB.out)
  |(at_builtin;refine aU rfl _ _ rfl W0.heap.size W0.heap.size _ _ t1 [tc] rfl b7.out rfl ej.out (by have:=rx.out;simp;omega) HB.out.size ?_;intro B3 vf w4 k4 g4;have jf:=zh k4;have hb:=aO b7.out g4 HB.out.size;clear k4 g4;replace HB:=zh (HB.out.trans hb);clear hb;clear w0 w1 w2 w3 e0 e7 e21;obtain⟨⟨w0,w1,w2,w3⟩,e0,-,-,-,-,-,-,e7,-,-,-,-,-,-,-,-,-,-,-,-,-,e21⟩:=ap.out _ HB.out))
 clear w0 w1 w2 w3 e0 e7 e21;refine wp_region_held_drew (S:=fun w'=>w'.rangeAt w.heap.size 0 [.pointer P,.pointer Q,vI v.r,vI v.c]/\w'.cell? ⟨w.heap.size+1,21,none⟩=some (.slice (some ⟨gb,ob,none⟩) 2 cp)/\w'.rangeAt gb (ob+22) cj/\Below W0.heap.size W0 w') (by kernel_rfl) (ig.out _ HB.out.drew) (fun ag=>?_);replace jf:=zh (aD zB.drew jf.out);replace HB:=zh HB.out.drew;have e3:(t1++[tc]).length=t1.length+1:=by simp
 have jf:Hid (World.ownsRow _ W0.heap.size 85 3 (.slice B3 (t1.length+1) vf) (t1++[tc]).length (cN (t1++[tc]))):=zh (by have h:=jf.out;rw[e3]at h ⊢;exact h);clear e3;refine TkA 0 (.slice B3 (t1.length+1) vf) ?_;refine TkC 1 (.agg #[.pointer P,.pointer Q,vI v.r,vI v.c]) rfl (yieldsIf_load_mid (by rfl) 84 (.tmp 2) rfl w.heap.size 0 rfl [.pointer P,.pointer Q,vI v.r,vI v.c] _ (fun w2 h=>h.1) Tryz.underlying84 rfl (by kernel_rfl)) ?_;refine TkA 2 (vP (w.heap.size+1) 21) ?_;refine TkB 3 (.slice (some ⟨gb,ob,none⟩) 2 cp) ?_;refine TkA 4 (vP gb (ob+22)) ?_;refine TkC 5 (.agg cj.toArray) rfl (yieldsIf_load_mid (by rfl) 34 (.tmp 144) rfl gb (ob+22) (by kernel_rfl) cj _ (fun w2 h=>h.2.2.1) Tryz.underlying34 rfl HIj.out) ?_;refine TkA 6 (vP (w.heap.size+1) 21) ?_;refine TkB 7 (.slice (some ⟨gb,ob,none⟩) 2 cp) ?_
 refine TkA 8 (vP gb (ob+22)) ?_;refine TkC 9 (.agg cj.toArray) rfl (yieldsIf_load_mid (by rfl) 34 (.tmp 148) rfl gb (ob+22) (by kernel_rfl) cj _ (fun w2 h=>h.2.2.1) Tryz.underlying34 rfl HIj.out) ?_;refine TkA 11 (vI lev) ?_;refine TkR 10 (fun K hK=>?_)
 go_simp
 go_at_call 86
 refine(CV2.out _).mono ?_;rintro x wx ⟨rfl,hb⟩;replace jf:=zh (aD hb jf.out);replace HB:=zT HB hb;clear hb
 go_wp2_with fail
 refine hK.out _ _ (ig.out _ HB.out) (fun aa=>?_);clear hK K ag;have ag:=aa;clear aa;refine TkA 12 (.bool (decide (lv2<=lev))) ?_;refine TkR 13 (fun K hK=>?_)
 go_simp
 go_at_call 85
 refine(C2.out _ HB.out).mono ?_;rintro x wx ⟨B4,cB4,rfl,ho,hb⟩;have jh:=zh (aM ho HB.out.size);replace jf:=zh (aD hb jf.out);replace HB:=zT HB hb;clear ho hb
 go_wp2_with fail
 refine hK.out _ _ (ig.out _ HB.out) (fun aa=>?_);clear hK K ag;have ag:=aa;clear aa;refine TkR 14 (fun K hK=>?_);refine dJ rfl _ _ rfl W0.heap.size W0.heap.size _ _ (t1++[tc]) t2 rfl jf.out rfl jh.out (by have:=rx.out;simp only[yl,yi,List.length_nil];omega) HB.out.size ?_;intro B5 cB5 w5 k5 g5;have dg:=zh k5;replace HB:=zh (HB.out.trans (aO jf.out g5 HB.out.size));clear k5 g5
 (try simp only[List.getElem_toArray,List.getElem_cons_succ,List.getElem_cons_zero])
 refine hK.out _ _ (ig.out _ HB.out) (fun aa=>?_);clear hK K ag;have ag:=aa;clear aa;refine TkA 15 (.slice B5 (t1++[tc]++t2).length cB5) ?_
 (try simp only[List.getElem_toArray,List.getElem_cons_succ,List.getElem_cons_zero])
 refine TkD ?_
 (try simp only[Act.put,yz])
 go_wp2_with fail
 go_ret
 exact⟨B5,cB5,by first|rfl|exact congrArg (fun k:Nat=>Ending.returned (.slice B5 k cB5)) (by simp),aM dg.out af.out.size,zU af.out HB.out⟩
theorem rtok_mat(P Q:Option Addr)(v:Say)(vv:Val)(s:Bs)(a b:Cor)(r:Int)(A:Option Addr)(n cp:Nat)(Cn:List Value)(ah:Cn.toArray=aK ⟨8,vv,s,a,b,r⟩ A n cp)(g:List RTok)(w:World)(gb ob rr cc:Nat)(TS:List (List RTok))(hA:A=some ⟨gb,ob,none⟩)(hr:r=(rr:Int))(hn:n=rr*cc)(h1:1<=rr)(h2:1<=cc)(hc:rr*cc<=cp)(wj:rr*cc<=100000)(hg:g=cT cc TS rr++[tk 5 [125]])(hl:∀ i,i<=rr->(cT cc TS i).length<=400000)(hLs:∀ i,i<rr->∀ W,Below w.heap.size w W->Calls Tryz.prog 84 #[.agg #[.pointer P,.pointer Q,vI v.r,vI v.c],.slice (some ⟨gb,ob+i*cc*22,none⟩) cc (cp-i*cc),vS #[44]] W fun e w'=>TkO W w' e (bG ((TS.drop (i*cc)).take cc))) :
  Calls Tryz.prog 36 #[.agg #[.pointer P,.pointer Q,vI v.r,vI v.c],.agg Cn.toArray] w fun e w'=>TkO w w' e g:=by
 obtain⟨W0,aj,af,L0,HL⟩:=fH P Q v Cn w;have ap:=zh (fun W (h:Below W0.heap.size W0 W)=>And.intro (cV (L0.out.next h)) (cJ (HL.out.next h) ah));have HB:Hid (Below W0.heap.size W0 W0):=zh zB;subst hA hr hn;have CL:=zh (fun i (hi:i<rr) W (h:Below W0.heap.size W0 W)=>hLs i hi W (zU af.out h));obtain⟨x,hx⟩:∃ t,t=tk 5 [123]:=⟨_,rfl⟩
 obtain⟨y,hy⟩:∃ t,t=tk 5 [59]:=⟨_,rfl⟩
 obtain⟨z,hz⟩:∃ t,t=tk 5 [125]:=⟨_,rfl⟩
 have CX:Hid (∀ W,Calls Tryz.prog 82 #[vI 5,vS #[123]] W fun x' w'=>TkO W w' x' [x]):=zh (fun W=>by rw[hx];exact aS 5 [123] W);have CY:Hid (∀ W,Calls Tryz.prog 82 #[vI 5,vS #[59]] W fun x' w'=>TkO W w' x' [y]):=zh (fun W=>by rw[hy];exact aS 5 [59] W);have CZ:Hid (∀ W,Calls Tryz.prog 82 #[vI 5,vS #[125]] W fun x' w'=>TkO W w' x' [z]):=zh (fun W=>by rw[hz];exact aS 5 [125] W);obtain⟨acc,ww⟩:∃ f:Nat->List RTok,∀ i,f i=if i=0 then [x] else cT cc TS i:=⟨fun i=>if i=0 then [x] else cT cc TS i,fun _=>rfl⟩
 have oh:Hid (∀ i,acc (i+1)=(if i=0 then acc i else acc i++[y])++bG ((TS.drop (i*cc)).take cc)):=zh (fun i=>by
  rw[ww,ww,if_neg (by omega),cT];by_cases h0:i=0
  ·rw[if_pos h0,if_pos h0,if_pos h0,h0,hx];rfl
  rw[if_neg h0,if_neg h0,if_neg h0,hy];simp)
 have lp:Hid (acc 0=[x]):=zh (by rw[ww,if_pos rfl]);have HAn:Hid (g=acc rr++[z]):=zh (by rw[hg,ww,if_neg (by omega),hz]);have HAl:Hid (∀ i,i<=rr->(acc i).length<=400001):=zh (fun i hi=>by
  rw[ww]
  split
  ·simp
  have:=hl i hi;omega)
 obtain⟨N,hN⟩:=zD (rr*cc)
 rw[<- hN]at ah;have HN:=zh hN;have ug:cc<=N:=by rw[hN];exact Nat.le_mul_of_pos_left cc h1
 have hrN:rr<=N:=by rw[hN];exact Nat.le_mul_of_pos_right rr h2
 have hNb:N<=100000:=by rw[hN];exact wj
 have la:N<=cp:=by rw[hN];exact hc
 have hq:(N:Int).tdiv (rr:Int)=(cc:Int):=by
  rw[hN,Int.natCast_mul];exact Int.mul_tdiv_cancel_left (cc:Int) (by omega)
 have fq:((rr:Int)==0)=false:=by rw[beq_eq_false_iff_ne];omega
 have HR:=zh (And.intro h1 (And.intro h2 (And.intro ug (And.intro hrN (And.intro hNb la)))));have zt:(rr:Int)<=100000:=by omega
 have hcwi:(cc:Int)<=100000:=by omega
 have fh:(1:Int)<=(rr:Int):=by omega
 have bp:Hid (∀ W,Below W0.heap.size W0 W->W.rangeAt w.heap.size 0 [.pointer P,.pointer Q,vI v.r,vI v.c]/\W.cell? ⟨w.heap.size+1,21,none⟩=some (.slice (some ⟨gb,ob,none⟩) N cp)/\Below W0.heap.size W0 W):=zh (fun W h=>⟨Lies.rangeN (C:=[.pointer P,.pointer Q,vI v.r,vI v.c]) (L0.out.next h),by have q:=(HL.out.next h).cell 21;rw[ah]at q;exact q,h⟩);clear ah hLs hx hy hz ww hg hl hN h1 h2 hc wj ug hrN hNb la
 go_in
 go_upto_region 1 with fail
 rw[<- aj.out];clear aj;rw[<- HN.out]at ap;obtain⟨⟨w0,w1,w2,w3⟩,e0,-,-,-,-,-,-,-,-,-,-,-,-,-,-,-,-,-,-,-,e20,e21⟩:=ap.out _ HB.out
 go_upto_region 34 with(first
  |((with_reducible refine(CX.out _).mono ?_);rintro e wx ⟨B0,cB0,rfl,ho,hb⟩;have HO0:=zh (aM ho HB.out.size);clear ho;replace HB:=zT HB hb;clear hb;clear w0 w1 w2 w3 e0 e20 e21;obtain⟨⟨w0,w1,w2,w3⟩,e0,-,-,-,-,-,-,-,-,-,-,-,-,-,-,-,-,-,-,-,e20,e21⟩:=ap.out _ HB.out))
 clear hq fq
 go_wp2_with fail
 clear w0 w1 w2 w3 e0 e20 e21
 go_loopw [5,11] (fun v5 v11 wr=>∃ i:Nat,i<=rr/\v11=vI (i:Int)/\Hid (wr.ownsRow W0.heap.size 85 3 v5 (acc i).length (cN (acc i)))/\Hid (Below W0.heap.size W0 wr)) (fun _ v11 _=>rr-(intOf v11).toNat)
 case atStart=>exact⟨0,zm _,rfl,zh (by rw[lp.out];exact HO0.out),HB⟩
 case round=>
  clear HO0 HB lp;obtain⟨i,hi,rfl,hO,hB⟩:=hrel;obtain⟨⟨w0,w1,w2,w3⟩,e0,-,-,-,-,-,-,-,-,-,-,-,-,-,-,-,-,-,-,-,e20,e21⟩:=ap.out _ hB.out;by_cases hlt:i<rr
  ·have hlti:(i:Int)<(rr:Int):=by omega
   obtain⟨q1,q2,q3,q4,q5,q6⟩:=HR.out;have ab:i*cc+cc<=N:=by
    have:=Nat.mul_le_mul_right cc (by omega:i+1<=rr);rw[Nat.succ_mul,<- HN.out]at this;exact this
   obtain⟨a',ha⟩:∃ a,a=i*cc:=⟨_,rfl⟩
   rw[<- ha]at ab;obtain⟨b',hb⟩:∃ b,b=a'+cc:=⟨_,rfl⟩
   have vr:IntKind.i64.wrap ((i:Int)*(cc:Int))=(a':Int):=by
    rw[ha,<- Int.natCast_mul];exact IntWalk.i64_in _ (by rw[<- ha];omega)
   have hw2:IntKind.i64.wrap ((a':Int)+(cc:Int))=(b':Int):=by
    rw[IntWalk.i64_in _ (by omega)];omega
   have ed:=lJ (g:=gb) (o:=ob) (N:=N) (c:=cp) (a:=a') (b:=b') (by omega) (by omega) q6;have CN:=zh (CL.out i hlt);rw[<- ha]at CN;rw[show b'-a'=cc by omega]at ed;have HE:=zh (oh.out i);rw[<- ha]at HE;have cr:=zh (HAl.out i hi);have nj:=zh (HAl.out (i+1) (by omega));generalize bG ((TS.drop a').take cc)=tt at *;generalize jy:acc i=ac0 at *;clear q1 q2 q3 q4 q5 q6 ab ha hb jy;obtain⟨A1,ly,rfl⟩:=aV hO.out
   go_upto_if 176 with fail
   clear w0 w1 w2 w3 e0 e20 e21
   go_cut [5] (fun v5 wx=>∃ A ac c,v5=.slice A ac.length c/\Hid (wx.ownsRow W0.heap.size 85 3 (.slice A ac.length c) ac.length (cN ac))/\Hid (Below W0.heap.size W0 wx)/\Hid (acc (i+1)=ac++tt)/\Hid (ac.length<=400002))
   case first=>
    by_cases gy:i=0
    ·have uf:(i:Int)<=0:=by omega
     have HQ:Hid (acc (i+1)=ac0++tt):=zh (by rw[HE.out,if_pos gy]);clear gy
     go_wp2_with fail
     go_meet
     exact⟨A1,ac0,ly,rfl,hO,hB,HQ,zh (by have:=cr.out;omega)⟩
    have uf:(0:Int)<(i:Int):=by omega
    have HQ:Hid (acc (i+1)=(ac0++[y])++tt):=zh (by rw[HE.out,if_neg gy]);clear gy
    go_wp2_with (first
     |((with_reducible refine(CY.out _).mono ?_);rintro e wx ⟨A2,ot,rfl,ho,hb⟩;have ej:=zh (aM ho hB.out.size);replace hO:=zh (aD hb hO.out);clear ho;replace hB:=zT hB hb;clear hb)
     |(at_builtin;refine aU rfl _ _ rfl W0.heap.size W0.heap.size _ _ ac0 [y] rfl hO.out rfl ej.out (by have:=cr.out;simp;omega) hB.out.size ?_;intro A4 ql w4 k4 g4;have jh:=zh k4;have hb:=aO hO.out g4 hB.out.size;clear k4 g4;replace hB:=zh (hB.out.trans hb);clear hb))
    go_meet
    exact⟨A4,ac0++[y],ql,congrArg (fun k=>Value.slice A4 k ql) (by simp),jh,hB,HQ,zh (by have:=cr.out;simp;omega)⟩
   case rest=>
   obtain⟨A4,ac,ql,rfl,jh,HB,ig,iq⟩:=hcut;have HTl:Hid (ac.length+tt.length<=400001):=zh (by have:=nj.out;rw[ig.out,yl]at this;exact this);clear hO hB HE cr nj CX CY CZ oh HAn HAl ap HR HL L0
   go_upto_region 39 with fail
   refine wp_region_held_drew (S:=fun w'=>w'.rangeAt w.heap.size 0 [.pointer P,.pointer Q,vI v.r,vI v.c]/\w'.cell? ⟨w.heap.size+1,21,none⟩=some (.slice (some ⟨gb,ob,none⟩) N cp)/\Below W0.heap.size W0 w') (by kernel_rfl) (bp.out _ HB.out.drew) (fun ag=>?_);replace jh:=zh (aD zB.drew jh.out);replace HB:=zh HB.out.drew;refine TkA 0 (.slice A4 ac.length ql) ?_;refine TkC 1 (.agg #[.pointer P,.pointer Q,vI v.r,vI v.c]) rfl (yieldsIf_load_mid (by rfl) 84 (.tmp 2) rfl w.heap.size 0 rfl [.pointer P,.pointer Q,vI v.r,vI v.c] _ (fun w2 h=>h.1) Tryz.underlying84 rfl (by kernel_rfl)) ?_;refine TkA 2 (vP (w.heap.size+1) 21) ?_;refine TkB 3 (.slice (some ⟨gb,ob,none⟩) N cp) ?_;refine TkA 4 (vI (i:Int)) ?_;refine TkA 5 (vI (cc:Int)) ?_
   refine TkC 6 (vI (a':Int)) rfl (Or.inl ⟨by rfl,fun w2 hS=>by simp[execOp,go_sem,vr]⟩) ?_;refine TkA 7 (vI (i:Int)) ?_;refine TkA 8 (vI (cc:Int)) ?_;refine TkC 9 (vI (a':Int)) rfl (Or.inl ⟨by rfl,fun w2 hS=>by simp[execOp,go_sem,vr]⟩) ?_;refine TkA 10 (vI (cc:Int)) ?_;refine TkC 11 (vI (b':Int)) rfl (Or.inl ⟨by rfl,fun w2 hS=>by simp[execOp,go_sem,hw2]⟩) ?_;refine TkC 12 (.slice (some ⟨gb,ob+a'*22,none⟩) cc (cp-a')) rfl (Or.inl ⟨by rfl,fun w2 hS=>by simp[execOp,go_sem,ed]⟩) ?_;refine TkR 13 (fun K hK=>?_)
   go_simp
   go_at_call 84
   refine(CN.out _ HB.out).mono ?_;rintro x wx ⟨B5,cB5,rfl,ho,hb⟩;have dg:=zh (aM ho HB.out.size);replace jh:=zh (aD hb jh.out);replace HB:=zT HB hb;clear ho hb
   go_wp2_with fail
   refine hK.out _ _ (bp.out _ HB.out) (fun aa=>?_);clear hK K ag;have ag:=aa;clear aa;refine TkR 14 (fun K hK=>?_);refine dJ rfl _ _ rfl W0.heap.size W0.heap.size _ _ ac tt rfl jh.out rfl dg.out (by have:=HTl.out;omega) HB.out.size ?_;intro B6 cB6 w5 k5 g5;have fg:=zh k5;replace HB:=zh (HB.out.trans (aO jh.out g5 HB.out.size));clear k5 g5
   (try simp only[List.getElem_toArray,List.getElem_cons_succ,List.getElem_cons_zero])
   refine hK.out _ _ (bp.out _ HB.out) (fun aa=>?_);clear hK K ag;have ag:=aa;clear aa;refine TkA 15 (.slice B6 (ac++tt).length cB6) ?_
   (try simp only[List.getElem_toArray,List.getElem_cons_succ,List.getElem_cons_zero])
   refine TkD ?_
   (try simp only[Act.put,yz])
   go_wp2_with fail
   go_roundw
   case rel=>exact⟨i+1,by omega,by go_num,zh (by rw[ig.out];first|exact fg.out |(have h:=fg.out;simp only[yl]at h ⊢;exact h)),HB⟩
   case measure=>first |(simp[intOf];done) |(simp[intOf];omega)
  obtain rfl:i=rr:=by omega
  have cr:=zh (HAl.out i zr);obtain⟨A1,ly,rfl⟩:=aV hO.out;generalize acc i=ac0 at *
  go_wp2_with (first
   |((with_reducible refine(CZ.out _).mono ?_);rintro e wx ⟨A2,ot,rfl,ho,hb⟩;have ej:=zh (aM ho hB.out.size);replace hO:=zh (aD hb hO.out);clear ho;replace hB:=zT hB hb;clear hb w0 w1 w2 w3 e0 e20 e21)
   |(at_builtin;refine aU rfl _ _ rfl W0.heap.size W0.heap.size _ _ ac0 [z] rfl hO.out rfl ej.out (by have:=cr.out;simp;omega) hB.out.size ?_;intro A4 ql w4 k4 g4;have jh:=zh k4;have hb:=aO hO.out g4 hB.out.size;clear k4 g4;replace hB:=zh (hB.out.trans hb);clear hb))
  go_ret
  rw[HAn.out];exact⟨A4,ql,by first|rfl|exact congrArg (fun k:Nat=>Ending.returned (.slice A4 k ql)) (by simp),aM jh.out af.out.size,zU af.out hB.out⟩
end Go.Proofs.YtjfihpaeglpblaaGreatDoor
