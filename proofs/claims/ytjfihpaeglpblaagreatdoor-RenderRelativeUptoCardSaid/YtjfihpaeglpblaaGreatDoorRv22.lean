/-
  Lemmas, part 22: Wr8 Wr3.
-/
import Derived.Test.YtjfihpaeglpblaaGreatDoorRv21
set_option maxHeartbeats 100000000
set_option maxRecDepth 1000000
namespace Go.Proofs.YtjfihpaeglpblaaGreatDoor
open Go.RowKit
theorem dL{p m:Nat}{rp cp:Option Nat}{R C:AxV}{sf:Value}{ts:List RTok}{k:Int}{vv:Val}{s:Bs}{a b:Cor}{r:Int}{A:Option Addr}{n ca:Nat}{Cn:List Value}{w:World}(hw:WrS w p m rp cp R C sf ts)(ah:Hid (Cn.toArray=aK ⟨k,vv,s,a,b,r⟩ A n ca)):∃ W0,Hid (W0=w.alloc (.cells Cn.toArray 34))/\Hid (Kw p (rp.toList++cp.toList) w W0)/\Hid (Lies W0 w.heap.size 34 Cn.toArray)/\Hid (∀ W,Lies W w.heap.size 34 Cn.toArray->NdC W w.heap.size k vv s a b r A n ca)/\Hid (WrS W0 p m rp cp R C sf ts)/\Hid ((Tryz.prog.info? 34).map (·.size)=some Cn.length):=by
 obtain⟨W0,ak⟩:=zD (w.alloc (.cells Cn.toArray 34))
 have af:Below w.heap.size w W0:=by rw[ak];exact(Below.refl _ w).alloc zr _
 exact⟨W0,zh ak,zh (Kw.of_below af),zh (by rw[ak];exact Lies.new w _ _),zh (fun W hl=>cJ hl ah.out),zh (hw.next af),zh (dE (mF ah.out))⟩
theorem uHE{p m:Nat}{rp cp:Option Nat}{R C:AxV}{sf:Value}{ts:List RTok}(vv:Val)(s:Bs)(a b:Cor)(r:Int)(A:Option Addr)(n ca:Nat)(Cn:List Value)(g:List RTok)(w:World)(ah:Hid (Cn.toArray=aK ⟨0,vv,s,a,b,r⟩ A n ca))(hw:WrS w p m rp cp R C sf ts)(hT:∀ W,WrS W p m rp cp R C sf ts->Calls Tryz.prog 132 #[vP p 0,.agg #[vI vv.kind,vI vv.mant,vI vv.exp,vT vv.text,.bool vv.truth,vI vv.fault]] W fun e w'=>WrO p m rp cp R C sf (ts++g) W e w') :
  Calls Tryz.prog 74 #[vP p 0,.agg Cn.toArray] w fun e w'=>WrO p m rp cp R C sf (ts++g) w e w':=by
 obtain⟨W0,aj,HK,HL,HC,HS,bg⟩:=dL hw ah;have CT:=zh hT;clear hT;clear hw ah
 go_in
 go_upto_region 1 with fail
 rw[<- aj.out];clear aj;obtain⟨c0,c1,c2,c3,c4,c5,c6,-⟩:=HC.out _ HL.out
 go_wp2_with (first
  |((first
  |((with_reducible refine(CT.out _ HS.out).mono ?_);rintro e wx ⟨rfl,hs,hk⟩));replace HL:=zh (Kw.lies hk HS.out HL.out (by decide) (by decide) (by decide));replace HS:=zh hs;replace HK:=zh (HK.out.trans hk);clear hs hk c0 c1 c2 c3 c4 c5 c6;obtain⟨c0,c1,c2,c3,c4,c5,c6,-⟩:=HC.out _ HL.out))
 go_end0
 exact⟨rfl,HS.out,HK.out⟩
theorem uDF{p m:Nat}{rp cp:Option Nat}{R C:AxV}{sf:Value}{ts:List RTok}(vv:Val)(s:Bs)(a b:Cor)(r:Int)(A:Option Addr)(n ca:Nat)(Cn:List Value)(g:List RTok)(w:World)(ah:Hid (Cn.toArray=aK ⟨7,vv,s,a,b,r⟩ A n ca))(hw:WrS w p m rp cp R C sf ts)(hg:g=[tk 3 s])(hn:ts.length<=700000) :
  Calls Tryz.prog 74 #[vP p 0,.agg Cn.toArray] w fun e w'=>WrO p m rp cp R C sf (ts++g) w e w':=by
 obtain⟨W0,aj,HK,HL,HC,HS,bg⟩:=dL hw ah;obtain⟨t1,l9⟩:∃ x,x=tk 3 s:=⟨_,rfl⟩
 have C1:=zh (cB (p:=p) (m:=m) (rp:=rp) (cp:=cp) (R:=R) (C:=C) (sf:=sf) 3 s s.toArray rfl t1 l9);rw[<- l9]at hg;subst hg;have ja:=zh hn;clear l9 hn;clear hw ah
 go_in
 go_upto_region 1 with fail
 rw[<- aj.out];clear aj;obtain⟨c0,-,-,-,-,-,-,c7,-⟩:=HC.out _ HL.out
 go_wp2_with (first
  |((first
  |((with_reducible refine(C1.out _ _ HS.out (by have:=ja.out;(try simp only[yl,yi,List.length_nil]);omega)).mono ?_);rintro e wx ⟨rfl,hs,hk⟩));replace HL:=zh (Kw.lies hk HS.out HL.out (by decide) (by decide) (by decide));replace HS:=zh hs;replace HK:=zh (HK.out.trans hk);clear hs hk c0 c7;obtain⟨c0,-,-,-,-,-,-,c7,-⟩:=HC.out _ HL.out))
 go_end0
 exact⟨rfl,HS.out,HK.out⟩
theorem uHF{p m:Nat}{rp cp:Option Nat}{R C:AxV}{sf:Value}{ts:List RTok}(vv:Val)(s:Bs)(a b:Cor)(r:Int)(A:Option Addr)(n ca:Nat)(Cn:List Value)(g:List RTok)(w:World)(ah:Hid (Cn.toArray=aK ⟨8,vv,s,a,b,r⟩ A n ca))(hw:WrS w p m rp cp R C sf ts)(hT:∀ W,WrS W p m rp cp R C sf ts->Kw p (rp.toList++cp.toList) w W->Calls Tryz.prog 137 #[vP p 0,.agg Cn.toArray] W fun e w'=>WrO p m rp cp R C sf (ts++g) W e w') :
  Calls Tryz.prog 74 #[vP p 0,.agg Cn.toArray] w fun e w'=>WrO p m rp cp R C sf (ts++g) w e w':=by
 obtain⟨W0,aj,HK,HL,HC,HS,bg⟩:=dL hw ah;have CT:=zh hT;clear hT;clear hw ah
 go_in
 go_upto_region 1 with fail
 rw[<- aj.out];clear aj;obtain⟨c0,-⟩:=HC.out _ HL.out
 go_wp2_with (first
  |(refine yr rfl 34 (.tmp 3) rfl w.heap.size 0 rfl Cn _ HL.out.rangeM Tryz.underlying34 rfl bg.out ?_)
  |((first
  |((with_reducible refine(CT.out _ HS.out HK.out).mono ?_);rintro e wx ⟨rfl,hs,hk⟩));replace HL:=zh (Kw.lies hk HS.out HL.out (by decide) (by decide) (by decide));replace HS:=zh hs;replace HK:=zh (HK.out.trans hk);clear hs hk c0;obtain⟨c0,-⟩:=HC.out _ HL.out))
 go_end0
 exact⟨rfl,HS.out,HK.out⟩
theorem uHG{p m:Nat}{rp cp:Option Nat}{R C:AxV}{sf:Value}{ts:List RTok}(vv:Val)(s:Bs)(a b:Cor)(r:Int)(A:Option Addr)(n ca:Nat)(Cn:List Value)(g:List RTok)(w:World)(ah:Hid (Cn.toArray=aK ⟨1,vv,s,a,b,r⟩ A n ca))(hw:WrS w p m rp cp R C sf ts)(hT:∀ W,WrS W p m rp cp R C sf ts->Kw p (rp.toList++cp.toList) w W->Calls Tryz.prog 138 #[vP p 0,.agg Cn.toArray] W fun e w'=>WrO p m rp cp R C sf (ts++g) W e w') :
  Calls Tryz.prog 74 #[vP p 0,.agg Cn.toArray] w fun e w'=>WrO p m rp cp R C sf (ts++g) w e w':=by
 obtain⟨W0,aj,HK,HL,HC,HS,bg⟩:=dL hw ah;have CT:=zh hT;clear hT;clear hw ah
 go_in
 go_upto_region 1 with fail
 rw[<- aj.out];clear aj;obtain⟨c0,-⟩:=HC.out _ HL.out
 go_wp2_with (first
  |(refine yr rfl 34 (.tmp 3) rfl w.heap.size 0 rfl Cn _ HL.out.rangeM Tryz.underlying34 rfl bg.out ?_)
  |((first
  |((with_reducible refine(CT.out _ HS.out HK.out).mono ?_);rintro e wx ⟨rfl,hs,hk⟩));replace HL:=zh (Kw.lies hk HS.out HL.out (by decide) (by decide) (by decide));replace HS:=zh hs;replace HK:=zh (HK.out.trans hk);clear hs hk c0;obtain⟨c0,-⟩:=HC.out _ HL.out))
 go_end0
 exact⟨rfl,HS.out,HK.out⟩
theorem zZ{p m:Nat}{rp cp:Option Nat}{R C:AxV}{sf:Value}{ts:List RTok}(vv:Val)(s:Bs)(a b:Cor)(r:Int)(A:Option Addr)(n ca:Nat)(Cn:List Value)(g:List RTok)(w:World)(ah:Hid (Cn.toArray=aK ⟨3,vv,s,a,b,r⟩ A n ca))(hw:WrS w p m rp cp R C sf ts)(hT:∀ W,WrS W p m rp cp R C sf ts->Kw p (rp.toList++cp.toList) w W->Calls Tryz.prog 138 #[vP p 0,.agg Cn.toArray] W fun e w'=>WrO p m rp cp R C sf (ts++g) W e w') :
  Calls Tryz.prog 74 #[vP p 0,.agg Cn.toArray] w fun e w'=>WrO p m rp cp R C sf (ts++g) w e w':=by
 obtain⟨W0,aj,HK,HL,HC,HS,bg⟩:=dL hw ah;have CT:=zh hT;clear hT;clear hw ah
 go_in
 go_upto_region 1 with fail
 rw[<- aj.out];clear aj;obtain⟨c0,-⟩:=HC.out _ HL.out
 go_wp2_with (first
  |(refine yr rfl 34 (.tmp 3) rfl w.heap.size 0 rfl Cn _ HL.out.rangeM Tryz.underlying34 rfl bg.out ?_)
  |((first
  |((with_reducible refine(CT.out _ HS.out HK.out).mono ?_);rintro e wx ⟨rfl,hs,hk⟩));replace HL:=zh (Kw.lies hk HS.out HL.out (by decide) (by decide) (by decide));replace HS:=zh hs;replace HK:=zh (HK.out.trans hk);clear hs hk c0;obtain⟨c0,-⟩:=HC.out _ HL.out))
 go_end0
 exact⟨rfl,HS.out,HK.out⟩
theorem uDD{p m:Nat}{rp cp:Option Nat}{R C:AxV}{sf:Value}{ts:List RTok}(vv:Val)(s:Bs)(a b:Cor)(r:Int)(A:Option Addr)(n ca:Nat)(Cn:List Value)(g:List RTok)(w:World)(ah:Hid (Cn.toArray=aK ⟨2,vv,s,a,b,r⟩ A n ca))(hw:WrS w p m rp cp R C sf ts)(hT:∀ W,WrS W p m rp cp R C sf ts->Kw p (rp.toList++cp.toList) w W->Calls Tryz.prog 139 #[vP p 0,.agg #[vI a.row.a,vI a.row.n,vI a.col.a,vI a.col.n,.bool a.fr,.bool a.fc,vI b.row.a,vI b.row.n,vI b.col.a,vI b.col.n,.bool b.fr,.bool b.fc]] W fun e w'=>WrO p m rp cp R C sf (ts++g) W e w') :
  Calls Tryz.prog 74 #[vP p 0,.agg Cn.toArray] w fun e w'=>WrO p m rp cp R C sf (ts++g) w e w':=by
 obtain⟨W0,aj,HK,HL,HC,HS,bg⟩:=dL hw ah;have CT:=zh hT;clear hT;clear hw ah
 go_in
 go_upto_region 1 with fail
 rw[<- aj.out];clear aj;obtain⟨c0,-,-,-,-,-,-,-,c8,c9,lc,ld,lf,c13,lg,lh,c16,c17,c18,c19,-⟩:=HC.out _ HL.out
 go_wp2_with (first
  |((first
  |((with_reducible refine(CT.out _ HS.out HK.out).mono ?_);rintro e wx ⟨rfl,hs,hk⟩));replace HL:=zh (Kw.lies hk HS.out HL.out (by decide) (by decide) (by decide));replace HS:=zh hs;replace HK:=zh (HK.out.trans hk);clear hs hk c0 c8 c9 lc ld lf c13 lg lh c16 c17 c18 c19;obtain⟨c0,-,-,-,-,-,-,-,c8,c9,lc,ld,lf,c13,lg,lh,c16,c17,c18,c19,-⟩:=HC.out _ HL.out))
 go_end0
 exact⟨rfl,HS.out,HK.out⟩
theorem uDG{p m:Nat}{rp cp:Option Nat}{R C:AxV}{sf:Value}{ts:List RTok}(vv:Val)(s:Bs)(a b:Cor)(r:Int)(A:Option Addr)(n ca:Nat)(Cn:List Value)(g:List RTok)(w:World)(ah:Hid (Cn.toArray=aK ⟨9,vv,s,a,b,r⟩ A n ca))(hw:WrS w p m rp cp R C sf ts)(hg:g=[]) :
  Calls Tryz.prog 74 #[vP p 0,.agg Cn.toArray] w fun e w'=>WrO p m rp cp R C sf (ts++g) w e w':=by
 obtain⟨W0,aj,HK,HL,HC,HS,bg⟩:=dL hw ah;have HG:=zh hg;clear hg;clear hw ah
 go_in
 go_upto_region 1 with fail
 rw[<- aj.out];clear aj;obtain⟨c0,-⟩:=HC.out _ HL.out
 go_wp2_with fail
 go_end0
 exact⟨rfl,by rw[HG.out,List.append_nil];exact HS.out,HK.out⟩
theorem uDE{p m:Nat}{rp cp:Option Nat}{R C:AxV}{sf:Value}{ts:List RTok}(vv:Val)(s:Bs)(a b:Cor)(r:Int)(A:Option Addr)(n ca:Nat)(Cn:List Value)(g:List RTok)(w:World)(ah:Hid (Cn.toArray=aK ⟨4,vv,s,a,b,r⟩ A n ca))(hw:WrS w p m rp cp R C sf ts)(lt:List RTok)(hg:g=[tk 3 s,tk 5 [40]]++lt++[tk 5 [41]])(hn:ts.length+g.length<=700000)(hT:∀ W ts',WrS W p m rp cp R C sf ts'->Kw p (rp.toList++cp.toList) w W->ts'.length<=ts.length+2->Calls Tryz.prog 136 #[vP p 0,.slice A n ca] W fun e w'=>WrO p m rp cp R C sf (ts'++lt) W e w') :
  Calls Tryz.prog 74 #[vP p 0,.agg Cn.toArray] w fun e w'=>WrO p m rp cp R C sf (ts++g) w e w':=by
 obtain⟨W0,aj,HK,HL,HC,HS,bg⟩:=dL hw ah;obtain⟨t1,l9⟩:∃ x,x=tk 3 s:=⟨_,rfl⟩
 have C1:=zh (cB (p:=p) (m:=m) (rp:=rp) (cp:=cp) (R:=R) (C:=C) (sf:=sf) 3 s s.toArray rfl t1 l9);obtain⟨t2,oy⟩:∃ x,x=tk 5 [40]:=⟨_,rfl⟩
 have C2:=zh (cB (p:=p) (m:=m) (rp:=rp) (cp:=cp) (R:=R) (C:=C) (sf:=sf) 5 [40] #[40] rfl t2 oy);obtain⟨t3,ht3⟩:∃ x,x=tk 5 [41]:=⟨_,rfl⟩
 have C3:=zh (cB (p:=p) (m:=m) (rp:=rp) (cp:=cp) (R:=R) (C:=C) (sf:=sf) 5 [41] #[41] rfl t3 ht3);rw[<- l9,<- oy,<- ht3]at hg;have HG:Hid (ts++g=ts++[t1]++[t2]++lt++[t3]):=zh (by rw[hg];simp);have ja:Hid (ts.length+lt.length+3<=700000):=zh (by rw[hg]at hn;simp at hn;omega);have CT:=zh hT;rw[HG.out];clear l9 oy ht3 hg hn hT HG;clear hw ah
 go_in
 go_upto_region 1 with fail
 rw[<- aj.out];clear aj;obtain⟨c0,-,-,-,-,-,-,c7,-,-,-,-,-,-,-,-,-,-,-,-,-,jw⟩:=HC.out _ HL.out
 go_wp2_with (first
  |((first
  |((with_reducible refine(C1.out _ _ HS.out (by have:=ja.out;(try simp only[yl,yi,List.length_nil]);omega)).mono ?_);rintro e wx ⟨rfl,hs,hk⟩)
  |((with_reducible refine(C2.out _ _ HS.out (by have:=ja.out;(try simp only[yl,yi,List.length_nil]);omega)).mono ?_);rintro e wx ⟨rfl,hs,hk⟩)
  |((with_reducible refine(CT.out _ _ HS.out HK.out (by simp)).mono ?_);rintro e wx ⟨rfl,hs,hk⟩)
  |((with_reducible refine(C3.out _ _ HS.out (by have:=ja.out;(try simp only[yl,yi,List.length_nil]);omega)).mono ?_);rintro e wx ⟨rfl,hs,hk⟩));replace HL:=zh (Kw.lies hk HS.out HL.out (by decide) (by decide) (by decide));replace HS:=zh hs;replace HK:=zh (HK.out.trans hk);clear hs hk c0 c7 jw;obtain⟨c0,-,-,-,-,-,-,c7,-,-,-,-,-,-,-,-,-,-,-,-,-,jw⟩:=HC.out _ HL.out))
 go_end0
 exact⟨rfl,HS.out,HK.out⟩
theorem zY{p m:Nat}{rp cp:Option Nat}{R C:AxV}{sf:Value}{ts:List RTok}(vv:Val)(s:Bs)(a b:Cor)(r:Int)(A:Option Addr)(n ca:Nat)(Cn:List Value)(g:List RTok)(w:World)(ah:Hid (Cn.toArray=aK ⟨5,vv,s,a,b,r⟩ A n ca))(hw:WrS w p m rp cp R C sf ts)(gb ob:Nat)(ci:List Value)(ei:ci.length=22)(hA:A=some ⟨gb,ob,none⟩)(hs5:s=[37])(bk:n=1)(tw:List RTok)(hg:g=tw++[tk 5 [37]])(hn:ts.length+g.length<=700000)(hR:∀ W ts',WrS W p m rp cp R C sf ts'->Kw p (rp.toList++cp.toList) w W->W.rangeAt gb ob ci)(hT:∀ W ts',WrS W p m rp cp R C sf ts'->Kw p (rp.toList++cp.toList) w W->ts'.length<=ts.length->Calls Tryz.prog 134 #[vP p 0,.agg ci.toArray,vI 7] W fun e w'=>WrO p m rp cp R C sf (ts'++tw) W e w') :
  Calls Tryz.prog 74 #[vP p 0,.agg Cn.toArray] w fun e w'=>WrO p m rp cp R C sf (ts++g) w e w':=by
 obtain⟨W0,aj,HK,HL,HC,HS,bg⟩:=dL hw ah;obtain⟨t1,l9⟩:∃ x,x=tk 5 [37]:=⟨_,rfl⟩
 have C1:=zh (cB (p:=p) (m:=m) (rp:=rp) (cp:=cp) (R:=R) (C:=C) (sf:=sf) 5 [37] #[37] rfl t1 l9);rw[<- l9]at hg;have HG:Hid (ts++g=ts++tw++[t1]):=zh (by rw[hg];simp);have ja:Hid (ts.length+tw.length+1<=700000):=zh (by rw[hg]at hn;simp at hn;omega);have CT:=zh hT;have j6:=zh hR;have HIk:=zh (dE ei);rw[HG.out];subst hA bk hs5;clear l9 hg hn hT HG hR ei;clear hw ah
 go_in
 go_upto_region 1 with fail
 rw[<- aj.out];clear aj;obtain⟨c0,-,-,-,-,-,-,c7,-,-,-,-,-,-,-,-,-,-,-,-,-,jw⟩:=HC.out _ HL.out
 go_wp2_with (first
  |(refine yr rfl 34 (.tmp 45) rfl gb ob rfl ci _ (j6.out _ _ HS.out HK.out) Tryz.underlying34 rfl HIk.out ?_)
  |((first
  |((with_reducible refine(CT.out _ _ HS.out HK.out (by simp)).mono ?_);rintro e wx ⟨rfl,hs,hk⟩)
  |((with_reducible refine(C1.out _ _ HS.out (by have:=ja.out;(try simp only[yl,yi,List.length_nil]);omega)).mono ?_);rintro e wx ⟨rfl,hs,hk⟩));replace HL:=zh (Kw.lies hk HS.out HL.out (by decide) (by decide) (by decide));replace HS:=zh hs;replace HK:=zh (HK.out.trans hk);clear hs hk c0 c7 jw;obtain⟨c0,-,-,-,-,-,-,c7,-,-,-,-,-,-,-,-,-,-,-,-,-,jw⟩:=HC.out _ HL.out))
 go_end0
 exact⟨rfl,HS.out,HK.out⟩
theorem uDH{p m:Nat}{rp cp:Option Nat}{R C:AxV}{sf:Value}{ts:List RTok}(vv:Val)(s:Bs)(a b:Cor)(r:Int)(A:Option Addr)(n ca:Nat)(Cn:List Value)(g:List RTok)(w:World)(ah:Hid (Cn.toArray=aK ⟨5,vv,s,a,b,r⟩ A n ca))(hw:WrS w p m rp cp R C sf ts)(gb ob:Nat)(ci:List Value)(ei:ci.length=22)(hA:A=some ⟨gb,ob,none⟩)(hs5:(s==[37])=false)(bk:n=1)(tw:List RTok)(hg:g=tk 5 s::tw)(hn:ts.length+g.length<=700000)(hR:∀ W ts',WrS W p m rp cp R C sf ts'->Kw p (rp.toList++cp.toList) w W->W.rangeAt gb ob ci)(hT:∀ W ts',WrS W p m rp cp R C sf ts'->Kw p (rp.toList++cp.toList) w W->ts'.length<=ts.length+1->Calls Tryz.prog 134 #[vP p 0,.agg ci.toArray,vI 6] W fun e w'=>WrO p m rp cp R C sf (ts'++tw) W e w') :
  Calls Tryz.prog 74 #[vP p 0,.agg Cn.toArray] w fun e w'=>WrO p m rp cp R C sf (ts++g) w e w':=by
 obtain⟨W0,aj,HK,HL,HC,HS,bg⟩:=dL hw ah;obtain⟨t1,l9⟩:∃ x,x=tk 5 s:=⟨_,rfl⟩
 have C1:=zh (cB (p:=p) (m:=m) (rp:=rp) (cp:=cp) (R:=R) (C:=C) (sf:=sf) 5 s s.toArray rfl t1 l9);rw[<- l9]at hg;have HG:Hid (ts++g=ts++[t1]++tw):=zh (by rw[hg];simp);have ja:Hid (ts.length+tw.length+1<=700000):=zh (by rw[hg]at hn;simp at hn;omega);have CT:=zh hT;have j6:=zh hR;have HIk:=zh (dE ei);rw[HG.out];subst hA bk;clear l9 hg hn hT HG hR ei;clear hw ah
 go_in
 go_upto_region 1 with fail
 rw[<- aj.out];clear aj;obtain⟨c0,-,-,-,-,-,-,c7,-,-,-,-,-,-,-,-,-,-,-,-,-,jw⟩:=HC.out _ HL.out
 go_wp2_with (first
  |(refine yr rfl 34 (.tmp 59) rfl gb ob rfl ci _ (j6.out _ _ HS.out HK.out) Tryz.underlying34 rfl HIk.out ?_)
  |((first
  |((with_reducible refine(C1.out _ _ HS.out (by have:=ja.out;(try simp only[yl,yi,List.length_nil]);omega)).mono ?_);rintro e wx ⟨rfl,hs,hk⟩)
  |((with_reducible refine(CT.out _ _ HS.out HK.out (by simp)).mono ?_);rintro e wx ⟨rfl,hs,hk⟩));replace HL:=zh (Kw.lies hk HS.out HL.out (by decide) (by decide) (by decide));replace HS:=zh hs;replace HK:=zh (HK.out.trans hk);clear hs hk c0 c7 jw;obtain⟨c0,-,-,-,-,-,-,c7,-,-,-,-,-,-,-,-,-,-,-,-,-,jw⟩:=HC.out _ HL.out))
 go_end0
 exact⟨rfl,HS.out,HK.out⟩
theorem uHH{p m:Nat}{rp cp:Option Nat}{R C:AxV}{sf:Value}{ts:List RTok}(vv:Val)(s:Bs)(a b:Cor)(r:Int)(A:Option Addr)(n ca:Nat)(Cn:List Value)(g:List RTok)(w:World)(ah:Hid (Cn.toArray=aK ⟨6,vv,s,a,b,r⟩ A n ca))(hw:WrS w p m rp cp R C sf ts)(gb ob:Nat)(ci:List Value)(ei:ci.length=22)(hA:A=some ⟨gb,ob,none⟩)(cj:List Value)(hj22:cj.length=22)(lev:Int)(xz:0<=lev)(se:lev<=8)(vt:n=2)(t1 t2:List RTok)(hg:g=t1++tk 5 s::t2)(hn:ts.length+g.length<=700000)(hR:∀ W ts',WrS W p m rp cp R C sf ts'->Kw p (rp.toList++cp.toList) w W->W.rangeAt gb ob ci/\W.rangeAt gb (ob+22) cj)(hV:∀ W,WrS W p m rp cp R C sf ts->Calls Tryz.prog 133 #[vP p 0,.agg Cn.toArray] W fun e w'=>e=.returned (vI lev)/\Below W.heap.size W w')(hT:∀ W ts',WrS W p m rp cp R C sf ts'->Kw p (rp.toList++cp.toList) w W->ts'.length<=ts.length->Calls Tryz.prog 134 #[vP p 0,.agg ci.toArray,vI lev] W fun e w'=>WrO p m rp cp R C sf (ts'++t1) W e w')(hU:∀ W ts',WrS W p m rp cp R C sf ts'->Kw p (rp.toList++cp.toList) w W->ts'.length<=ts.length+t1.length+1->Calls Tryz.prog 134 #[vP p 0,.agg cj.toArray,vI (lev+1)] W fun e w'=>WrO p m rp cp R C sf (ts'++t2) W e w') :
  Calls Tryz.prog 74 #[vP p 0,.agg Cn.toArray] w fun e w'=>WrO p m rp cp R C sf (ts++g) w e w':=by
 obtain⟨W0,aj,HK,HL,HC,HS,bg⟩:=dL hw ah;obtain⟨y1,hy1⟩:∃ x,x=tk 5 s:=⟨_,rfl⟩
 have C1:=zh (cB (p:=p) (m:=m) (rp:=rp) (cp:=cp) (R:=R) (C:=C) (sf:=sf) 5 s s.toArray rfl y1 hy1);rw[<- hy1]at hg;have HG:Hid (ts++g=ts++t1++[y1]++t2):=zh (by rw[hg];simp);have ja:Hid (ts.length+t1.length+t2.length+1<=700000):=zh (by rw[hg]at hn;simp at hn;omega);have CT:=zh hT;have CU:=zh hU;have CV:=zh hV;have j6:=zh hR;have HIk:=zh (dE ei);have HIj:=zh (dE hj22);rw[HG.out];subst hA vt;clear hy1 hg hn hT hU hV HG hR ei hj22;clear hw ah
 go_in
 go_upto_region 1 with fail
 rw[<- aj.out];clear aj;obtain⟨c0,-,-,-,-,-,-,c7,-,-,-,-,-,-,-,-,-,-,-,-,-,jw⟩:=HC.out _ HL.out
 go_wp2_with (first
  |(refine yr rfl 34 (.tmp 3) rfl w.heap.size 0 rfl Cn _ HL.out.rangeM Tryz.underlying34 rfl bg.out ?_)
  |((with_reducible refine(CV.out _ HS.out).mono ?_);rintro e wx ⟨rfl,hb⟩;replace HL:=zh (HL.out.next hb);replace HS:=zh (HS.out.next hb);replace HK:=zh (HK.out.trans (Kw.of_below hb));clear hb c0 c7 jw CV;obtain⟨c0,c7,jw⟩:=HC.out _ HL.out)
  |(refine yr rfl 34 (.tmp 21) rfl gb ob rfl ci _ (j6.out _ _ HS.out HK.out).1 Tryz.underlying34 rfl HIk.out ?_)
  |(refine yr rfl 34 (.tmp 32) rfl gb (ob+22) rfl cj _ (j6.out _ _ HS.out HK.out).2 Tryz.underlying34 rfl HIj.out ?_)
  |((first
  |((with_reducible refine(CT.out _ _ HS.out HK.out (by simp)).mono ?_);rintro e wx ⟨rfl,hs,hk⟩)
  |((with_reducible refine(C1.out _ _ HS.out (by have:=ja.out;(try simp only[yl,yi,List.length_nil]);omega)).mono ?_);rintro e wx ⟨rfl,hs,hk⟩)
  |((with_reducible refine(CU.out _ _ HS.out HK.out (by simp;omega)).mono ?_);rintro e wx ⟨rfl,hs,hk⟩));replace HL:=zh (Kw.lies hk HS.out HL.out (by decide) (by decide) (by decide));replace HS:=zh hs;replace HK:=zh (HK.out.trans hk);clear hs hk c0 c7 jw;obtain⟨c0,-,-,-,-,-,-,c7,-,-,-,-,-,-,-,-,-,-,-,-,-,jw⟩:=HC.out _ HL.out))
 go_end0
 exact⟨rfl,HS.out,HK.out⟩
abbrev eD(t:RTok):Value:=.agg #[vI t.kind,vT t.text,vI t.place]
theorem say_both(row col:Nat)(fr fc:Bool)(w:World)(hp:PowTab w)(hr:row<=400)(hc:col<=400) :
  Calls Tryz.prog 34 #[.agg #[vI (row:Int),vI (col:Int),.bool fr,.bool fc],vI 0] w fun e w'=>e=.returned (eD (cE .plain row col fr fc))/\Below w.heap.size w w':=by
 have zt:(row:Int)<=400:=by omega
 have da:(col:Int)<=400:=by omega
 obtain⟨W0,ak⟩:∃ W0,W0=(w.alloc (.cells #[vI (row:Int),vI (col:Int),.bool fr,.bool fc] 90)).alloc (.cells #[vI 0,vS #[],vI 0] 64):=⟨_,rfl⟩
 have aj:=zh ak;have af:Hid (Below w.heap.size w W0):=zh (by rw[ak];exact((Below.refl _ w).alloc zr _).alloc (by rw[World.size_alloc];omega) _);have L0:Hid (Lies W0 w.heap.size 90 #[vI (row:Int),vI (col:Int),.bool fr,.bool fc]):=zh (by rw[ak];exact(Lies.new w _ _).alloc _);have L1:Hid (Lies W0 (w.heap.size+1) 64 #[vI 0,vS #[],vI 0]):=zh (by
  rw[ak];have h:=Lies.new (w.alloc (.cells #[vI (row:Int),vI (col:Int),.bool fr,.bool fc] 90)) 64 #[vI 0,vS #[],vI 0];rw[World.size_alloc]at h;exact h)
 have nc:Hid (PowTab W0):=zh (hp.next af.out);have ap:Hid (∀ W,Below W0.heap.size W0 W->W.cell? ⟨w.heap.size,0,none⟩=some (vI (row:Int))/\W.cell? ⟨w.heap.size,1,none⟩=some (vI (col:Int))/\W.cell? ⟨w.heap.size,2,none⟩=some (.bool fr)/\W.cell? ⟨w.heap.size,3,none⟩=some (.bool fc)/\W.cell? ⟨w.heap.size+1,0,none⟩=some (vI 0)/\W.cell? ⟨w.heap.size+1,1,none⟩=some (vS #[])/\W.cell? ⟨w.heap.size+1,2,none⟩=some (vI 0)/\W.frozen? ⟨w.heap.size+1,0,none⟩=false/\W.frozen? ⟨w.heap.size+1,1,none⟩=false/\W.frozen? ⟨w.heap.size+1,2,none⟩=false/\w.heap.size+1<W.heap.size/\Below W0.heap.size W0 W):=zh (fun W h=>⟨(L0.out.next h).cell 0,(L0.out.next h).cell 1,(L0.out.next h).cell 2,(L0.out.next h).cell 3,(L1.out.next h).cell 0,(L1.out.next h).cell 1,(L1.out.next h).cell 2,(L1.out.next h).frozen 0,(L1.out.next h).frozen 1,(L1.out.next h).frozen 2,(L1.out.next h).lt,h⟩)
 have CT:=zh (fun W (h:PowTab W)=>wG row col fr fc W h (by omega) (by omega));have qg:Hid (eD (cE .plain row col fr fc)=.agg #[vI 4,vT (jC row col fr fc),vI 0]):=zh rfl;generalize jC row col fr fc=M at *;obtain⟨tv,jp⟩:=zD (eD (cE .plain row col fr fc))
 have qv:=zh jp;rw[<- jp];clear ak hp jp L0 L1
 go_in
 go_upto_region 1 with fail
 rw[<- aj.out];clear aj;obtain⟨m0,m1,m2,m3,t0,t1,t2,f0,f1,f2,z0,cg⟩:=ap.out _ zB
 go_wp2_with ((with_reducible refine(CT.out _ nc.out).mono ?_);rintro e wx ⟨rfl,hb⟩;have HB:=zh hb;clear m0 m1 m2 m3 t0 t1 t2 f0 f1 f2 z0 cg;obtain⟨m0,m1,m2,m3,t0,t1,t2,f0,f1,f2,z0,cg⟩:=ap.out _ hb;clear hb)
 all_goals (try clear m0 m1 m2 m3 t0 t1 t2 f0 f1 f2 z0 cg)
 all_goals obtain⟨m0,m1,m2,m3,t0,t1,t2,f0,f1,f2,z0,cg⟩:=ap.out _ HB.out
 all_goals refine yt (v:=.agg #[vI 4,vT (M),vI 0]) (by simp[results,Tryz.results34,go_sem,t0,t1,t2]) rfl ?_
 all_goals refine⟨by rw[qv.out,qg.out],?_⟩
 all_goals exact(((zU af.out HB.out).setCell (p:=⟨_,_,none⟩) (Nat.le_succ _) _).setCell (p:=⟨_,_,none⟩) (Nat.le_succ _) _).setCell (p:=⟨_,_,none⟩) (Nat.le_succ _) _
theorem say_rowF(row col:Nat)(fc:Bool)(w:World)(hp:PowTab w)(hr:row<=400)(hc:col<=400) :
  Calls Tryz.prog 34 #[.agg #[vI (row:Int),vI (col:Int),.bool true,.bool fc],vI 1] w fun e w'=>e=.returned (eD (cX .plain row true))/\Below w.heap.size w w':=by
 have zt:(row:Int)<=400:=by omega
 have da:(col:Int)<=400:=by omega
 obtain⟨W0,ak⟩:∃ W0,W0=(w.alloc (.cells #[vI (row:Int),vI (col:Int),.bool true,.bool fc] 90)).alloc (.cells #[vI 0,vS #[],vI 0] 64):=⟨_,rfl⟩
 have aj:=zh ak;have af:Hid (Below w.heap.size w W0):=zh (by rw[ak];exact((Below.refl _ w).alloc zr _).alloc (by rw[World.size_alloc];omega) _);have L0:Hid (Lies W0 w.heap.size 90 #[vI (row:Int),vI (col:Int),.bool true,.bool fc]):=zh (by rw[ak];exact(Lies.new w _ _).alloc _);have L1:Hid (Lies W0 (w.heap.size+1) 64 #[vI 0,vS #[],vI 0]):=zh (by
  rw[ak];have h:=Lies.new (w.alloc (.cells #[vI (row:Int),vI (col:Int),.bool true,.bool fc] 90)) 64 #[vI 0,vS #[],vI 0];rw[World.size_alloc]at h;exact h)
 have nc:Hid (PowTab W0):=zh (hp.next af.out);have ap:Hid (∀ W,Below W0.heap.size W0 W->W.cell? ⟨w.heap.size,0,none⟩=some (vI (row:Int))/\W.cell? ⟨w.heap.size,1,none⟩=some (vI (col:Int))/\W.cell? ⟨w.heap.size,2,none⟩=some (.bool true)/\W.cell? ⟨w.heap.size,3,none⟩=some (.bool fc)/\W.cell? ⟨w.heap.size+1,0,none⟩=some (vI 0)/\W.cell? ⟨w.heap.size+1,1,none⟩=some (vS #[])/\W.cell? ⟨w.heap.size+1,2,none⟩=some (vI 0)/\W.frozen? ⟨w.heap.size+1,0,none⟩=false/\W.frozen? ⟨w.heap.size+1,1,none⟩=false/\W.frozen? ⟨w.heap.size+1,2,none⟩=false/\w.heap.size+1<W.heap.size/\Below W0.heap.size W0 W):=zh (fun W h=>⟨(L0.out.next h).cell 0,(L0.out.next h).cell 1,(L0.out.next h).cell 2,(L0.out.next h).cell 3,(L1.out.next h).cell 0,(L1.out.next h).cell 1,(L1.out.next h).cell 2,(L1.out.next h).frozen 0,(L1.out.next h).frozen 1,(L1.out.next h).frozen 2,(L1.out.next h).lt,h⟩)
 have CI:Hid (∀ W,PowTab W->Calls Tryz.prog 75 #[vI ((row:Int)+1)] W fun e w'=>e=.returned (vT (Lib.decDigits (row+1)))/\Below W.heap.size W w'):=zh (fun W h=>nU (row+1) W h (by omega));have CI:Hid (∀ W,PowTab W->Calls Tryz.prog 75 #[vI (IntKind.i64.wrap ((row:Int)+1))] W fun e w'=>e=.returned (vT (Lib.decDigits (row+1)))/\Below W.heap.size W w'):=zh (by rw[IntWalk.i64_in ((row:Int)+1) (by omega)];exact CI.out);have hln:(Lib.decDigits (row+1)).length<=4:=bM (row+1) 3 (by have:(10:Nat) ^ (3+1)=10000:=rfl;omega);have qg:Hid (eD (cX .plain row true)=.agg #[vI 4,vT (36::Lib.decDigits (row+1)),vI 0]):=zh rfl;generalize Lib.decDigits (row+1)=M at *;have k1:¬ 9223372036854775807<M.length+1:=by omega
 have k2:¬ 9223372036854775807<1+M.length:=by omega
 obtain⟨tv,jp⟩:=zD (eD (cX .plain row true))
 have qv:=zh jp;rw[<- jp];clear ak hp jp L0 L1
 go_in
 go_upto_region 1 with fail
 rw[<- aj.out];clear aj;obtain⟨m0,m1,m2,m3,t0,t1,t2,f0,f1,f2,z0,cg⟩:=ap.out _ zB;have ry:Hid (PowTab W0.drew):=nc
 go_upto_region 5 with fail
 go_region_held3 (fun w'=>w'.cell? ⟨w.heap.size,0,none⟩=some (vI (row:Int))/\w'.cell? ⟨w.heap.size,1,none⟩=some (vI (col:Int))/\w'.cell? ⟨w.heap.size,2,none⟩=some (.bool true)/\w'.cell? ⟨w.heap.size,3,none⟩=some (.bool fc)/\w'.cell? ⟨w.heap.size+1,0,none⟩=some (vI 0)/\w'.cell? ⟨w.heap.size+1,1,none⟩=some (vS #[])/\w'.cell? ⟨w.heap.size+1,2,none⟩=some (vI 0)/\w'.frozen? ⟨w.heap.size+1,0,none⟩=false/\w'.frozen? ⟨w.heap.size+1,1,none⟩=false/\w'.frozen? ⟨w.heap.size+1,2,none⟩=false/\w.heap.size+1<w'.heap.size/\Below W0.heap.size W0 w')
  (first|exact ap.out _ cg|exact ap.out _ cg.drew |(go_split_ands;exact ap.out _ (Below.trans (by assumption) (Below.mono hb (Below.size (by assumption)))))|assumption)
  (first
   |(go_at_call 75;(with_reducible refine(CI.out _ ry.out).mono ?_);rintro e wx ⟨rfl,hb⟩;have HB:=zh (Below.trans (Below.refl _ W0).drew (Below.mono hb zr))))
 all_goals (try go_split_ands)
 all_goals go_wp2_with fail
 all_goals (try clear m0 m1 m2 m3 t0 t1 t2 f0 f1 f2 z0 cg)
 all_goals obtain⟨m0,m1,m2,m3,t0,t1,t2,f0,f1,f2,z0,cg⟩:=ap.out _ HB.out
 all_goals refine yt (v:=.agg #[vI 4,vT (36::M),vI 0]) (by simp[results,Tryz.results34,go_sem,t0,t1,t2]) rfl ?_
 all_goals refine⟨by rw[qv.out,qg.out],?_⟩
 all_goals exact(((zU af.out HB.out).setCell (p:=⟨_,_,none⟩) (Nat.le_succ _) _).setCell (p:=⟨_,_,none⟩) (Nat.le_succ _) _).setCell (p:=⟨_,_,none⟩) (Nat.le_succ _) _
theorem say_rowN(row col:Nat)(fc:Bool)(w:World)(hp:PowTab w)(hr:row<=400)(hc:col<=400) :
  Calls Tryz.prog 34 #[.agg #[vI (row:Int),vI (col:Int),.bool false,.bool fc],vI 1] w fun e w'=>e=.returned (eD (cX .plain row false))/\Below w.heap.size w w':=by
 have zt:(row:Int)<=400:=by omega
 have da:(col:Int)<=400:=by omega
 obtain⟨W0,ak⟩:∃ W0,W0=(w.alloc (.cells #[vI (row:Int),vI (col:Int),.bool false,.bool fc] 90)).alloc (.cells #[vI 0,vS #[],vI 0] 64):=⟨_,rfl⟩
 have aj:=zh ak;have af:Hid (Below w.heap.size w W0):=zh (by rw[ak];exact((Below.refl _ w).alloc zr _).alloc (by rw[World.size_alloc];omega) _);have L0:Hid (Lies W0 w.heap.size 90 #[vI (row:Int),vI (col:Int),.bool false,.bool fc]):=zh (by rw[ak];exact(Lies.new w _ _).alloc _);have L1:Hid (Lies W0 (w.heap.size+1) 64 #[vI 0,vS #[],vI 0]):=zh (by
  rw[ak];have h:=Lies.new (w.alloc (.cells #[vI (row:Int),vI (col:Int),.bool false,.bool fc] 90)) 64 #[vI 0,vS #[],vI 0];rw[World.size_alloc]at h;exact h)
 have nc:Hid (PowTab W0):=zh (hp.next af.out);have ap:Hid (∀ W,Below W0.heap.size W0 W->W.cell? ⟨w.heap.size,0,none⟩=some (vI (row:Int))/\W.cell? ⟨w.heap.size,1,none⟩=some (vI (col:Int))/\W.cell? ⟨w.heap.size,2,none⟩=some (.bool false)/\W.cell? ⟨w.heap.size,3,none⟩=some (.bool fc)/\W.cell? ⟨w.heap.size+1,0,none⟩=some (vI 0)/\W.cell? ⟨w.heap.size+1,1,none⟩=some (vS #[])/\W.cell? ⟨w.heap.size+1,2,none⟩=some (vI 0)/\W.frozen? ⟨w.heap.size+1,0,none⟩=false/\W.frozen? ⟨w.heap.size+1,1,none⟩=false/\W.frozen? ⟨w.heap.size+1,2,none⟩=false/\w.heap.size+1<W.heap.size/\Below W0.heap.size W0 W):=zh (fun W h=>⟨(L0.out.next h).cell 0,(L0.out.next h).cell 1,(L0.out.next h).cell 2,(L0.out.next h).cell 3,(L1.out.next h).cell 0,(L1.out.next h).cell 1,(L1.out.next h).cell 2,(L1.out.next h).frozen 0,(L1.out.next h).frozen 1,(L1.out.next h).frozen 2,(L1.out.next h).lt,h⟩)
 have CI:Hid (∀ W,PowTab W->Calls Tryz.prog 75 #[vI ((row:Int)+1)] W fun e w'=>e=.returned (vT (Lib.decDigits (row+1)))/\Below W.heap.size W w'):=zh (fun W h=>nU (row+1) W h (by omega));have CI:Hid (∀ W,PowTab W->Calls Tryz.prog 75 #[vI (IntKind.i64.wrap ((row:Int)+1))] W fun e w'=>e=.returned (vT (Lib.decDigits (row+1)))/\Below W.heap.size W w'):=zh (by rw[IntWalk.i64_in ((row:Int)+1) (by omega)];exact CI.out);have hln:(Lib.decDigits (row+1)).length<=4:=bM (row+1) 3 (by have:(10:Nat) ^ (3+1)=10000:=rfl;omega);have qg:Hid (eD (cX .plain row false)=.agg #[vI 1,vT (Lib.decDigits (row+1)),vI 0]):=zh rfl;generalize Lib.decDigits (row+1)=M at *;have k1:¬ 9223372036854775807<M.length+1:=by omega
 have k2:¬ 9223372036854775807<1+M.length:=by omega
 obtain⟨tv,jp⟩:=zD (eD (cX .plain row false))
 have qv:=zh jp;rw[<- jp];clear ak hp jp L0 L1
 go_in
 go_upto_region 1 with fail
 rw[<- aj.out];clear aj;obtain⟨m0,m1,m2,m3,t0,t1,t2,f0,f1,f2,z0,cg⟩:=ap.out _ zB;have ry:Hid (PowTab W0.drew):=nc
 go_upto_region 5 with fail
 go_region_held3 (fun w'=>w'.cell? ⟨w.heap.size,0,none⟩=some (vI (row:Int))/\w'.cell? ⟨w.heap.size,1,none⟩=some (vI (col:Int))/\w'.cell? ⟨w.heap.size,2,none⟩=some (.bool false)/\w'.cell? ⟨w.heap.size,3,none⟩=some (.bool fc)/\w'.cell? ⟨w.heap.size+1,0,none⟩=some (vI 0)/\w'.cell? ⟨w.heap.size+1,1,none⟩=some (vS #[])/\w'.cell? ⟨w.heap.size+1,2,none⟩=some (vI 0)/\w'.frozen? ⟨w.heap.size+1,0,none⟩=false/\w'.frozen? ⟨w.heap.size+1,1,none⟩=false/\w'.frozen? ⟨w.heap.size+1,2,none⟩=false/\w.heap.size+1<w'.heap.size/\Below W0.heap.size W0 w')
  (first|exact ap.out _ cg|exact ap.out _ cg.drew |(go_split_ands;exact ap.out _ (Below.trans (by assumption) (Below.mono hb (Below.size (by assumption)))))|assumption)
  (first
   |(go_at_call 75;(with_reducible refine(CI.out _ ry.out).mono ?_);rintro e wx ⟨rfl,hb⟩;have HB:=zh (Below.trans (Below.refl _ W0).drew (Below.mono hb zr))))
 all_goals (try go_split_ands)
 all_goals go_wp2_with fail
 all_goals (try clear m0 m1 m2 m3 t0 t1 t2 f0 f1 f2 z0 cg)
 all_goals obtain⟨m0,m1,m2,m3,t0,t1,t2,f0,f1,f2,z0,cg⟩:=ap.out _ HB.out
 all_goals refine yt (v:=.agg #[vI 1,vT (M),vI 0]) (by simp[results,Tryz.results34,go_sem,t0,t1,t2]) rfl ?_
 all_goals refine⟨by rw[qv.out,qg.out],?_⟩
 all_goals exact(((zU af.out HB.out).setCell (p:=⟨_,_,none⟩) (Nat.le_succ _) _).setCell (p:=⟨_,_,none⟩) (Nat.le_succ _) _).setCell (p:=⟨_,_,none⟩) (Nat.le_succ _) _
theorem say_colF(row col:Nat)(fr:Bool)(w:World)(hp:PowTab w)(hr:row<=400)(hc:col<=400) :
  Calls Tryz.prog 34 #[.agg #[vI (row:Int),vI (col:Int),.bool fr,.bool true],vI 2] w fun e w'=>e=.returned (eD (cW .plain col true))/\Below w.heap.size w w':=by
 have zt:(row:Int)<=400:=by omega
 have da:(col:Int)<=400:=by omega
 obtain⟨W0,ak⟩:∃ W0,W0=(w.alloc (.cells #[vI (row:Int),vI (col:Int),.bool fr,.bool true] 90)).alloc (.cells #[vI 0,vS #[],vI 0] 64):=⟨_,rfl⟩
 have aj:=zh ak;have af:Hid (Below w.heap.size w W0):=zh (by rw[ak];exact((Below.refl _ w).alloc zr _).alloc (by rw[World.size_alloc];omega) _);have L0:Hid (Lies W0 w.heap.size 90 #[vI (row:Int),vI (col:Int),.bool fr,.bool true]):=zh (by rw[ak];exact(Lies.new w _ _).alloc _);have L1:Hid (Lies W0 (w.heap.size+1) 64 #[vI 0,vS #[],vI 0]):=zh (by
  rw[ak];have h:=Lies.new (w.alloc (.cells #[vI (row:Int),vI (col:Int),.bool fr,.bool true] 90)) 64 #[vI 0,vS #[],vI 0];rw[World.size_alloc]at h;exact h)
 have nc:Hid (PowTab W0):=zh (hp.next af.out);have ap:Hid (∀ W,Below W0.heap.size W0 W->W.cell? ⟨w.heap.size,0,none⟩=some (vI (row:Int))/\W.cell? ⟨w.heap.size,1,none⟩=some (vI (col:Int))/\W.cell? ⟨w.heap.size,2,none⟩=some (.bool fr)/\W.cell? ⟨w.heap.size,3,none⟩=some (.bool true)/\W.cell? ⟨w.heap.size+1,0,none⟩=some (vI 0)/\W.cell? ⟨w.heap.size+1,1,none⟩=some (vS #[])/\W.cell? ⟨w.heap.size+1,2,none⟩=some (vI 0)/\W.frozen? ⟨w.heap.size+1,0,none⟩=false/\W.frozen? ⟨w.heap.size+1,1,none⟩=false/\W.frozen? ⟨w.heap.size+1,2,none⟩=false/\w.heap.size+1<W.heap.size/\Below W0.heap.size W0 W):=zh (fun W h=>⟨(L0.out.next h).cell 0,(L0.out.next h).cell 1,(L0.out.next h).cell 2,(L0.out.next h).cell 3,(L1.out.next h).cell 0,(L1.out.next h).cell 1,(L1.out.next h).cell 2,(L1.out.next h).frozen 0,(L1.out.next h).frozen 1,(L1.out.next h).frozen 2,(L1.out.next h).lt,h⟩)
 have CI:=zh (fun W=>kY col W (by omega));have hln:(dT (col+1)).length<=3:=gB (col+1) (by omega);have qg:Hid (eD (cW .plain col true)=.agg #[vI 4,vT (36::dT (col+1)),vI 0]):=zh rfl;generalize dT (col+1)=M at *;have k1:¬ 9223372036854775807<M.length+1:=by omega
 have k2:¬ 9223372036854775807<1+M.length:=by omega
 obtain⟨tv,jp⟩:=zD (eD (cW .plain col true))
 have qv:=zh jp;rw[<- jp];clear ak hp jp L0 L1
 go_in
 go_upto_region 1 with fail
 rw[<- aj.out];clear aj;obtain⟨m0,m1,m2,m3,t0,t1,t2,f0,f1,f2,z0,cg⟩:=ap.out _ zB;have ry:Hid (PowTab W0.drew):=nc
 go_upto_region 7 with fail
 go_region_held3 (fun w'=>w'.cell? ⟨w.heap.size,0,none⟩=some (vI (row:Int))/\w'.cell? ⟨w.heap.size,1,none⟩=some (vI (col:Int))/\w'.cell? ⟨w.heap.size,2,none⟩=some (.bool fr)/\w'.cell? ⟨w.heap.size,3,none⟩=some (.bool true)/\w'.cell? ⟨w.heap.size+1,0,none⟩=some (vI 0)/\w'.cell? ⟨w.heap.size+1,1,none⟩=some (vS #[])/\w'.cell? ⟨w.heap.size+1,2,none⟩=some (vI 0)/\w'.frozen? ⟨w.heap.size+1,0,none⟩=false/\w'.frozen? ⟨w.heap.size+1,1,none⟩=false/\w'.frozen? ⟨w.heap.size+1,2,none⟩=false/\w.heap.size+1<w'.heap.size/\Below W0.heap.size W0 w')
  (first|exact ap.out _ cg|exact ap.out _ cg.drew |(go_split_ands;exact ap.out _ (Below.trans (by assumption) (Below.mono hb (Below.size (by assumption)))))|assumption)
  (first
   |(go_at_call 76;(with_reducible refine(CI.out _).mono ?_);rintro e wx ⟨rfl,hb⟩;have HB:=zh (Below.trans (Below.refl _ W0).drew (Below.mono hb zr))))
 all_goals (try go_split_ands)
 all_goals go_wp2_with fail
 all_goals (try clear m0 m1 m2 m3 t0 t1 t2 f0 f1 f2 z0 cg)
 all_goals obtain⟨m0,m1,m2,m3,t0,t1,t2,f0,f1,f2,z0,cg⟩:=ap.out _ HB.out
 all_goals refine yt (v:=.agg #[vI 4,vT (36::M),vI 0]) (by simp[results,Tryz.results34,go_sem,t0,t1,t2]) rfl ?_
 all_goals refine⟨by rw[qv.out,qg.out],?_⟩
 all_goals exact(((zU af.out HB.out).setCell (p:=⟨_,_,none⟩) (Nat.le_succ _) _).setCell (p:=⟨_,_,none⟩) (Nat.le_succ _) _).setCell (p:=⟨_,_,none⟩) (Nat.le_succ _) _
theorem say_colN(row col:Nat)(fr:Bool)(w:World)(hp:PowTab w)(hr:row<=400)(hc:col<=400) :
  Calls Tryz.prog 34 #[.agg #[vI (row:Int),vI (col:Int),.bool fr,.bool false],vI 2] w fun e w'=>e=.returned (eD (cW .plain col false))/\Below w.heap.size w w':=by
 have zt:(row:Int)<=400:=by omega
 have da:(col:Int)<=400:=by omega
 obtain⟨W0,ak⟩:∃ W0,W0=(w.alloc (.cells #[vI (row:Int),vI (col:Int),.bool fr,.bool false] 90)).alloc (.cells #[vI 0,vS #[],vI 0] 64):=⟨_,rfl⟩
 have aj:=zh ak;have af:Hid (Below w.heap.size w W0):=zh (by rw[ak];exact((Below.refl _ w).alloc zr _).alloc (by rw[World.size_alloc];omega) _);have L0:Hid (Lies W0 w.heap.size 90 #[vI (row:Int),vI (col:Int),.bool fr,.bool false]):=zh (by rw[ak];exact(Lies.new w _ _).alloc _);have L1:Hid (Lies W0 (w.heap.size+1) 64 #[vI 0,vS #[],vI 0]):=zh (by
  rw[ak];have h:=Lies.new (w.alloc (.cells #[vI (row:Int),vI (col:Int),.bool fr,.bool false] 90)) 64 #[vI 0,vS #[],vI 0];rw[World.size_alloc]at h;exact h)
 have nc:Hid (PowTab W0):=zh (hp.next af.out);have ap:Hid (∀ W,Below W0.heap.size W0 W->W.cell? ⟨w.heap.size,0,none⟩=some (vI (row:Int))/\W.cell? ⟨w.heap.size,1,none⟩=some (vI (col:Int))/\W.cell? ⟨w.heap.size,2,none⟩=some (.bool fr)/\W.cell? ⟨w.heap.size,3,none⟩=some (.bool false)/\W.cell? ⟨w.heap.size+1,0,none⟩=some (vI 0)/\W.cell? ⟨w.heap.size+1,1,none⟩=some (vS #[])/\W.cell? ⟨w.heap.size+1,2,none⟩=some (vI 0)/\W.frozen? ⟨w.heap.size+1,0,none⟩=false/\W.frozen? ⟨w.heap.size+1,1,none⟩=false/\W.frozen? ⟨w.heap.size+1,2,none⟩=false/\w.heap.size+1<W.heap.size/\Below W0.heap.size W0 W):=zh (fun W h=>⟨(L0.out.next h).cell 0,(L0.out.next h).cell 1,(L0.out.next h).cell 2,(L0.out.next h).cell 3,(L1.out.next h).cell 0,(L1.out.next h).cell 1,(L1.out.next h).cell 2,(L1.out.next h).frozen 0,(L1.out.next h).frozen 1,(L1.out.next h).frozen 2,(L1.out.next h).lt,h⟩)
 have CI:=zh (fun W=>kY col W (by omega));have hln:(dT (col+1)).length<=3:=gB (col+1) (by omega);have qg:Hid (eD (cW .plain col false)=.agg #[vI 3,vT (dT (col+1)),vI 0]):=zh rfl;generalize dT (col+1)=M at *;have k1:¬ 9223372036854775807<M.length+1:=by omega
 have k2:¬ 9223372036854775807<1+M.length:=by omega
 obtain⟨tv,jp⟩:=zD (eD (cW .plain col false))
 have qv:=zh jp;rw[<- jp];clear ak hp jp L0 L1
 go_in
 go_upto_region 1 with fail
 rw[<- aj.out];clear aj;obtain⟨m0,m1,m2,m3,t0,t1,t2,f0,f1,f2,z0,cg⟩:=ap.out _ zB;have ry:Hid (PowTab W0.drew):=nc
 go_upto_region 7 with fail
 go_region_held3 (fun w'=>w'.cell? ⟨w.heap.size,0,none⟩=some (vI (row:Int))/\w'.cell? ⟨w.heap.size,1,none⟩=some (vI (col:Int))/\w'.cell? ⟨w.heap.size,2,none⟩=some (.bool fr)/\w'.cell? ⟨w.heap.size,3,none⟩=some (.bool false)/\w'.cell? ⟨w.heap.size+1,0,none⟩=some (vI 0)/\w'.cell? ⟨w.heap.size+1,1,none⟩=some (vS #[])/\w'.cell? ⟨w.heap.size+1,2,none⟩=some (vI 0)/\w'.frozen? ⟨w.heap.size+1,0,none⟩=false/\w'.frozen? ⟨w.heap.size+1,1,none⟩=false/\w'.frozen? ⟨w.heap.size+1,2,none⟩=false/\w.heap.size+1<w'.heap.size/\Below W0.heap.size W0 w')
  (first|exact ap.out _ cg|exact ap.out _ cg.drew |(go_split_ands;exact ap.out _ (Below.trans (by assumption) (Below.mono hb (Below.size (by assumption)))))|assumption)
  (first
   |(go_at_call 76;(with_reducible refine(CI.out _).mono ?_);rintro e wx ⟨rfl,hb⟩;have HB:=zh (Below.trans (Below.refl _ W0).drew (Below.mono hb zr))))
 all_goals (try go_split_ands)
 all_goals go_wp2_with fail
 all_goals (try clear m0 m1 m2 m3 t0 t1 t2 f0 f1 f2 z0 cg)
 all_goals obtain⟨m0,m1,m2,m3,t0,t1,t2,f0,f1,f2,z0,cg⟩:=ap.out _ HB.out
 all_goals refine yt (v:=.agg #[vI 3,vT (M),vI 0]) (by simp[results,Tryz.results34,go_sem,t0,t1,t2]) rfl ?_
 all_goals refine⟨by rw[qv.out,qg.out],?_⟩
 all_goals exact(((zU af.out HB.out).setCell (p:=⟨_,_,none⟩) (Nat.le_succ _) _).setCell (p:=⟨_,_,none⟩) (Nat.le_succ _) _).setCell (p:=⟨_,_,none⟩) (Nat.le_succ _) _
end Go.Proofs.YtjfihpaeglpblaaGreatDoor
