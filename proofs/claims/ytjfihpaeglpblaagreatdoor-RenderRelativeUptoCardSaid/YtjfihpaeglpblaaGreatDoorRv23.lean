/-
  Lemmas, part 23: Wx9 RangeS WrA WrB.
-/
import Derived.Test.YtjfihpaeglpblaaGreatDoorRv22
set_option maxHeartbeats 100000000
set_option maxRecDepth 1000000
namespace Go.Proofs.YtjfihpaeglpblaaGreatDoor
open Go.RowKit
theorem cH{ops:Array Oper}{o:Oper}{a:Act}{w:World}{K:Act->World->Prop}{Q:Exit->Act->World->Prop}{E:Prop}(pr:o.guard=none)(s x:Operand)(ho:o.op=.call { callee:=.builtin .append,args:=#[s,x],argTypes:=#[60,60] })
  (base:Nat) (v1:Value) (ts:List RTok) (t:RTok) (g:Nat) (hs:a.eval s=v1) (ct:w.ownsRow base 64 3 v1 ts.length (cN ts)) (hx:a.eval x=.slice (some ⟨g,0,none⟩) 1 1) (hl:Lies w g 64 #[vI t.kind,vT t.text,vI t.place]) (hn:ts.length<=900000) (du:base<=w.heap.size)
  (h:∀ A' c' w',w'.ownsRow base 64 3 (.slice A' (ts.length+1) c') (ts++[t]).length (cN (ts++[t]))->w.grownBy w' v1.ownBlock->K (a.put o.dst (.slice A' (ts.length+1) c')) w') :
  if Region.wanted o (yielded ops a.tmps)=true then Oper.wp Tryz.prog o a w K Q else E:=by
 have hw:Region.wanted o (yielded ops a.tmps)=true:=by simp[Region.wanted,pr]
 rw[if_pos hw];obtain⟨i1,gi,gz0,gz1,gz2⟩:=info_parts sD;refine wp_append_own (P:=Tryz.prog) w s x 60 ho base 64 i1 (.agg #[vI 0,vS #[],vI 0]) 3 32 Tryz.underlying60 gi gz0 gz1 gz2 rfl (by decide) v1 ts.length (cN ts) hs ct ⟨g,0,none⟩ 1 1 (eY t) hx rfl (fun j u hj=>?_) (jO t) (by unfold maxLen;omega) (by omega) du (fun v' w' k1 k2 _=>?_)
 ·have e:(⟨g,0,none⟩:Addr).add j=⟨g,j,none⟩:=by cases j <;> simp[Addr.add]
  rw[e,hl.cell j];simpa [eY] using hj
 rw[<- pM]at k1;obtain⟨A',c',rfl⟩:=aV k1;exact h A' c' w' (by rw[yl];exact k1) k2
theorem pR{p m:Nat}{rp cp:Option Nat}{R C:AxV}{sff:FuncId}{sfx:Array Value}{ts:List RTok}{h:NodeH}{A:Option Addr}{n ca:Nat}{Cn:List Value}{w:World}(ah:Hid (Cn.toArray=aK h A n ca))(hw:WrS w p m rp cp R C (.func (.func sff) #[] sfx) ts):∃ (W0 W1:World) (Z:World->Prop),Hid (W0=w.alloc (.cells Cn.toArray 34))/\Hid (W1=W0.alloc (.cells #[vI h.a.row.a,vI h.a.row.n,vI h.a.col.a,vI h.a.col.n,.bool h.a.fr,.bool h.a.fc] 29))/\Hid (∀ W,Z W↔(WrS W p m rp cp R C (.func (.func sff) #[] sfx) ts/\Kw p (rp.toList++cp.toList) w W/\Lies W W0.heap.size 29 #[vI h.a.row.a,vI h.a.row.n,vI h.a.col.a,vI h.a.col.n,.bool h.a.fr,.bool h.a.fc]/\Lies W w.heap.size 34 Cn.toArray))/\Hid (Z W1)/\Hid (∀ W W',Z W->Below W.heap.size W W'->Z W')/\Hid (∀ W,Z W->W.cell? ⟨p,0,none⟩=some (.pointer (ptr rp))/\W.cell? ⟨p,1,none⟩=some (.pointer (ptr cp))/\W.cell? ⟨W0.heap.size,0,none⟩=some (vI h.a.row.a)/\W.cell? ⟨W0.heap.size,1,none⟩=some (vI h.a.row.n)/\W.cell? ⟨W0.heap.size,2,none⟩=some (vI h.a.col.a)/\W.cell? ⟨W0.heap.size,3,none⟩=some (vI h.a.col.n)/\W.cell? ⟨W0.heap.size,4,none⟩=some (.bool h.a.fr)/\W.cell? ⟨W0.heap.size,5,none⟩=some (.bool h.a.fc)/\Z W)/\Hid (W0.cell? ⟨w.heap.size,8,none⟩=some (vI h.a.row.a)/\W0.cell? ⟨w.heap.size,9,none⟩=some (vI h.a.row.n)/\W0.cell? ⟨w.heap.size,10,none⟩=some (vI h.a.col.a)/\W0.cell? ⟨w.heap.size,11,none⟩=some (vI h.a.col.n)/\W0.cell? ⟨w.heap.size,12,none⟩=some (.bool h.a.fr)/\W0.cell? ⟨w.heap.size,13,none⟩=some (.bool h.a.fc))/\Hid (p<w.heap.size)/\Hid (p<W0.heap.size):=by
 obtain⟨W0,ak⟩:=zD (w.alloc (.cells Cn.toArray 34))
 obtain⟨W1,an⟩:=zD (W0.alloc (.cells #[vI h.a.row.a,vI h.a.row.n,vI h.a.col.a,vI h.a.col.n,.bool h.a.fr,.bool h.a.fc] 29))
 have aj:=zh ak;have am:=zh an;have af:=zA ak;have bi:=zA an;have HL:=zL ak;have nj:=zL an;obtain⟨Z,hZ⟩:∃ Z:World->Prop,∀ W,Z W↔(WrS W p m rp cp R C (.func (.func sff) #[] sfx) ts/\Kw p (rp.toList++cp.toList) w W/\Lies W W0.heap.size 29 #[vI h.a.row.a,vI h.a.row.n,vI h.a.col.a,vI h.a.col.n,.bool h.a.fr,.bool h.a.fc]/\Lies W w.heap.size 34 Cn.toArray):=⟨_,fun _=>Iff.rfl⟩
 have fs:=zh hZ;have vu:Hid (Z W1):=zh ((hZ _).2 ⟨(hw.next af.out).next bi.out,(Kw.of_below af.out).trans (Kw.of_below bi.out),nj.out,HL.out.next bi.out⟩);have gh:Hid (∀ W W',Z W->Below W.heap.size W W'->Z W'):=zh (fun W W' g hb=>(hZ _).2 (by
  obtain⟨g1,g2,g3,g4⟩:=(hZ _).1 g;exact⟨g1.next hb,g2.trans (Kw.of_below hb),g3.next hb,g4.next hb⟩))
 have ap:Hid (∀ W,Z W->W.cell? ⟨p,0,none⟩=some (.pointer (ptr rp))/\W.cell? ⟨p,1,none⟩=some (.pointer (ptr cp))/\W.cell? ⟨W0.heap.size,0,none⟩=some (vI h.a.row.a)/\W.cell? ⟨W0.heap.size,1,none⟩=some (vI h.a.row.n)/\W.cell? ⟨W0.heap.size,2,none⟩=some (vI h.a.col.a)/\W.cell? ⟨W0.heap.size,3,none⟩=some (vI h.a.col.n)/\W.cell? ⟨W0.heap.size,4,none⟩=some (.bool h.a.fr)/\W.cell? ⟨W0.heap.size,5,none⟩=some (.bool h.a.fc)/\Z W):=zh (fun W g=>by
  obtain⟨g1,g2,g3,g4⟩:=(hZ _).1 g;obtain⟨v,k,_⟩:=g1.box;exact⟨k.cell 0,k.cell 1,g3.cell 0,g3.cell 1,g3.cell 2,g3.cell 3,g3.cell 4,g3.cell 5,g⟩)
 have sj:Hid (W0.cell? ⟨w.heap.size,8,none⟩=some (vI h.a.row.a)/\W0.cell? ⟨w.heap.size,9,none⟩=some (vI h.a.row.n)/\W0.cell? ⟨w.heap.size,10,none⟩=some (vI h.a.col.a)/\W0.cell? ⟨w.heap.size,11,none⟩=some (vI h.a.col.n)/\W0.cell? ⟨w.heap.size,12,none⟩=some (.bool h.a.fr)/\W0.cell? ⟨w.heap.size,13,none⟩=some (.bool h.a.fc)):=zh (by
  have e8:=HL.out.cell 8;have e9:=HL.out.cell 9;have e10:=HL.out.cell 10;have e11:=HL.out.cell 11;have e12:=HL.out.cell 12;have e13:=HL.out.cell 13;rw[ah.out]at e8 e9 e10 e11 e12 e13;exact⟨e8,e9,e10,e11,e12,e13⟩)
 have qd:Hid (p<w.heap.size):=zh hw.lt;have HPz:Hid (p<W0.heap.size):=zh (yu hw.lt af.out.size);exact⟨W0,W1,Z,aj,am,fs,vu,gh,ap,sj,qd,HPz⟩
theorem fV{p m:Nat}{rp cp:Option Nat}{R C:AxV}{sff:FuncId}{sfx:Array Value}{ts:List RTok}{h:NodeH}{Cn:List Value}{w W0:World}{Z:World->Prop}{f:Nat}{args:Array Value}{v:Value}(fs:Hid (∀ W,Z W↔(WrS W p m rp cp R C (.func (.func sff) #[] sfx) ts/\Kw p (rp.toList++cp.toList) w W/\Lies W W0.heap.size 29 #[vI h.a.row.a,vI h.a.row.n,vI h.a.col.a,vI h.a.col.n,.bool h.a.fr,.bool h.a.fc]/\Lies W w.heap.size 34 Cn.toArray)))(hP:∀ W,WrS W p m rp cp R C (.func (.func sff) #[] sfx) ts->Calls Tryz.prog f args W fun e w'=>e=.returned v/\WrS w' p m rp cp R C (.func (.func sff) #[] sfx) ts/\Kw p (rp.toList++cp.toList) W w')(W:World)(g:Z W):Calls Tryz.prog f args W fun e w'=>e=.returned v/\Z w':=by
 have hZ:=fs.out;obtain⟨g1,g2,g3,g4⟩:=(hZ _).1 g;refine(hP W g1).mono ?_;rintro e w' ⟨rfl,k1,k2⟩;exact⟨rfl,(hZ _).2 ⟨k1,g2.trans k2,Kw.lies k2 g1 g3 (by decide) (by decide) (by decide),Kw.lies k2 g1 g4 (by decide) (by decide) (by decide)⟩⟩
theorem uDL{p m:Nat}{rp cp:Option Nat}{R C:AxV}{sff:FuncId}{sfx:Array Value}{ts:List RTok}(h:NodeH)(A:Option Addr)(n ca:Nat)(Cn:List Value)(w:World)(ah:Hid (Cn.toArray=aK h A n ca))(hw:WrS w p m rp cp R C (.func (.func sff) #[] sfx) ts)(hn:ts.length<=700000)(x y:Int)(bx by':Bool)
  (hP:∀ W,WrS W p m rp cp R C (.func (.func sff) #[] sfx) ts->Calls Tryz.prog 40 #[.pointer (ptr rp),.agg #[vI h.a.row.a,vI h.a.row.n]] W fun e w'=>e=.returned (.tuple #[vI x,.bool bx])/\WrS w' p m rp cp R C (.func (.func sff) #[] sfx) ts/\Kw p (rp.toList++cp.toList) W w')
  (hQ:∀ W,WrS W p m rp cp R C (.func (.func sff) #[] sfx) ts->Calls Tryz.prog 40 #[.pointer (ptr cp),.agg #[vI h.a.col.a,vI h.a.col.n]] W fun e w'=>e=.returned (.tuple #[vI y,.bool by'])/\WrS w' p m rp cp R C (.func (.func sff) #[] sfx) ts/\Kw p (rp.toList++cp.toList) W w') (hg:bx=true->by'=false) :
  Calls Tryz.prog 138 #[vP p 0,.agg Cn.toArray] w fun e w'=>WrO p m rp cp R C (.func (.func sff) #[] sfx) (ts++dC) w e w':=by
 obtain⟨W0,W1,Z,aj,am,fs,vu,gh,ap,sj,qd,HPz⟩:=pR ah hw;have hZ:=fs.out;have CP:=zh (fun W (g:Z W)=>fV fs hP W g);have CQ:=zh (fun W (g:Z W)=>fV fs hQ W g);have CG:Hid (∀ W,Z W->Calls Tryz.prog 193 #[vP p 0] W fun e w'=>WrO p m rp cp R C (.func (.func sff) #[] sfx) (ts++dC) W e w'):=zh (fun W g=>mA W ((hZ _).1 g).1 (by omega));clear hw hP hQ hZ ah;obtain⟨d8,d9,d10,d11,d12,d13⟩:=sj.out
 go_in
 go_upto_region 1 with fail
 rw[<- aj.out];clear aj
 go_upto_region 2 with fail
 rw[<- am.out];clear am d8 d9 d10 d11 d12 d13 sj;obtain⟨p0,p1,r0,r1,r2,r3,r4,r5,cg⟩:=ap.out _ vu.out
 go_cut [5,6] (fun va vb wx=>va=vI x/\vb=.bool bx/\Hid (Z wx))
 case first=>
  go_region_held3 (fun w'=>w'.cell? ⟨p,0,none⟩=some (.pointer (ptr rp))/\w'.cell? ⟨p,1,none⟩=some (.pointer (ptr cp))/\w'.cell? ⟨W0.heap.size,0,none⟩=some (vI h.a.row.a)/\w'.cell? ⟨W0.heap.size,1,none⟩=some (vI h.a.row.n)/\w'.cell? ⟨W0.heap.size,2,none⟩=some (vI h.a.col.a)/\w'.cell? ⟨W0.heap.size,3,none⟩=some (vI h.a.col.n)/\w'.cell? ⟨W0.heap.size,4,none⟩=some (.bool h.a.fr)/\w'.cell? ⟨W0.heap.size,5,none⟩=some (.bool h.a.fc)/\Z w')
   (first|exact ap.out _ cg|exact ap.out _ (gh.out _ _ cg zB.drew)|exact ap.out _ hb|assumption)
   (first
    |(go_at_call 40;(with_reducible refine(CP.out _ ?hz).mono ?_);(case hz=>(first|assumption |(go_split_ands;assumption)));rintro e wx ⟨rfl,hb⟩))
  all_goals go_wp2_with fail
  all_goals go_meet
  all_goals refine⟨rfl,rfl,zh ?_⟩
  all_goals first|assumption |(go_split_ands;assumption)
 case rest=>
 clear p0 p1 r0 r1 r2 r3 r4 r5 cg CP vu;obtain⟨rfl,rfl,jd⟩:=hcut;obtain⟨W5,fe⟩:=zD wc
 subst fe;obtain⟨p0,p1,r0,r1,r2,r3,r4,r5,cg⟩:=ap.out _ jd.out
 go_upto_region 3 with fail
 go_cut [7,8] (fun va vb wx=>va=vI y/\vb=.bool by'/\Hid (Z wx))
 case first=>
  go_region_held3 (fun w'=>w'.cell? ⟨p,0,none⟩=some (.pointer (ptr rp))/\w'.cell? ⟨p,1,none⟩=some (.pointer (ptr cp))/\w'.cell? ⟨W0.heap.size,0,none⟩=some (vI h.a.row.a)/\w'.cell? ⟨W0.heap.size,1,none⟩=some (vI h.a.row.n)/\w'.cell? ⟨W0.heap.size,2,none⟩=some (vI h.a.col.a)/\w'.cell? ⟨W0.heap.size,3,none⟩=some (vI h.a.col.n)/\w'.cell? ⟨W0.heap.size,4,none⟩=some (.bool h.a.fr)/\w'.cell? ⟨W0.heap.size,5,none⟩=some (.bool h.a.fc)/\Z w')
   (first|exact ap.out _ cg|exact ap.out _ (gh.out _ _ cg zB.drew)|exact ap.out _ hb|assumption)
   (first
    |(go_at_call 40;(with_reducible refine(CQ.out _ ?hz).mono ?_);(case hz=>(first|assumption |(go_split_ands;assumption)));rintro e wx ⟨rfl,hb⟩))
  all_goals go_wp2_with fail
  all_goals go_meet
  all_goals refine⟨rfl,rfl,zh ?_⟩
  all_goals first|assumption |(go_split_ands;assumption)
 case rest=>
 clear p0 p1 r0 r1 r2 r3 r4 r5 cg CQ jd;obtain⟨rfl,rfl,oq⟩:=hcut;obtain⟨W6,lx⟩:=zD wc
 subst lx;have HK:=zh ((fs.out _).1 oq.out).2.1;cases bx
 ·go_wp2_with ((with_reducible refine(CG.out _ oq.out).mono ?_);rintro e wx ⟨rfl,hs,hk⟩;have jv:=zh hs;have gd:=zh (HK.out.trans hk);clear hs hk)
  go_end0
  exact⟨rfl,jv.out,gd.out⟩
 obtain rfl:=hg rfl
 go_wp2_with ((with_reducible refine(CG.out _ oq.out).mono ?_);rintro e wx ⟨rfl,hs,hk⟩;have jv:=zh hs;have gd:=zh (HK.out.trans hk);clear hs hk)
 go_end0
 exact⟨rfl,jv.out,gd.out⟩
theorem uHJ{p m:Nat}{rp cp:Option Nat}{R C:AxV}{sff:FuncId}{sfx:Array Value}{ts:List RTok}(h:NodeH)(A:Option Addr)(n ca:Nat)(Cn:List Value)(w:World)(ah:Hid (Cn.toArray=aK h A n ca))(hw:WrS w p m rp cp R C (.func (.func sff) #[] sfx) ts)(hn:ts.length<=700000)(x y:Int)(bx by':Bool)
  (hP:∀ W,WrS W p m rp cp R C (.func (.func sff) #[] sfx) ts->Calls Tryz.prog 40 #[.pointer (ptr rp),.agg #[vI h.a.row.a,vI h.a.row.n]] W fun e w'=>e=.returned (.tuple #[vI x,.bool bx])/\WrS w' p m rp cp R C (.func (.func sff) #[] sfx) ts/\Kw p (rp.toList++cp.toList) W w')
  (hQ:∀ W,WrS W p m rp cp R C (.func (.func sff) #[] sfx) ts->Calls Tryz.prog 40 #[.pointer (ptr cp),.agg #[vI h.a.col.a,vI h.a.col.n]] W fun e w'=>e=.returned (.tuple #[vI y,.bool by'])/\WrS w' p m rp cp R C (.func (.func sff) #[] sfx) ts/\Kw p (rp.toList++cp.toList) W w') (hF:∀ xs W,Sem.run Tryz.prog (callFunc sff xs) W=.ok (.enter sff xs) W) (t1:RTok) (ab:Hid (bx=true)) (hb2:Hid (by'=true)) (hT:∀ W,Kw p (rp.toList++cp.toList) w W->Calls Tryz.prog sff (#[.agg #[vI x,vI y,.bool h.a.fr,.bool h.a.fc],vI 0]++sfx) W fun e w'=>e=.returned (eD t1)/\Below W.heap.size W w') (hk:h.kind=1) :
  Calls Tryz.prog 138 #[vP p 0,.agg Cn.toArray] w fun e w'=>WrO p m rp cp R C (.func (.func sff) #[] sfx) (ts++[t1]) w e w':=by
 obtain⟨W0,W1,Z,aj,am,fs,vu,gh,ap,sj,qd,HPz⟩:=pR ah hw;have hZ:=fs.out;have CP:=zh (fun W (g:Z W)=>fV fs hP W g);have CQ:=zh (fun W (g:Z W)=>fV fs hQ W g);have CT:=zh hT;have er:Hid (Cn.toArray[0]?=some (vI 1)):=zh (by rw[ah.out];simp[aK,hk]);clear hT hk;clear hw hP hQ hZ ah;obtain⟨d8,d9,d10,d11,d12,d13⟩:=sj.out
 go_in
 go_upto_region 1 with fail
 rw[<- aj.out];clear aj
 go_upto_region 2 with fail
 rw[<- am.out];clear am d8 d9 d10 d11 d12 d13 sj;obtain⟨p0,p1,r0,r1,r2,r3,r4,r5,cg⟩:=ap.out _ vu.out
 go_cut [5,6] (fun va vb wx=>va=vI x/\vb=.bool bx/\Hid (Z wx))
 case first=>
  go_region_held3 (fun w'=>w'.cell? ⟨p,0,none⟩=some (.pointer (ptr rp))/\w'.cell? ⟨p,1,none⟩=some (.pointer (ptr cp))/\w'.cell? ⟨W0.heap.size,0,none⟩=some (vI h.a.row.a)/\w'.cell? ⟨W0.heap.size,1,none⟩=some (vI h.a.row.n)/\w'.cell? ⟨W0.heap.size,2,none⟩=some (vI h.a.col.a)/\w'.cell? ⟨W0.heap.size,3,none⟩=some (vI h.a.col.n)/\w'.cell? ⟨W0.heap.size,4,none⟩=some (.bool h.a.fr)/\w'.cell? ⟨W0.heap.size,5,none⟩=some (.bool h.a.fc)/\Z w')
   (first|exact ap.out _ cg|exact ap.out _ (gh.out _ _ cg zB.drew)|exact ap.out _ hb|assumption)
   (first
    |(go_at_call 40;(with_reducible refine(CP.out _ ?hz).mono ?_);(case hz=>(first|assumption |(go_split_ands;assumption)));rintro e wx ⟨rfl,hb⟩))
  all_goals go_wp2_with fail
  all_goals go_meet
  all_goals refine⟨rfl,rfl,zh ?_⟩
  all_goals first|assumption |(go_split_ands;assumption)
 case rest=>
 clear p0 p1 r0 r1 r2 r3 r4 r5 cg CP vu;obtain⟨rfl,rfl,jd⟩:=hcut;obtain⟨W5,fe⟩:=zD wc
 subst fe;obtain⟨p0,p1,r0,r1,r2,r3,r4,r5,cg⟩:=ap.out _ jd.out
 go_upto_region 3 with fail
 go_cut [7,8] (fun va vb wx=>va=vI y/\vb=.bool by'/\Hid (Z wx))
 case first=>
  go_region_held3 (fun w'=>w'.cell? ⟨p,0,none⟩=some (.pointer (ptr rp))/\w'.cell? ⟨p,1,none⟩=some (.pointer (ptr cp))/\w'.cell? ⟨W0.heap.size,0,none⟩=some (vI h.a.row.a)/\w'.cell? ⟨W0.heap.size,1,none⟩=some (vI h.a.row.n)/\w'.cell? ⟨W0.heap.size,2,none⟩=some (vI h.a.col.a)/\w'.cell? ⟨W0.heap.size,3,none⟩=some (vI h.a.col.n)/\w'.cell? ⟨W0.heap.size,4,none⟩=some (.bool h.a.fr)/\w'.cell? ⟨W0.heap.size,5,none⟩=some (.bool h.a.fc)/\Z w')
   (first|exact ap.out _ cg|exact ap.out _ (gh.out _ _ cg zB.drew)|exact ap.out _ hb|assumption)
   (first
    |(go_at_call 40;(with_reducible refine(CQ.out _ ?hz).mono ?_);(case hz=>(first|assumption |(go_split_ands;assumption)));rintro e wx ⟨rfl,hb⟩))
  all_goals go_wp2_with fail
  all_goals go_meet
  all_goals refine⟨rfl,rfl,zh ?_⟩
  all_goals first|assumption |(go_split_ands;assumption)
 case rest=>
 clear p0 p1 r0 r1 r2 r3 r4 r5 cg CQ jd;obtain⟨rfl,rfl,oq⟩:=hcut;obtain⟨W6,lx⟩:=zD wc
 subst lx;have ab:=ab.out;have hb2:=hb2.out;subst ab hb2;have hws:=((fs.out _).1 oq.out).1;have HK:=zh ((fs.out _).1 oq.out).2.1;have nj:=zh ((fs.out _).1 oq.out).2.2.1;have ja:=zh ((fs.out _).1 oq.out).2.2.2;have gw:=zh hws;obtain⟨v0,el,jq⟩:=hws.box;obtain⟨A1,c1,rfl⟩:=aV jq;have db:=zh el;have fg:=zh jq;have bp:Hid (∀ W,Below W6.heap.size W6 W->W.cell? ⟨p,3,none⟩=some (.func (.func sff) #[] sfx)/\W.cell? ⟨W0.heap.size,4,none⟩=some (.bool h.a.fr)/\W.cell? ⟨W0.heap.size,5,none⟩=some (.bool h.a.fc)):=zh (fun W hb=>⟨(db.out.next hb).cell 3,(nj.out.next hb).cell 4,(nj.out.next hb).cell 5⟩);clear hws el jq oq ap gh fs;have qw:Hid (p<W0.heap.size):=HPz;have qy:Hid (p<w.heap.size):=qd;have j7:Hid (∀ W,Below W6.heap.size W6 W->Kw p (rp.toList++cp.toList) w W):=zh (fun W hb=>HK.out.trans (Kw.of_below hb))
 go_upto_region 6 with fail
 refine wp_region_held_drew (S:=fun w'=>w'.cell? ⟨p,3,none⟩=some (.func (.func sff) #[] sfx)/\w'.cell? ⟨W0.heap.size,4,none⟩=some (.bool h.a.fr)/\w'.cell? ⟨W0.heap.size,5,none⟩=some (.bool h.a.fc)) (by kernel_rfl) (bp.out _ zB.drew) (fun ag=>?_);refine TkA 0 (vP p 0) ?_;refine TkA 1 (vP p 0) ?_;refine TkA 2 (vP p 0) ?_;refine TkA 3 (vP p 4) ?_;refine TkA 5 (vP p 0) ?_;refine TkA 6 (vP p 0) ?_;refine TkA 7 (vP p 3) ?_;refine TkB 8 (.func (.func sff) #[] sfx) ?_;refine TkA 9 (vI x) ?_;refine TkA 10 (vI y) ?_;refine TkA 11 (vP W0.heap.size 4) ?_;refine TkB 12 (.bool h.a.fr) ?_;refine TkA 13 (vP W0.heap.size 5) ?_;refine TkB 14 (.bool h.a.fc) ?_
 refine TkA 15 (.agg #[vI x,vI y,.bool h.a.fr,.bool h.a.fc]) ?_;have ae:Hid (Below W6.heap.size W6 W6.drew):=zh zB.drew;refine wpAnyH_ready (rs:=[4,16]) (by kernel_rfl) (by simp) ?_;refine AllReadyH.cons rfl (fun K hK=>?pa1) (AllReadyH.cons rfl (fun K hK=>?pb1) AllReadyH.nil)
 case' pa1=>
  have c4:=(db.out.next ae.out).cell 4;simp only[za,zb,zf]at c4
  go_simp
  clear c4;refine hK.out _ _ (bp.out _ ae.out) (fun aa=>?_);clear hK K ag;have ag:=aa;clear aa;refine TkR 16 (fun K hK=>?_)
  go_simp
  refine(CT.out _ (j7.out _ ae.out)).mono ?_;rintro e wx ⟨rfl,hb⟩;replace ae:=zT ae hb;clear hb
  go_wp2_with fail
  refine hK.out _ _ (bp.out _ ae.out) (fun aa=>?_);clear hK K ag;have ag:=aa;clear aa;refine TkR 17 (fun K hK=>?_)
  go_simp
  obtain⟨W7,ba⟩:=zD (wx.alloc (.cells #[vI t1.kind,vT t1.text,vI t1.place] 64))
  rw[<- ba];have jr:=zL ba;replace ae:=zF ae ba;clear ba;refine hK.out _ _ (bp.out _ ae.out) (fun aa=>?_);clear hK K ag;have ag:=aa;clear aa
 case' pb1=>
  go_simp
  refine(CT.out _ (j7.out _ ae.out)).mono ?_;rintro e wx ⟨rfl,hb⟩;replace ae:=zT ae hb;clear hb
  go_wp2_with fail
  refine hK.out _ _ (bp.out _ ae.out) (fun aa=>?_);clear hK K ag;have ag:=aa;clear aa;refine wpAnyH_ready (rs:=[4,17]) (by kernel_rfl) (by simp) ?_;refine AllReadyH.cons rfl (fun K hK=>?pc1) (AllReadyH.cons rfl (fun K hK=>?pd1) AllReadyH.nil)
  case' pc1=>
   have c4:=(db.out.next ae.out).cell 4;simp only[za,zb,zf]at c4
   go_simp
   clear c4;refine hK.out _ _ (bp.out _ ae.out) (fun aa=>?_);clear hK K ag;have ag:=aa;clear aa;refine TkR 17 (fun K hK=>?_)
   go_simp
   obtain⟨W7,ba⟩:=zD (wx.alloc (.cells #[vI t1.kind,vT t1.text,vI t1.place] 64))
   rw[<- ba];have jr:=zL ba;replace ae:=zF ae ba;clear ba;refine hK.out _ _ (bp.out _ ae.out) (fun aa=>?_);clear hK K ag;have ag:=aa;clear aa
  case' pd1=>
   go_simp
   obtain⟨W7,ba⟩:=zD (wx.alloc (.cells #[vI t1.kind,vT t1.text,vI t1.place] 64))
   rw[<- ba];have jr:=zL ba;replace ae:=zF ae ba;clear ba;refine hK.out _ _ (bp.out _ ae.out) (fun aa=>?_);clear hK K ag;have ag:=aa;clear aa;refine TkR 4 (fun K hK=>?_);have c4:=(db.out.next ae.out).cell 4;simp only[za,zb,zf]at c4
   go_simp
   clear c4;refine hK.out _ _ (bp.out _ ae.out) (fun aa=>?_);clear hK K ag;have ag:=aa;clear aa
 all_goals
  refine TkR 18 (fun K hK=>?_);refine cH rfl _ _ rfl (p+1) (.slice A1 ts.length c1) ts t1 wx.heap.size rfl (aD ae.out fg.out) rfl jr.out (by omega) (yv (Nat.succ_le_of_lt gw.out.lt) ae.out.size) ?_;intro A5 c5 w5 k5 g5;have dg:=zh k5;have q8:=zh g5;have dy:=zh ((db.out.next ae.out).grownA g5 (bF (by decide) (aD ae.out fg.out) (db.out.next ae.out)));have q9:=zh ((nj.out.next ae.out).grownA g5 (bF (by decide) (aD ae.out fg.out) (nj.out.next ae.out)));have HLn5:=zh ((ja.out.next ae.out).grownA g5 (bF (by decide) (aD ae.out fg.out) (ja.out.next ae.out)));clear k5 g5;refine hK.out _ _ ⟨dy.out.cell 3,q9.out.cell 4,q9.out.cell 5⟩ (fun aa=>?_);clear hK K ag;have ag:=aa;clear aa;refine TkA 19 (vP p 0) ?_;refine TkA 20 (vP p 4) ?_;have k4:=dy.out.cell 4
  simp only[za,zb,zf]at k4;have k4f:=dy.out.frozen 4;refine TkR 21 (fun K hK=>?_)
  go_simp
  clear k4 k4f;have ma:=zh ((gw.out.next ae.out).grown (ts':=ts++[t1]) ((db.out.next ae.out).cell 4) dg.out q8.out);have ra:=zh ((HK.out.trans (Kw.of_below ae.out)).trans ma.out.2);have rd:=zh ma.out.1;have ui:=zh (aC q9.out (b:=p) (by have:=qw.out;omega) 4 (.slice A5 (ts.length+1) c5));have HLn7:=zh (aC HLn5.out (b:=p) (by have:=qy.out;omega) 4 (.slice A5 (ts.length+1) c5));have nf:=zh (dy.out.put 4 (.slice A5 (ts.length+1) c5));refine hK.out _ _ ⟨nf.out.cell 3,ui.out.cell 4,ui.out.cell 5⟩ (fun aa=>?_);clear hK K ag aa;refine TkD ?_
  (try simp only[Act.put,yz])
  have n0:=HLn7.out.cell 0;rw[er.out]at n0
  go_wp2_with fail
  go_end0
  exact⟨rfl,rd.out,ra.out⟩
theorem uAJ{p m:Nat}{rp cp:Option Nat}{R C:AxV}{sff:FuncId}{sfx:Array Value}{ts:List RTok}(h:NodeH)(A:Option Addr)(n ca:Nat)(Cn:List Value)(w:World)(ah:Hid (Cn.toArray=aK h A n ca))(hw:WrS w p m rp cp R C (.func (.func sff) #[] sfx) ts)(hn:ts.length<=700000)(x y:Int)(bx by':Bool)
  (hP:∀ W,WrS W p m rp cp R C (.func (.func sff) #[] sfx) ts->Calls Tryz.prog 40 #[.pointer (ptr rp),.agg #[vI h.a.row.a,vI h.a.row.n]] W fun e w'=>e=.returned (.tuple #[vI x,.bool bx])/\WrS w' p m rp cp R C (.func (.func sff) #[] sfx) ts/\Kw p (rp.toList++cp.toList) W w')
  (hQ:∀ W,WrS W p m rp cp R C (.func (.func sff) #[] sfx) ts->Calls Tryz.prog 40 #[.pointer (ptr cp),.agg #[vI h.a.col.a,vI h.a.col.n]] W fun e w'=>e=.returned (.tuple #[vI y,.bool by'])/\WrS w' p m rp cp R C (.func (.func sff) #[] sfx) ts/\Kw p (rp.toList++cp.toList) W w') (hF:∀ xs W,Sem.run Tryz.prog (callFunc sff xs) W=.ok (.enter sff xs) W) (t1:RTok) (ab:Hid (bx=true)) (hb2:Hid (by'=true)) (hT:∀ W,Kw p (rp.toList++cp.toList) w W->Calls Tryz.prog sff (#[.agg #[vI x,vI y,.bool h.a.fr,.bool h.a.fc],vI 0]++sfx) W fun e w'=>e=.returned (eD t1)/\Below W.heap.size W w') (hk:h.kind=3) :
  Calls Tryz.prog 138 #[vP p 0,.agg Cn.toArray] w fun e w'=>WrO p m rp cp R C (.func (.func sff) #[] sfx) (ts++[t1]++[tk 5 [35]]) w e w':=by
 obtain⟨W0,W1,Z,aj,am,fs,vu,gh,ap,sj,qd,HPz⟩:=pR ah hw;have hZ:=fs.out;have CP:=zh (fun W (g:Z W)=>fV fs hP W g);have CQ:=zh (fun W (g:Z W)=>fV fs hQ W g);have CT:=zh hT;have er:Hid (Cn.toArray[0]?=some (vI 3)):=zh (by rw[ah.out];simp[aK,hk]);clear hT hk;obtain⟨t2,oy⟩:∃ x,x=tk 5 [35]:=⟨_,rfl⟩
 have CPs:=zh (cB (p:=p) (m:=m) (rp:=rp) (cp:=cp) (R:=R) (C:=C) (sf:=.func (.func sff) #[] sfx) 5 [35] #[35] rfl t2 oy);rw[<- oy];clear oy;clear hw hP hQ hZ ah;obtain⟨d8,d9,d10,d11,d12,d13⟩:=sj.out
 go_in
 go_upto_region 1 with fail
 rw[<- aj.out];clear aj
 go_upto_region 2 with fail
 rw[<- am.out];clear am d8 d9 d10 d11 d12 d13 sj;obtain⟨p0,p1,r0,r1,r2,r3,r4,r5,cg⟩:=ap.out _ vu.out
 go_cut [5,6] (fun va vb wx=>va=vI x/\vb=.bool bx/\Hid (Z wx))
 case first=>
  go_region_held3 (fun w'=>w'.cell? ⟨p,0,none⟩=some (.pointer (ptr rp))/\w'.cell? ⟨p,1,none⟩=some (.pointer (ptr cp))/\w'.cell? ⟨W0.heap.size,0,none⟩=some (vI h.a.row.a)/\w'.cell? ⟨W0.heap.size,1,none⟩=some (vI h.a.row.n)/\w'.cell? ⟨W0.heap.size,2,none⟩=some (vI h.a.col.a)/\w'.cell? ⟨W0.heap.size,3,none⟩=some (vI h.a.col.n)/\w'.cell? ⟨W0.heap.size,4,none⟩=some (.bool h.a.fr)/\w'.cell? ⟨W0.heap.size,5,none⟩=some (.bool h.a.fc)/\Z w')
   (first|exact ap.out _ cg|exact ap.out _ (gh.out _ _ cg zB.drew)|exact ap.out _ hb|assumption)
   (first
    |(go_at_call 40;(with_reducible refine(CP.out _ ?hz).mono ?_);(case hz=>(first|assumption |(go_split_ands;assumption)));rintro e wx ⟨rfl,hb⟩))
  all_goals go_wp2_with fail
  all_goals go_meet
  all_goals refine⟨rfl,rfl,zh ?_⟩
  all_goals first|assumption |(go_split_ands;assumption)
 case rest=>
 clear p0 p1 r0 r1 r2 r3 r4 r5 cg CP vu;obtain⟨rfl,rfl,jd⟩:=hcut;obtain⟨W5,fe⟩:=zD wc
 subst fe;obtain⟨p0,p1,r0,r1,r2,r3,r4,r5,cg⟩:=ap.out _ jd.out
 go_upto_region 3 with fail
 go_cut [7,8] (fun va vb wx=>va=vI y/\vb=.bool by'/\Hid (Z wx))
 case first=>
  go_region_held3 (fun w'=>w'.cell? ⟨p,0,none⟩=some (.pointer (ptr rp))/\w'.cell? ⟨p,1,none⟩=some (.pointer (ptr cp))/\w'.cell? ⟨W0.heap.size,0,none⟩=some (vI h.a.row.a)/\w'.cell? ⟨W0.heap.size,1,none⟩=some (vI h.a.row.n)/\w'.cell? ⟨W0.heap.size,2,none⟩=some (vI h.a.col.a)/\w'.cell? ⟨W0.heap.size,3,none⟩=some (vI h.a.col.n)/\w'.cell? ⟨W0.heap.size,4,none⟩=some (.bool h.a.fr)/\w'.cell? ⟨W0.heap.size,5,none⟩=some (.bool h.a.fc)/\Z w')
   (first|exact ap.out _ cg|exact ap.out _ (gh.out _ _ cg zB.drew)|exact ap.out _ hb|assumption)
   (first
    |(go_at_call 40;(with_reducible refine(CQ.out _ ?hz).mono ?_);(case hz=>(first|assumption |(go_split_ands;assumption)));rintro e wx ⟨rfl,hb⟩))
  all_goals go_wp2_with fail
  all_goals go_meet
  all_goals refine⟨rfl,rfl,zh ?_⟩
  all_goals first|assumption |(go_split_ands;assumption)
 case rest=>
 clear p0 p1 r0 r1 r2 r3 r4 r5 cg CQ jd;obtain⟨rfl,rfl,oq⟩:=hcut;obtain⟨W6,lx⟩:=zD wc
 subst lx;have ab:=ab.out;have hb2:=hb2.out;subst ab hb2;have hws:=((fs.out _).1 oq.out).1;have HK:=zh ((fs.out _).1 oq.out).2.1;have nj:=zh ((fs.out _).1 oq.out).2.2.1;have ja:=zh ((fs.out _).1 oq.out).2.2.2;have gw:=zh hws;obtain⟨v0,el,jq⟩:=hws.box;obtain⟨A1,c1,rfl⟩:=aV jq;have db:=zh el;have fg:=zh jq;have bp:Hid (∀ W,Below W6.heap.size W6 W->W.cell? ⟨p,3,none⟩=some (.func (.func sff) #[] sfx)/\W.cell? ⟨W0.heap.size,4,none⟩=some (.bool h.a.fr)/\W.cell? ⟨W0.heap.size,5,none⟩=some (.bool h.a.fc)):=zh (fun W hb=>⟨(db.out.next hb).cell 3,(nj.out.next hb).cell 4,(nj.out.next hb).cell 5⟩);clear hws el jq oq ap gh fs;have qw:Hid (p<W0.heap.size):=HPz;have qy:Hid (p<w.heap.size):=qd;have j7:Hid (∀ W,Below W6.heap.size W6 W->Kw p (rp.toList++cp.toList) w W):=zh (fun W hb=>HK.out.trans (Kw.of_below hb))
 go_upto_region 6 with fail
 refine wp_region_held_drew (S:=fun w'=>w'.cell? ⟨p,3,none⟩=some (.func (.func sff) #[] sfx)/\w'.cell? ⟨W0.heap.size,4,none⟩=some (.bool h.a.fr)/\w'.cell? ⟨W0.heap.size,5,none⟩=some (.bool h.a.fc)) (by kernel_rfl) (bp.out _ zB.drew) (fun ag=>?_);refine TkA 0 (vP p 0) ?_;refine TkA 1 (vP p 0) ?_;refine TkA 2 (vP p 0) ?_;refine TkA 3 (vP p 4) ?_;refine TkA 5 (vP p 0) ?_;refine TkA 6 (vP p 0) ?_;refine TkA 7 (vP p 3) ?_;refine TkB 8 (.func (.func sff) #[] sfx) ?_;refine TkA 9 (vI x) ?_;refine TkA 10 (vI y) ?_;refine TkA 11 (vP W0.heap.size 4) ?_;refine TkB 12 (.bool h.a.fr) ?_;refine TkA 13 (vP W0.heap.size 5) ?_;refine TkB 14 (.bool h.a.fc) ?_
 refine TkA 15 (.agg #[vI x,vI y,.bool h.a.fr,.bool h.a.fc]) ?_;have ae:Hid (Below W6.heap.size W6 W6.drew):=zh zB.drew;refine wpAnyH_ready (rs:=[4,16]) (by kernel_rfl) (by simp) ?_;refine AllReadyH.cons rfl (fun K hK=>?pa2) (AllReadyH.cons rfl (fun K hK=>?pb2) AllReadyH.nil)
 case' pa2=>
  have c4:=(db.out.next ae.out).cell 4;simp only[za,zb,zf]at c4
  go_simp
  clear c4;refine hK.out _ _ (bp.out _ ae.out) (fun aa=>?_);clear hK K ag;have ag:=aa;clear aa;refine TkR 16 (fun K hK=>?_)
  go_simp
  refine(CT.out _ (j7.out _ ae.out)).mono ?_;rintro e wx ⟨rfl,hb⟩;replace ae:=zT ae hb;clear hb
  go_wp2_with fail
  refine hK.out _ _ (bp.out _ ae.out) (fun aa=>?_);clear hK K ag;have ag:=aa;clear aa;refine TkR 17 (fun K hK=>?_)
  go_simp
  obtain⟨W7,ba⟩:=zD (wx.alloc (.cells #[vI t1.kind,vT t1.text,vI t1.place] 64))
  rw[<- ba];have jr:=zL ba;replace ae:=zF ae ba;clear ba;refine hK.out _ _ (bp.out _ ae.out) (fun aa=>?_);clear hK K ag;have ag:=aa;clear aa
 case' pb2=>
  go_simp
  refine(CT.out _ (j7.out _ ae.out)).mono ?_;rintro e wx ⟨rfl,hb⟩;replace ae:=zT ae hb;clear hb
  go_wp2_with fail
  refine hK.out _ _ (bp.out _ ae.out) (fun aa=>?_);clear hK K ag;have ag:=aa;clear aa;refine wpAnyH_ready (rs:=[4,17]) (by kernel_rfl) (by simp) ?_;refine AllReadyH.cons rfl (fun K hK=>?pc2) (AllReadyH.cons rfl (fun K hK=>?pd2) AllReadyH.nil)
  case' pc2=>
   have c4:=(db.out.next ae.out).cell 4;simp only[za,zb,zf]at c4
   go_simp
   clear c4;refine hK.out _ _ (bp.out _ ae.out) (fun aa=>?_);clear hK K ag;have ag:=aa;clear aa;refine TkR 17 (fun K hK=>?_)
   go_simp
   obtain⟨W7,ba⟩:=zD (wx.alloc (.cells #[vI t1.kind,vT t1.text,vI t1.place] 64))
   rw[<- ba];have jr:=zL ba;replace ae:=zF ae ba;clear ba;refine hK.out _ _ (bp.out _ ae.out) (fun aa=>?_);clear hK K ag;have ag:=aa;clear aa
  case' pd2=>
   go_simp
   obtain⟨W7,ba⟩:=zD (wx.alloc (.cells #[vI t1.kind,vT t1.text,vI t1.place] 64))
   rw[<- ba];have jr:=zL ba;replace ae:=zF ae ba;clear ba;refine hK.out _ _ (bp.out _ ae.out) (fun aa=>?_);clear hK K ag;have ag:=aa;clear aa;refine TkR 4 (fun K hK=>?_);have c4:=(db.out.next ae.out).cell 4;simp only[za,zb,zf]at c4
   go_simp
   clear c4;refine hK.out _ _ (bp.out _ ae.out) (fun aa=>?_);clear hK K ag;have ag:=aa;clear aa
 all_goals
  refine TkR 18 (fun K hK=>?_);refine cH rfl _ _ rfl (p+1) (.slice A1 ts.length c1) ts t1 wx.heap.size rfl (aD ae.out fg.out) rfl jr.out (by omega) (yv (Nat.succ_le_of_lt gw.out.lt) ae.out.size) ?_;intro A5 c5 w5 k5 g5;have dg:=zh k5;have q8:=zh g5;have dy:=zh ((db.out.next ae.out).grownA g5 (bF (by decide) (aD ae.out fg.out) (db.out.next ae.out)));have q9:=zh ((nj.out.next ae.out).grownA g5 (bF (by decide) (aD ae.out fg.out) (nj.out.next ae.out)));have HLn5:=zh ((ja.out.next ae.out).grownA g5 (bF (by decide) (aD ae.out fg.out) (ja.out.next ae.out)));clear k5 g5;refine hK.out _ _ ⟨dy.out.cell 3,q9.out.cell 4,q9.out.cell 5⟩ (fun aa=>?_);clear hK K ag;have ag:=aa;clear aa;refine TkA 19 (vP p 0) ?_;refine TkA 20 (vP p 4) ?_;have k4:=dy.out.cell 4
  simp only[za,zb,zf]at k4;have k4f:=dy.out.frozen 4;refine TkR 21 (fun K hK=>?_)
  go_simp
  clear k4 k4f;have ma:=zh ((gw.out.next ae.out).grown (ts':=ts++[t1]) ((db.out.next ae.out).cell 4) dg.out q8.out);have ra:=zh ((HK.out.trans (Kw.of_below ae.out)).trans ma.out.2);have rd:=zh ma.out.1;have ui:=zh (aC q9.out (b:=p) (by have:=qw.out;omega) 4 (.slice A5 (ts.length+1) c5));have HLn7:=zh (aC HLn5.out (b:=p) (by have:=qy.out;omega) 4 (.slice A5 (ts.length+1) c5));have nf:=zh (dy.out.put 4 (.slice A5 (ts.length+1) c5));refine hK.out _ _ ⟨nf.out.cell 3,ui.out.cell 4,ui.out.cell 5⟩ (fun aa=>?_);clear hK K ag aa;refine TkD ?_
  (try simp only[Act.put,yz])
  have n0:=HLn7.out.cell 0;rw[er.out]at n0
  go_wp2_with ((with_reducible refine(CPs.out _ _ rd.out (by simp;omega)).mono ?_);rintro e wy ⟨rfl,hs,hk⟩;have HS8:=zh hs;have HK8:=zh (ra.out.trans hk);clear hs hk)
  go_end0
  exact⟨rfl,HS8.out,HK8.out⟩
theorem jL{W W':World}(hb:Below W.heap.size W W'):W.grownBy W' none:=⟨hb.os,hb.tape,hb.output,hb.size,fun k hk _=>hb.block k hk⟩
section
variable {F:Fence} {n:Nat} {P:Program}
theorem uAB{α:Type}{g:Operand}{ps:Array Tmp}{assign body:Code}{Q:Exit->Act->World->Prop}{a:Act}{w:World}
  (hro:F.round=none) (h1:1<=n) {gf:Nat} {lb:Array Value} (hg:a.eval g=.func (.func gf) #[] lb) (hFg:F.fn gf) (eg:∀ args w,(callFunc gf args).run P w=.ok (.enter gf args) w)
  {encs:α->Array Value} {n₀:Addr->Prop} {R:List α->α->Prop} {S Sp:List α->Prop} (hseq:SeqQ F (n-1) P gf lb encs n₀ R S Sp w)
  (hn₀:∀ p,n₀ p->p.block<w.heap.size) (hps:∀ x,(encs x).size=ps.size)
  (I:List α->World->Prop) (Ix:Code->List α->World->Prop) (hI:OwnAll w.heap.size I) (xe:∀ c,OwnAll w.heap.size (Ix c)) (h0:I [] w) (a₁:α->World->Act) (w₁:α->World->World) (hw₁:∀ x W,Below W.heap.size W (w₁ x W))
  (oc:∀ (l:Nat) (x:α) (W:World) (K:Act->World->Prop),K (a₁ x W) (w₁ x W) ->
   assign.wpIn (F.inRound l) (n-1-1) P (Exit.then K (fun _ _ _=>False)) { tmps:=(ps.zip (encs x)).foldl (fun t (p,v)=>t.setIfInBounds p v) a.tmps,defers:=[] } W)
  (uj:∀ (l:Nat) (pre:List α) (x:α) (W:World),w.heap.size+2<=W.heap.size->I pre W->R pre x->∀ W',W'.heap.size=(w₁ x W).heap.size->(∀ k,k≠w.heap.size+1->W'.heap[k]?=(w₁ x W).heap[k]?)->I pre W'->body.wpIn (F.inRound l) (n-1-1) P (postQ w.heap.size n₀ I Ix (pre++[x]) W') (a₁ x W) W')
  (cq:∀ (D:Nat) (xs:List α) (W:World),w.heap.size<=D->S xs->I xs W->W.heap[D]?=some (.deferred (some []))->Q .normal { a with defers:={ target:=.collected D,args:=#[] }::a.defers } W)
  (oz:∀ (D:Nat) (c:Code) (pre:List α) (W:World),w.heap.size<=D->Sp pre->Ix c pre W->W.heap[D]?=some (.deferred (some []))->c.wpIn F n P Q { a with defers:={ target:=.collected D,args:=#[] }::a.defers } W) :
  (Code.rangeFunc g ps assign body).wpIn F n P Q a w:=by
 refine wpIn_rangeFunc fun fn hfn=>?_
 let rc:=recQ fn a.tmps ps assign body w.heap.size
 let W1:=(w.alloc (.deferred (some []))).alloc (rc .ready none)
 have hB1:BooksQ W1 w.heap.size (rc .ready none):=by
  refine⟨?_,(Below.heap_alloc _ _ _ (by simp)).trans (World.alloc_heap_new w _)⟩;have:=World.alloc_heap_new (w.alloc (.deferred (some []))) (rc .ready none)
  rwa [World.size_alloc]at this
 have dh:Below w.heap.size w W1:=((Below.refl _ w).alloc zr _).alloc (by simp) _;have aq:W1.heap.size=w.heap.size+2:=by simp[W1]
 have bq:∀ {row:Option Nat},(∀ r,row=some r->W1.heap.size<=r)->(∀ r,row=some r->w.heap.size<=r):=fun hr r e=>by
  have:=hr r e;omega
 refine⟨w.heap.size+1,[{ target:=.collected w.heap.size,args:=#[] }],W1,{ target:=.fn (.func gf) lb,args:=#[.func (.yield (w.heap.size+1)) #[] #[]] },W1,gf,#[.func (.yield (w.heap.size+1)) #[] #[]]++lb,W1,?_,?_,?_,?_,fun _=>h1,?_⟩
 ·rw[hro];exact run_enterLoop_outer _ _ _ _ _
 ·simp only[resolve,hg];simp[go_sem]
 ·intro f' rz;simp[Target.leads]at rz;subst rz;exact hFg
 ·simp[invoke,go_sem,eg]
 refine(hseq (w.heap.size+1) (fun pre W=>I pre W/\BooksQ W w.heap.size (rc .ready none)) (fun pre W=>∃ c,Ix c pre W/\BooksQ W w.heap.size (rc .done (some c))) W1 dh
  (fun s A B row hs jk hr=>⟨hI s A B row hs.1 jk (bq hr),hs.2.far jk (fun r e=>by have:=hr r e;omega)⟩)
  (fun s A B row hs jk hr=>by
   obtain⟨c,hc,gc⟩:=hs;exact⟨c,xe c s A B row hc jk (bq hr),gc.far jk (fun r e=>by have:=hr r e;omega)⟩)
  ?_ ⟨hI [] _ _ none (hI [] _ _ none h0 (World.grownBy_alloc w _ none) (fun r e=>by cases e)) (World.grownBy_alloc _ _ none) (fun r e=>by cases e),hB1⟩).mono ?_
 ·rintro pre x W hlt ⟨hi,gc⟩ hx;rw[aq]at hlt ⊢;have hy:=run_yield (P:=P) (args:=encs x) gc.loop (hps x);refine⟨fn,_,assign,body,hy,roundIn_of_wpIn hfn (oc _ x W _ ⟨_,run_beginRound (gc.far (row:=none) (jL (hw₁ x W)) (fun r e=>by cases e)).loop rfl,?_⟩)⟩;have hbk1:BooksQ (w₁ x W) w.heap.size (rc .ready none):=gc.far (row:=none) (jL (hw₁ x W)) (fun r e=>by cases e);have hi1:I pre (w₁ x W):=hI _ _ _ none hi (jL (hw₁ x W)) (fun r e=>by cases e);have re:BooksQ ((w₁ x W).putObj (w.heap.size+1) (rc .busy none)) w.heap.size (rc .busy none):=hbk1.put _;have i6:∀ (X:World) (o':Obj),KeepsQ n₀ (w.heap.size+2) X (X.putObj (w.heap.size+1) o'):=fun X o'=>sH (fun p hp=>by have:=hn₀ p hp;omega) (by omega) o'
  have sn:KeepsQ n₀ (w.heap.size+2) W (w₁ x W):=⟨(hw₁ x W).size,fun p hp=>(hw₁ x W).cell (by have:=hn₀ p hp;omega),fun p hp=>World.frozen?_of_block ((hw₁ x W).block _ (by have:=hn₀ p hp;omega)),fun k _ hk=>(hw₁ x W).block k hk⟩
  refine wpIn_mono (uj _ pre x W hlt hi hx _ (World.putObj_size ..) (fun k hk=>World.putObj_heap_other hk) (hI.putObj _ hi1 (by omega))) ?_;intro e a3 W3 hp;cases e with
  |normal=>
   obtain⟨bv,uk⟩:=hp;have ip:=re.kept bv;exact⟨_,_,run_endRound none ip.loop,.inl ⟨rfl,⟨hI.putObj _ uk (by omega),ip.put _⟩,(sn.trans ((i6 _ _).trans (bv.from (by omega)))).trans (i6 _ _)⟩⟩
  |ret=>
   obtain⟨bv,uk⟩:=hp;have ip:=re.kept bv;exact⟨_,_,run_endRound (some .ret) ip.loop,.inr ⟨rfl,.ret,(xe _).putObj _ uk (by omega),ip.put _⟩⟩
  |exit id=>
   obtain⟨bv,uk⟩:=hp;have ip:=re.kept bv;exact⟨_,_,run_endRound (some (.exit id)) ip.loop,.inr ⟨rfl,.exit id,(xe _).putObj _ uk (by omega),ip.put _⟩⟩
  |goto t=>exact hp.elim
  |panic ch=>exact hp.elim
  |outgrown=>exact hp.elim
 rintro e W2 ⟨⟨v,rfl⟩,(⟨xs,hS,hi,gc⟩|⟨pre,xf,c,hi,gc⟩)⟩
 ·exact⟨none,_,run_endLoop gc.loop (by simp),cq _ xs _ zr hS (hI.putObj _ hi (by omega)) (gc.put (o':=_)).dfr⟩
 exact⟨some c,_,run_endLoop gc.loop (by simp),oz _ c pre _ zr xf ((xe c).putObj _ hi (by omega)) (gc.put (o':=_)).dfr⟩
end
end Go.Proofs.YtjfihpaeglpblaaGreatDoor
namespace Go.Proofs.YtjfihpaeglpblaaGreatDoor
open Go.RowKit Go.Shelf
attribute [local go_sem] Oper.semAt_some
theorem slB_nil(w:World):(binOp .eql 148 (.slice none 0 0) (.slice none 0 0)).run Tryz.prog w=.ok (.bool true) w:=by kernel_rfl
theorem slB_some(a:Addr)(n c:Nat)(w:World):(binOp .eql 148 (.slice (some a) n c) (.slice none 0 0)).run Tryz.prog w=.ok (.bool false) w:=by kernel_rfl
theorem uER(l:List Bool):∀ u∈dW l,u.oneCell'=true:=by
 intro u hu;unfold dW at hu;obtain⟨x,_,rfl⟩:=yj.1 hu;rfl
theorem uEQ(l:List Bool):(dW l).length=l.length*1:=by simp[dW]
theorem uAQ(g off n c:Nat)(l:List Bool)(w:World)(hl:l.length=n)(hn:n<=300)(hc:∀ j u,(dW l)[j]?=some u->w.cell? ⟨g,off+j,none⟩=some u) :
  Calls Tryz.prog 256 #[.slice (some ⟨g,off,none⟩) n c] w fun e w'=>∃ A' c',e=.returned (.slice A' n c')/\w'.ownsRow w.heap.size 4 1 (.slice A' n c') n (dW l)/\Below w.heap.size w w':=by
 have dx:=slB_some ⟨g,off,none⟩ n c;have HC:=zh hc;have HL:=zh hl;clear hc hl;obtain⟨i1,gi,gz0,gz1,gz2⟩:=info_parts nT;have HO:Hid ((w.alloc (.cells #[] 4)).ownsRow w.heap.size 4 1 (.slice (some ⟨w.heap.size,0,none⟩) 0 0) 0 []):=zh ⟨rfl,.inr ⟨_,0,#[],rfl,zr,heap_alloc_new _ _,zr,by unfold maxLen;omega,rfl,rfl⟩⟩;have HB:Hid (Below w.heap.size w (w.alloc (.cells #[] 4))):=zh ((Below.refl _ w).alloc zr _);have HN:Hid (∀ j u,(dW l)[j]?=some u->(w.alloc (.cells #[] 4)).cell? ((⟨g,off,none⟩:Addr).add j)=some u):=zh (fun j u hj=>by
  have h0:=HC.out j u hj;have e:(⟨g,off,none⟩:Addr).add j=⟨g,off+j,none⟩:=by cases j <;> simp[Addr.add]
  rw[e];exact(HB.out.cell (p:=⟨g,off+j,none⟩) (dO h0)).trans h0)
 go_in
 go_wp2_with (first |(refine wpList_append_own (P:=Tryz.prog) _ rfl (.tmp 5) (.tmp 6) 148 rfl w.heap.size 4 i1 (.bool false) 1 1 Tryz.underlying148 gi gz0 gz1 gz2 rfl (by decide) _ 0 [] rfl HO.out ⟨g,off,none⟩ n c (dW l) rfl (by rw[uEQ,HL.out]) HN.out (uER l) (by unfold maxLen;omega) (by omega) HB.out.size (fun v' w' k1 k2 _=>?_);obtain⟨A',c',rfl⟩:=aV k1;have K1:=zh k1;have K2:=zh k2;clear k1 k2))
 go_ret
 have h1:=K1.out;rw[Nat.zero_add,List.nil_append]at h1;have h2:Below w.heap.size w w':=HB.out.grown K2.out HB.out.size (fun k hk=>by injection hk with hk;exact Nat.le_of_eq hk);exact⟨A',c',rfl,h1,h2⟩
theorem uAR(w:World) :
  Calls Tryz.prog 256 #[.slice none 0 0] w fun e w'=>e=.returned (.slice none 0 0)/\Below w.heap.size w w':=by
 have dx:=slB_nil
 go_in
 go_wp2_with fail
 go_ret
 exact⟨rfl,Below.refl _ _⟩
theorem uEX{base n:Nat}{v:Value}{l:List IdR}{W0:World}(h:W0.ownsRow base 27 2 v n (aJ l))(hl:l.length=n)(hn:n<=300):∀ W,Below W0.heap.size W0 W->Calls Tryz.prog 244 #[v] W fun e w'=>∃ A c,e=.returned (.slice A n c)/\w'.ownsRow W.heap.size 27 2 (.slice A n c) n (aJ l)/\Below W.heap.size W w':=fun W hb=>by
 have h':=aD hb h;rcases h'.2 with⟨rfl,h0⟩|⟨g,cap,cur,rfl,h1,h2,h3⟩
 ·subst h0;refine(pV W).mono ?_;rintro e w' ⟨rfl,vp⟩;obtain rfl:l=[]:=List.eq_nil_of_length_eq_zero hl;exact⟨none,0,rfl,⟨rfl,.inl ⟨rfl,rfl⟩⟩,vp⟩
 refine(pU g 0 n cap l W hl hn (fun j u hj=>?_)).mono ?_
 ·have:=h'.cells (g:=g) rfl j u hj
  rwa [Addr.add_mid]at this
 rintro e w' ⟨A,c,rfl,k1,k2⟩;exact⟨A,c,rfl,k1,k2⟩
theorem xT{base n:Nat}{v:Value}{l:List Bool}{W0:World}(h:W0.ownsRow base 4 1 v n (dW l))(hl:l.length=n)(hn:n<=300):∀ W,Below W0.heap.size W0 W->Calls Tryz.prog 256 #[v] W fun e w'=>∃ A c,e=.returned (.slice A n c)/\w'.ownsRow W.heap.size 4 1 (.slice A n c) n (dW l)/\Below W.heap.size W w':=fun W hb=>by
 have h':=aD hb h;rcases h'.2 with⟨rfl,h0⟩|⟨g,cap,cur,rfl,h1,h2,h3⟩
 ·subst h0;refine(uAR W).mono ?_;rintro e w' ⟨rfl,vp⟩;obtain rfl:l=[]:=List.eq_nil_of_length_eq_zero hl;exact⟨none,0,rfl,⟨rfl,.inl ⟨rfl,rfl⟩⟩,vp⟩
 refine(uAQ g 0 n cap l W hl hn (fun j u hj=>?_)).mono ?_
 ·have:=h'.cells (g:=g) rfl j u hj
  rwa [Addr.add_mid]at this
 rintro e w' ⟨A,c,rfl,k1,k2⟩;exact⟨A,c,rfl,k1,k2⟩
theorem AxF.lists{W:World}{b:Nat}{ids:List IdR}{fl:List Bool}(h:AxF W (some b) (some (ids,fl))):∃ v1 v2 b1 b2,W.cell? ⟨b,0,none⟩=some v1/\W.cell? ⟨b,1,none⟩=some v2/\W.ownsRow b1 27 2 v1 ids.length (aJ ids)/\W.ownsRow b2 4 1 v2 fl.length (dW fl)/\b<W.heap.size:=by
 obtain⟨_,_,_,_,⟨base,v1,v2,g⟩|⟨base,g⟩⟩:=h
 ·exact⟨v1,v2,base,base,g.ax.cell 0,g.ax.cell 1,g.r1,g.r2,g.ax.lt⟩
 obtain⟨v1,v2,_,_,_,_,h1,⟨b1,h2⟩,⟨b2,h3⟩,_⟩:=g.ex;exact⟨v1,v2,b1,b2,h1.cell 0,h1.cell 1,h2,h3,h1.lt⟩
theorem gI:∀ (l:List IdR) (k:Nat) (h:k<l.length),(aJ l)[k*2]?=some (vI l[k].a)/\(aJ l)[k*2+1]?=some (vI l[k].n)
 | [],_,h=>absurd h (by simp)
 |x::r,0,_=>⟨rfl,rfl⟩
 |x::r,k+1,h=>by
  have:=gI r k (by simpa using h);have e:aJ (x::r)=[vI x.a,vI x.n]++aJ r:=rfl;rw[e,List.getElem?_append_right (by simp;omega),List.getElem?_append_right (by simp;omega)];simp only[yi,List.length_nil,Nat.zero_add];rw[show (k+1)*2-2=k*2 by omega,show (k+1)*2+1-2=k*2+1 by omega];exact this
theorem retB{A B C:Prop}{e:Ending}(h:(e=.returned (.bool true)/\A/\B)\/(e=.returned (.bool false)/\C)):∃ r:Bool,e=.returned (.bool r)/\((r=true/\A/\B)\/(r=false/\C)):=by
 rcases h with⟨h1,h2⟩|⟨h1,h2⟩
 ·exact⟨true,h1,.inl ⟨rfl,h2⟩⟩
 exact⟨false,h1,.inr ⟨rfl,h2⟩⟩
def encA(x:IdR×Bool):Array Value:=#[idV x.1,.bool x.2]
structure ASt(W:World)(J:List (IdR×Bool)->World->Prop)(ids:List IdR)(fl:List Bool)(n c1 c2:Nat)(A1 A2:Option Addr)(i:Nat)(wr:World):Prop where
 o1:wr.ownsRow W.heap.size 27 2 (.slice A1 n c1) n (aJ ids)
 o2:wr.ownsRow W.heap.size 4 1 (.slice A2 n c2) n (dW fl)
 j:J ((ids.zip fl).take i) wr
 size:W.heap.size<=wr.heap.size
theorem yM{w w':World}{b e s n:Nat}{v:Value}{xs:List Value}(h:w.ownsRow b e s v n xs)(hk:∀ k,b<=k->k<w.heap.size->w'.heap[k]?=w.heap[k]?):w'.ownsRow b e s v n xs:=by
 obtain⟨h1,h2⟩:=h;refine⟨h1,?_⟩;rcases h2 with h2|⟨g,cap,cur,hv,hb,hh,r⟩
 ·exact .inl h2
 exact .inr ⟨g,cap,cur,hv,hb,(hk g hb (zk.1 hh).1).trans hh,r⟩
theorem all1_in(n0:Nat)(hn:1<=n0)(ids:List IdR)(fl:List Bool)(b B:Nat)(w:World)(hb:w.cell? ⟨B,0,none⟩=some (vP b 0))(hA:AxF w (some b) (some (ids,fl))) :
  SeqQ Fence.wide n0 Tryz.prog 255 #[vP B 0] encA (fun _=>False) (fun pre x=>pre++[x] <+: ids.zip fl) (fun xs=>xs=ids.zip fl) (fun pre=>pre <+: ids.zip fl) w:=fun l J Jx W hW hJ hJx hY h0=>by
 have hbW:W.cell? ⟨B,0,none⟩=some (vP b 0):=(hW.cell (p:=⟨B,0,none⟩) (dO hb)).trans hb;obtain⟨v1,v2,b1,b2,a0,a1,o1,o2,hbs⟩:=(hA.next hW).lists;obtain⟨hl,hn3,-⟩:=id hA;obtain⟨n,dx⟩:=zD ids.length
 have CI:=zh (uEX (n:=n) (by rw[dx];exact o1) dx.symm (by omega));have CB:=zh (xT (n:=n) (by rw[dx,hl];exact o2) (by omega) (by omega));have hBs:=dO hbW;have ap:Hid (∀ W',Below W.heap.size W W'->W'.cell? ⟨B,0,none⟩=some (vP b 0)/\W'.cell? ⟨b,0,none⟩=some v1/\W'.cell? ⟨b,1,none⟩=some v2/\Below W.heap.size W W'):=zh (fun W' h=>⟨(h.cell (p:=⟨B,0,none⟩) hBs).trans hbW,(h.cell (p:=⟨b,0,none⟩) hbs).trans a0,(h.cell (p:=⟨b,1,none⟩) hbs).trans a1,h⟩);have HJ:=zh hJ;have HY:=zh hY;have H0:=zh h0;have HN:Hid (ids.length=n/\fl.length=n/\n<=300):=zh ⟨dx.symm,by omega,by omega⟩;have hni:(n:Int)<=300:=by omega
 clear hJ hY hW hJx h0 hb hA hbW hBs o1 o2 hbs a0 a1 hl hn3 dx;obtain⟨m0,a0,a1,cg⟩:=ap.out _ zB;refine callsIn_of_wp Tryz.func255 rfl trivial ?_ rfl;simp only[Tryz.ntmps255,yd,yi,List.length_nil,Nat.reduceAdd,Nat.reduceSub,Array.replicate_succ,Array.replicate_zero,List.push_toArray,List.append_toArray,List.nil_append,yp]
 gi_upto_region 1 with fail
 gi_cut [3,4] from 40 (fun v3 v4 wx=>∃ A1 c1 A2 c2,v3=.slice A1 n c1/\v4=.slice A2 n c2/\Hid (wx.ownsRow W.heap.size 27 2 (.slice A1 n c1) n (aJ ids))/\Hid (wx.ownsRow W.heap.size 4 1 (.slice A2 n c2) n (dW fl))/\Hid (Below W.heap.size W wx))
 case first=>
  refine wpIn_wide.2 ?_
  go_region_held3 (fun w'=>w'.cell? ⟨B,0,none⟩=some (vP b 0)/\w'.cell? ⟨b,0,none⟩=some v1/\w'.cell? ⟨b,1,none⟩=some v2/\Below W.heap.size W w')
   (first|exact ap.out _ cg|exact ap.out _ cg.drew |(go_split_ands;exact ap.out _ (Below.trans (by assumption) (Below.mono hb (Below.size (by assumption)))))|assumption)
   (first
    |(go_at_call 244;(with_reducible refine(CI.out _ ?hz).mono ?_);(case hz=>(first|assumption |(go_split_ands;assumption)));rintro e wx ⟨A1,ly,rfl,ho,hb⟩;have b7:Hid (World.ownsRow _ W.heap.size _ _ _ _ _):=zh (aM ho (by first|exact Below.size (by assumption) |(go_split_ands;exact Below.size (by assumption)))))
    |(go_at_call 256;(with_reducible refine(CB.out _ ?hz).mono ?_);(case hz=>(first|assumption |(go_split_ands;assumption)));rintro e wx ⟨A2,ot,rfl,ho,hb⟩;have ej:Hid (World.ownsRow _ W.heap.size _ _ _ _ _):=zh (aM ho (by first|exact Below.size (by assumption) |(go_split_ands;exact Below.size (by assumption))));replace b7:=zh (aD hb b7.out)))
  all_goals go_wp2_with fail
  all_goals go_meet
  all_goals refine⟨A1,ly,A2,ot,rfl,rfl,b7,ej,zh ?_⟩
  all_goals first|assumption |(go_split_ands;assumption)
 case rest=>
 obtain⟨A1,ly,A2,ot,rfl,rfl,b7,ej,HB⟩:=hcut;clear cg CI CB ap m0 a0 a1;obtain⟨W3,ie⟩:=zD wc
 subst ie;have qu:Hid (ASt W J ids fl n ly ot A1 A2 0 W3):=zh ⟨b7.out,ej.out,by rw[List.take_zero];exact HJ.out [] W W3 none H0.out ⟨HB.out.os,HB.out.tape,HB.out.output,HB.out.size,fun k hk _=>HB.out.block k hk⟩ (fun r e=>by cases e),HB.out.size⟩;clear b7 ej HB H0
 gi_wp2_with fail
 gi_loopg [21] n (fun k v wr=>∃ i:Nat,v=vI (i:Int)/\i<=n/\k=n-i/\Hid (ASt W J ids fl n ly ot A1 A2 i wr))
 case atStart=>exact⟨0,rfl,zm _,rfl,qu⟩
 case round=>
  obtain⟨i,rfl,hi,hk,HS⟩:=hrel;have HK:=zh hk;clear hk qu;by_cases hlt:i<n
  ·have hlti:(i:Int)<(n:Int):=by omega
   have hi1:i<ids.length:=by rw[HN.out.1];exact hlt
   have hi2:i<fl.length:=by rw[HN.out.2.1];exact hlt
   obtain⟨g1,cp1,q1,-,-,fh⟩:=fY HS.out.o1 (by omega);obtain⟨g2,cp2,q2,-,-,lu⟩:=fY HS.out.o2 (by omega);injection q1 with q1 _ q3;injection q2 with q2 _ q4;subst q1 q2 q3 q4;obtain⟨k0,k1⟩:=gI ids i hi1;have c0:=fh _ _ k0;have c1:=fh _ _ k1;have d0:=lu i (.bool fl[i]) (by simp[dW,hi2]);obtain⟨x,hx⟩:=zD (ids[i])
   obtain⟨f,hf⟩:=zD (fl[i])
   rw[<- hx]at c0 c1;rw[<- hf]at d0;have sq:Hid ((ids.zip fl).take i++[(x,f)]=(ids.zip fl).take (i+1)):=zh (by
    rw[yw (by rw[List.length_zip];omega),hx,hf];simp)
   have lw:=dO d0;have i5:=dO c0;obtain⟨Wy,un⟩:=zD (wr.alloc (.cells #[vI x.a,vI x.n] 27))
   have ns:Below wr.heap.size wr Wy:=by rw[un];exact(zp _)
   have HBy:=zh ns;have vw:=ns.drew;have hJy:J ((ids.zip fl).take i) Wy.drew:=HJ.out _ wr Wy.drew none HS.out.j ⟨vw.os,vw.tape,vw.output,vw.size,fun k hk _=>vw.block k hk⟩ (fun r e=>by cases e);obtain⟨fn,tmps,assign,body,hy,hRd⟩:=HY.out ((ids.zip fl).take i) (x,f) Wy.drew (yv HS.out.size vw.size) hJy (by rw[sq.out];exact List.take_prefix _ _);have HRd:=zh hRd;dsimp only[encA,idV]at hy;have z0:Wy.cell? ⟨wr.heap.size,0,none⟩=some (vI x.a):=by rw[un];simp[go_sem]
   have z1:Wy.cell? ⟨wr.heap.size,1,none⟩=some (vI x.n):=by rw[un];simp[go_sem]
   have zif:Wy.cell? ⟨g2,i,none⟩=some (.bool f):=(ns.cell (p:=⟨g2,i,none⟩) lw).trans d0;have b7:Hid (Wy.ownsRow W.heap.size 27 2 (.slice (some ⟨g1,0,none⟩) n ly) n (aJ ids)):=zh (aD ns HS.out.o1);have ej:Hid (Wy.ownsRow W.heap.size 4 1 (.slice (some ⟨g2,0,none⟩) n ot) n (dW fl)):=zh (aD ns HS.out.o2);have HSy:Hid (W.heap.size<=Wy.heap.size):=zh (yv HS.out.size ns.size);have HWy:=zh un;clear un ns vw hJy hRd fh lu k0 k1 hx hf i5 lw HS HY HJ
   gi_upto_region 5 with fail
   rw[<- HWy.out]
   gi_wp2_with fail
   gi_region_with (refine HRd.out.mono ?_;rintro e w5 h5;obtain⟨r,rfl,hr⟩:=retB h5;have HR:=zh hr;clear h5 hr)
   all_goals
    clear HRd hy z0 z1 zif c0 c1 d0;cases r
    ·obtain⟨-,hj5⟩:=HR.out.resolve_left (fun h=>by cases h.1);have HJ5:=zh hj5;clear HR hj5
     gi_wp2_with fail
     refine yt (results_none rfl _ _ _) rfl ?_;exact⟨⟨_,rfl⟩,.inr ⟨_,by rw[sq.out];exact List.take_prefix _ _,HJ5.out⟩⟩
    obtain⟨-,hj5,sr⟩:=HR.out.resolve_right (fun h=>by cases h.1);have HN5:Hid (ASt W J ids fl n ly ot (some ⟨g1,0,none⟩) (some ⟨g2,0,none⟩) (i+1) w5):=zh ⟨yM (aD (Below.refl _ Wy).drew b7.out) sr.2.2.2,yM (aD (Below.refl _ Wy).drew ej.out) sr.2.2.2,by rw[<- sq.out];exact hj5,yv HSy.out sr.1⟩;clear HR hj5 sr b7 ej
    gi_wp2_with fail
    go_roundg (n-(i+1))
    case measure=>rw[HK.out];omega
    case rel=>exact⟨i+1,by go_num,by omega,rfl,HN5⟩
  obtain rfl:i=n:=by omega
  gi_wp2_with fail
  refine bodyPost_end (results_none rfl _ _ _) rfl ?_;exact⟨⟨_,rfl⟩,.inl ⟨ids.zip fl,rfl,by have:=HS.out.j;rwa [List.take_of_length_le (by rw[List.length_zip,HN.out.1,HN.out.2.1];omega)]at this⟩⟩
end Go.Proofs.YtjfihpaeglpblaaGreatDoor
namespace Go.Proofs.YtjfihpaeglpblaaGreatDoor
open Go.RowKit Go.Shelf
attribute [local go_sem] Oper.semAt_some
theorem all_any(p:Option Addr)(w:World) :
  Calls Tryz.prog 245 #[.pointer p] w fun e w'=>e=.returned (.func (.func 255) #[] #[vP w.heap.size 0])/\w'=w.alloc (.cells #[.pointer p] 40):=by
 go_in
 go_wp2_with fail
 go_ret
 exact⟨rfl,rfl⟩
theorem uDV{P R:List IdR}{z x:IdR}(hx:x∉P)(hm:x∈P++z::R):(P.length:Int)<=bC (P++z::R) x/\(z≠x->(P.length:Int)<bC (P++z::R) x):=by
 obtain⟨k,h1,h2⟩:=jD x _ 0 hm;have e:bC (P++z::R) x=(k:Int):=by unfold bC;rw[h1];simp
 have hk:P.length<=k:=by
  rcases Nat.lt_or_ge k P.length with h|h
  ·rw[List.getElem?_append_left h]at h2;exact absurd (List.mem_of_getElem? h2) hx
  exact h
 refine⟨by rw[e];omega,fun hz=>?_⟩;rw[e];rcases Nat.lt_or_ge P.length k with h|h
 ·omega
 have:k=P.length:=by omega
 subst this;rw[List.getElem?_append_right zr,Nat.sub_self]at h2;simp at h2;exact absurd h2 hz
theorem uAO{ids:List IdR}{fl:List Bool}{P R:List IdR}{z x y:IdR}(e:ids=P++z::R)(hx:x∉P)(hy:y∉P)(hmx:x∈ids)(hmy:y∈ids){r:Bool}(hr:(z=x/\r=false)\/(z≠x/\z=y/\r=true)):eX (some (ids,fl)) x y=r:=by
 show decide (bC ids y<bC ids x)=r;subst e;have f1:=uDV hx hmx;have f2:=uDV hy hmy;rcases hr with⟨rfl,rfl⟩|⟨h,rfl,rfl⟩
 ·have:=jX (b:=R) hx;rw[this];exact decide_eq_false (by omega)
 have:=jX (b:=R) hy;rw[this];exact decide_eq_true (f1.2 h)
structure CbI(w:World)(q:Nat)(x y:IdR)(pre:List (IdR×Bool))(X:World):Prop where
 bx:Lies X q 27 #[vI x.a,vI x.n]
 by':Lies X (q+1) 27 #[vI y.a,vI y.n]
 res:Lies X (q+2) 4 #[.bool false]
 no:∀ z∈pre,z.1≠x/\z.1≠y
 bel:Below q w X
structure CbX(w:World)(q:Nat)(x y:IdR)(c:Code)(pre:List (IdR×Bool))(X:World):Prop where
 ret:c=.ret
 ex:∃ pre' z r,pre=pre'++[z]/\(∀ u∈pre',u.1≠x/\u.1≠y)/\((z.1=x/\r=false)\/(z.1≠x/\z.1=y/\r=true))/\Lies X (q+2) 4 #[.bool r]
 bel:Below q w X
theorem CbI.own{w:World}{q b:Nat}{x y:IdR}(hb:q+3<=b):OwnAll b (CbI w q x y):=fun s A B row h hg hr=>by
 have ne:∀ k,k<b->some k≠row:=fun k hk e=>by have:=hr k e.symm;omega
 exact⟨h.bx.grown hg (ne _ (by omega)),h.by'.grown hg (ne _ (by omega)),h.res.grown hg (ne _ (by omega)),h.no,fW h.bel hg hr (by omega) (Nat.le_of_lt h.bx.lt)⟩
theorem CbX.own{w:World}{q b:Nat}{x y:IdR}(hb:q+3<=b):∀ c,OwnAll b (CbX w q x y c):=fun c s A B row h hg hr=>by
 have ne:∀ k,k<b->some k≠row:=fun k hk e=>by have:=hr k e.symm;omega
 obtain⟨p',z,r,e1,e2,e3,e4⟩:=h.ex;exact⟨h.ret,⟨p',z,r,e1,e2,e3,e4.grown hg (ne _ (by omega))⟩,fW h.bel hg hr (by omega) (by have:=e4.lt;omega)⟩
theorem cb_end{w X:World}{q D:Nat}{v:Value}(hb:Below q w X)(hr:Lies X (q+2) 4 #[v])(hD:q+3<=D):(X.putObj D (.deferred none)).cell? ⟨q+2,0,none⟩=some v/\Below q w (X.putObj D (.deferred none)):=by
 have hg:=grownBy_putObj' X D (.deferred none);refine⟨?_,⟨hg.os.trans hb.os,hg.tape.trans hb.tape,hg.output.trans hb.output,yv hb.size hg.size,fun j hj=>(World.putObj_heap_other (by omega)).trans (hb.block j hj)⟩⟩;have:Lies (X.putObj D (.deferred none)) (q+2) 4 #[v]:=(World.putObj_heap_other (by omega)).trans hr;exact this.cell 0
theorem wT(b:Nat)(ids:List IdR)(fl:List Bool)(x y:IdR)(w:World)(hA:AxF w (some b) (some (ids,fl)))(hmx:x∈ids)(hmy:y∈ids) :
  Calls Tryz.prog 228 #[vP b 0,idV x,idV y] w fun e w'=>e=.returned (.bool (eX (some (ids,fl)) x y))/\Below w.heap.size w w':=by
 rw[<- callsIn_wide (n:=5)];have CW:=zh (fun X=>(callsIn_wide (n:=4)).2 (all_any (some ⟨b,0,none⟩) X));have hl:ids.length=fl.length:=hA.1;obtain⟨ek,wb⟩:∃ e,e=eX (some (ids,fl)) x y:=⟨_,rfl⟩
 rw[<- wb];have HE:=zh wb;obtain⟨W1,an⟩:∃ W1,W1=((w.alloc (.cells #[vI x.a,vI x.n] 27)).alloc (.cells #[vI y.a,vI y.n] 27)).alloc (.cells #[.bool false] 4):=⟨_,rfl⟩
 have HI:Hid (CbI w w.heap.size x y [] W1):=zh (by
  rw[an];have e1:=Lies.new w 27 #[vI x.a,vI x.n];have e2:=Lies.new (w.alloc (.cells #[vI x.a,vI x.n] 27)) 27 #[vI y.a,vI y.n];have e3:=Lies.new ((w.alloc (.cells #[vI x.a,vI x.n] 27)).alloc (.cells #[vI y.a,vI y.n] 27)) 4 #[.bool false];simp only[World.size_alloc]at e2 e3;exact⟨(e1.alloc _).alloc _,e2.alloc _,e3,(fun z hz=>by cases hz),(((Below.refl _ w).alloc zr _).alloc (by simp) _).alloc (by simp;omega) _⟩)
 have i9:W1.heap.size=w.heap.size+3:=by rw[an];simp
 have am:=zh an;have HM:=zh (And.intro hmx (And.intro hmy hl));have hA1:AxF W1 (some b) (some (ids,fl)):=hA.next (by have:=HI.out.bel;exact this);clear an wb hmx hmy hl hA;unfold idV;refine callsIn_of_wp_marks Tryz.func228 rfl trivial ?_ rfl;simp only[Tryz.ntmps228,yd,yi,List.length_nil,Nat.reduceAdd,Nat.reduceSub,Array.replicate_succ,Array.replicate_zero,List.push_toArray,List.append_toArray,List.nil_append,yp]
 gi_upto_region 1 with fail
 rw[<- am.out];generalize hq:w.heap.size=q at *;clear am
 gi_wp2_with fail
 refine⟨trivial,?_⟩;refine(CW.out W1).mono ?_;rintro e W2 ⟨rfl,fj⟩;rw[i9];have hb2:Below W1.heap.size W1 W2:=by rw[fj];exact(zp _)
 have hbB:W2.cell? ⟨q+3,0,none⟩=some (vP b 0):=by
  have:=Lies.new W1 40 #[vP b 0];rw[<- fj,i9]at this;exact this.cell 0
 have lq:W2.heap.size=q+4:=by rw[fj,World.size_alloc,i9]
 have je:Hid (CbI w q x y [] W2):=zh ⟨HI.out.bx.next hb2,HI.out.by'.next hb2,HI.out.res.next hb2,HI.out.no,HI.out.bel.trans (hb2.mono (by omega))⟩;have LI:=zh (all1_in 4 (by decide) ids fl b (q+3) W2 hbB (hA1.next hb2));have jd:=zh lq;have HQ:=zh hq;clear fj hbB hb2 HI CW lq hA1 i9 hq
 gi_wp2_with fail
 have ij:q+4<=W2.heap.size:=Nat.le_of_eq jd.out.symm;refine uAB rfl (by decide) (gf:=255) (lb:=#[vP (q+3) 0]) rfl trivial (enters_of Tryz.func255 (by kernel_rfl) rfl) LI.out (fun p h=>h.elim) (fun _=>rfl) (CbI w q x y) (CbX w q x y) (CbI.own (by omega)) (CbX.own (by omega)) je.out
  (fun z W=>{ tmps:=#[vP b 0,.agg #[vI x.a,vI x.n],.agg #[vI y.a,vI y.n],undef,vP q 0,vP (q+1) 0,vP (q+1+1) 0,vP W.heap.size 0,vP b 0,.func (.func 255) #[] #[vP (q+3) 0],.agg #[vI z.1.a,vI z.1.n],.bool z.2,undef,undef,undef,undef,undef,undef],defers:=[] })
  (fun z W=>W.alloc (.cells #[vI z.1.a,vI z.1.n] 27)) (fun z W=>zp _) ?assign ?body ?done ?stop
 case assign=>
  intro l' z X K hK;dsimp only[encA,idV]
  gi_wp2
  exact hK
 case body=>
  rintro l' pre z X hX hI hR W' hs hh hI';have hXq:q+6<=X.heap.size:=by omega
  have hLz:Lies W' X.heap.size 27 #[vI z.1.a,vI z.1.n]:=(hh X.heap.size (by omega)).trans (Lies.new X 27 _);have HI:=zh hI';obtain⟨⟨zia,zn⟩,zif⟩:=z;obtain⟨xa,xn⟩:=x;obtain⟨ya,yn⟩:=y;have z0:=hLz.cell 0;have z1:=hLz.cell 1;have x0:=HI.out.bx.cell 0;have x1:=HI.out.bx.cell 1;have y0:=HI.out.by'.cell 0
  have y1:=HI.out.by'.cell 1
  have r0:=HI.out.res.cell 0;have r1:=HI.out.res.frozen 0;simp only[za,zb,zf]at x0 x1 y0 y1 z0 z1 r0;have hkq:Hid (∀ v:Value,KeepsQ (fun _=>False) W2.heap.size W' (W'.setCell ⟨q+1+1,0,none⟩ v)):=zh (fun v=>iB (fun p hp=>hp.elim) (by omega) v);have hkr:Hid (KeepsQ (fun _=>False) W2.heap.size W' W'):=zh (KeepsQ.refl _ _ _);have uu:Hid (∀ u∈pre,u.1≠(⟨xa,xn⟩:IdR)/\u.1≠(⟨ya,yn⟩:IdR)):=zh HI.out.no;have oe:Hid (∀ v:Value,Lies (W'.setCell ⟨q+1+1,0,none⟩ v) (q+2) 4 #[v]):=zh (fun v=>HI.out.res.put 0 v);have dh:Hid (∀ v:Value,Below q w (W'.setCell ⟨q+1+1,0,none⟩ v)):=zh (fun v=>HI.out.bel.setCell (p:=⟨q+1+1,0,none⟩) (by show q<=q+1+1;omega) v);clear hI hI' hR hh hLz hs LI je HE;by_cases h1:(⟨zia,zn⟩:IdR)=⟨xa,xn⟩
  ·have e1:∀ W:World,(binOp .eql 27 (.agg #[vI zia,vI zn]) (.agg #[vI xa,vI xn])).run Tryz.prog W=.ok (.bool true) W:=fun W=>by have:=dG ⟨zia,zn⟩ ⟨xa,xn⟩ W;rwa [decide_eq_true h1]at this
   have HH:=zh h1;clear h1
   gi_wp2_with fail
   exact⟨hkq.out _,rfl,⟨pre,_,false,rfl,uu.out,.inl ⟨HH.out,rfl⟩,oe.out _⟩,dh.out _⟩
  have e1:∀ W:World,(binOp .eql 27 (.agg #[vI zia,vI zn]) (.agg #[vI xa,vI xn])).run Tryz.prog W=.ok (.bool false) W:=fun W=>by have:=dG ⟨zia,zn⟩ ⟨xa,xn⟩ W;rwa [decide_eq_false h1]at this
  have HH:=zh h1;clear h1;by_cases h2:(⟨zia,zn⟩:IdR)=⟨ya,yn⟩
  ·have e2:∀ W:World,(binOp .eql 27 (.agg #[vI zia,vI zn]) (.agg #[vI ya,vI yn])).run Tryz.prog W=.ok (.bool true) W:=fun W=>by have:=dG ⟨zia,zn⟩ ⟨ya,yn⟩ W;rwa [decide_eq_true h2]at this
   have HH2:=zh h2;clear h2
   gi_wp2_with fail
   exact⟨hkq.out _,rfl,⟨pre,_,true,rfl,uu.out,.inr ⟨HH.out,HH2.out,rfl⟩,oe.out _⟩,dh.out _⟩
  have e2:∀ W:World,(binOp .eql 27 (.agg #[vI zia,vI zn]) (.agg #[vI ya,vI yn])).run Tryz.prog W=.ok (.bool false) W:=fun W=>by have:=dG ⟨zia,zn⟩ ⟨ya,yn⟩ W;rwa [decide_eq_false h2]at this
  have HH2:=zh h2;clear h2
  gi_wp2_with fail
  refine⟨hkr.out,HI.out.bx,HI.out.by',HI.out.res,fun u hu=>?_,HI.out.bel⟩;rcases List.mem_append.1 hu with hu|hu
  ·exact uu.out u hu
  rw[yf.1 hu];exact⟨HH.out,HH2.out⟩
 case done=>
  rintro D xs X hD hS hI hK
  exfalso
  obtain⟨h1,h2,h3⟩:=HM.out;obtain⟨k,hk,e⟩:=List.getElem_of_mem h1;have hz:(ids.zip fl)[k]?=some (x,fl[k]'(by omega)):=by
   rw[List.getElem?_eq_getElem (by rw[List.length_zip];omega)];simp[e]
  rw[<- hS]at hz;exact(hI.no _ (List.mem_of_getElem? hz)).1 rfl
 case stop=>
  rintro D c pre X hD xf hI hK;obtain rfl:=hI.ret;obtain⟨pre',z,r,rfl,hno,hr,hLr⟩:=hI.ex;have wb:ek=r:=by
   rw[HE.out];obtain⟨h1,h2,h3⟩:=HM.out;obtain⟨R,hR⟩:=xf;have e:ids=pre'.map Prod.fst++z.1::R.map Prod.fst:=by
    have:=congrArg (List.map Prod.fst) hR;rw[List.map_fst_zip (by omega)]at this;rw[<- this];simp
   refine uAO e (fun hm=>?_) (fun hm=>?_) h1 h2 hr
   ·obtain⟨u,hu,e'⟩:=yj.1 hm;exact(hno u hu).1 e'
   obtain⟨u,hu,e'⟩:=yj.1 hm;exact(hno u hu).2 e'
  have hE:=zh (cb_end (D:=D) hI.bel hLr (by omega));have wd:=zh hK;have HR:=zh wb;clear LI je HE hI hK xf hD hno hr hLr wb
  gi_wp2_with fail
  refine⟨by simp,.inl ⟨_,_,rfl,run_takeDeferred wd.out,?_⟩⟩;have hc:=hE.out.1;refine⟨.bool r,by simp[results,Tryz.results228,go_sem,hc],by rw[HR.out],by first|exact hE.out.2 |(rw[HQ.out];exact hE.out.2)⟩
end Go.Proofs.YtjfihpaeglpblaaGreatDoor
